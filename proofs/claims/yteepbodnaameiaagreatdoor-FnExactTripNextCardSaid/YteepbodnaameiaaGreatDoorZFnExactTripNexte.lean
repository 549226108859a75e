/- Part 5 of the proof of FnExactTripNext: the plain functions of what it reaches, that Go comes to just their answers, what they answer, and the words that the walks use; conditions: each theorem's own. -/
import Derived.Test.YteepbodnaameiaaGreatDoorZFnExactTripNextb
import Derived.Test.YteepbodnaameiaaGreatDoorZFnExactTripNextc
import Derived.Test.YteepbodnaameiaaGreatDoorZFnExactTripNextd
import Derived.Lib.SmallJoins
import Derived.Deep.Slices
import Derived.Deep.Strs
import Derived.SliceStrings
import Derived.SizedLaws
import Derived.Maps.Own
import Derived.Maps.OwnSet
import Derived.Carry

section
namespace Go.Proofs.YteepbodnaameiaaGreatDoor.P
open Go.RowKit Go.Proofs.YteepbodnaameiaaGreatDoorW.PrintWords Go.Proofs.YteepbodnaameiaaGreatDoorW.PrintLast Go.Proofs.YteepbodnaameiaaGreatDoorW.PrintMore
attribute [local go_sem] max2_int min2_int max_two min_two max_three min_three max_four min_four
set_option linter.unusedVariables false
set_option linter.unusedSimpArgs false
set_option maxHeartbeats 8000000
set_option maxRecDepth 100000
mutual
def strings_genSplit.j0:Nat→ByteArray→ByteArray→Int→Int→Option (List ByteArray)
 | 0,_,_,_,_=>none
 | k+1,x0,x1,x2,x3=>if 0≤(mn x3 (wrap64 ((x0.size:Int)+1))) then (if (mn x3 (wrap64 ((x0.size:Int)+1)):Int).toNat≤17592186044416 then (strings_genSplit.l0 k x0 x1 x2 (wrap64 ((mn x3 (wrap64 ((x0.size:Int)+1))) - 1)) (List.replicate (mn x3 (wrap64 ((x0.size:Int)+1)):Int).toNat (⟨#[]⟩:ByteArray)) 0) else (none)) else (none)
def strings_genSplit.l0:Nat→ByteArray→ByteArray→Int→Int→List ByteArray→Int→Option (List ByteArray)
 | 0,_,_,_,_,_,_=>none
 | k+1,x0,x1,x2,x3,x9,x10=>if x10 < x3 then ((strings_Index.f x0 x1).bind fun t427=>(if t427 < 0 then (if 0≤x10 then (if x10 < (x9.length:Int) then (if 0≤(wrap64 (x10+1)) then (if (wrap64 (x10+1))≤(x9.length:Int) then (some ((x9.set (x10:Int).toNat x0).take ((wrap64 (x10+1)):Int).toNat)) else (none)) else (none)) else (none)) else (none)) else (if 0≤(wrap64 (t427+x2)) then (if (wrap64 (t427+x2))≤(x0.size:Int) then (if 0≤x10 then (if x10 < (x9.length:Int) then (if 0≤(wrap64 (t427+(x1.size:Int))) then (if (wrap64 (t427+(x1.size:Int)))≤(x0.size:Int) then (strings_genSplit.l0 k (x0.extract ((wrap64 (t427+(x1.size:Int))):Int).toNat x0.size) x1 x2 x3 (x9.set (x10:Int).toNat (x0.extract 0 ((wrap64 (t427+x2)):Int).toNat)) (wrap64 (x10+1))) else (none)) else (none)) else (none)) else (none)) else (none)) else (none)))) else (if 0≤x10 then (if x10 < (x9.length:Int) then (if 0≤(wrap64 (x10+1)) then (if (wrap64 (x10+1))≤(x9.length:Int) then (some ((x9.set (x10:Int).toNat x0).take ((wrap64 (x10+1)):Int).toNat)) else (none)) else (none)) else (none)) else (none))
end
def strings_genSplit.f (k:Nat) (a0:ByteArray) (a1:ByteArray) (a2:Int) (a3:Int):Option (List ByteArray):=if a3=0 then (some ([]:List ByteArray)) else (if a1.toList=([]:List UInt8) then ((strings_explode.f a0 a3).bind fun t420=>(some t420)) else (if a3 < 0 then ((strings_Count.f a0 a1).bind fun t423=>(strings_genSplit.j0 k a0 a1 a2 (wrap64 (t423+1)))) else (strings_genSplit.j0 k a0 a1 a2 a3)))
theorem strings_genSplit.calls (k:Nat) (a0:ByteArray) (a1:ByteArray) (a2:Int) (a3:Int) (r:List ByteArray) (w:World) (h:strings_genSplit.f k a0 a1 a2 a3=some r) :
  Calls Tryz.prog 130 #[.string a0,.string a1,.int .i64 a2,.int .i64 a3] w fun e w'=>∃ v0_:Value,e=.returned (v0_)∧Kd.R Kd.string 9 w' w.heap.size (fun _=>True) v0_ r∧Below w.heap.size w w':=by
 have HB:=A_ (Below.refl w.heap.size w);unfold strings_genSplit.f at h
 have H:=h;clear h;replace H:=iteEq H;rcases H with ⟨c5b0,c5b1,H⟩|⟨c5b0,c5b1,c5,H⟩
 ·obtain rfl:=sI H
  go_enter Tryz.func130,Tryz.ntmps130;go_wp2
  go_ret
  exact ⟨_,zz5,zz72,(zz0 HB)⟩
 ·replace H:=iteEq H
  rcases H with ⟨c6b0,c6b1,H⟩|⟨c6b0,c6b1,c6,H⟩
  ·replace H:=bindA H
   obtain ⟨t420,A7,H⟩:=H;obtain rfl:=sI H;go_enter Tryz.func130,Tryz.ntmps130;go_wp2_with (first|(refine gV 137 (some 18) Tryz.func137 (strings_explode.calls a0 a3 t420 _ A7.out) ?_;rintro v421 w8 ⟨ho0,hb⟩;have HO422:=A_ (Kd.R_lower ho0 (below_size (zz0 HB)));replace HB:=A_ (bS (zz0 HB) hb);(try clear hb ho0)))
   go_ret
   exact ⟨_,zz5,(zz12 HO422),(zz0 HB)⟩
  ·have HC9:=A_ H
   clear H;go_enter Tryz.func130,Tryz.ntmps130;go_upto_if 20 with (fail)
   go_cut [3] (fun v3 wc=>∃ (kq:Nat) (x3_8:Int),v3=.int .i64 x3_8∧Aside0 (strings_genSplit.j0 kq a0 a1 a2 x3_8=some r)∧Aside0 (kq≤k)∧Aside0 (Below w.heap.size w wc))
   case first=>
    obtain ⟨H⟩:=HC9;replace H:=iteEd H;rcases H with ⟨c10b0,H⟩|⟨c10b0,H⟩
    ·(first|rw [c10b0]|(simp only [i64_w,i32_w];rw [c10b0])|skip)
     replace H:=bindA H;obtain ⟨t423,A11,H⟩:=H;have H':=A_ H;clear H;go_wp2_with (first|(refine gR 138 (some 23) Tryz.func138 (strings_Count.calls a0 a1 t423 _ A11.out) ?_;rintro w12 hb;replace HB:=A_ (bS (zz0 HB) hb);(try clear hb)))
     go_meet
     case rel=>exact ⟨_,(wrap64 (t423+1)),zz7,H',⟨zz51⟩,⟨(zz0 HB)⟩⟩
    ·(first|rw [c10b0]|(simp only [i64_w,i32_w];rw [c10b0])|skip)
     have H':=A_ H;clear H;go_wp2
     go_meet
     case rel=>exact ⟨_,(a3),zz7,H',⟨zz51⟩,⟨(zz0 HB)⟩⟩
   case rest=>
    clear HC9;obtain ⟨kq,x3_8,rfl,HA,HJ8,HB⟩:=hcut;cases kq with
    | zero=>exact absurd HA.out (by simp [strings_genSplit.j0])
    | succ kj8=>
     obtain ⟨H⟩:=HA;simp only [strings_genSplit.j0] at H
     obtain ⟨ji13,hji13⟩:∃ j_:Int,(mn x3_8 (wrap64 ((a0.size:Int)+1)))=j_:=⟨_,rfl⟩;(first|rw [hji13] at H|simp only [hji13] at H)
     have hji13_:(if (wrap64 ((a0.size:Int)+1)) < x3_8 then (wrap64 ((a0.size:Int)+1)) else x3_8)=ji13:=hji13;replace H:=iteE H;rcases H with ⟨c14,H⟩|⟨c14,H⟩
     ·have c14b0:=eq_true c14
      have c14b1:=dT c14;clear c14;replace H:=iteN H;obtain ⟨c15,H⟩:=H;have c15b0:=eq_true c15;have c15b1:=dT c15;clear c15;obtain ⟨y424,Ny424⟩:=toY (List.replicate (ji13:Int).toNat (⟨#[]⟩:ByteArray));(first|with_reducible replace H:=bindZ Ny424 H|rw [← Ny424.out] at H|skip)
      have H':=A_ H;clear H;go_wp2_with (first|((with_reducible refine gD (N:=31) rfl ?_);refine Kd.R_make Kd.string _ 9 rfl (N:=31) rfl 23 _ _ rfl ji13 rfl rfl Tryz.underlying23 (.string ⟨#[]⟩) 16 info9 rfl (by decide) (by omega) (⟨#[]⟩:ByteArray) (ok:=fun _=>True) (okp:=fun _=>True) rfl (fun _ hk=>hk) trivial ofD (Nat.le_trans (Nat.mul_le_mul_right _ (ofD:ji13.toNat≤17592186044416)) (by omega)) (Below.refl _ _) (Nat.le_refl _) ?_;intro v425 w16 ho17 hb hg_ hnew_;clear hg_ hnew_;(first|rw [← Ny424.out] at ho17|(simp only [Int.reduceToNat] at ho17;rw [← Ny424.out] at ho17));have HO426:=A_ (Kd.R_lower ho17 (below_size (zz0 HB)));replace HB:=A_ (bS (zz0 HB) hb);clear hb ho17))
      go_loopg [0,10] kj8 (fun kq v0 v10 w'=>∃ (x0_2:ByteArray) (x9_2:List ByteArray) (x10_2:Int),v0=.string x0_2∧v10=.int .i64 x10_2∧Aside0 (strings_genSplit.l0 kq x0_2 a1 a2 (wrap64 ((ji13) - 1)) x9_2 x10_2=some r)∧Aside0 (kq≤kj8)∧Aside0 (Kd.R Kd.string 9 w' w.heap.size (fun _=>True) v425 x9_2)∧Aside0 (Below w.heap.size w w'))
      case atStart=>exact ⟨(a0),(y424),(0),zz7,zz7,H',⟨Nat.le_refl _⟩,⟨(zz12 HO426)⟩,⟨(zz0 HB)⟩⟩
      case round=>
       clear H';obtain ⟨x0_2,x9_2,x10_2,rfl,rfl,HA,HK2,HO_9,HB⟩:=hrel;cases gk with
       | zero=>exact absurd HA.out (by simp [strings_genSplit.l0])
       | succ k2=>
        obtain ⟨H⟩:=HA;simp only [strings_genSplit.l0] at H
        replace H:=iteEd H;rcases H with ⟨c18b0,H⟩|⟨c18b0,H⟩
        ·replace H:=bindA H
         obtain ⟨t427,A19,H⟩:=H;have HF20:=A_ H;clear H;go_upto_if 41 with (first|(refine gR 139 (some 39) Tryz.func139 (strings_Index.calls x0_2 a1 t427 _ A19.out) ?_;rintro w21 hb;replace HO_9:=A_ (rB (zz12 HO_9) hb);replace HB:=A_ (bS (zz0 HB) hb);(try clear hb)))
         obtain ⟨H⟩:=HF20;replace H:=iteEd H;rcases H with ⟨c22b0,H⟩|⟨c22b0,H⟩
         ·(first|rw [c22b0]|(simp only [i64_w,i32_w];rw [c22b0])|skip)
          replace H:=iteNd H;obtain ⟨c23b0,H⟩:=H;replace H:=iteNd H;obtain ⟨c24b0,H⟩:=H;obtain ⟨y428,hy428⟩:∃ y_:List ByteArray,y_=(x9_2.set (x10_2:Int).toNat x0_2):=⟨_,rfl⟩;replace H:(if 0≤(wrap64 (x10_2+1)) then (if (wrap64 (x10_2+1))≤(x9_2.length:Int) then (some (y428.take ((wrap64 (x10_2+1)):Int).toNat)) else (none)) else (none))=some r:=by first|(rw [hy428];with_reducible exact H)|(have H2_:=(Option.bind_some _ _).symm.trans H;rw [hy428];with_reducible exact H2_)|(have H2_:=(Option.bind_some _ _).symm.trans H;with_reducible exact H2_)|with_reducible exact H|(rw [hy428];exact H)|exact H
          have Ny428:=A_ hy428;have Ly428:y428.length≤x9_2.length∧x9_2.length≤y428.length:=by rw [hy428,List.length_set];exact ⟨Nat.le_refl _,Nat.le_refl _⟩
          have My428:=Ly428.1;replace Ly428:=Ly428.2;clear hy428;obtain ⟨ji26,hji26⟩:∃ j_:Int,(wrap64 (x10_2+1))=j_:=⟨_,rfl⟩;(first|rw [hji26] at H|simp only [hji26] at H)
          have hji26w:(IntKind.i64.wrap (x10_2+1))=ji26:=(i64_w _).trans hji26;replace H:=iteN H;obtain ⟨c27,H⟩:=H;have c27b0:=eq_true c27;have c27b1:=dT c27;clear c27;replace H:=iteN H;obtain ⟨c28,H⟩:=H;have c28b0:=eq_true c28;have c28b1:=dT c28;clear c28;obtain ⟨y429,Ny429⟩:=toY (y428.take ((ji26):Int).toNat);(first|with_reducible replace H:=bindZ Ny429 H|rw [← Ny429.out] at H|skip)
          obtain rfl:=sI H;have p25:0≤(x10_2:Int):=ofD;have q25:(x10_2:Int) < ((x9_2.length:Int):Int):=ofD;obtain ⟨go25,co25,eo25,gb25,gl25,cl25,HG25⟩:=Kd.R_form HO_9.out (by omega);(first|cases eo25|(injection eo25 with ea_ en_ ec_;(first|subst ea_|(injection ea_ with ea_;subst ea_));subst ec_;clear en_))
          have GB25:=A_ gb25;have GG25:=A_ HG25;clear gb25 gl25 HG25;obtain ⟨hx25_0,hf25_0⟩:=Kd.R_celln (⟨#[]⟩:ByteArray) HO_9.out (x10_2:Int) p25 q25;replace p25:=eq_true p25;replace q25:=eq_true q25;have HP29:=Kd.R_putg HO_9.out (x10_2:Int) x0_2;go_wp2_with (first|((with_reducible refine gate_store (t:=9) (p:=61) rfl ?_);refine store_event (t:=9) (p:=61) (v:=?vo_w30) (w1:=(w21.setCell ⟨go25,(x10_2:Int).toNat,none⟩ (.string x0_2))) ?hg ?ho ?hn ?hr ?_;(case ho=>rfl);(case hg=>rfl);(case hn=>rfl);(case hr=>exact zz14);intro w30 hw;have hg:w21.grownBy w30 (some go25):=(by rw [hw];exact HP29.2);have hp_:Kd.R Kd.string 9 w30 w.heap.size (fun _=>True) (.slice (some ⟨go25,0,none⟩) x9_2.length co25) y428:=(by rw [hw,Ny428.out];exact HP29.1);clear HP29;replace HO_9:=A_ (hp_);replace HB:=A_ ((by rw [hw];exact below_set (HB.out) GB25.out:Below w.heap.size w w30));clear hg hw hp_;have q31:((ji26):Int)≤((x9_2.length:Int):Int):=ofD;obtain ⟨i031,hi031,_,hsz31,_⟩:=info_parts info9;have hcut31:=cut_to (P:=Tryz.prog) 23 9 .i64 Tryz.underlying23 hi031 (some ⟨go25,0,none⟩) x9_2.length co25 (ji26) ofD q31 (Kd.R_reads' HO_9.out).2.1;have hr31:=Kd.R_take (m:=((ji26):Int).toNat) HO_9.out (by omega);have hy31:y429.length=((ji26):Int).toNat:=(by rw [Ny429.out,List.length_take];omega);rw [← Ny429.out] at hr31;rw [← hy31] at hr31 hcut31;clear hy31 hi031 hsz31 HO_9;have HO431:=A_ hr31;clear hr31;replace q31:=eq_true q31))
          go_ret
          exact ⟨_,(by first|rfl|(simp [errW_none,errW_some] <;> rfl)|(simp only [← hji13,← hji26];first|rfl|(simp [errW_none,errW_some] <;> rfl))|(simp [*,errW_none,errW_some] <;> rfl)),(zz12 HO431),(zz0 HB)⟩
         ·(first|rw [c22b0]|(simp only [i64_w,i32_w];rw [c22b0])|skip)
          obtain ⟨ji32,hji32⟩:∃ j_:Int,(wrap64 (t427+a2))=j_:=⟨_,rfl⟩;(first|rw [hji32] at H|simp only [hji32] at H)
          have hji32w:(IntKind.i64.wrap (t427+a2))=ji32:=(i64_w _).trans hji32;replace H:=iteN H;obtain ⟨c33,H⟩:=H;have c33b0:=eq_true c33;have c33b1:=dT c33;clear c33;replace H:=iteN H;obtain ⟨c34,H⟩:=H;have c34b0:=eq_true c34;have c34b1:=dT c34;clear c34;replace H:=iteNd H;obtain ⟨c35b0,H⟩:=H;replace H:=iteNd H;obtain ⟨c36b0,H⟩:=H;obtain ⟨y432,hy432⟩:∃ y_:List ByteArray,y_=(x9_2.set (x10_2:Int).toNat (x0_2.extract 0 ((ji32):Int).toNat)):=⟨_,rfl⟩;replace H:(if 0≤(wrap64 (t427+(a1.size:Int))) then (if (wrap64 (t427+(a1.size:Int)))≤(x0_2.size:Int) then (strings_genSplit.l0 k2 (x0_2.extract ((wrap64 (t427+(a1.size:Int))):Int).toNat x0_2.size) a1 a2 (wrap64 ((ji13) - 1)) y432 (wrap64 (x10_2+1))) else (none)) else (none))=some r:=by first|(rw [hy432];with_reducible exact H)|(have H2_:=(Option.bind_some _ _).symm.trans H;rw [hy432];with_reducible exact H2_)|(have H2_:=(Option.bind_some _ _).symm.trans H;with_reducible exact H2_)|with_reducible exact H|(rw [hy432];exact H)|exact H
          have Ny432:=A_ hy432;have Ly432:y432.length≤x9_2.length∧x9_2.length≤y432.length:=by rw [hy432,List.length_set];exact ⟨Nat.le_refl _,Nat.le_refl _⟩
          have My432:=Ly432.1;replace Ly432:=Ly432.2;clear hy432;obtain ⟨ji38,hji38⟩:∃ j_:Int,(wrap64 (t427+(a1.size:Int)))=j_:=⟨_,rfl⟩;(first|rw [hji38] at H|simp only [hji38] at H)
          have hji38w:(IntKind.i64.wrap (t427+(a1.size:Int)))=ji38:=(i64_w _).trans hji38;replace H:=iteN H;obtain ⟨c39,H⟩:=H;have c39b0:=eq_true c39;have c39b1:=dT c39;clear c39;replace H:=iteN H;obtain ⟨c40,H⟩:=H;have c40b0:=eq_true c40;have c40b1:=dT c40;clear c40;have H':=A_ H;clear H;have p37:0≤(x10_2:Int):=ofD;have q37:(x10_2:Int) < ((x9_2.length:Int):Int):=ofD;obtain ⟨go37,co37,eo37,gb37,gl37,cl37,HG37⟩:=Kd.R_form HO_9.out (by omega);(first|cases eo37|(injection eo37 with ea_ en_ ec_;(first|subst ea_|(injection ea_ with ea_;subst ea_));subst ec_;clear en_))
          have GB37:=A_ gb37;have GG37:=A_ HG37;clear gb37 gl37 HG37;obtain ⟨hx37_0,hf37_0⟩:=Kd.R_celln (⟨#[]⟩:ByteArray) HO_9.out (x10_2:Int) p37 q37;replace p37:=eq_true p37;replace q37:=eq_true q37;have HP41:=Kd.R_putg HO_9.out (x10_2:Int) (x0_2.extract 0 ((ji32):Int).toNat);go_wp2_with (first|((with_reducible refine gate_store (t:=9) (p:=49) rfl ?_);refine store_event (t:=9) (p:=49) (v:=?vo_w42) (w1:=(w21.setCell ⟨go37,(x10_2:Int).toNat,none⟩ (.string (x0_2.extract 0 ((ji32):Int).toNat)))) ?hg ?ho ?hn ?hr ?_;(case ho=>rfl);(case hg=>rfl);(case hn=>rfl);(case hr=>exact zz14);intro w42 hw;have hg:w21.grownBy w42 (some go37):=(by rw [hw];exact HP41.2);have hp_:Kd.R Kd.string 9 w42 w.heap.size (fun _=>True) (.slice (some ⟨go37,0,none⟩) x9_2.length co37) y432:=(by rw [hw,Ny432.out];exact HP41.1);clear HP41;replace HO_9:=A_ (hp_);replace HB:=A_ ((by rw [hw];exact below_set (HB.out) GB37.out:Below w.heap.size w w42));clear hg hw hp_))
          go_roundg k2
          case measure=>have:=HJ8.out;have:=HK2.out;omega
          case rel=>exact ⟨(x0_2.extract ((ji38):Int).toNat x0_2.size),(y432),(wrap64 (x10_2+1)),(by first|rfl|(simp only [i64_w,i32_w];done)|(simp only [aid_isEmpty,aid_isEmpty2];done)|(simp;done)|((simp only [← hji38] <;> (first|rfl|simp));done)|(simp [*];done)),zz7,H',⟨(zz60 HJ8 HK2)⟩,⟨(zz12 HO_9)⟩,⟨(zz0 HB)⟩⟩
        ·replace H:=iteNd H
         obtain ⟨c43b0,H⟩:=H;replace H:=iteNd H;obtain ⟨c44b0,H⟩:=H;obtain ⟨y433,hy433⟩:∃ y_:List ByteArray,y_=(x9_2.set (x10_2:Int).toNat x0_2):=⟨_,rfl⟩;replace H:(if 0≤(wrap64 (x10_2+1)) then (if (wrap64 (x10_2+1))≤(x9_2.length:Int) then (some (y433.take ((wrap64 (x10_2+1)):Int).toNat)) else (none)) else (none))=some r:=by first|(rw [hy433];with_reducible exact H)|(have H2_:=(Option.bind_some _ _).symm.trans H;rw [hy433];with_reducible exact H2_)|(have H2_:=(Option.bind_some _ _).symm.trans H;with_reducible exact H2_)|with_reducible exact H|(rw [hy433];exact H)|exact H
         have Ny433:=A_ hy433;have Ly433:y433.length≤x9_2.length∧x9_2.length≤y433.length:=by rw [hy433,List.length_set];exact ⟨Nat.le_refl _,Nat.le_refl _⟩
         have My433:=Ly433.1;replace Ly433:=Ly433.2;clear hy433;obtain ⟨ji46,hji46⟩:∃ j_:Int,(wrap64 (x10_2+1))=j_:=⟨_,rfl⟩;(first|rw [hji46] at H|simp only [hji46] at H)
         have hji46w:(IntKind.i64.wrap (x10_2+1))=ji46:=(i64_w _).trans hji46;replace H:=iteN H;obtain ⟨c47,H⟩:=H;have c47b0:=eq_true c47;have c47b1:=dT c47;clear c47;replace H:=iteN H;obtain ⟨c48,H⟩:=H;have c48b0:=eq_true c48;have c48b1:=dT c48;clear c48;obtain ⟨y434,Ny434⟩:=toY (y433.take ((ji46):Int).toNat);(first|with_reducible replace H:=bindZ Ny434 H|rw [← Ny434.out] at H|skip)
         obtain rfl:=sI H;have p45:0≤(x10_2:Int):=ofD;have q45:(x10_2:Int) < ((x9_2.length:Int):Int):=ofD;obtain ⟨go45,co45,eo45,gb45,gl45,cl45,HG45⟩:=Kd.R_form HO_9.out (by omega);(first|cases eo45|(injection eo45 with ea_ en_ ec_;(first|subst ea_|(injection ea_ with ea_;subst ea_));subst ec_;clear en_))
         have GB45:=A_ gb45;have GG45:=A_ HG45;clear gb45 gl45 HG45;obtain ⟨hx45_0,hf45_0⟩:=Kd.R_celln (⟨#[]⟩:ByteArray) HO_9.out (x10_2:Int) p45 q45;replace p45:=eq_true p45;replace q45:=eq_true q45;have HP49:=Kd.R_putg HO_9.out (x10_2:Int) x0_2;go_wp2_with (first|((with_reducible refine gate_store (t:=9) (p:=61) rfl ?_);refine store_event (t:=9) (p:=61) (v:=?vo_w50) (w1:=(wr.setCell ⟨go45,(x10_2:Int).toNat,none⟩ (.string x0_2))) ?hg ?ho ?hn ?hr ?_;(case ho=>rfl);(case hg=>rfl);(case hn=>rfl);(case hr=>exact zz14);intro w50 hw;have hg:wr.grownBy w50 (some go45):=(by rw [hw];exact HP49.2);have hp_:Kd.R Kd.string 9 w50 w.heap.size (fun _=>True) (.slice (some ⟨go45,0,none⟩) x9_2.length co45) y433:=(by rw [hw,Ny433.out];exact HP49.1);clear HP49;replace HO_9:=A_ (hp_);replace HB:=A_ ((by rw [hw];exact below_set (HB.out) GB45.out:Below w.heap.size w w50));clear hg hw hp_;have q51:((ji46):Int)≤((x9_2.length:Int):Int):=ofD;obtain ⟨i051,hi051,_,hsz51,_⟩:=info_parts info9;have hcut51:=cut_to (P:=Tryz.prog) 23 9 .i64 Tryz.underlying23 hi051 (some ⟨go45,0,none⟩) x9_2.length co45 (ji46) ofD q51 (Kd.R_reads' HO_9.out).2.1;have hr51:=Kd.R_take (m:=((ji46):Int).toNat) HO_9.out (by omega);have hy51:y434.length=((ji46):Int).toNat:=(by rw [Ny434.out,List.length_take];omega);rw [← Ny434.out] at hr51;rw [← hy51] at hr51 hcut51;clear hy51 hi051 hsz51 HO_9;have HO436:=A_ hr51;clear hr51;replace q51:=eq_true q51))
         go_ret
         exact ⟨_,(by first|rfl|(simp [errW_none,errW_some] <;> rfl)|(simp only [← hji13,← hji46];first|rfl|(simp [errW_none,errW_some] <;> rfl))|(simp [*,errW_none,errW_some] <;> rfl)),(zz12 HO436),(zz0 HB)⟩
     ·exact absurd H (by simp)
def strings_Split.f (k:Nat) (a0:ByteArray) (a1:ByteArray):Option (List ByteArray):=(strings_genSplit.f k a0 a1 0 (-1)).bind fun t437=>(some t437)
theorem strings_Split.calls (k:Nat) (a0:ByteArray) (a1:ByteArray) (r:List ByteArray) (w:World) (h:strings_Split.f k a0 a1=some r) :
  Calls Tryz.prog 116 #[.string a0,.string a1] w fun e w'=>∃ v0_:Value,e=.returned (v0_)∧Kd.R Kd.string 9 w' w.heap.size (fun _=>True) v0_ r∧Below w.heap.size w w':=by
 have HB:=A_ (Below.refl w.heap.size w);unfold strings_Split.f at h
 have H:=h;clear h;replace H:=bindA H;obtain ⟨t437,A3,H⟩:=H;obtain rfl:=sI H;go_enter Tryz.func116,Tryz.ntmps116;go_wp2_with (first|(refine gV 130 (some 7) Tryz.func130 (strings_genSplit.calls k a0 a1 0 (-1) t437 _ A3.out) ?_;rintro v438 w4 ⟨ho0,hb⟩;have HO439:=A_ (Kd.R_lower ho0 (below_size (zz0 HB)));replace HB:=A_ (bS (zz0 HB) hb);(try clear hb ho0)))
 go_ret
 exact ⟨_,zz5,(zz12 HO439),(zz0 HB)⟩
def impl_isNormal.f (k:Nat) (a0:ByteArray):Option (Bool):=(impl_EscNorm.f k a0).bind fun bt452=>(if bt452.2=true then (some (bt452.1.toList == a0.toList)) else (some false))
theorem impl_isNormal.calls (k:Nat) (a0:ByteArray) (r:Bool) (w:World) (h:impl_isNormal.f k a0=some r) :
  Calls Tryz.prog 131 #[.string a0] w fun e w'=>e=.returned (.bool r)∧Below w.heap.size w w':=by
 have HB:=A_ (Below.refl w.heap.size w);unfold impl_isNormal.f at h
 have H:=h;clear h;replace H:=bindA H;obtain ⟨⟨t452,t453⟩,A2,H⟩:=H;try dsimp only at H
 have HF3:=A_ H;clear H;go_enter Tryz.func131,Tryz.ntmps131;go_wp2_with (first|(refine gR 114 (some 7) Tryz.func114 (impl_EscNorm.calls k a0 t452 t453 _ A2.out) ?_;rintro w4 hb;replace HB:=A_ (bS (zz0 HB) hb);(try clear hb))|((with_reducible refine atG ?_ ?_ fun K_ hK_=>?_);rfl;exact undecG)|((with_reducible refine atI ?_ fun K_ hK_=>?_);exact undecI))
 refine unG hK_ ?_;clear hK_ K_;obtain ⟨H⟩:=HF3;replace H:=iteB H;rcases H with ⟨rfl,H⟩|⟨rfl,H⟩
 ·(first|refine iteT ?_|refine iteF ?_|skip)
  obtain rfl:=sI H;(try ((with_reducible refine upS ?_);go_simp))
  go_wp2
  go_ret
  exact ⟨zz5,(zz0 HB)⟩
 ·(first|refine iteT ?_|refine iteF ?_|skip)
  obtain rfl:=sI H;(try ((with_reducible refine upS ?_);go_simp))
  go_wp2
  go_ret
  exact ⟨zz5,(zz0 HB)⟩
end Go.Proofs.YteepbodnaameiaaGreatDoor.P
end
section
namespace Go.Proofs.YteepbodnaameiaaGreatDoor.Tr
open Go.RowKit Go.Proofs.YteepbodnaameiaaGreatDoor.P Go.Proofs.YteepbodnaameiaaGreatDoorW.PrintWords Go.Proofs.YteepbodnaameiaaGreatDoorW.PrintLast Go.Proofs.YteepbodnaameiaaGreatDoorW.PrintMore Go.Proofs.YteepbodnaameiaaGreatDoor.B
set_option linter.unusedVariables false
set_option linter.unusedSimpArgs false
abbrev LR:=S122
abbrev MR:=S81
abbrev LI:=S112
abbrev MI:=S87
abbrev LK:=S73
abbrev MK:=S45
abbrev LH:=S71
abbrev MH:=S56
def cR (r:LR):MR:=⟨r.f0,r.f1⟩
def cI (r:LI):MI:=⟨r.f0,r.f1⟩
def cK (r:LK):MK:=⟨r.f0,r.f1,r.f2⟩
def cH (h:LH):MH:=⟨h.f0,h.f1,h.f2,⟨h.f3.f0,h.f3.f1.map cR,h.f3.f2⟩,h.f4,h.f5.map cI⟩
theorem rd_LR {l:List LR} {i:Nat} (h:i < l.length):rd_T122 l (i:Int)=l[i]:=by
 simp [rd_T122,List.getD,List.getElem?_eq_getElem h]
theorem rd_MR {l:List MR} {i:Nat} (h:i < l.length):rd_T81 l (i:Int)=l[i]:=by
 simp [rd_T81,List.getD,List.getElem?_eq_getElem h]
theorem rd_LI {l:List LI} {i:Nat} (h:i < l.length):rd_T112 l (i:Int)=l[i]:=by
 simp [rd_T112,List.getD,List.getElem?_eq_getElem h]
theorem rd_MI {l:List MI} {i:Nat} (h:i < l.length):rd_T87 l (i:Int)=l[i]:=by
 simp [rd_T87,List.getD,List.getElem?_eq_getElem h]
theorem rd_LK {l:List LK} {i:Nat} (h:i < l.length):rd_T73 l (i:Int)=l[i]:=by
 simp [rd_T73,List.getD,List.getElem?_eq_getElem h]
theorem rd_MK {l:List MK} {i:Nat} (h:i < l.length):rd_T45 l (i:Int)=l[i]:=by
 simp [rd_T45,List.getD,List.getElem?_eq_getElem h]
theorem rd_LH {l:List LH} {i:Nat} (h:i < l.length):rd_T71 l (i:Int)=l[i]:=by
 simp [rd_T71,List.getD,List.getElem?_eq_getElem h]
theorem rd_MH {l:List MH} {i:Nat} (h:i < l.length):rd_T56 l (i:Int)=l[i]:=by
 simp [rd_T56,List.getD,List.getElem?_eq_getElem h]
theorem rd_S {l:List ByteArray} {i:Nat} (h:i < l.length):rdOf ByteArray.empty l (i:Int)=l[i]:=by
 simp [rdOf,List.getD,List.getElem?_eq_getElem h]
theorem nn (i:Nat):(0:Int)≤(i:Int):=by omega
theorem set_next {α β:Type} (f:α→β) (l:List α) (z:β) {i d:Nat} (hi:i+(d+1)=l.length) (h:i < l.length) :
  ((l.take i).map f++List.replicate (d+1) z).set i (f l[i])=(l.take (i+1)).map f++List.replicate d z:=by
 have e:((l.take i).map f).length=i:=by rw [List.length_map,List.length_take];omega
 rw [List.set_append_right i _ (by omega),e,Nat.sub_self,List.replicate_succ,List.set_cons_zero,List.take_succ_eq_append_getElem h,List.map_append,List.append_assoc]
 rfl
theorem fill_len {α β:Type} (f:α→β) (l:List α) (z:β) {i d:Nat} (hi:i+(d+1)=l.length):(i:Int) < (((l.take i).map f++List.replicate (d+1) z).length:Int):=by
 rw [List.length_append,List.length_map,List.length_take,List.length_replicate];omega
structure HB (B C:Nat) (h:LH):Prop where
 n:h.f0.size≤B
 l3:h.f3.f0.length≤C
 s3:∀ s ∈ h.f3.f0,s.size≤B
 l4:h.f3.f1.length≤C
 s4:∀ s ∈ h.f3.f1,s.f1.size≤B
 l7:h.f5.length≤C
 s7:∀ s ∈ h.f5,s.f0.size≤B
abbrev Few:=HB 1048576 1048576
abbrev Fit:=HB 4611686018427387904 17592186044416
theorem toS_l (l:List ByteArray) (hl:l.length≤1048576) (d:Nat):∀ (i:Nat),i+d=l.length→Ev (fun k=>laws_toStringS.l0 k l ((l.take i).map id++List.replicate d (⟨#[]⟩:ByteArray)) (i:Int)) (l.map id):=by
 induction d with
 | zero=>
  intro i hi
  refine Ev_succ ?_
  simp only [laws_toStringS.l0,show ¬ ((i:Int) < (l.length:Int)) from by omega,if_false]
  rw [List.take_of_length_le (by omega),List.replicate_zero,List.append_nil]
  exact Ev.now _
 | succ d ih=>
  intro i hi
  have hlt:i < l.length:=by omega
  have w1:wrap64 ((i:Int)+1)=((i+1:Nat):Int):=by rw [w64 (by omega) (by omega)];rfl
  have f1:(i:Int) < (l.length:Int):=by omega
  refine Ev_succ ?_
  simp only [laws_toStringS.l0,f1,fill_len id l (⟨#[]⟩:ByteArray) hi,nn i,if_true,rd_S hlt,Int.toNat_natCast,Option.bind_some]
  rw [w1,show l[i]=id l[i] from rfl,set_next id l _ hi hlt]
  exact ih (i+1) (by omega)
theorem toS_ev (l:List ByteArray) (hl:l.length≤1048576):Ev (fun k=>laws_toStringS.f k l) l:=by
 have:=toS_l l hl l.length 0 (Nat.zero_add _)
 rw [List.take_zero,List.map_nil,List.nil_append,List.map_id] at this
 unfold laws_toStringS.f
 simp only [nn,if_true,Int.toNat_natCast,show l.length≤17592186044416 from by omega]
 exact this
theorem toR_l (l:List LR) (hl:l.length≤1048576) (d:Nat):∀ (i:Nat),i+d=l.length→Ev (fun k=>laws_toRuleS.l0 k l ((l.take i).map cR++List.replicate d z81) (i:Int)) (l.map cR):=by
 induction d with
 | zero=>
  intro i hi
  refine Ev_succ ?_
  simp only [laws_toRuleS.l0,show ¬ ((i:Int) < (l.length:Int)) from by omega,if_false]
  rw [List.take_of_length_le (by omega),List.replicate_zero,List.append_nil]
  exact Ev.now _
 | succ d ih=>
  intro i hi
  have hlt:i < l.length:=by omega
  have w1:wrap64 ((i:Int)+1)=((i+1:Nat):Int):=by rw [w64 (by omega) (by omega)];rfl
  have f1:(i:Int) < (l.length:Int):=by omega
  refine Ev_succ ?_
  simp only [laws_toRuleS.l0,laws_toRule.f,f1,fill_len cR l z81 hi,nn i,if_true,rd_LR hlt,Int.toNat_natCast,Option.bind_some]
  rw [w1,show (⟨l[i].f0,l[i].f1⟩:MR)=cR l[i] from rfl,set_next cR l _ hi hlt]
  exact ih (i+1) (by omega)
theorem toR_ev (l:List LR) (hl:l.length≤1048576):Ev (fun k=>laws_toRuleS.f k l) (l.map cR):=by
 have:=toR_l l hl l.length 0 (Nat.zero_add _)
 rw [List.take_zero,List.map_nil,List.nil_append] at this
 unfold laws_toRuleS.f
 simp only [nn,if_true,Int.toNat_natCast,show l.length≤11728124029610 from by omega]
 exact this
theorem toI_l (l:List LI) (hl:l.length≤1048576) (d:Nat):∀ (i:Nat),i+d=l.length→Ev (fun k=>laws_toItemS.l0 k l ((l.take i).map cI++List.replicate d z87) (i:Int)) (l.map cI):=by
 induction d with
 | zero=>
  intro i hi
  refine Ev_succ ?_
  simp only [laws_toItemS.l0,show ¬ ((i:Int) < (l.length:Int)) from by omega,if_false]
  rw [List.take_of_length_le (by omega),List.replicate_zero,List.append_nil]
  exact Ev.now _
 | succ d ih=>
  intro i hi
  have hlt:i < l.length:=by omega
  have w1:wrap64 ((i:Int)+1)=((i+1:Nat):Int):=by rw [w64 (by omega) (by omega)];rfl
  have f1:(i:Int) < (l.length:Int):=by omega
  refine Ev_succ ?_
  simp only [laws_toItemS.l0,laws_toItem.f,f1,fill_len cI l z87 hi,nn i,if_true,rd_LI hlt,Int.toNat_natCast,Option.bind_some]
  rw [w1,show (⟨l[i].f0,l[i].f1⟩:MI)=cI l[i] from rfl,set_next cI l _ hi hlt]
  exact ih (i+1) (by omega)
theorem toI_ev (l:List LI) (hl:l.length≤1048576):Ev (fun k=>laws_toItemS.f k l) (l.map cI):=by
 have:=toI_l l hl l.length 0 (Nat.zero_add _)
 rw [List.take_zero,List.map_nil,List.nil_append] at this
 unfold laws_toItemS.f
 simp only [nn,if_true,Int.toNat_natCast,show l.length≤11728124029610 from by omega]
 exact this
theorem toK_l (l:List LK) (hl:l.length≤1048576) (d:Nat):∀ (i:Nat),i+d=l.length→Ev (fun k=>laws_toLookS.l0 k l ((l.take i).map cK++List.replicate d z45) (i:Int)) (l.map cK):=by
 induction d with
 | zero=>
  intro i hi
  refine Ev_succ ?_
  simp only [laws_toLookS.l0,show ¬ ((i:Int) < (l.length:Int)) from by omega,if_false]
  rw [List.take_of_length_le (by omega),List.replicate_zero,List.append_nil]
  exact Ev.now _
 | succ d ih=>
  intro i hi
  have hlt:i < l.length:=by omega
  have w1:wrap64 ((i:Int)+1)=((i+1:Nat):Int):=by rw [w64 (by omega) (by omega)];rfl
  have f1:(i:Int) < (l.length:Int):=by omega
  refine Ev_succ ?_
  simp only [laws_toLookS.l0,laws_toLook.f,f1,fill_len cK l z45 hi,nn i,if_true,rd_LK hlt,Int.toNat_natCast,Option.bind_some]
  rw [w1,show (⟨l[i].f0,l[i].f1,l[i].f2⟩:MK)=cK l[i] from rfl,set_next cK l _ hi hlt]
  exact ih (i+1) (by omega)
theorem toK_ev (l:List LK) (hl:l.length≤1048576):Ev (fun k=>laws_toLookS.f k l) (l.map cK):=by
 have:=toK_l l hl l.length 0 (Nat.zero_add _)
 rw [List.take_zero,List.map_nil,List.nil_append] at this
 unfold laws_toLookS.f
 simp only [nn,if_true,Int.toNat_natCast,show l.length≤8796093022208 from by omega]
 exact this
theorem toH_l (l:List LH) (hl:l.length≤1048576) (hs:∀ h ∈ l,Few h) (d:Nat):∀ (i:Nat),i+d=l.length→Ev (fun k=>laws_toHouseS.l0 k l ((l.take i).map cH++List.replicate d z56) (i:Int)) (l.map cH):=by
 induction d with
 | zero=>
  intro i hi
  refine Ev_succ ?_
  simp only [laws_toHouseS.l0,show ¬ ((i:Int) < (l.length:Int)) from by omega,if_false]
  rw [List.take_of_length_le (by omega),List.replicate_zero,List.append_nil]
  exact Ev.now _
 | succ d ih=>
  intro i hi
  have hlt:i < l.length:=by omega
  have w1:wrap64 ((i:Int)+1)=((i+1:Nat):Int):=by rw [w64 (by omega) (by omega)];rfl
  have f1:(i:Int) < (l.length:Int):=by omega
  have s0:=hs _ (List.getElem_mem hlt)
  have next:=ih (i+1) (by omega)
  rw [← set_next cH l _ hi hlt] at next
  refine Ev_succ ?_
  simp only [laws_toHouseS.l0,laws_toHouse.f,laws_toGroup.f,f1,fill_len cH l z56 hi,nn i,if_true,rd_LH hlt,Int.toNat_natCast,Option.bind_assoc,Option.bind_some]
  rw [w1]
  refine Ev.bind (toS_ev _ s0.l3) ?_
  refine Ev.bind (toR_ev _ s0.l4) ?_
  refine Ev.bind (toI_ev _ s0.l7) ?_
  exact next
theorem toH_ev (l:List LH) (hl:l.length≤1048576) (hs:∀ h ∈ l,Few h):Ev (fun k=>laws_toHouseS.f k l) (l.map cH):=by
 have:=toH_l l hl hs l.length 0 (Nat.zero_add _)
 rw [List.take_zero,List.map_nil,List.nil_append] at this
 unfold laws_toHouseS.f
 simp only [nn,if_true,Int.toNat_natCast,show l.length≤2345624805922 from by omega]
 exact this
theorem eqS_l (l:List ByteArray) (hl:l.length≤1048576) (d:Nat):∀ (i:Nat),i+d=l.length→Ev (fun k=>laws_eqStringS.l0 k l l (i:Int)) true:=by
 induction d with
 | zero=>
  intro i hi
  refine Ev_succ ?_
  simp only [laws_eqStringS.l0,show ¬ ((i:Int) < (l.length:Int)) from by omega,if_false]
  exact Ev.now _
 | succ d ih=>
  intro i hi
  have hlt:i < l.length:=by omega
  have w1:wrap64 ((i:Int)+1)=((i+1:Nat):Int):=by rw [w64 (by omega) (by omega)];rfl
  have next:=ih (i+1) (by omega)
  refine Ev_succ ?_
  simp only [laws_eqStringS.l0,show (i:Int) < (l.length:Int) from by omega,nn i,if_true,bne_self_eq_false,Bool.false_eq_true,if_false,Option.bind_some]
  rw [w1]
  exact next
theorem eqS_ev (l:List ByteArray) (hl:l.length≤1048576):Ev (fun k=>laws_eqStringS.f k l l) true:=by
 unfold laws_eqStringS.f
 simp only [if_true]
 exact eqS_l l hl l.length 0 (by omega)
theorem eqR_l (l:List MR) (hl:l.length≤1048576) (d:Nat):∀ (i:Nat),i+d=l.length→Ev (fun k=>laws_eqRuleS.l0 k l l (i:Int)) true:=by
 induction d with
 | zero=>
  intro i hi
  refine Ev_succ ?_
  simp only [laws_eqRuleS.l0,show ¬ ((i:Int) < (l.length:Int)) from by omega,if_false]
  exact Ev.now _
 | succ d ih=>
  intro i hi
  have hlt:i < l.length:=by omega
  have w1:wrap64 ((i:Int)+1)=((i+1:Nat):Int):=by rw [w64 (by omega) (by omega)];rfl
  have next:=ih (i+1) (by omega)
  refine Ev_succ ?_
  simp only [laws_eqRuleS.l0,laws_eqRule.f,show (i:Int) < (l.length:Int) from by omega,nn i,if_true,bne_self_eq_false,Bool.false_eq_true,if_false,Option.bind_some]
  rw [w1]
  exact next
theorem eqR_ev (l:List MR) (hl:l.length≤1048576):Ev (fun k=>laws_eqRuleS.f k l l) true:=by
 unfold laws_eqRuleS.f
 simp only [if_true]
 exact eqR_l l hl l.length 0 (by omega)
theorem eqI_l (l:List MI) (hl:l.length≤1048576) (d:Nat):∀ (i:Nat),i+d=l.length→Ev (fun k=>laws_eqItemS.l0 k l l (i:Int)) true:=by
 induction d with
 | zero=>
  intro i hi
  refine Ev_succ ?_
  simp only [laws_eqItemS.l0,show ¬ ((i:Int) < (l.length:Int)) from by omega,if_false]
  exact Ev.now _
 | succ d ih=>
  intro i hi
  have hlt:i < l.length:=by omega
  have w1:wrap64 ((i:Int)+1)=((i+1:Nat):Int):=by rw [w64 (by omega) (by omega)];rfl
  have next:=ih (i+1) (by omega)
  refine Ev_succ ?_
  simp only [laws_eqItemS.l0,laws_eqItem.f,show (i:Int) < (l.length:Int) from by omega,nn i,if_true,bne_self_eq_false,Bool.false_eq_true,if_false,Option.bind_some]
  rw [w1]
  exact next
theorem eqI_ev (l:List MI) (hl:l.length≤1048576):Ev (fun k=>laws_eqItemS.f k l l) true:=by
 unfold laws_eqItemS.f
 simp only [if_true]
 exact eqI_l l hl l.length 0 (by omega)
theorem eqK_l (l:List MK) (hl:l.length≤1048576) (d:Nat):∀ (i:Nat),i+d=l.length→Ev (fun k=>laws_eqLookS.l0 k l l (i:Int)) true:=by
 induction d with
 | zero=>
  intro i hi
  refine Ev_succ ?_
  simp only [laws_eqLookS.l0,show ¬ ((i:Int) < (l.length:Int)) from by omega,if_false]
  exact Ev.now _
 | succ d ih=>
  intro i hi
  have hlt:i < l.length:=by omega
  have w1:wrap64 ((i:Int)+1)=((i+1:Nat):Int):=by rw [w64 (by omega) (by omega)];rfl
  have next:=ih (i+1) (by omega)
  refine Ev_succ ?_
  simp only [laws_eqLookS.l0,laws_eqLook.f,show (i:Int) < (l.length:Int) from by omega,nn i,if_true,bne_self_eq_false,Bool.false_eq_true,if_false,Option.bind_some]
  rw [w1]
  exact next
theorem eqK_ev (l:List MK) (hl:l.length≤1048576):Ev (fun k=>laws_eqLookS.f k l l) true:=by
 unfold laws_eqLookS.f
 simp only [if_true]
 exact eqK_l l hl l.length 0 (by omega)
theorem eqH_l (l:List MH) (hl:l.length≤1048576) (hs:∀ h ∈ l,h.f3.f0.length≤1048576∧h.f3.f1.length≤1048576∧h.f5.length≤1048576) (d:Nat):∀ (i:Nat),i+d=l.length→Ev (fun k=>laws_eqHouseS.l0 k l l (i:Int)) true:=by
 induction d with
 | zero=>
  intro i hi
  refine Ev_succ ?_
  simp only [laws_eqHouseS.l0,show ¬ ((i:Int) < (l.length:Int)) from by omega,if_false]
  exact Ev.now _
 | succ d ih=>
  intro i hi
  have hlt:i < l.length:=by omega
  have w1:wrap64 ((i:Int)+1)=((i+1:Nat):Int):=by rw [w64 (by omega) (by omega)];rfl
  have next:=ih (i+1) (by omega)
  refine Ev_succ ?_
  obtain ⟨s0,s1,s2⟩:=hs _ (List.getElem_mem hlt)
  simp only [laws_eqHouseS.l0,show (i:Int) < (l.length:Int) from by omega,nn i,if_true,rd_MH hlt]
  rw [w1]
  refine Ev.bind (a:=true) ?_ ?_
  ·unfold laws_eqHouse.f
   simp only [if_true,bne_self_eq_false,Bool.false_eq_true,if_false,ne_eq,not_true_eq_false,beq_self_eq_true]
   refine Ev.bind (a:=true) ?_ ?_
   ·unfold laws_eqGroup.f
    refine Ev.bind (eqS_ev _ s0) ?_
    simp only [if_true]
    refine Ev.bind (eqR_ev _ s1) ?_
    simp only [if_true]
    exact Ev.now _
   ·simp only [if_true]
    refine Ev.bind (eqI_ev _ s2) ?_
    simp only [if_true]
    exact Ev.now _
  ·simp only [if_true]
   exact next
theorem eqH_ev (l:List MH) (hl:l.length≤1048576) (hs:∀ h ∈ l,h.f3.f0.length≤1048576∧h.f3.f1.length≤1048576∧h.f5.length≤1048576):Ev (fun k=>laws_eqHouseS.f k l l) true:=by
 unfold laws_eqHouseS.f
 simp only [if_true]
 exact eqH_l l hl hs l.length 0 (by omega)
theorem toT_ev (f0:ByteArray) (f1:Int) (f2:List LH) (f3:List ByteArray) (f4:List LK) (h2:f2.length≤1048576) (hs:∀ h ∈ f2,Few h) (h3:f3.length≤1048576) (h4:f4.length≤1048576) :
  Ev (fun k=>laws_toTrip.f k f0 f1 f2 f3 f4) (f0,f1,f2.map cH,f3,f4.map cK):=by
 unfold laws_toTrip.f
 refine Ev.bind (toH_ev f2 h2 hs) ?_
 refine Ev.bind (toS_ev f3 h3) ?_
 refine Ev.bind (toK_ev f4 h4) ?_
 exact Ev.now _
theorem eqT_ev (f0:ByteArray) (f1:Int) (f2:List MH) (f3:List ByteArray) (f4:List MK) (h2:f2.length≤1048576) (hs:∀ h ∈ f2,h.f3.f0.length≤1048576∧h.f3.f1.length≤1048576∧h.f5.length≤1048576) (h3:f3.length≤1048576) (h4:f4.length≤1048576) :
  Ev (fun k=>laws_eqTrip.f k f0 f1 f2 f3 f4 f0 f1 f2 f3 f4) true:=by
 unfold laws_eqTrip.f
 simp only [if_true,bne_self_eq_false,Bool.false_eq_true,if_false,ne_eq,not_true_eq_false]
 refine Ev.bind (eqH_ev f2 h2 hs) ?_
 simp only [if_true]
 refine Ev.bind (eqS_ev f3 h3) ?_
 simp only [if_true]
 refine Ev.bind (eqK_ev f4 h4) ?_
 simp only [if_true]
 exact Ev.now _
theorem szS_l (l:List ByteArray) (hl:l.length≤17592186044416) (hs:∀ s ∈ l,s.size≤4611686018427387904) (d:Nat):∀ (i:Nat) (x:Int),i+d=l.length→0≤x→x≤1048576 →
  ∃ r:Int,Ev (fun k=>laws_szStringS.l0 k l x (i:Int)) r∧r≤1048576∧(0≤r→∀ s ∈ l.drop i,s.size≤1048576):=by
 induction d with
 | zero=>
  intro i x hi h0 h1
  refine ⟨x,Ev_succ ?_,h1,fun _ p hp=>?_⟩
  ·simp only [laws_szStringS.l0,show ¬ ((i:Int) < (l.length:Int)) from by omega,if_false]
   exact Ev.now _
  ·rw [List.drop_eq_nil_of_le (by omega)] at hp;cases hp
 | succ d ih=>
  intro i x hi h0 h1
  have hlt:i < l.length:=by omega
  have hr:=rd_S hlt
  have w1:wrap64 ((i:Int)+1)=((i+1:Nat):Int):=by rw [w64 (by omega) (by omega)];rfl
  have f1:(i:Int) < (l.length:Int):=by omega
  have z0:=hs l[i] (List.getElem_mem hlt)
  rw [List.drop_eq_getElem_cons hlt]
  generalize l[i]=p at hr z0 ⊢
  have w2:wrap64 (x - (p.size:Int))=x - (p.size:Int):=w64 (by omega) (by omega)
  by_cases hn:x - (p.size:Int) < 0
  ·refine ⟨-1,Ev_succ ?_,by omega,fun h=>by omega⟩
   simp only [laws_szStringS.l0,f1,nn i,if_true,hr,w2,hn,Option.bind_some,show ((-1:Int) < 0) from by omega]
   exact Ev.now _
  ·obtain ⟨r,er,r2,r3⟩:=ih (i+1) (x - (p.size:Int)) (by omega) (by omega) (by omega)
   refine ⟨r,Ev_succ ?_,r2,fun h s hq=>?_⟩
   ·simp only [laws_szStringS.l0,f1,nn i,if_true,hr,w2,hn,if_false,Option.bind_some]
    rw [w1]
    exact er
   ·rcases List.mem_cons.1 hq with rfl|hq
    ·omega
    ·exact r3 h s hq
theorem szS_ev (l:List ByteArray) (hl:l.length≤17592186044416) (hs:∀ s ∈ l,s.size≤4611686018427387904) (x:Int) (h0:0≤x) (h1:x≤1048576) :
  ∃ r:Int,Ev (fun k=>laws_szStringS.f k l x) r∧r≤1048576∧(0≤r→l.length≤1048576∧∀ s ∈ l,s.size≤1048576):=by
 unfold laws_szStringS.f
 have w1:wrap64 (x - (l.length:Int))=x - (l.length:Int):=w64 (by omega) (by omega)
 rw [w1]
 by_cases c1:x - (l.length:Int) < 0
 ·exact ⟨-1,by simp only [c1,if_true];exact Ev.now _,by omega,fun h=>by omega⟩
 ·obtain ⟨r,e,h2,h3⟩:=szS_l l hl hs l.length 0 (x - (l.length:Int)) (by omega) (by omega) (by omega)
  refine ⟨r,by simp only [c1,if_false];exact e,h2,fun h=>⟨by omega,?_⟩⟩
  simpa using h3 h
theorem szR_l (l:List LR) (hl:l.length≤17592186044416) (hs:∀ s ∈ l,s.f1.size≤4611686018427387904) (d:Nat):∀ (i:Nat) (x:Int),i+d=l.length→0≤x→x≤1048576 →
  ∃ r:Int,Ev (fun k=>laws_szRuleS.l0 k l x (i:Int)) r∧r≤1048576∧(0≤r→∀ s ∈ l.drop i,s.f1.size≤1048576):=by
 induction d with
 | zero=>
  intro i x hi h0 h1
  refine ⟨x,Ev_succ ?_,h1,fun _ p hp=>?_⟩
  ·simp only [laws_szRuleS.l0,show ¬ ((i:Int) < (l.length:Int)) from by omega,if_false]
   exact Ev.now _
  ·rw [List.drop_eq_nil_of_le (by omega)] at hp;cases hp
 | succ d ih=>
  intro i x hi h0 h1
  have hlt:i < l.length:=by omega
  have hr:=rd_LR hlt
  have w1:wrap64 ((i:Int)+1)=((i+1:Nat):Int):=by rw [w64 (by omega) (by omega)];rfl
  have f1:(i:Int) < (l.length:Int):=by omega
  have z0:=hs l[i] (List.getElem_mem hlt)
  rw [List.drop_eq_getElem_cons hlt]
  generalize l[i]=p at hr z0 ⊢
  have w2:wrap64 (x - (p.f1.size:Int))=x - (p.f1.size:Int):=w64 (by omega) (by omega)
  by_cases hn:x - (p.f1.size:Int) < 0
  ·refine ⟨-1,Ev_succ ?_,by omega,fun h=>by omega⟩
   simp only [laws_szRuleS.l0,laws_szRule.f,f1,nn i,if_true,hr,w2,hn,Option.bind_some,show ((-1:Int) < 0) from by omega]
   exact Ev.now _
  ·obtain ⟨r,er,r2,r3⟩:=ih (i+1) (x - (p.f1.size:Int)) (by omega) (by omega) (by omega)
   refine ⟨r,Ev_succ ?_,r2,fun h s hq=>?_⟩
   ·simp only [laws_szRuleS.l0,laws_szRule.f,f1,nn i,if_true,hr,w2,hn,if_false,Option.bind_some]
    rw [w1]
    exact er
   ·rcases List.mem_cons.1 hq with rfl|hq
    ·omega
    ·exact r3 h s hq
theorem szR_ev (l:List LR) (hl:l.length≤17592186044416) (hs:∀ s ∈ l,s.f1.size≤4611686018427387904) (x:Int) (h0:0≤x) (h1:x≤1048576) :
  ∃ r:Int,Ev (fun k=>laws_szRuleS.f k l x) r∧r≤1048576∧(0≤r→l.length≤1048576∧∀ s ∈ l,s.f1.size≤1048576):=by
 unfold laws_szRuleS.f
 have w1:wrap64 (x - (l.length:Int))=x - (l.length:Int):=w64 (by omega) (by omega)
 rw [w1]
 by_cases c1:x - (l.length:Int) < 0
 ·exact ⟨-1,by simp only [c1,if_true];exact Ev.now _,by omega,fun h=>by omega⟩
 ·obtain ⟨r,e,h2,h3⟩:=szR_l l hl hs l.length 0 (x - (l.length:Int)) (by omega) (by omega) (by omega)
  refine ⟨r,by simp only [c1,if_false];exact e,h2,fun h=>⟨by omega,?_⟩⟩
  simpa using h3 h
theorem szI_l (l:List LI) (hl:l.length≤17592186044416) (hs:∀ s ∈ l,s.f0.size≤4611686018427387904) (d:Nat):∀ (i:Nat) (x:Int),i+d=l.length→0≤x→x≤1048576 →
  ∃ r:Int,Ev (fun k=>laws_szItemS.l0 k l x (i:Int)) r∧r≤1048576∧(0≤r→∀ s ∈ l.drop i,s.f0.size≤1048576):=by
 induction d with
 | zero=>
  intro i x hi h0 h1
  refine ⟨x,Ev_succ ?_,h1,fun _ p hp=>?_⟩
  ·simp only [laws_szItemS.l0,show ¬ ((i:Int) < (l.length:Int)) from by omega,if_false]
   exact Ev.now _
  ·rw [List.drop_eq_nil_of_le (by omega)] at hp;cases hp
 | succ d ih=>
  intro i x hi h0 h1
  have hlt:i < l.length:=by omega
  have hr:=rd_LI hlt
  have w1:wrap64 ((i:Int)+1)=((i+1:Nat):Int):=by rw [w64 (by omega) (by omega)];rfl
  have f1:(i:Int) < (l.length:Int):=by omega
  have z0:=hs l[i] (List.getElem_mem hlt)
  rw [List.drop_eq_getElem_cons hlt]
  generalize l[i]=p at hr z0 ⊢
  have w2:wrap64 (x - (p.f0.size:Int))=x - (p.f0.size:Int):=w64 (by omega) (by omega)
  by_cases hn:x - (p.f0.size:Int) < 0
  ·refine ⟨-1,Ev_succ ?_,by omega,fun h=>by omega⟩
   simp only [laws_szItemS.l0,laws_szItem.f,f1,nn i,if_true,hr,w2,hn,Option.bind_some,show ((-1:Int) < 0) from by omega]
   exact Ev.now _
  ·obtain ⟨r,er,r2,r3⟩:=ih (i+1) (x - (p.f0.size:Int)) (by omega) (by omega) (by omega)
   refine ⟨r,Ev_succ ?_,r2,fun h s hq=>?_⟩
   ·simp only [laws_szItemS.l0,laws_szItem.f,f1,nn i,if_true,hr,w2,hn,if_false,Option.bind_some]
    rw [w1]
    exact er
   ·rcases List.mem_cons.1 hq with rfl|hq
    ·omega
    ·exact r3 h s hq
theorem szI_ev (l:List LI) (hl:l.length≤17592186044416) (hs:∀ s ∈ l,s.f0.size≤4611686018427387904) (x:Int) (h0:0≤x) (h1:x≤1048576) :
  ∃ r:Int,Ev (fun k=>laws_szItemS.f k l x) r∧r≤1048576∧(0≤r→l.length≤1048576∧∀ s ∈ l,s.f0.size≤1048576):=by
 unfold laws_szItemS.f
 have w1:wrap64 (x - (l.length:Int))=x - (l.length:Int):=w64 (by omega) (by omega)
 rw [w1]
 by_cases c1:x - (l.length:Int) < 0
 ·exact ⟨-1,by simp only [c1,if_true];exact Ev.now _,by omega,fun h=>by omega⟩
 ·obtain ⟨r,e,h2,h3⟩:=szI_l l hl hs l.length 0 (x - (l.length:Int)) (by omega) (by omega) (by omega)
  refine ⟨r,by simp only [c1,if_false];exact e,h2,fun h=>⟨by omega,?_⟩⟩
  simpa using h3 h
theorem szK_l (l:List LK) (hl:l.length≤17592186044416) (hs:∀ s ∈ l,s.f1.size≤4611686018427387904) (d:Nat):∀ (i:Nat) (x:Int),i+d=l.length→0≤x→x≤1048576 →
  ∃ r:Int,Ev (fun k=>laws_szLookS.l0 k l x (i:Int)) r∧r≤1048576∧(0≤r→∀ s ∈ l.drop i,s.f1.size≤1048576):=by
 induction d with
 | zero=>
  intro i x hi h0 h1
  refine ⟨x,Ev_succ ?_,h1,fun _ p hp=>?_⟩
  ·simp only [laws_szLookS.l0,show ¬ ((i:Int) < (l.length:Int)) from by omega,if_false]
   exact Ev.now _
  ·rw [List.drop_eq_nil_of_le (by omega)] at hp;cases hp
 | succ d ih=>
  intro i x hi h0 h1
  have hlt:i < l.length:=by omega
  have hr:=rd_LK hlt
  have w1:wrap64 ((i:Int)+1)=((i+1:Nat):Int):=by rw [w64 (by omega) (by omega)];rfl
  have f1:(i:Int) < (l.length:Int):=by omega
  have z0:=hs l[i] (List.getElem_mem hlt)
  rw [List.drop_eq_getElem_cons hlt]
  generalize l[i]=p at hr z0 ⊢
  have w2:wrap64 (x - (p.f1.size:Int))=x - (p.f1.size:Int):=w64 (by omega) (by omega)
  by_cases hn:x - (p.f1.size:Int) < 0
  ·refine ⟨-1,Ev_succ ?_,by omega,fun h=>by omega⟩
   simp only [laws_szLookS.l0,laws_szLook.f,f1,nn i,if_true,hr,w2,hn,Option.bind_some,show ((-1:Int) < 0) from by omega]
   exact Ev.now _
  ·obtain ⟨r,er,r2,r3⟩:=ih (i+1) (x - (p.f1.size:Int)) (by omega) (by omega) (by omega)
   refine ⟨r,Ev_succ ?_,r2,fun h s hq=>?_⟩
   ·simp only [laws_szLookS.l0,laws_szLook.f,f1,nn i,if_true,hr,w2,hn,if_false,Option.bind_some]
    rw [w1]
    exact er
   ·rcases List.mem_cons.1 hq with rfl|hq
    ·omega
    ·exact r3 h s hq
theorem szK_ev (l:List LK) (hl:l.length≤17592186044416) (hs:∀ s ∈ l,s.f1.size≤4611686018427387904) (x:Int) (h0:0≤x) (h1:x≤1048576) :
  ∃ r:Int,Ev (fun k=>laws_szLookS.f k l x) r∧r≤1048576∧(0≤r→l.length≤1048576∧∀ s ∈ l,s.f1.size≤1048576):=by
 unfold laws_szLookS.f
 have w1:wrap64 (x - (l.length:Int))=x - (l.length:Int):=w64 (by omega) (by omega)
 rw [w1]
 by_cases c1:x - (l.length:Int) < 0
 ·exact ⟨-1,by simp only [c1,if_true];exact Ev.now _,by omega,fun h=>by omega⟩
 ·obtain ⟨r,e,h2,h3⟩:=szK_l l hl hs l.length 0 (x - (l.length:Int)) (by omega) (by omega) (by omega)
  refine ⟨r,by simp only [c1,if_false];exact e,h2,fun h=>⟨by omega,?_⟩⟩
  simpa using h3 h
theorem szH_ev (h:LH) (hg:Fit h) (x:Int) (h0:0≤x) (h1:x≤1048576) :
  ∃ r:Int,Ev (fun k=>laws_szHouse.f k h.f0 h.f1 h.f2 h.f3.f0 h.f3.f1 h.f3.f2 h.f4 h.f5 x) r∧r≤1048576∧(0≤r→Few h):=by
 obtain ⟨g1,g2,g3,g4,g5,g6,g7⟩:=hg
 unfold laws_szHouse.f
 have w1:wrap64 (x - (h.f0.size:Int))=x - (h.f0.size:Int):=w64 (by omega) (by omega)
 rw [w1]
 by_cases c1:x - (h.f0.size:Int) < 0
 ·exact ⟨-1,by simp only [c1,if_true];exact Ev.now _,by omega,fun h=>by omega⟩
 simp only [c1,if_false]
 obtain ⟨a,ea,a1,a2⟩:=szS_ev h.f3.f0 g2 g3 (x - (h.f0.size:Int)) (by omega) (by omega)
 by_cases ha:a < 0
 ·refine ⟨-1,?_,by omega,fun h=>by omega⟩
  refine Ev.bind (a:=-1) ?_ ?_
  ·unfold laws_szGroup.f
   refine Ev.bind ea ?_
   simp only [ha,if_true]
   exact Ev.now _
  ·simp only [show ((-1:Int) < 0) from by omega,if_true]
   exact Ev.now _
 obtain ⟨b,eb,b1,b2⟩:=szR_ev h.f3.f1 g4 g5 a (by omega) a1
 by_cases hb:b < 0
 ·refine ⟨-1,?_,by omega,fun h=>by omega⟩
  refine Ev.bind (a:=-1) ?_ ?_
  ·unfold laws_szGroup.f
   refine Ev.bind ea ?_
   simp only [ha,if_false]
   refine Ev.bind eb ?_
   simp only [hb,if_true]
   exact Ev.now _
  ·simp only [show ((-1:Int) < 0) from by omega,if_true]
   exact Ev.now _
 obtain ⟨c,ec,c2,c3⟩:=szI_ev h.f5 g6 g7 b (by omega) b1
 have eg:Ev (fun k=>laws_szGroup.f k h.f3.f0 h.f3.f1 h.f3.f2 (x - (h.f0.size:Int))) b:=by
  unfold laws_szGroup.f
  refine Ev.bind ea ?_
  simp only [ha,if_false]
  refine Ev.bind eb ?_
  simp only [hb,if_false]
  exact Ev.now _
 by_cases hc:c < 0
 ·refine ⟨-1,?_,by omega,fun h=>by omega⟩
  refine Ev.bind eg ?_
  simp only [hb,if_false]
  refine Ev.bind ec ?_
  simp only [hc,if_true]
  exact Ev.now _
 ·refine ⟨c,?_,c2,fun h=>⟨by omega,(a2 (by omega)).1,(a2 (by omega)).2,(b2 (by omega)).1,(b2 (by omega)).2,(c3 h).1,(c3 h).2⟩⟩
  refine Ev.bind eg ?_
  simp only [hb,if_false]
  refine Ev.bind ec ?_
  simp only [hc,if_false]
  exact Ev.now _
theorem szHs_l (l:List LH) (hl:l.length≤17592186044416) (hs:∀ g ∈ l,Fit g) (d:Nat):∀ (i:Nat) (x:Int),i+d=l.length→0≤x→x≤1048576 →
  ∃ r:Int,Ev (fun k=>laws_szHouseS.l0 k l x (i:Int)) r∧r≤1048576∧(0≤r→∀ g ∈ l.drop i,Few g):=by
 induction d with
 | zero=>
  intro i x hi h0 h1
  refine ⟨x,Ev_succ ?_,h1,fun _ p hp=>?_⟩
  ·simp only [laws_szHouseS.l0,show ¬ ((i:Int) < (l.length:Int)) from by omega,if_false]
   exact Ev.now _
  ·rw [List.drop_eq_nil_of_le (by omega)] at hp;cases hp
 | succ d ih=>
  intro i x hi h0 h1
  have hlt:i < l.length:=by omega
  have hr:=rd_LH hlt
  have w1:wrap64 ((i:Int)+1)=((i+1:Nat):Int):=by rw [w64 (by omega) (by omega)];rfl
  have f1:(i:Int) < (l.length:Int):=by omega
  have z0:=hs l[i] (List.getElem_mem hlt)
  rw [List.drop_eq_getElem_cons hlt]
  generalize l[i]=p at hr z0 ⊢
  obtain ⟨q,eq,q1,q2⟩:=szH_ev p z0 x h0 h1
  by_cases hn:q < 0
  ·refine ⟨-1,Ev_succ ?_,by omega,fun h=>by omega⟩
   simp only [laws_szHouseS.l0,f1,nn i,if_true,hr]
   refine Ev.bind eq ?_
   simp only [hn,if_true]
   exact Ev.now _
  ·obtain ⟨r,er,r0,r3⟩:=ih (i+1) q (by omega) (by omega) q1
   refine ⟨r,Ev_succ ?_,r0,fun h s hq=>?_⟩
   ·simp only [laws_szHouseS.l0,f1,nn i,if_true,hr]
    refine Ev.bind eq ?_
    simp only [hn,if_false]
    rw [w1]
    exact er
   ·rcases List.mem_cons.1 hq with rfl|hq
    ·exact q2 (by omega)
    ·exact r3 h s hq
theorem szHs_ev (l:List LH) (hl:l.length≤17592186044416) (hs:∀ g ∈ l,Fit g) (x:Int) (h0:0≤x) (h1:x≤1048576) :
  ∃ r:Int,Ev (fun k=>laws_szHouseS.f k l x) r∧r≤1048576∧(0≤r→l.length≤1048576∧∀ g ∈ l,Few g):=by
 unfold laws_szHouseS.f
 have w1:wrap64 (x - (l.length:Int))=x - (l.length:Int):=w64 (by omega) (by omega)
 rw [w1]
 by_cases c1:x - (l.length:Int) < 0
 ·exact ⟨-1,by simp only [c1,if_true];exact Ev.now _,by omega,fun h=>by omega⟩
 ·obtain ⟨r,e,h2,h3⟩:=szHs_l l hl hs l.length 0 (x - (l.length:Int)) (by omega) (by omega) (by omega)
  refine ⟨r,by simp only [c1,if_false];exact e,h2,fun h=>⟨by omega,?_⟩⟩
  simpa using h3 h
structure TB (B C:Nat) (f0:ByteArray) (f2:List LH) (f3:List ByteArray) (f4:List LK):Prop where
 n:f0.size≤B
 lh:f2.length≤C
 h:∀ h ∈ f2,HB B C h
 ls:f3.length≤C
 s:∀ s ∈ f3,s.size≤B
 lk:f4.length≤C
 k:∀ s ∈ f4,s.f1.size≤B
theorem szT_ev (f0:ByteArray) (f1:Int) (f2:List LH) (f3:List ByteArray) (f4:List LK) (hg:TB 4611686018427387904 17592186044416 f0 f2 f3 f4) :
  ∃ r:Int,Ev (fun k=>laws_szTrip.f k f0 f1 f2 f3 f4 1048576) r∧(0≤r→TB 1048576 1048576 f0 f2 f3 f4):=by
 obtain ⟨g1,g2,g3,g4,g5,g6,g7⟩:=hg
 unfold laws_szTrip.f
 have w1:wrap64 ((1048576:Int) - (f0.size:Int))=1048576 - (f0.size:Int):=w64 (by omega) (by omega)
 rw [w1]
 by_cases c1:(1048576:Int) - (f0.size:Int) < 0
 ·exact ⟨-1,by simp only [c1,if_true];exact Ev.now _,fun h=>by omega⟩
 simp only [c1,if_false]
 obtain ⟨a,ea,a1,a2⟩:=szHs_ev f2 g2 g3 ((1048576:Int) - (f0.size:Int)) (by omega) (by omega)
 by_cases ha:a < 0
 ·refine ⟨-1,Ev.bind ea ?_,fun h=>by omega⟩
  simp only [ha,if_true]
  exact Ev.now _
 obtain ⟨b,eb,b1,b2⟩:=szS_ev f3 g4 g5 a (by omega) a1
 by_cases hb:b < 0
 ·refine ⟨-1,Ev.bind ea ?_,fun h=>by omega⟩
  simp only [ha,if_false]
  refine Ev.bind eb ?_
  simp only [hb,if_true]
  exact Ev.now _
 obtain ⟨c,ec,c2,c3⟩:=szK_ev f4 g6 g7 b (by omega) b1
 by_cases hc:c < 0
 ·refine ⟨-1,Ev.bind ea ?_,fun h=>by omega⟩
  simp only [ha,if_false]
  refine Ev.bind eb ?_
  simp only [hb,if_false]
  refine Ev.bind ec ?_
  simp only [hc,if_true]
  exact Ev.now _
 ·refine ⟨c,Ev.bind ea ?_,fun h=>⟨by omega,(a2 (by omega)).1,(a2 (by omega)).2,(b2 (by omega)).1,(b2 (by omega)).2,(c3 h).1,(c3 h).2⟩⟩
  simp only [ha,if_false]
  refine Ev.bind eb ?_
  simp only [hb,if_false]
  refine Ev.bind ec ?_
  simp only [hc,if_false]
  exact Ev.now _
end Go.Proofs.YteepbodnaameiaaGreatDoor.Tr
end
section
namespace Go.Proofs.YteepbodnaameiaaGreatDoor.Tr
open Go.RowKit Go.Proofs.YteepbodnaameiaaGreatDoor.P Go.Proofs.YteepbodnaameiaaGreatDoorW.PrintWords Go.Proofs.YteepbodnaameiaaGreatDoorW.PrintLast Go.Proofs.YteepbodnaameiaaGreatDoorW.PrintMore Go.ChangeShapes Go.WideShapes Go.Deep Go.Joins
set_option linter.unusedVariables false
set_option linter.unusedSimpArgs false
instance:Inhabited LH:=⟨z71⟩
instance:Inhabited LR:=⟨z122⟩
instance:Inhabited LI:=⟨z112⟩
instance:Inhabited LK:=⟨z73⟩
theorem weights_all {H:Type} {P:Program} {e:TypeId}:∀ {ds:List (DataW H)} {d:DataW H},d ∈ ds→∀ n ∈ d.weights P e,n ∈ DataW.weightsAll P e ds
 | d0 :: ds,d,h,n,hn=>by
  simp only [DataW.weightsAll,List.mem_append]
  rcases List.mem_cons.1 h with rfl|h'
  ·exact .inl hn
  ·exact .inr (weights_all h' n hn)
theorem row_open {α H:Type} [Inhabited α] {K:Kd α} {P:Program} {enc:TypeId×Value→H} {W:World} {t e:TypeId} {C B0 n:Nat} {cs:List Value} {x:DataW H×List MemPlace} (ht:P.underlying t=some (.slice e)) (hC:P.cellsOf e=C) (hK:K.sz=C) (hB:P.bytesOf e=B0)
  (Fits:Nat→α→Prop) (one:∀ n cs y,DataW.trod enc P W 0 (fun _=>true) true n e cs=some y→∃ p:α,K.K W p cs∧∀ B,(∀ n ∈ y.1.weights P e,n≤B)→Fits B p)
  (h:DataW.trod enc P W 0 (fun _=>true) true n t cs=some x) :
  ∃ (A:Option Addr) (l:List α) (c:Nat),cs=[.slice A l.length c]∧K.C W A l.length l∧l.length≤c∧∀ B,(∀ n ∈ x.1.weights P t,n≤B)→l.length * B0≤B∧∀ p ∈ l,Fits B p:=by
 rcases open_slice ht h with ⟨e,_⟩|⟨a,len,cap,m,k,D,Pl,ee,_,hl,hm,hmm,hx,each⟩
 ·exact ⟨none,[],0,e,⟨rfl,by simp,fun h=>by simp at h⟩,Nat.le_refl _,fun B _=>⟨by simp,by simp⟩⟩
 ·have hmm':m=cap:=by simpa using hmm
  obtain ⟨f,hf⟩:=choose_lt (p:=fun i (p:α)=>(∃ cs',W.cells? 0 (a.add (i * C)) C=some cs'∧K.K W p cs')∧∀ B,(∀ n ∈ (D i).weights P e,n≤B)→Fits B p) (n:=m) (fun i hi=>by
   obtain ⟨cs',h1,h2⟩:=each i hi
   obtain ⟨p,hp,hw⟩:=one _ _ _ h2
   rw [hC] at h1
   exact ⟨p,⟨cs',h1,hp⟩,hw⟩)
  refine ⟨some a,(List.range len).map f,cap,?_,⟨rfl,?_,fun hn=>⟨a,rfl,fun j p hj=>?_⟩⟩,?_,fun B hw=>?_⟩
  ·rw [ee];simp
  ·have:maxLen=2 ^ 63 - 1:=rfl
   simp
   omega
  ·obtain ⟨hjl,hp⟩:=List.getElem?_eq_some_iff.1 hj
   simp only [List.length_map,List.length_range] at hjl
   simp only [List.getElem_map,List.getElem_range] at hp
   subst hp
   obtain ⟨⟨cs',hc,hk⟩,_⟩:=hf j (by omega)
   obtain ⟨_,hlen,hcell⟩:=World.cells?_some hc
   refine ⟨cs',hlen.trans hK.symm,hk,fun i u hu=>?_⟩
   have hi:i < C:=by have:=(List.getElem?_eq_some_iff.1 hu).1;omega
   have:=hcell i hi
   rw [Go.Deep.add_add] at this
   rw [hK]
   exact this.trans hu
  ·simp;omega
  ·rw [hx] at hw
   simp only [DataW.weights,ht,List.mem_cons,List.mem_append] at hw
   have h1:=hw _ (.inl rfl)
   rw [hB] at h1
   simp only [List.length_map,List.length_range] at h1
   refine ⟨?_,fun p hp=>?_⟩
   ·have:len * B0≤(len+(m - len)) * B0:=Nat.mul_le_mul_right _ (by omega)
    simp;omega
   obtain ⟨i,hi,rfl⟩:=List.mem_map.1 hp
   have hil:=List.mem_range.1 hi
   exact (hf i (by omega)).2 B (fun n hn=>hw n (.inr (.inl (weights_all (d:=D i) (List.mem_map.2 ⟨i,hi,rfl⟩) n hn))))
section
variable {H:Type} {P:Program} {enc:TypeId×Value→H} {w:World} {base:Nat} {spare:Nat→Bool} {held:Bool}
theorem trod_struct5 {t:TypeId} {f0 f1 f2 f3 f4:Field} {fuel:Nat} {cs:List Value} {x:DataW H×List MemPlace} (ht:P.underlying t=some (.struct #[f0,f1,f2,f3,f4])) (h:DataW.trod enc P w base spare held fuel t cs=some x) :
  ∃ y0 y1 y2 y3 y4 n,x.1=.agg [y0.1,y1.1,y2.1,y3.1,y4.1]∧cs.length=P.cellsOf t∧DataW.trod enc P w base spare held n f0.type ((cs.drop f0.offset).take (P.cellsOf f0.type))=some y0 ∧
   DataW.trod enc P w base spare held n f1.type ((cs.drop f1.offset).take (P.cellsOf f1.type))=some y1∧DataW.trod enc P w base spare held n f2.type ((cs.drop f2.offset).take (P.cellsOf f2.type))=some y2 ∧
   DataW.trod enc P w base spare held n f3.type ((cs.drop f3.offset).take (P.cellsOf f3.type))=some y3∧DataW.trod enc P w base spare held n f4.type ((cs.drop f4.offset).take (P.cellsOf f4.type))=some y4:=by
 obtain ⟨xs,n,_,rfl,hl,hlen,hf⟩:=DataW.trod_struct ht h
 match xs,hlen with
 | [y0,y1,y2,y3,y4],_=>exact ⟨y0,y1,y2,y3,y4,n,by simp,hl,by simpa using hf 0 f0 rfl,by simpa using hf 1 f1 rfl,by simpa using hf 2 f2 rfl,by simpa using hf 3 f3 rfl,by simpa using hf 4 f4 rfl⟩
theorem trod_struct6 {t:TypeId} {f0 f1 f2 f3 f4 f5:Field} {fuel:Nat} {cs:List Value} {x:DataW H×List MemPlace} (ht:P.underlying t=some (.struct #[f0,f1,f2,f3,f4,f5])) (h:DataW.trod enc P w base spare held fuel t cs=some x) :
  ∃ y0 y1 y2 y3 y4 y5 n,x.1=.agg [y0.1,y1.1,y2.1,y3.1,y4.1,y5.1]∧cs.length=P.cellsOf t∧DataW.trod enc P w base spare held n f0.type ((cs.drop f0.offset).take (P.cellsOf f0.type))=some y0 ∧
   DataW.trod enc P w base spare held n f1.type ((cs.drop f1.offset).take (P.cellsOf f1.type))=some y1∧DataW.trod enc P w base spare held n f2.type ((cs.drop f2.offset).take (P.cellsOf f2.type))=some y2 ∧
   DataW.trod enc P w base spare held n f3.type ((cs.drop f3.offset).take (P.cellsOf f3.type))=some y3∧DataW.trod enc P w base spare held n f4.type ((cs.drop f4.offset).take (P.cellsOf f4.type))=some y4∧DataW.trod enc P w base spare held n f5.type ((cs.drop f5.offset).take (P.cellsOf f5.type))=some y5:=by
 obtain ⟨xs,n,_,rfl,hl,hlen,hf⟩:=DataW.trod_struct ht h
 match xs,hlen with
 | [y0,y1,y2,y3,y4,y5],_=>exact ⟨y0,y1,y2,y3,y4,y5,n,by simp,hl,by simpa using hf 0 f0 rfl,by simpa using hf 1 f1 rfl,by simpa using hf 2 f2 rfl,by simpa using hf 3 f3 rfl,by simpa using hf 4 f4 rfl,by simpa using hf 5 f5 rfl⟩
end
theorem string_one {H:Type} {enc:TypeId×Value→H} {W:World} {n:Nat} {cs:List Value} {y:DataW H×List MemPlace} (h:DataW.trod enc Tryz.prog W 0 (fun _=>true) true n 9 cs=some y) :
  ∃ p:ByteArray,Kd.string.K W p cs∧∀ B,(∀ n ∈ y.1.weights Tryz.prog 9,n≤B)→p.size≤B:=by
 obtain ⟨s,e,r,_⟩:=DataW.trod_string Tryz.underlying9 h
 refine ⟨s,e,fun B hw=>hw _ ?_⟩
 rw [r]
 simp [DataW.weights]
theorem strs_open {H:Type} {enc:TypeId×Value→H} {W:World} {n:Nat} {cs:List Value} {x:DataW H×List MemPlace} (h:DataW.trod enc Tryz.prog W 0 (fun _=>true) true n 23 cs=some x) :
  ∃ (A:Option Addr) (l:List ByteArray) (c:Nat),cs=[.slice A l.length c]∧Kd.string.C W A l.length l∧l.length≤c∧∀ B,(∀ n ∈ x.1.weights Tryz.prog 23,n≤B)→l.length * 16≤B∧∀ p ∈ l,p.size≤B:=
 row_open (K:=Kd.string) Tryz.underlying23 (show Tryz.prog.cellsOf 9=1 by kernel_rfl) rfl (show Tryz.prog.bytesOf 9=16 by kernel_rfl) (fun B p=>p.size≤B) (fun _ _ _ h=>string_one h) h
theorem list2 {α:Type} {l:List α} (h:l.length=2):∃ a b,l=[a,b]:=by
 match l,h with
 | [a,b],_=>exact ⟨a,b,rfl⟩
theorem list3 {α:Type} {l:List α} (h:l.length=3):∃ a b c,l=[a,b,c]:=by
 match l,h with
 | [a,b,c],_=>exact ⟨a,b,c,rfl⟩
theorem list8 {α:Type} {l:List α} (h:l.length=8):∃ a b c d e f g i,l=[a,b,c,d,e,f,g,i]:=by
 match l,h with
 | [a,b,c,d,e,f,g,i],_=>exact ⟨a,b,c,d,e,f,g,i,rfl⟩
theorem list5 {α:Type} {l:List α} (h:l.length=5):∃ a b c d e,l=[a,b,c,d,e]:=by
 match l,h with
 | [a,b,c,d,e],_=>exact ⟨a,b,c,d,e,rfl⟩
theorem cB:Tryz.prog.cellsOf 4=1:=by kernel_rfl
theorem cI1:Tryz.prog.cellsOf 3=1:=by kernel_rfl
theorem cS:Tryz.prog.cellsOf 9=1:=by kernel_rfl
theorem rule_one {H:Type} {enc:TypeId×Value→H} {W:World} {n:Nat} {cs:List Value} {y:DataW H×List MemPlace} (h:DataW.trod enc Tryz.prog W 0 (fun _=>true) true n 122 cs=some y) :
  ∃ p:LR,Kd.K k122 W p cs∧∀ B,(∀ n ∈ y.1.weights Tryz.prog 122,n≤B)→p.f1.size≤B:=by
 obtain ⟨y0,y1,m,hy,hl,h0,h1⟩:=trod_struct2 Tryz.underlying122 h
 have hC:Tryz.prog.cellsOf 122=2:=by kernel_rfl
 rw [hC] at hl
 obtain ⟨c0,c1,rfl⟩:=list2 hl
 simp only [cS,cB,List.drop_zero,List.drop_succ_cons,List.take_succ_cons,List.take_zero] at h0 h1
 obtain ⟨b0,e0,r0⟩:=DataW.trod_bool Tryz.underlying4 h0
 obtain ⟨s1,e1,r1,_⟩:=DataW.trod_string Tryz.underlying9 h1
 simp only [List.cons.injEq,and_true] at e0 e1
 rw [e0,e1]
 refine ⟨⟨b0,s1⟩,k122_mk W ⟨b0,s1⟩,fun B hw=>hw _ ?_⟩
 rw [hy,r0,r1]
 simp [DataW.weights,Tryz.underlying122,DataW.weightsEach]
theorem rules_open {H:Type} {enc:TypeId×Value→H} {W:World} {n:Nat} {cs:List Value} {x:DataW H×List MemPlace} (h:DataW.trod enc Tryz.prog W 0 (fun _=>true) true n 66 cs=some x) :
  ∃ (A:Option Addr) (l:List LR) (c:Nat),cs=[.slice A l.length c]∧Kd.C k122 W A l.length l∧l.length≤c∧∀ B,(∀ n ∈ x.1.weights Tryz.prog 66,n≤B)→l.length * 24≤B∧∀ p ∈ l,p.f1.size≤B:=
 row_open (K:=k122) Tryz.underlying66 (show Tryz.prog.cellsOf 122=2 by kernel_rfl) rfl (show Tryz.prog.bytesOf 122=24 by kernel_rfl) (fun B p=>p.f1.size≤B) (fun _ _ _ h=>rule_one h) h
theorem item_one {H:Type} {enc:TypeId×Value→H} {W:World} {n:Nat} {cs:List Value} {y:DataW H×List MemPlace} (h:DataW.trod enc Tryz.prog W 0 (fun _=>true) true n 112 cs=some y) :
  ∃ p:LI,Kd.K k112 W p cs∧∀ B,(∀ n ∈ y.1.weights Tryz.prog 112,n≤B)→p.f0.size≤B:=by
 obtain ⟨y0,y1,m,hy,hl,h0,h1⟩:=trod_struct2 Tryz.underlying112 h
 have hC:Tryz.prog.cellsOf 112=2:=by kernel_rfl
 rw [hC] at hl
 obtain ⟨c0,c1,rfl⟩:=list2 hl
 simp only [cS,cI1,List.drop_zero,List.drop_succ_cons,List.take_succ_cons,List.take_zero] at h0 h1
 obtain ⟨s0,e0,r0,_⟩:=DataW.trod_string Tryz.underlying9 h0
 obtain ⟨i1,e1,r1,_⟩:=DataW.trod_int Tryz.underlying3 h1
 simp only [List.cons.injEq,and_true] at e0 e1
 rw [e0,e1]
 refine ⟨⟨s0,i1⟩,k112_mk W ⟨s0,i1⟩,fun B hw=>hw _ ?_⟩
 rw [hy,r0,r1]
 simp [DataW.weights,Tryz.underlying112,DataW.weightsEach]
theorem items_open {H:Type} {enc:TypeId×Value→H} {W:World} {n:Nat} {cs:List Value} {x:DataW H×List MemPlace} (h:DataW.trod enc Tryz.prog W 0 (fun _=>true) true n 69 cs=some x) :
  ∃ (A:Option Addr) (l:List LI) (c:Nat),cs=[.slice A l.length c]∧Kd.C k112 W A l.length l∧l.length≤c∧∀ B,(∀ n ∈ x.1.weights Tryz.prog 69,n≤B)→l.length * 24≤B∧∀ p ∈ l,p.f0.size≤B:=
 row_open (K:=k112) Tryz.underlying69 (show Tryz.prog.cellsOf 112=2 by kernel_rfl) rfl (show Tryz.prog.bytesOf 112=24 by kernel_rfl) (fun B p=>p.f0.size≤B) (fun _ _ _ h=>item_one h) h
theorem look_one {H:Type} {enc:TypeId×Value→H} {W:World} {n:Nat} {cs:List Value} {y:DataW H×List MemPlace} (h:DataW.trod enc Tryz.prog W 0 (fun _=>true) true n 73 cs=some y) :
  ∃ p:LK,Kd.K k73 W p cs∧∀ B,(∀ n ∈ y.1.weights Tryz.prog 73,n≤B)→p.f1.size≤B:=by
 obtain ⟨y0,y1,y2,m,hy,hl,h0,h1,h2⟩:=trod_struct3 Tryz.underlying73 h
 have hC:Tryz.prog.cellsOf 73=3:=by kernel_rfl
 rw [hC] at hl
 obtain ⟨c0,c1,c2,rfl⟩:=list3 hl
 simp only [cS,cI1,List.drop_zero,List.drop_succ_cons,List.take_succ_cons,List.take_zero] at h0 h1 h2
 obtain ⟨i0,e0,r0,_⟩:=DataW.trod_int Tryz.underlying3 h0
 obtain ⟨s1,e1,r1,_⟩:=DataW.trod_string Tryz.underlying9 h1
 obtain ⟨i2,e2,r2,_⟩:=DataW.trod_int Tryz.underlying3 h2
 simp only [List.cons.injEq,and_true] at e0 e1 e2
 rw [e0,e1,e2]
 refine ⟨⟨i0,s1,i2⟩,k73_mk W ⟨i0,s1,i2⟩,fun B hw=>hw _ ?_⟩
 rw [hy,r0,r1,r2]
 simp [DataW.weights,Tryz.underlying73,DataW.weightsEach]
theorem looks_open {H:Type} {enc:TypeId×Value→H} {W:World} {n:Nat} {cs:List Value} {x:DataW H×List MemPlace} (h:DataW.trod enc Tryz.prog W 0 (fun _=>true) true n 24 cs=some x) :
  ∃ (A:Option Addr) (l:List LK) (c:Nat),cs=[.slice A l.length c]∧Kd.C k73 W A l.length l∧l.length≤c∧∀ B,(∀ n ∈ x.1.weights Tryz.prog 24,n≤B)→l.length * 32≤B∧∀ p ∈ l,p.f1.size≤B:=
 row_open (K:=k73) Tryz.underlying24 (show Tryz.prog.cellsOf 73=3 by kernel_rfl) rfl (show Tryz.prog.bytesOf 73=32 by kernel_rfl) (fun B p=>p.f1.size≤B) (fun _ _ _ h=>look_one h) h
theorem group_cells {H:Type} {enc:TypeId×Value→H} {W:World} {n:Nat} {c0 c1 c2:Value} {y:DataW H×List MemPlace} (h:DataW.trod enc Tryz.prog W 0 (fun _=>true) true n 68 [c0,c1,c2]=some y) :
  ∃ (A0:Option Addr) (l0:List ByteArray) (p0:Nat) (A1:Option Addr) (l1:List LR) (p1:Nat) (i2:Int),c0=.slice A0 l0.length p0∧c1=.slice A1 l1.length p1∧c2=.int .i64 i2∧Kd.string.C W A0 l0.length l0∧l0.length≤p0∧Kd.C k122 W A1 l1.length l1∧l1.length≤p1 ∧
   ∀ B,(∀ n ∈ y.1.weights Tryz.prog 68,n≤B)→(l0.length * 16≤B∧∀ p ∈ l0,p.size≤B)∧(l1.length * 24≤B∧∀ p ∈ l1,p.f1.size≤B):=by
 obtain ⟨y0,y1,y2,m,hy,hl,h0,h1,h2⟩:=trod_struct3 Tryz.underlying68 h
 have hS:Tryz.prog.cellsOf 23=1:=by kernel_rfl
 have hR:Tryz.prog.cellsOf 66=1:=by kernel_rfl
 simp only [hS,hR,cI1,List.drop_zero,List.drop_succ_cons,List.take_succ_cons,List.take_zero] at h0 h1 h2
 obtain ⟨A0,l0,p0,e0,hC0,hl0,hw0⟩:=strs_open h0
 obtain ⟨A1,l1,p1,e1,hC1,hl1,hw1⟩:=rules_open h1
 obtain ⟨i2,e2,r2,_⟩:=DataW.trod_int Tryz.underlying3 h2
 simp only [List.cons.injEq,and_true] at e0 e1 e2
 refine ⟨A0,l0,p0,A1,l1,p1,i2,e0,e1,e2,hC0,hl0,hC1,hl1,fun B hw=>?_⟩
 rw [hy] at hw
 simp only [DataW.weights,Tryz.underlying68,List.map,DataW.weightsEach,List.mem_append] at hw
 exact ⟨hw0 B (fun n hn=>hw n (.inl hn)),hw1 B (fun n hn=>hw n (.inr (.inl hn)))⟩
theorem house_one {H:Type} {enc:TypeId×Value→H} {W:World} {n:Nat} {cs:List Value} {y:DataW H×List MemPlace} (h:DataW.trod enc Tryz.prog W 0 (fun _=>true) true n 71 cs=some y) :
  ∃ p:LH,Kd.K k71 W p cs∧∀ B,(∀ n ∈ y.1.weights Tryz.prog 71,n≤B)→B≤4611686018427387904→B≤17592186044416 * 16→Fit p:=by
 obtain ⟨y0,y1,y2,y3,y4,y5,m,hy,hl,h0,h1,h2,h3,h4,h5⟩:=trod_struct6 Tryz.underlying71 h
 have hC:Tryz.prog.cellsOf 71=8:=by kernel_rfl
 have hG:Tryz.prog.cellsOf 68=3:=by kernel_rfl
 have hI:Tryz.prog.cellsOf 69=1:=by kernel_rfl
 rw [hC] at hl
 obtain ⟨c0,c1,c2,c3,c4,c5,c6,c7,rfl⟩:=list8 hl
 simp only [cS,cB,cI1,hG,hI,List.drop_zero,List.drop_succ_cons,List.take_succ_cons,List.take_zero] at h0 h1 h2 h3 h4 h5
 obtain ⟨s0,e0,r0,_⟩:=DataW.trod_string Tryz.underlying9 h0
 obtain ⟨i1,e1,r1,_⟩:=DataW.trod_int Tryz.underlying3 h1
 obtain ⟨b2,e2,r2⟩:=DataW.trod_bool Tryz.underlying4 h2
 obtain ⟨A3,l3,p3,A4,l4,p4,i5,e3,e4,e5,hC3,hl3,hC4,hl4,hw3⟩:=group_cells h3
 obtain ⟨i6,e6,r6,_⟩:=DataW.trod_int Tryz.underlying3 h4
 obtain ⟨A7,l7,p7,e7,hC7,hl7,hw7⟩:=items_open h5
 simp only [List.cons.injEq,and_true] at e0 e1 e2 e6 e7
 rw [e0,e1,e2,e3,e4,e5,e6,e7]
 refine ⟨⟨s0,i1,b2,⟨l3,l4,i5⟩,i6,l7⟩,k71_mk W ⟨s0,i1,b2,⟨l3,l4,i5⟩,i6,l7⟩ hl3 hC3 hl4 hC4 hl7 hC7,fun B hw hB hB2=>?_⟩
 rw [hy,r0] at hw
 simp only [DataW.weights,Tryz.underlying71,List.map,DataW.weightsEach,List.mem_append] at hw
 have w0:=hw s0.size (.inl (by simp))
 obtain ⟨⟨w3,v3⟩,w4,v4⟩:=hw3 B (fun n hn=>hw n (.inr (.inr (.inr (.inl hn)))))
 obtain ⟨w7,v7⟩:=hw7 B (fun n hn=>hw n (.inr (.inr (.inr (.inr (.inr (.inl hn)))))))
 exact ⟨show s0.size≤_ by omega,show l3.length≤_ by omega,fun s hs=>by have:=v3 s hs;omega,show l4.length≤_ by omega,fun s hs=>by have:=v4 s hs;omega,show l7.length≤_ by omega,fun s hs=>by have:=v7 s hs;omega⟩
theorem houses_open {H:Type} {enc:TypeId×Value→H} {W:World} {n:Nat} {cs:List Value} {x:DataW H×List MemPlace} (h:DataW.trod enc Tryz.prog W 0 (fun _=>true) true n 22 cs=some x) :
  ∃ (A:Option Addr) (l:List LH) (c:Nat),cs=[.slice A l.length c]∧Kd.C k71 W A l.length l∧l.length≤c∧∀ B,(∀ n ∈ x.1.weights Tryz.prog 22,n≤B)→l.length * 120≤B∧∀ p ∈ l,B≤4611686018427387904→B≤17592186044416 * 16→Fit p:=
 row_open (K:=k71) Tryz.underlying22 (show Tryz.prog.cellsOf 71=8 by kernel_rfl) rfl (show Tryz.prog.bytesOf 71=120 by kernel_rfl) (fun B p=>B≤4611686018427387904→B≤17592186044416 * 16→Fit p) (fun _ _ _ h=>house_one h) h
set_option maxRecDepth 100000 in
theorem trip_open {H:Type} {enc:TypeId×Value→H} {W:World} {v:Value} {d:DataW H} {p:List MemPlace} (hv:Value.okWide Tryz.prog W .any 0 26 v∨∃ b,Value.okWide Tryz.prog W .any b 26 v) (h:DataW.Trod enc Tryz.prog W 0 (fun _=>true) true 26 v d p) :
  ∃ (s0:ByteArray) (i1:Int) (A2:Option Addr) (l2:List LH) (c2:Nat) (A3:Option Addr) (l3:List ByteArray) (c3:Nat) (A4:Option Addr) (l4:List LK) (c4:Nat),
   v=.agg #[.string s0,.int .i64 i1,.slice A2 l2.length c2,.slice A3 l3.length c3,.slice A4 l4.length c4]∧Kd.C k71 W A2 l2.length l2∧l2.length≤c2∧Kd.C Kd.string W A3 l3.length l3∧l3.length≤c3∧Kd.C k73 W A4 l4.length l4∧l4.length≤c4 ∧
   ∀ B,(∀ n ∈ d.weights Tryz.prog 26,n≤B)→B≤4611686018427387904→B≤17592186044416 * 16→TB 4611686018427387904 17592186044416 s0 l2 l3 l4:=by
 have hC:Tryz.prog.cellsOf 26=5:=by kernel_rfl
 have hS:Tryz.prog.cellsOf 23=1:=by kernel_rfl
 have hH:Tryz.prog.cellsOf 22=1:=by kernel_rfl
 have hL:Tryz.prog.cellsOf 24=1:=by kernel_rfl
 have hv':∃ b,Value.okWide Tryz.prog W .any b 26 v:=by
  rcases hv with h|h
  ·exact ⟨0,h⟩
  ·exact h
 obtain ⟨b,hv⟩:=hv'
 obtain ⟨cs,rfl,hsz⟩:=okWide_struct Tryz.underlying26 hv
 obtain ⟨fuel,hf⟩:=h
 obtain ⟨y0,y1,y2,y3,y4,n,hx,_,h0,h1,h2,h3,h4⟩:=trod_struct5 Tryz.underlying26 hf
 obtain ⟨l⟩:=cs
 obtain ⟨c0,c1,c2,c3,c4,rfl⟩:=list5 (l:=l) (by simpa [hC] using hsz)
 simp only [Value.cells,hS,hH,hL,cS,cI1,List.drop_zero,List.drop_succ_cons,List.take_succ_cons,List.take_zero] at h0 h1 h2 h3 h4
 obtain ⟨s0,e0,r0,_⟩:=DataW.trod_string Tryz.underlying9 h0
 obtain ⟨i1,e1,r1,_⟩:=DataW.trod_int Tryz.underlying3 h1
 obtain ⟨A2,l2,p2,e2,hC2,hl2,hw2⟩:=houses_open h2
 obtain ⟨A3,l3,p3,e3,hC3,hl3,hw3⟩:=strs_open h3
 obtain ⟨A4,l4,p4,e4,hC4,hl4,hw4⟩:=looks_open h4
 simp only [List.cons.injEq,and_true] at e0 e1 e2 e3 e4
 refine ⟨s0,i1,A2,l2,p2,A3,l3,p3,A4,l4,p4,by rw [e0,e1,e2,e3,e4],hC2,hl2,hC3,hl3,hC4,hl4,fun B hw hB hB2=>?_⟩
 rw [show d=.agg [y0.1,y1.1,y2.1,y3.1,y4.1] from hx,r0] at hw
 simp only [DataW.weights,Tryz.underlying26,List.map,DataW.weightsEach,List.mem_append] at hw
 have w0:=hw s0.size (.inl (by simp))
 obtain ⟨w2,v2⟩:=hw2 B (fun n hn=>hw n (.inr (.inr (.inl hn))))
 obtain ⟨w3,v3⟩:=hw3 B (fun n hn=>hw n (.inr (.inr (.inr (.inl hn)))))
 obtain ⟨w4,v4⟩:=hw4 B (fun n hn=>hw n (.inr (.inr (.inr (.inr (.inl hn))))))
 exact ⟨show s0.size≤_ by omega,show l2.length≤_ by omega,fun s hs=>v2 s hs hB hB2,show l3.length≤_ by omega,fun s hs=>by have:=v3 s hs;omega,show l4.length≤_ by omega,fun s hs=>by have:=v4 s hs;omega⟩
end Go.Proofs.YteepbodnaameiaaGreatDoor.Tr
end
section
namespace Go.Proofs.YteepbodnaameiaaGreatDoor.P
open Go.RowKit Go.Proofs.YteepbodnaameiaaGreatDoorW.PrintWords Go.Proofs.YteepbodnaameiaaGreatDoorW.PrintLast Go.Proofs.YteepbodnaameiaaGreatDoorW.PrintMore
set_option linter.unusedVariables false
set_option linter.unusedSimpArgs false
abbrev He:=S56
end Go.Proofs.YteepbodnaameiaaGreatDoor.P
end
section
namespace Go.Proofs.YteepbodnaameiaaGreatDoor.P
open Go.RowKit Go.Proofs.YteepbodnaameiaaGreatDoorW.PrintWords Go.Proofs.YteepbodnaameiaaGreatDoorW.PrintLast Go.Proofs.YteepbodnaameiaaGreatDoorW.PrintMore Go.Proofs.YteepbodnaameiaaGreatDoor.B Go.Proofs.YteepbodnaameiaaGreatDoor.Ad
set_option linter.unusedVariables false
set_option linter.unusedSimpArgs false
set_option maxHeartbeats 8000000
set_option maxRecDepth 100000
def strings_Join.f (l0:List ByteArray) (a1:ByteArray):Option (ByteArray):=
 if l0.length≤140737488355328∧(Lib.join (l0.map L) (L a1)).length≤140737488355328 then some (ofL (Lib.join (l0.map L) (L a1))) else none
theorem strings_Join.calls (A0:Option Addr) (c0:Nat) (l0:List ByteArray) (a1:ByteArray) (r:ByteArray) (w:World) (hr0:Kd.C Kd.string w A0 l0.length l0) (hc0:l0.length≤c0) (h:strings_Join.f l0 a1=some r) :
  Calls Tryz.prog 103 #[.slice A0 l0.length c0,.string a1] w fun e w'=>e=.returned (.string r)∧Below w.heap.size w w':=by
 unfold strings_Join.f at h
 split at h
 ·rename_i hh
  obtain rfl:=sI h;rcases Nat.eq_zero_or_pos l0.length with h0|h0
  ·obtain rfl:l0=[]:=List.length_eq_zero_iff.1 h0
   exact (Tryz.strings_Join_none A0 c0 a1 w).mono fun e w' ⟨he,hw⟩=>⟨he,hw ▸ Below.refl _ _⟩
  ·obtain ⟨bk,o,rfl,hb,hcells⟩:=row_at hr0 h0
   exact Tryz.strings_Join bk o c0 l0 a1 w hcells hb hh.1 hc0 hh.2
 ·cases h
def slices_Clone_string_string.f (l0:List ByteArray):Option (List ByteArray):=if l0.length * 16≤140737488355328 then some l0 else none
theorem slices_Clone_string_string.calls (A0:Option Addr) (c0:Nat) (l0:List ByteArray) (r:List ByteArray) (w:World) (hr0:Kd.C Kd.string w A0 l0.length l0) (hc0:l0.length≤c0) (h:slices_Clone_string_string.f l0=some r) :
  Calls Tryz.prog 115 #[.slice A0 l0.length c0] w fun e w'=>∃ v0_:Value,e=.returned (v0_)∧Kd.R Kd.string 9 w' w.heap.size (fun _=>True) v0_ r∧Below w.heap.size w w':=by
 unfold slices_Clone_string_string.f at h
 split at h
 ·rename_i hh
  obtain rfl:=sI h;rcases Nat.eq_zero_or_pos l0.length with h0|h0
  ·obtain rfl:l0=[]:=List.length_eq_zero_iff.1 h0
   cases A0 with
   | none=>exact (Tryz.slices_Clone_string_nil 0 c0 w).mono fun e w' ⟨he,hw⟩=>⟨_,he,Kd.R_nil _ _ _ _ _,hw ▸ Below.refl _ _⟩
   | some a=>exact (Tryz.slices_Clone_string_zero a c0 w).mono fun e w' ⟨v,he,ho,_,hb⟩=>⟨v,he,Kd.R_of_own ho (fun _ _=>trivial),hb⟩
  ·obtain ⟨bk,o,rfl,hb,hcells⟩:=row_at hr0 h0
   refine (Tryz.slices_Clone_string bk o l0.length c0 l0 w (Nat.le_refl _) hh (fun j hj=>?_)).mono fun e w' ⟨v,he,ho,_,hb'⟩=>⟨v,he,Kd.R_of_own ?_ (fun _ _=>trivial),hb'⟩
   ·rw [List.getD_eq_getElem?_getD,List.getElem?_eq_getElem hj]
    exact hcells j _ (List.getElem?_eq_getElem hj)
   ·rw [List.take_length] at ho
    exact ho
 ·cases h
end Go.Proofs.YteepbodnaameiaaGreatDoor.P
end
section
namespace Go.Proofs.YteepbodnaameiaaGreatDoor.P
open Go.RowKit Go.Proofs.YteepbodnaameiaaGreatDoorW.PrintWords Go.Proofs.YteepbodnaameiaaGreatDoorW.PrintLast Go.Proofs.YteepbodnaameiaaGreatDoorW.PrintMore
attribute [local go_sem] max2_int min2_int max_two min_two max_three min_three max_four min_four
set_option linter.unusedVariables false
set_option linter.unusedSimpArgs false
set_option maxHeartbeats 8000000
set_option maxRecDepth 100000
def impl_writePath.f (a0_0:ByteArray) (l0_1:List ByteArray) (a0_2:Bool) (a0_3:ByteArray):Option (ByteArray):=(strings_Join.f l0_1 (⟨#[47]⟩:ByteArray)).bind fun t449=>(if 1+t449.size≤9223372036854775807 then (if a0_2=true then (if 1+a0_3.size≤9223372036854775807 then (if 1+t449.size+1+a0_3.size≤9223372036854775807 then (some (((⟨#[47]⟩:ByteArray)++t449)++((⟨#[63]⟩:ByteArray)++a0_3))) else (none)) else (none)) else (some ((⟨#[47]⟩:ByteArray)++t449))) else (none))
theorem impl_writePath.calls (a0_0:ByteArray) (A0_1:Option Addr) (c0_1:Nat) (l0_1:List ByteArray) (a0_2:Bool) (a0_3:ByteArray) (r:ByteArray) (w:World) (hr0_1:Kd.C Kd.string w A0_1 l0_1.length l0_1) (hc0_1:l0_1.length≤c0_1) (h:impl_writePath.f a0_0 l0_1 a0_2 a0_3=some r) :
  Calls Tryz.prog 88 #[.agg #[.string a0_0,.slice A0_1 l0_1.length c0_1,.bool a0_2,.string a0_3]] w fun e w'=>e=.returned (.string r)∧Below w.heap.size w w':=by
 have hu75:=Tryz.underlying75;have HR0_1:=A_ hr0_1;have HC0_1:=A_ hc0_1;clear hr0_1 hc0_1;have HB:=A_ (Below.refl w.heap.size w);unfold impl_writePath.f at h
 have H:=h;clear h;replace H:=bindA H;obtain ⟨t449,A2,H⟩:=H;replace H:=iteE H;rcases H with ⟨c3,H⟩|⟨c3,H⟩
 ·have c3b0:=eq_true c3
  have c3b1:=dT c3;try have c3b2:(9223372036854775807 < 1+t449.size)=False:=eq_false (Nat.not_lt.2 c3)
  have HF4:=A_ H;clear H;go_enter Tryz.func88,Tryz.ntmps88;go_upto_if 9 with (first|(refine boxF 1 #[.string a0_0,.slice A0_1 l0_1.length c0_1,.bool a0_2,.string a0_3] 75 ?_;intro gb448 hg w5 BK448 hb;have GE448:=geB hg (zz0 HB);replace HB:=A_ (bS (zz0 HB) hb);clear hb hg;obtain ⟨_,_,_,_,_,_,_,_⟩:=cf4 BK448)|(refine gR 103 (some 6) Tryz.func103 (strings_Join.calls _ _ l0_1 (⟨#[47]⟩:ByteArray) t449 _ ?side1 ?side2 A2.out) ?_;(case side1=>exact (zz21 HR0_1 HB));(case side2=>exact HC0_1.out);rintro w7 hb;replace BK448:=A_ (bB (zz2 BK448) hb);replace HB:=A_ (bS (zz1 HB GE448) hb);(try clear hb);obtain ⟨_,_,_,_,_,_,_,_⟩:=cf4 BK448))
  obtain ⟨H⟩:=HF4;replace H:=iteB H;rcases H with ⟨rfl,H⟩|⟨rfl,H⟩
  ·replace H:=iteN H
   obtain ⟨c10,H⟩:=H;have c10b0:=eq_true c10;have c10b1:=dT c10;try have c10b2:(9223372036854775807 < 1+a0_3.size)=False:=eq_false (Nat.not_lt.2 c10)
   replace H:=iteN H;obtain ⟨c11,H⟩:=H;have c11b0:=eq_true c11;have c11b1:=dT c11;try have c11b2:(9223372036854775807 < 1+t449.size+1+a0_3.size)=False:=eq_false (Nat.not_lt.2 c11)
   obtain rfl:=sI H;obtain ⟨_,_,_,_,_,_,_,_⟩:=cf4 BK448;go_wp2
   go_ret
   exact ⟨zz5,(zz1 HB GE448)⟩
  ·obtain rfl:=sI H
   go_wp2
   go_ret
   exact ⟨zz5,(zz1 HB GE448)⟩
 ·exact absurd H (by simp)
def impl_writeAddr.f (a0_0:ByteArray) (l0_1:List ByteArray) (a0_2:Bool) (a0_3:ByteArray):Option (ByteArray):=if 2+a0_0.size≤9223372036854775807 then ((impl_writePath.f a0_0 l0_1 a0_2 a0_3).bind fun t451=>(if 2+a0_0.size+t451.size≤9223372036854775807 then (some (((⟨#[47,47]⟩:ByteArray)++a0_0)++t451)) else (none))) else (none)
theorem impl_writeAddr.calls (a0_0:ByteArray) (A0_1:Option Addr) (c0_1:Nat) (l0_1:List ByteArray) (a0_2:Bool) (a0_3:ByteArray) (r:ByteArray) (w:World) (hr0_1:Kd.C Kd.string w A0_1 l0_1.length l0_1) (hc0_1:l0_1.length≤c0_1) (h:impl_writeAddr.f a0_0 l0_1 a0_2 a0_3=some r) :
  Calls Tryz.prog 71 #[.agg #[.string a0_0,.slice A0_1 l0_1.length c0_1,.bool a0_2,.string a0_3]] w fun e w'=>e=.returned (.string r)∧Below w.heap.size w w':=by
 have hu75:=Tryz.underlying75;have HR0_1:=A_ hr0_1;have HC0_1:=A_ hc0_1;clear hr0_1 hc0_1;have HB:=A_ (Below.refl w.heap.size w);unfold impl_writeAddr.f at h
 have H:=h;clear h;replace H:=iteE H;rcases H with ⟨c2,H⟩|⟨c2,H⟩
 ·have c2b0:=eq_true c2
  have c2b1:=dT c2;try have c2b2:(9223372036854775807 < 2+a0_0.size)=False:=eq_false (Nat.not_lt.2 c2)
  replace H:=bindA H;obtain ⟨t451,A3,H⟩:=H;replace H:=iteN H;obtain ⟨c4,H⟩:=H;have c4b0:=eq_true c4;have c4b1:=dT c4;try have c4b2:(9223372036854775807 < 2+a0_0.size+t451.size)=False:=eq_false (Nat.not_lt.2 c4)
  obtain rfl:=sI H;go_enter Tryz.func71,Tryz.ntmps71;try go_wp2_with (first|(refine boxF 1 #[.string a0_0,.slice A0_1 l0_1.length c0_1,.bool a0_2,.string a0_3] 75 ?_;intro gb450 hg w5 BK450 hb;have GE450:=geB hg (zz0 HB);replace HB:=A_ (bS (zz0 HB) hb);clear hb hg))
  replace BK450:=A_ (blk_drew BK450.out);replace HB:=A_ (below_drew1 HB.out);refine start_ (n:=7) (S:=fun w'=>w'.cell? ⟨gb450,0,none⟩=some (.string a0_0)∧w'.cell? ⟨gb450,1,none⟩=some (.slice A0_1 l0_1.length c0_1)∧w'.cell? ⟨gb450,2,none⟩=some (.bool a0_2)∧w'.cell? ⟨gb450,3,none⟩=some (.string a0_3)) (ds:=[]) #[yF,yF,yF,yF,yF,yF,yF] (by kernel_rfl) rfl rfl ⟨(blk_cell BK450.out 0).trans rfl,(blk_cell BK450.out 1).trans rfl,(blk_cell BK450.out 2).trans rfl,(blk_cell BK450.out 3).trans rfl⟩ (fun hHeld=>?_);generalize w5.drew=w6 at BK450 HB hHeld ⊢;refine pureY 0 (some 3) (yA 1 6) ?_;refine takeY4 1 (some 4) (yA 2 5) hHeld ?_;refine pureY 2 (some 5) (yA 3 4) ?_;refine takeY4 3 (some 6) (yA 4 3) hHeld ?_;refine one_ (i:=4) (N:=some 7) (yA 5 2) rfl rfl (by kernel_rfl) (by decide) (fun K hK=>?_);refine goes_ Tryz.func88 (by kernel_rfl) rfl #[.agg #[.string a0_0,.slice A0_1 l0_1.length c0_1,.bool a0_2,.string a0_3]] (by rfl) rfl rfl zz39 ?_;with_reducible refine (impl_writePath.calls a0_0 _ _ l0_1 a0_2 a0_3 t451 _ ?side1 ?side2 A3.out).mono ?_
  (case side1=>exact (zz21 HR0_1 HB))
  (case side2=>exact HC0_1.out)
  rintro e w7 ⟨rfl,hb⟩;refine ⟨_,rfl,?_⟩;replace BK450:=A_ (bB (zz2 BK450) hb);replace HB:=A_ (bS (zz1 HB GE450) hb);(try clear hb)
  (try clear hb2)
  (try clear hk)
  (try clear hi)
  refine hK.out _ _ ⟨(blk_cell BK450.out 0).trans rfl,(blk_cell BK450.out 1).trans rfl,(blk_cell BK450.out 2).trans rfl,(blk_cell BK450.out 3).trans rfl⟩ (fun hHeld=>?_);clear hK K;refine nZ 7 ?_;refine pureY 5 (some 8) (yA 6 1) ?_;refine pureY 6 (some 2) (yA 7 0) ?_;refine done_ (by kernel_rfl) ?_;try go_wp2
  go_ret
  exact ⟨zz5,(zz1 HB GE450)⟩
 ·exact absurd H (by simp)
mutual
def impl_AddrOk.j0:Nat→Bool→ByteArray→List ByteArray→Bool→ByteArray→Option (Bool)
 | 0,_,_,_,_,_=>none
 | k+1,x14,x455000,x455001,x455002,x455003=>if x14=true then (some false) else (impl_AddrOk.l0 k x455001 (x455001.length:Int) 0 x455000 x455001 x455002 x455003)
def impl_AddrOk.l0:Nat→List ByteArray→Int→Int→ByteArray→List ByteArray→Bool→ByteArray→Option (Bool)
 | 0,_,_,_,_,_,_,_=>none
 | k+1,x16,x17,x18,x455000,x455001,x455002,x455003=>if x18 < x17 then (if 0≤x18 then (if x18 < (x16.length:Int) then (if (rdOf ByteArray.empty x16 x18).toList=([]:List UInt8) then (some false) else (if (rdOf ByteArray.empty x16 x18).toList=([46]:List UInt8) then (some false) else (if (rdOf ByteArray.empty x16 x18).toList=([46,46]:List UInt8) then (some false) else ((impl_isNormal.f k (rdOf ByteArray.empty x16 x18)).bind fun t457=>(if t457=true then (impl_AddrOk.l0 k x16 x17 (wrap64 (x18+1)) x455000 x455001 x455002 x455003) else (some false)))))) else (none)) else (none)) else ((impl_isNormal.f k x455003).bind fun t458=>(if t458=true then (if x455002=true then ((impl_writeAddr.f x455000 x455001 x455002 x455003).bind fun t459=>(some (decide ((t459.size:Int)≤60)))) else (if x455003.toList=([]:List UInt8) then ((impl_writeAddr.f x455000 x455001 x455002 x455003).bind fun t460=>(some (decide ((t460.size:Int)≤60)))) else (some false))) else (some false)))
end
def impl_AddrOk.f (k:Nat) (a0_0:ByteArray) (l0_1:List ByteArray) (a0_2:Bool) (a0_3:ByteArray):Option (Bool):=(impl_isHouse.f k a0_0).bind fun t455=>(if t455=true then (impl_AddrOk.j0 k (decide ((l0_1.length:Int) > 5)) a0_0 l0_1 a0_2 a0_3) else (impl_AddrOk.j0 k true a0_0 l0_1 a0_2 a0_3))
theorem impl_AddrOk.calls (k:Nat) (a0_0:ByteArray) (A0_1:Option Addr) (c0_1:Nat) (l0_1:List ByteArray) (a0_2:Bool) (a0_3:ByteArray) (r:Bool) (w:World) (hr0_1:Kd.C Kd.string w A0_1 l0_1.length l0_1) (hc0_1:l0_1.length≤c0_1) (h:impl_AddrOk.f k a0_0 l0_1 a0_2 a0_3=some r) :
  Calls Tryz.prog 118 #[.agg #[.string a0_0,.slice A0_1 l0_1.length c0_1,.bool a0_2,.string a0_3]] w fun e w'=>e=.returned (.bool r)∧Below w.heap.size w w':=by
 have hu75:=Tryz.underlying75;have HR0_1:=A_ hr0_1;have HC0_1:=A_ hc0_1;clear hr0_1 hc0_1;have HB:=A_ (Below.refl w.heap.size w);unfold impl_AddrOk.f at h
 have H:=h;clear h;have HC2:=A_ H;clear H;go_enter Tryz.func118,Tryz.ntmps118;go_upto_region 1 with (first|((with_reducible refine gD (N:=1) rfl ?_);(try (refine gate_guard (by rfl) ?_;dsimp only));refine boxE 1 #[.string a0_0,.slice A0_1 l0_1.length c0_1,.bool a0_2,.string a0_3] 75 ?_;intro gb454 hg w3 hbox hb;have BK454:=A_ (hbox);have GE454:=geB hg (zz0 HB);replace HB:=A_ (bS (zz0 HB) hb);clear hb hbox hg))
 (try simp only [Act.put,List.setIfInBounds_toArray,List.set_cons_zero,List.set_cons_succ])
 go_cut [14] (fun v14 wc=>∃ (kq:Nat) (x14_1:Bool),v14=.bool x14_1∧Aside0 (impl_AddrOk.j0 kq x14_1 a0_0 l0_1 a0_2 a0_3=some r)∧Aside0 (kq≤k)∧Aside0 (wc.heap[gb454]?=some (.cells #[.string a0_0,(.slice A0_1 l0_1.length c0_1),.bool a0_2,.string a0_3] 75 (0,0)))∧Aside0 (Below w.heap.size w wc))
 case first=>
  obtain ⟨H⟩:=HC2;replace H:=bindA H;obtain ⟨t455,A4,H⟩:=H;have HF5:=A_ H;clear H;obtain ⟨_,_,_,_,_,_,_,_⟩:=cf4 BK454;go_wp2_with (first|(refine gR 50 (some 7) Tryz.func50 (impl_isHouse.calls k a0_0 t455 _ A4.out) ?_;rintro w' ⟨nd,rfl⟩)|((with_reducible refine atG ?_ ?_ fun K_ hK_=>?_);rfl;exact undecG)|((with_reducible refine atI ?_ fun K_ hK_=>?_);exact undecI))
  refine unG hK_ ?_;clear hK_ K_;obtain ⟨H⟩:=HF5;replace H:=iteB H;rcases H with ⟨rfl,H⟩|⟨rfl,H⟩
  ·(first|refine iteT ?_|refine iteF ?_|skip)
   have H':=A_ H;clear H;obtain ⟨_,_,_,_,_,_,_,_⟩:=cf4 BK454;(try ((with_reducible refine upS ?_);go_simp))
   go_wp2
   go_meet
   case rel=>exact ⟨_,(decide ((l0_1.length:Int) > 5)),zz7,H',⟨zz51⟩,⟨(zz2 BK454)⟩,⟨(zz1 HB GE454)⟩⟩
  ·(first|refine iteT ?_|refine iteF ?_|skip)
   have H':=A_ H;clear H;(try ((with_reducible refine upS ?_);go_simp))
   go_wp2
   go_meet
   case rel=>exact ⟨_,(true),zz7,H',⟨zz51⟩,⟨(zz2 BK454)⟩,⟨(zz1 HB GE454)⟩⟩
 case rest=>
  clear HC2;obtain ⟨kq,x14_1,rfl,HA,HJ1,BK454,HB⟩:=hcut;cases kq with
  | zero=>exact absurd HA.out (by simp [impl_AddrOk.j0])
  | succ kj1=>
   obtain ⟨H⟩:=HA;simp only [impl_AddrOk.j0] at H
   replace H:=iteB H;rcases H with ⟨rfl,H⟩|⟨rfl,H⟩
   ·obtain rfl:=sI H
    go_wp2
    go_ret
    exact ⟨zz5,(zz1 HB GE454)⟩
   ·have H':=A_ H
    clear H;obtain ⟨_,_,_,_,_,_,_,_⟩:=cf4 BK454;go_wp2
    go_loopg [18] kj1 (fun kq v18 w'=>∃ (x18_2:Int),v18=.int .i64 x18_2∧Aside0 (impl_AddrOk.l0 kq l0_1 (l0_1.length:Int) x18_2 a0_0 l0_1 a0_2 a0_3=some r)∧Aside0 (kq≤kj1)∧Aside0 (w'.heap[gb454]?=some (.cells #[.string a0_0,(.slice A0_1 l0_1.length c0_1),.bool a0_2,.string a0_3] 75 (0,0)))∧Aside0 (Below w.heap.size w w'))
    case atStart=>exact ⟨(0),zz7,H',⟨Nat.le_refl _⟩,⟨(zz2 BK454)⟩,⟨(zz1 HB GE454)⟩⟩
    case round=>
     clear H';obtain ⟨x18_2,rfl,HA,HK2,BK454,HB⟩:=hrel;cases gk with
     | zero=>exact absurd HA.out (by simp [impl_AddrOk.l0])
     | succ k2=>
      obtain ⟨H⟩:=HA;simp only [impl_AddrOk.l0] at H
      replace H:=iteEd H;rcases H with ⟨c11b0,H⟩|⟨c11b0,H⟩
      ·replace H:=iteNd H
       obtain ⟨c12b0,H⟩:=H;replace H:=iteNd H;obtain ⟨c13b0,H⟩:=H;replace H:=iteEq H;rcases H with ⟨c14b0,c14b1,H⟩|⟨c14b0,c14b1,c14,H⟩
       ·obtain rfl:=sI H
        obtain ⟨⟨ad456,e456,hx456_0⟩,p456,q456⟩:=atB (Kd.at_string HR0_1.out x18_2);cases e456
        replace hx456_0:=cbl HB hx456_0;go_wp2
        go_ret
        exact ⟨zz5,(zz1 HB GE454)⟩
       ·replace H:=iteEq H
        rcases H with ⟨c15b0,c15b1,H⟩|⟨c15b0,c15b1,c15,H⟩
        ·obtain rfl:=sI H
         obtain ⟨⟨ad456,e456,hx456_0⟩,p456,q456⟩:=atB (Kd.at_string HR0_1.out x18_2);cases e456
         replace hx456_0:=cbl HB hx456_0;go_wp2
         go_ret
         exact ⟨zz5,(zz1 HB GE454)⟩
        ·replace H:=iteEq H
         rcases H with ⟨c16b0,c16b1,H⟩|⟨c16b0,c16b1,c16,H⟩
         ·obtain rfl:=sI H
          obtain ⟨⟨ad456,e456,hx456_0⟩,p456,q456⟩:=atB (Kd.at_string HR0_1.out x18_2);cases e456
          replace hx456_0:=cbl HB hx456_0;go_wp2
          go_ret
          exact ⟨zz5,(zz1 HB GE454)⟩
         ·replace H:=bindA H
          obtain ⟨t457,A17,H⟩:=H;have HF18:=A_ H;clear H;obtain ⟨⟨ad456,e456,hx456_0⟩,p456,q456⟩:=atB (Kd.at_string HR0_1.out x18_2);cases e456
          replace hx456_0:=cbl HB hx456_0;go_upto_if 36 with (first|(go_at_call 131;(with_reducible refine (impl_isNormal.calls k2 (rdOf ByteArray.empty l0_1 x18_2) t457 _ A17.out).mono ?_);rintro e w19 ⟨rfl,hb⟩;replace BK454:=A_ (bB (zz2 BK454) hb);replace HB:=A_ (bS (zz1 HB GE454) hb);(try clear hb)))
          obtain ⟨H⟩:=HF18;replace H:=iteB H;rcases H with ⟨rfl,H⟩|⟨rfl,H⟩
          ·have H':=A_ H
           clear H;go_wp2
           go_roundg k2
           case measure=>have:=HJ1.out;have:=HK2.out;omega
           case rel=>exact ⟨(wrap64 (x18_2+1)),zz7,H',⟨(zz60 HJ1 HK2)⟩,⟨(zz2 BK454)⟩,⟨(zz1 HB GE454)⟩⟩
          ·obtain rfl:=sI H
           go_wp2
           go_ret
           exact ⟨zz5,(zz1 HB GE454)⟩
      ·replace H:=bindA H
       obtain ⟨t458,A21,H⟩:=H;have HF22:=A_ H;clear H;obtain ⟨_,_,_,_,_,_,_,_⟩:=cf4 BK454;go_wp2_with (first|(refine gR 131 (some 40) Tryz.func131 (impl_isNormal.calls k2 a0_3 t458 _ A21.out) ?_;rintro w24 hb;replace BK454:=A_ (bB (zz2 BK454) hb);replace HB:=A_ (bS (zz1 HB GE454) hb);(try clear hb))|((with_reducible refine atG ?_ ?_ fun K_ hK_=>?_);rfl;exact undecG)|((with_reducible refine atI ?_ fun K_ hK_=>?_);exact undecI))
       refine unG hK_ ?_;clear hK_ K_;obtain ⟨H⟩:=HF22;replace H:=iteB H;rcases H with ⟨rfl,H⟩|⟨rfl,H⟩
       ·(first|refine iteT ?_|refine iteF ?_|skip)
        replace H:=iteB H;rcases H with ⟨rfl,H⟩|⟨rfl,H⟩
        ·replace H:=bindA H
         obtain ⟨t459,A27,H⟩:=H;obtain rfl:=sI H;obtain ⟨_,_,_,_,_,_,_,_⟩:=cf4 BK454;go_wp2_with (first|(refine gR 71 (some 53) Tryz.func71 (impl_writeAddr.calls a0_0 _ _ l0_1 true a0_3 t459 _ ?side1 ?side2 A27.out) ?_;(case side1=>exact (zz21 HR0_1 HB));(case side2=>exact HC0_1.out);rintro w29 hb;replace BK454:=A_ (bB (zz2 BK454) hb);replace HB:=A_ (bS (zz1 HB GE454) hb);(try clear hb)))
         go_ret
         exact ⟨zz5,(zz1 HB GE454)⟩
        ·replace H:=iteE H
         rcases H with ⟨c30,H⟩|⟨c30,H⟩
         ·obtain ⟨c30b0,c30b1⟩:=eqT c30
          clear c30;replace H:=bindA H;obtain ⟨t460,A31,H⟩:=H;obtain rfl:=sI H;obtain ⟨_,_,_,_,_,_,_,_⟩:=cf4 BK454;go_wp2_with (first|(refine gR 71 (some 53) Tryz.func71 (impl_writeAddr.calls a0_0 _ _ l0_1 false a0_3 t460 _ ?side1 ?side2 A31.out) ?_;(case side1=>exact (zz21 HR0_1 HB));(case side2=>exact HC0_1.out);rintro w33 hb;replace BK454:=A_ (bB (zz2 BK454) hb);replace HB:=A_ (bS (zz1 HB GE454) hb);(try clear hb)))
          go_ret
          exact ⟨zz5,(zz1 HB GE454)⟩
         ·obtain ⟨c30b0,c30b1⟩:=eqF c30
          obtain rfl:=sI H;obtain ⟨_,_,_,_,_,_,_,_⟩:=cf4 BK454;go_wp2
          go_ret
          exact ⟨zz5,(zz1 HB GE454)⟩
       ·(first|refine iteT ?_|refine iteF ?_|skip)
        obtain rfl:=sI H;(try ((with_reducible refine upS ?_);go_simp))
        go_wp2
        go_ret
        exact ⟨zz5,(zz1 HB GE454)⟩
def impl_readWay.l0:Nat→ByteArray→ByteArray→Bool→List ByteArray→List ByteArray→Int→Int→Option (ByteArray×List ByteArray×Bool×ByteArray×Bool)
 | 0,_,_,_,_,_,_,_=>none
 | k+1,x0,x9,x10,x12,x35,x36,x37=>if x37 < x36 then (if 0≤x37 then (if x37 < (x35.length:Int) then ((impl_EscNorm.f k (rdOf ByteArray.empty x35 x37)).bind fun bt474=>(if bt474.2=true then (if x12.length < 8796093022208 then (impl_readWay.l0 k x0 x9 x10 (x12++[bt474.1]) x35 x36 (wrap64 (x37+1))) else (none)) else (some ((⟨#[]⟩:ByteArray),([]:List ByteArray),false,(⟨#[]⟩:ByteArray),false)))) else (none)) else (none)) else ((impl_PathClean.f k x12).bind fun t479=>((impl_AddrOk.f k x0 t479 x10 x9).bind fun t483=>(if t483=true then (some (x0,t479,x10,x9,true)) else (some ((⟨#[]⟩:ByteArray),([]:List ByteArray),false,(⟨#[]⟩:ByteArray),false)))))
def impl_readWay.f (k:Nat) (a0:ByteArray) (l1:List ByteArray) (a2:ByteArray):Option (ByteArray×List ByteArray×Bool×ByteArray×Bool):=(strings_Cut.f a2 (⟨#[63]⟩:ByteArray)).bind fun bt462=>((impl_EscNorm.f k bt462.2.1).bind fun bt465=>(if bt465.2=true then ((slices_Clone_string_string.f l1).bind fun t467=>((strings_Split.f k bt462.1 (⟨#[47]⟩:ByteArray)).bind fun t470=>(impl_readWay.l0 k a0 bt465.1 bt462.2.2 t467 t470 (t470.length:Int) 0))) else (some ((⟨#[]⟩:ByteArray),([]:List ByteArray),false,(⟨#[]⟩:ByteArray),false))))
theorem impl_readWay.calls (k:Nat) (a0:ByteArray) (A1:Option Addr) (c1:Nat) (l1:List ByteArray) (a2:ByteArray) (r1:ByteArray) (r2:List ByteArray) (r3:Bool) (r4:ByteArray) (r5:Bool) (w:World) (hr1:Kd.C Kd.string w A1 l1.length l1) (hc1:l1.length≤c1) (h:impl_readWay.f k a0 l1 a2=some (r1,r2,r3,r4,r5)) :
  Calls Tryz.prog 101 #[.string a0,.slice A1 l1.length c1,.string a2] w fun e w'=>∃ v1_:Value,e=.returned (.tuple #[.agg #[.string r1,v1_,.bool r3,.string r4],.bool r5])∧Kd.R Kd.string 9 w' w.heap.size (fun _=>True) v1_ r2∧Below w.heap.size w w':=by
 have hu75:=Tryz.underlying75;have HR1:=A_ hr1;have HC1:=A_ hc1;clear hr1 hc1;have HB:=A_ (Below.refl w.heap.size w);unfold impl_readWay.f at h
 have H:=h;clear h;replace H:=bindA H;obtain ⟨⟨t462,t463,t464⟩,A4,H⟩:=H;try dsimp only at H
 replace H:=bindA H;obtain ⟨⟨t465,t466⟩,A5,H⟩:=H;try dsimp only at H
 have HF6:=A_ H;clear H;go_enter Tryz.func101,Tryz.ntmps101;go_upto_if 30 with (first|(refine boxF 6 #[.string (⟨#[]⟩:ByteArray),.slice none 0 0,.bool false,.string (⟨#[]⟩:ByteArray)] 75 ?_;intro gb461 hg w7 BK461 hb;have GE461:=geB hg (zz0 HB);replace HB:=A_ (bS (zz0 HB) hb);clear hb hg)|(refine gR 86 (some 20) Tryz.func86 (strings_Cut.calls a2 (⟨#[63]⟩:ByteArray) t462 t463 t464 _ A4.out) ?_;rintro w8 hb;replace BK461:=A_ (bB (zz2 BK461) hb);replace HB:=A_ (bS (zz1 HB GE461) hb);(try clear hb))|(refine gR 114 (some 26) Tryz.func114 (impl_EscNorm.calls k t463 t465 t466 _ A5.out) ?_;rintro w9 hb;replace BK461:=A_ (bB (zz2 BK461) hb);replace HB:=A_ (bS (zz1 HB GE461) hb);(try clear hb)))
 obtain ⟨H⟩:=HF6;replace H:=iteB H;rcases H with ⟨rfl,H⟩|⟨rfl,H⟩
 ·replace H:=bindA H
  obtain ⟨t467,A11,H⟩:=H;replace H:=bindA H;obtain ⟨t470,A12,H⟩:=H;have H':=A_ H;clear H;go_wp2_with (first|(refine gV 115 (some 33) Tryz.func115 (slices_Clone_string_string.calls _ _ l1 t467 _ ?side1 ?side2 A11.out) ?_;(case side1=>exact (zz21 HR1 HB));(case side2=>exact HC1.out);rintro v468 w13 ⟨ho0,hb⟩;have HO469:=A_ (Kd.R_lower ho0 (below_size (zz1 HB GE461)));replace BK461:=A_ (bB (zz2 BK461) hb);replace HB:=A_ (bS (zz1 HB GE461) hb);(try clear hb ho0))|(refine gV 116 (some 35) Tryz.func116 (strings_Split.calls k t462 (⟨#[47]⟩:ByteArray) t470 _ A12.out) ?_;rintro v471 w14 ⟨ho0,hb⟩;have HO472:=A_ (Kd.R_lower (Kd.R_new' ho0 (Kd.R_lt (zz12 HO469))) (below_size (zz1 HB GE461)));replace HO469:=A_ (Kd.R_elder' (zz12 HO469) (Kd.R_base ho0) hb);replace BK461:=A_ (bB (zz2 BK461) hb);replace HB:=A_ (bS (zz1 HB GE461) hb);(try clear hb ho0);obtain ⟨Ao15,co15,eo15⟩:=Kd.R_slice HO472.out;subst eo15))
  go_loopg [12,37] k (fun kq v12 v37 w'=>∃ (x12_1:List ByteArray) (x37_1:Int) (x462000_1:ByteArray) (x462002_1:Bool) (x462003_1:ByteArray),v37=.int .i64 x37_1∧Aside0 (impl_readWay.l0 kq a0 t465 t464 x12_1 t470 (t470.length:Int) x37_1=some (r1,r2,r3,r4,r5))∧Aside0 (kq≤k)∧Aside0 (Kd.R Kd.string 9 w' w.heap.size (fun k_=>some k_≠((.slice Ao15 t470.length co15):Value).ownBlock) v12 x12_1)∧Aside0 (Kd.R Kd.string 9 w' w.heap.size (fun k_=>some k_≠(v12:Value).ownBlock) (.slice Ao15 t470.length co15) t470)∧Aside0 (w'.heap[gb461]?=some (.cells #[.string x462000_1,(.slice none 0 0),.bool x462002_1,.string x462003_1] 75 (0,0)))∧Aside0 (Below w.heap.size w w'))
  case atStart=>exact ⟨(t467),(0),((⟨#[]⟩:ByteArray)),(false),((⟨#[]⟩:ByteArray)),zz7,H',⟨Nat.le_refl _⟩,⟨(zz84 HO469)⟩,⟨(zz84 HO472)⟩,⟨(zz2 BK461)⟩,⟨(zz1 HB GE461)⟩⟩
  case round=>
   clear H';obtain ⟨x12_1,x37_1,x462000_1,x462002_1,x462003_1,rfl,HA,HK1,HO_12,HO_35,BK461,HB⟩:=hrel;cases gk with
   | zero=>exact absurd HA.out (by simp [impl_readWay.l0])
   | succ k1=>
    obtain ⟨H⟩:=HA;simp only [impl_readWay.l0] at H
    replace H:=iteEd H;rcases H with ⟨c16b0,H⟩|⟨c16b0,H⟩
    ·(first|rw [c16b0]|(simp only [i64_w,i32_w];rw [c16b0])|skip)
     replace H:=iteNd H;obtain ⟨c17b0,H⟩:=H;replace H:=iteNd H;obtain ⟨c18b0,H⟩:=H;replace H:=bindA H;obtain ⟨⟨t474,t475⟩,A19,H⟩:=H;try dsimp only at H
     have HF20:=A_ H;clear H;obtain ⟨⟨ad473,e473,hx473_0⟩,p473,q473⟩:=atB (Kd.at_string (Kd.R_reads' HO_35.out).2.2 x37_1);cases e473
     go_upto_if 47 with (first|(refine gR 114 (some 43) Tryz.func114 (impl_EscNorm.calls k1 (rdOf ByteArray.empty t470 x37_1) t474 t475 _ A19.out) ?_;rintro w21 hb;replace HO_12:=A_ (rB (zz12 HO_12) hb);replace HO_35:=A_ (rB (zz12 HO_35) hb);replace BK461:=A_ (bB (zz2 BK461) hb);replace HB:=A_ (bS (zz1 HB GE461) hb);(try clear hb)))
     obtain ⟨H⟩:=HF20;replace H:=iteB H;rcases H with ⟨rfl,H⟩|⟨rfl,H⟩
     ·replace H:=iteN H
      obtain ⟨c23,H⟩:=H;have LMc23:=A_ c23;clear c23;obtain ⟨y476,Ny476⟩:=toY (x12_1++[t474]);(first|with_reducible replace H:=bindZ Ny476 H|rw [← Ny476.out] at H|skip)
      have H':=A_ H;clear H;go_wp2_with (first|((with_reducible refine gate_builtin (b:=.append) (xs:=#[.tmp 49,.tmp 51]) rfl ?_);at_builtin;refine Kd.R_append Kd.string (w0:=w) w.heap.size rfl (.tmp 49) (.tmp 51) 23 9 (.string ⟨#[]⟩) 16 rfl Tryz.underlying23 info9 rfl (by decide) (by omega) u12 x12_1 t474 [.string t474] (fun k_=>some k_≠(.slice (some ad473) t470.length co15:Value).ownBlock) (fun _=>False) rfl rfl ?aP (fun _ hk=>hk.elim) ?aF ?aO ?aB ?aS ?aL ?_;(case aP=>exact rfl);(case aB=>exact (zz1 HB GE461));(case aF=>exact (fun k_ hk=>Kd.fresh' (Kd.R_lt (zz12 HO_35)) k_ hk));(case aO=>exact (zz12 HO_12));(case aS=>exact (below_size (zz1 HB GE461)));(case aL=>exact (zz17 LMc23));intro v477 w24 ho hb hg hat;rw [← Ny476.out] at ho;replace HO_35:=A_ (Kd.R_after (ok:=(fun _=>True)) (zz86 HO_35) hg hat);replace BK461:=A_ (blk_grown (zz2 BK461) hg (Kd.R_ne HO_12.out BK461.out (by decide)));replace HB:=A_ (hb);have HO478:=A_ (ho);clear HO_12;clear ho hb hg hat))
      go_roundg k1
      case measure=>have:=HK1.out;omega
      case rel=>exact ⟨(y476),(wrap64 (x37_1+1)),(x462000_1),(x462002_1),(x462003_1),zz7,H',⟨(zz17 HK1)⟩,⟨(zz12 HO478)⟩,⟨(zz84 HO_35)⟩,⟨(zz2 BK461)⟩,⟨(zz1 HB GE461)⟩⟩
     ·simp only [Option.some.injEq,Prod.mk.injEq] at H
      obtain ⟨rfl,rfl,rfl,rfl,rfl⟩:=H;obtain ⟨_,_,_,_,_,_,_,_⟩:=cf4 BK461;go_wp2
      refine pR (results_ct rfl _ _ gb461 75 #[.string (⟨#[]⟩:ByteArray),.slice none 0 0,.bool false,.string (⟨#[]⟩:ByteArray)] (0,0) _ rfl (zz87 BK461) Tryz.underlying75 rfl (by kernel_rfl)) rfl ?_;exact ⟨_,zz5,zz72,(zz1 HB GE461)⟩
    ·(first|rw [c16b0]|(simp only [i64_w,i32_w];rw [c16b0])|skip)
     replace H:=bindA H;obtain ⟨t479,A26,H⟩:=H;replace H:=bindA H;obtain ⟨t483,A27,H⟩:=H;have HF28:=A_ H;clear H;obtain ⟨Ao29,co29,eo29⟩:=Kd.R_slice HO_12.out;subst eo29;go_upto_if 62 with (first|(refine gV 117 (some 56) Tryz.func117 (impl_PathClean.calls k1 _ _ x12_1 t479 _ ?side1 ?side2 A26.out) ?_;(case side1=>exact (zz88 HO_12));(case side2=>exact (Kd.R_reads' HO_12.out).2.1);rintro v480 w30 ⟨ho0,hb⟩;have HO481:=A_ (Kd.R_lower (Kd.R_new' (Kd.R_new' ho0 (Kd.R_lt (zz12 HO_12))) (Kd.R_lt (zz12 HO_35))) (below_size (zz1 HB GE461)));replace HO_12:=A_ (Kd.R_elder' (zz12 HO_12) (Kd.R_base ho0) hb);replace HO_35:=A_ (Kd.R_elder' (zz12 HO_35) (Kd.R_base ho0) hb);replace BK461:=A_ (bB (zz2 BK461) hb);replace HB:=A_ (bS (zz1 HB GE461) hb);(try clear hb ho0);obtain ⟨Ao31,co31,eo31⟩:=Kd.R_slice HO481.out;subst eo31)|(refine boxF 17 #[.string (⟨#[]⟩:ByteArray),.slice none 0 0,.bool false,.string (⟨#[]⟩:ByteArray)] 75 ?_;intro gb482 hg w32 BK482 hb;replace HO_12:=A_ (rB (zz12 HO_12) hb);replace HO_35:=A_ (rB (zz12 HO_35) hb);replace HO481:=A_ (rB (zz12 HO481) hb);have GE482:=geB hg (zz1 HB GE461);replace HB:=A_ (bS (zz1 HB GE461) hb);have NB461_482:=A_ ((by rw [hg];exact Nat.ne_of_lt (blk_lt (zz2 BK461)):gb461≠gb482));have NB482_461:=A_ ((by rw [hg];exact Nat.ne_of_gt (blk_lt (zz2 BK461)):gb482≠gb461));replace BK461:=A_ (bB (zz2 BK461) hb);clear hb hg;have hnb33:=NB482_461.out;have hnc33:=NB461_482.out;obtain ⟨_,_,_,_,_,_,_,_⟩:=cf4 BK482)|((with_reducible refine gC (f:=118) rfl ?_);refine gsL (some 61) Tryz.func118 #[.agg #[.string a0,.slice Ao31 t479.length co31,.bool t464,.string t465]] ?_;(with_reducible refine (impl_AddrOk.calls k1 a0 _ _ t479 t464 t465 t483 _ ?side1 ?side2 A27.out).mono ?_);(case side1=>exact (by refine (Kd.R_reads' (e:=9) (base:=w.heap.size) (ok:=fun k_=>((True∧some k_≠(.slice Ao29 x12_1.length co29:Value).ownBlock)∧some k_≠(.slice Ao15 t470.length co15:Value).ownBlock)) (n:=t479.length) (c:=co31) ?_).2.2;exact (zz166 HO481 BK482)));(case side2=>exact (Kd.R_reads' HO481.out).2.1);rintro e w35 ⟨rfl,hb⟩;refine ⟨_,rfl,?_⟩;replace HO_12:=A_ (rB (zz166 HO_12 BK482) hb);replace HO_35:=A_ (rB (zz166 HO_35 BK482) hb);replace HO481:=A_ (rB (zz166 HO481 BK482) hb);replace BK461:=A_ (bB (g:=gb461) (o:=.cells #[.string x462000_1,.slice none 0 0,.bool x462002_1,.string x462003_1] 75 (0,0)) (zz4 BK461 NB461_482) hb);replace BK482:=A_ (bB (g:=gb482) (o:=.cells #[.string a0,.slice Ao31 t479.length co31,.bool t464,.string t465] 75 (0,0)) (zz87 BK482) hb);replace HB:=A_ (bS (zz3 HB GE461 GE482) hb);(try clear hb)))
     obtain ⟨H⟩:=HF28;replace H:=iteB H;rcases H with ⟨rfl,H⟩|⟨rfl,H⟩
     ·simp only [Option.some.injEq,Prod.mk.injEq] at H
      obtain ⟨rfl,rfl,rfl,rfl,rfl⟩:=H;have hnb37:=NB482_461.out;have hnc37:=NB461_482.out;obtain ⟨_,_,_,_,_,_,_,_⟩:=cf4 BK482;obtain ⟨_,_,_,_,_,_,_,_⟩:=cf4 BK461;go_wp2
      refine pR (results_ct rfl _ _ gb461 75 #[.string a0,.slice Ao31 t479.length co31,.bool t464,.string t465] (0,0) _ rfl (zz87 BK461) Tryz.underlying75 rfl (by kernel_rfl)) rfl ?_;exact ⟨_,zz5,(zz24 (rt HO481 BK461)),(zz3 HB GE461 GE482)⟩
     ·simp only [Option.some.injEq,Prod.mk.injEq] at H
      obtain ⟨rfl,rfl,rfl,rfl,rfl⟩:=H;have hnb40:=NB461_482.out;have hnc40:=NB482_461.out;obtain ⟨_,_,_,_,_,_,_,_⟩:=cf4 BK461;go_wp2
      refine pR (results_ct rfl _ _ gb461 75 #[.string (⟨#[]⟩:ByteArray),.slice none 0 0,.bool false,.string (⟨#[]⟩:ByteArray)] (0,0) _ rfl (zz87 BK461) Tryz.underlying75 rfl (by kernel_rfl)) rfl ?_;exact ⟨_,zz5,zz72,(zz3 HB GE461 GE482)⟩
 ·simp only [Option.some.injEq,Prod.mk.injEq] at H
  obtain ⟨rfl,rfl,rfl,rfl,rfl⟩:=H;obtain ⟨_,_,_,_,_,_,_,_⟩:=cf4 BK461;go_wp2
  refine pR (results_ct rfl _ _ gb461 75 #[.string (⟨#[]⟩:ByteArray),.slice none 0 0,.bool false,.string (⟨#[]⟩:ByteArray)] (0,0) _ rfl (zz87 BK461) Tryz.underlying75 rfl (by kernel_rfl)) rfl ?_;exact ⟨_,zz5,zz72,(zz1 HB GE461)⟩
def impl_readWhole.f (k:Nat) (a0:ByteArray):Option (ByteArray×List ByteArray×Bool×ByteArray×Bool):=(strings_CutPrefix.f a0 (⟨#[47,47]⟩:ByteArray)).bind fun bt485=>(if bt485.2=true then ((strings_IndexAny.f bt485.1 (⟨#[47,63]⟩:ByteArray)).bind fun t487=>(if t487 < 0 then (if 0≤(bt485.1.size:Int) then (if (bt485.1.size:Int)≤(bt485.1.size:Int) then ((impl_smallLetters.f (bt485.1.extract 0 ((bt485.1.size:Int):Int).toNat)).bind fun t488=>((impl_readWay.f k t488 ([]:List ByteArray) (bt485.1.extract ((bt485.1.size:Int):Int).toNat bt485.1.size)).bind fun bt489=>(some (bt489.1,bt489.2.1,bt489.2.2.1,bt489.2.2.2.1,bt489.2.2.2.2)))) else (none)) else (none)) else (if 0≤t487 then (if t487≤(bt485.1.size:Int) then ((impl_smallLetters.f (bt485.1.extract 0 (t487:Int).toNat)).bind fun t496=>((impl_readWay.f k t496 ([]:List ByteArray) (bt485.1.extract (t487:Int).toNat bt485.1.size)).bind fun bt497=>(some (bt497.1,bt497.2.1,bt497.2.2.1,bt497.2.2.2.1,bt497.2.2.2.2)))) else (none)) else (none)))) else (some ((⟨#[]⟩:ByteArray),([]:List ByteArray),false,(⟨#[]⟩:ByteArray),false)))
def impl_readWhole.T7:Bool×List (List Nat×List Nat):=(true,[([],[]),([],[]),([0,1],[0,1]),([2],[2]),([],[]),([],[]),([4,5],[4,5]),([3,6,3],[3,6]),([7],[7]),([7],[7]),([8,7,0,1,2,3,4,5,6,7,8,9],[8]),([9,10,0,1,2,3,4,5,6,7,8,9,10],[9])])
def impl_readWhole.B7:List Nat:=[0,0,3,7,0,0,48,127,255,255,1023,2047]
theorem impl_readWhole.tab7:rtab .any (opsOf Tryz.f87 7)=impl_readWhole.T7:=by kernel_rfl
theorem impl_readWhole.bits7:waitsOk impl_readWhole.T7.2 impl_readWhole.B7=true:=by kernel_rfl
theorem impl_readWhole.calls (k:Nat) (a0:ByteArray) (r1:ByteArray) (r2:List ByteArray) (r3:Bool) (r4:ByteArray) (r5:Bool) (w:World) (h:impl_readWhole.f k a0=some (r1,r2,r3,r4,r5)) :
  Calls Tryz.prog 87 #[.string a0] w fun e w'=>∃ v1_:Value,e=.returned (.tuple #[.agg #[.string r1,v1_,.bool r3,.string r4],.bool r5])∧Kd.R Kd.string 9 w' w.heap.size (fun _=>True) v1_ r2∧Below w.heap.size w w':=by
 have hu75:=Tryz.underlying75;have HB:=A_ (Below.refl w.heap.size w);unfold impl_readWhole.f at h
 have H:=h;clear h;replace H:=bindA H;obtain ⟨⟨t485,t486⟩,A2,H⟩:=H;try dsimp only at H
 have HF3:=A_ H;clear H;go_enter Tryz.func87,Tryz.ntmps87;go_upto_if 13 with (first|(refine boxF 2 #[.string (⟨#[]⟩:ByteArray),.slice none 0 0,.bool false,.string (⟨#[]⟩:ByteArray)] 75 ?_;intro gb484 hg w4 BK484 hb;have GE484:=geB hg (zz0 HB);replace HB:=A_ (bS (zz0 HB) hb);clear hb hg)|((with_reducible refine gC (f:=99) rfl ?_);refine goesL_ (some 9) rfl rfl Tryz.func99 (by kernel_rfl) rfl #[.string a0,.string (⟨#[47,47]⟩:ByteArray)] rfl zz168 ?_;(with_reducible refine (strings_CutPrefix.calls a0 (⟨#[47,47]⟩:ByteArray) t485 t486 _ A2.out).mono ?_);rintro e w' ⟨rfl,⟨nd,rfl⟩⟩;refine ⟨_,rfl,?_⟩))
 obtain ⟨H⟩:=HF3;replace H:=iteB H;rcases H with ⟨rfl,H⟩|⟨rfl,H⟩
 ·replace H:=bindA H
  obtain ⟨t487,A6,H⟩:=H;have HF7:=A_ H;clear H;go_upto_if 18 with (first|((with_reducible refine gC (f:=100) rfl ?_);refine goesL_ (some 16) rfl rfl Tryz.func100 (by kernel_rfl) rfl #[.string t485,.string (⟨#[47,63]⟩:ByteArray)] rfl zz168 ?_;(with_reducible refine mR (strings_IndexAny.calls t485 (⟨#[47,63]⟩:ByteArray) t487 _ A6.out) ?_);rintro w8 hb;replace BK484:=A_ (bB (zz2 BK484) hb);replace HB:=A_ (bS (zz1 HB GE484) hb);(try clear hb)))
  obtain ⟨H⟩:=HF7;replace H:=iteEd H;rcases H with ⟨c9b0,H⟩|⟨c9b0,H⟩
  ·(first|rw [c9b0]|(simp only [i64_w,i32_w];rw [c9b0])|skip)
   replace H:=iteN H;obtain ⟨c10,H⟩:=H;have c10b0:=eq_true c10;have c10b1:=dT c10;clear c10;replace H:=iteN H;obtain ⟨c11,H⟩:=H;have c11b0:=eq_true c11;have c11b1:=dT c11;clear c11;replace H:=bindA H;obtain ⟨t488,A12,H⟩:=H;have c13b0:=eq_true (ofD:0≤(t485.size:Int));have c14b0:=eq_true (ofD:(t485.size:Int)≤(t485.size:Int));replace H:=bindA H;obtain ⟨⟨t489,t490,t493,t494,t495⟩,A15,H⟩:=H;try dsimp only at H
   simp only [Option.some.injEq,Prod.mk.injEq] at H
   obtain ⟨rfl,rfl,rfl,rfl,rfl⟩:=H;try go_wp2
   replace BK484:=A_ (blk_drew BK484.out);replace HB:=A_ (below_drew1 HB.out);refine start_ (n:=12) (S:=fun w'=>True) (ds:=[]) #[yF,yF,yF,yF,yF,yF,yF,yF,yF,yF,yF,yF] (by kernel_rfl) rfl rfl trivial (fun hHeld=>?_);refine with_tabW impl_readWhole.tab7 impl_readWhole.bits7 (fun HT_ HW_=>?_);generalize w8.drew=w16 at BK484 HB hHeld ⊢;refine pureZ 0 (some 21) (yA 1 11) ?_;refine pureZ 1 (some 22) (yA 2 10) ?_;refine pureZ 2 (some 23) (yA 3 9) ?_;refine pureZ 4 (some 25) #[yT,yT,yT,yF,yT,yF,yF,yF,yF,yF,yF,yF] ?_;refine pureZ 5 (some 26) #[yT,yT,yT,yF,yT,yT,yF,yF,yF,yF,yF,yF] ?_;refine pureZ 6 (some 27) #[yT,yT,yT,yF,yT,yT,yT,yF,yF,yF,yF,yF] ?_;refine oneZ 3 (some 24) (yA 7 5) (fun K hK=>?_);refine goes_ Tryz.func102 (by kernel_rfl) rfl #[.string (t485.extract 0 ((t485.size:Int):Int).toNat)] (by rfl) rfl rfl zz168 ?_;with_reducible refine (impl_smallLetters.calls (t485.extract 0 ((t485.size:Int):Int).toNat) t488 _ A12.out).mono ?_
   rintro e w17 ⟨rfl,hb⟩;refine ⟨_,rfl,?_⟩;replace BK484:=A_ (bB (zz2 BK484) hb);replace HB:=A_ (bS (zz1 HB GE484) hb);(try clear hb)
   (try clear hb2)
   (try clear hk)
   (try clear hi)
   refine hK.out _ _ trivial (fun hHeld=>?_);clear hK K;refine nZ 24 ?_;refine oneZ 7 (some 28) (yA 8 4) (fun K hK=>?_);refine goes_ Tryz.func101 (by kernel_rfl) rfl #[.string t488,.slice none 0 0,.string (t485.extract ((t485.size:Int):Int).toNat t485.size)] (by rfl) rfl rfl zz168 ?_;refine (impl_readWay.calls k t488 _ _ ([]:List ByteArray) (t485.extract ((t485.size:Int):Int).toNat t485.size) t489 t490 t493 t494 t495 _ ?side1 ?side2 A15.out).mono ?_;(case side1=>exact Kd.C_nil _ _)
   (case side2=>exact Nat.le_refl _)
   rintro e w18 ⟨v491,rfl,ho0,hb⟩;refine ⟨_,rfl,?_⟩;have HO492:=A_ (Kd.R_lower ho0 (below_size (zz1 HB GE484)));replace BK484:=A_ (bB (zz2 BK484) hb);replace HB:=A_ (bS (zz1 HB GE484) hb);(try clear hb)
   (try clear hb2)
   (try clear hk)
   (try clear hi)
   (try clear ho0)
   obtain ⟨Ao20,co20,eo20⟩:=Kd.R_slice HO492.out;(first|subst eo20|(injection eo20 with f1_ f2_ f3_;have f4_:=f1_.symm;have f5_:=f3_.symm;clear f1_ f2_ f3_;subst f4_;subst f5_))
   refine hK.out _ _ trivial (fun hHeld=>?_);clear hK K;refine nZ 28 ?_;refine pureZ 8 (some 29) (yA 9 3) ?_;refine pureZ 9 (some 30) (yA 10 2) ?_;refine oneZ 10 (none) (yA 11 1) (fun K hK=>?_);have hs19:w18.cell? ⟨gb484,0,none⟩=some (.string (⟨#[]⟩:ByteArray)):=(blk_cell BK484.out 0).trans rfl;have hfs19:=blk_frozen BK484.out 0;have hs21:w18.cell? ⟨gb484,1,none⟩=some (.slice none 0 0):=(blk_cell BK484.out 1).trans rfl;have hfs21:=blk_frozen BK484.out 1;have hs22:w18.cell? ⟨gb484,2,none⟩=some (.bool false):=(blk_cell BK484.out 2).trans rfl;have hfs22:=blk_frozen BK484.out 2;have hs23:w18.cell? ⟨gb484,3,none⟩=some (.string (⟨#[]⟩:ByteArray)):=(blk_cell BK484.out 3).trans rfl;have hfs23:=blk_frozen BK484.out 3;refine skip_ (w1:=?_) (by rfl) rfl ?_ ?_;rotate_left
   ·go_simp
    rfl
   refine hK.out _ _ trivial (fun hHeld=>?_);clear hK K;refine pureZ 11 (some 3) (yA 12 0) ?_;refine done_ (done_of HT_.out (by kernel_rfl)) ?_;try go_wp2
   refine pR (results_ct rfl _ _ gb484 75 #[.string t489,.slice Ao20 t490.length co20,.bool t493,.string t494] (0,0) _ rfl (zz87 BK484) Tryz.underlying75 rfl (by kernel_rfl)) rfl ?_;exact ⟨_,zz5,(zz24 (rt HO492 BK484)),(zz1 HB GE484)⟩
  ·(first|rw [c9b0]|(simp only [i64_w,i32_w];rw [c9b0])|skip)
   replace H:=iteN H;obtain ⟨c24,H⟩:=H;have c24b0:=eq_true c24;have c24b1:=dT c24;clear c24;replace H:=iteN H;obtain ⟨c25,H⟩:=H;have c25b0:=eq_true c25;have c25b1:=dT c25;clear c25;replace H:=bindA H;obtain ⟨t496,A26,H⟩:=H;have c27b0:=eq_true (ofD:0≤t487);have c28b0:=eq_true (ofD:t487≤(t485.size:Int));replace H:=bindA H;obtain ⟨⟨t497,t498,t501,t502,t503⟩,A29,H⟩:=H;try dsimp only at H
   simp only [Option.some.injEq,Prod.mk.injEq] at H
   obtain ⟨rfl,rfl,rfl,rfl,rfl⟩:=H;try go_wp2
   replace BK484:=A_ (blk_drew BK484.out);replace HB:=A_ (below_drew1 HB.out);refine start_ (n:=12) (S:=fun w'=>True) (ds:=[]) #[yF,yF,yF,yF,yF,yF,yF,yF,yF,yF,yF,yF] (by kernel_rfl) rfl rfl trivial (fun hHeld=>?_);refine with_tabW impl_readWhole.tab7 impl_readWhole.bits7 (fun HT_ HW_=>?_);generalize w8.drew=w30 at BK484 HB hHeld ⊢;refine pureZ 0 (some 21) (yA 1 11) ?_;refine pureZ 1 (some 22) (yA 2 10) ?_;refine pureZ 2 (some 23) (yA 3 9) ?_;refine pureZ 4 (some 25) #[yT,yT,yT,yF,yT,yF,yF,yF,yF,yF,yF,yF] ?_;refine pureZ 5 (some 26) #[yT,yT,yT,yF,yT,yT,yF,yF,yF,yF,yF,yF] ?_;refine pureZ 6 (some 27) #[yT,yT,yT,yF,yT,yT,yT,yF,yF,yF,yF,yF] ?_;refine oneZ 3 (some 24) (yA 7 5) (fun K hK=>?_);refine goes_ Tryz.func102 (by kernel_rfl) rfl #[.string (t485.extract 0 (t487:Int).toNat)] (by rfl) rfl rfl zz168 ?_;with_reducible refine (impl_smallLetters.calls (t485.extract 0 (t487:Int).toNat) t496 _ A26.out).mono ?_
   rintro e w31 ⟨rfl,hb⟩;refine ⟨_,rfl,?_⟩;replace BK484:=A_ (bB (zz2 BK484) hb);replace HB:=A_ (bS (zz1 HB GE484) hb);(try clear hb)
   (try clear hb2)
   (try clear hk)
   (try clear hi)
   refine hK.out _ _ trivial (fun hHeld=>?_);clear hK K;refine nZ 24 ?_;refine oneZ 7 (some 28) (yA 8 4) (fun K hK=>?_);refine goes_ Tryz.func101 (by kernel_rfl) rfl #[.string t496,.slice none 0 0,.string (t485.extract (t487:Int).toNat t485.size)] (by rfl) rfl rfl zz168 ?_;refine (impl_readWay.calls k t496 _ _ ([]:List ByteArray) (t485.extract (t487:Int).toNat t485.size) t497 t498 t501 t502 t503 _ ?side1 ?side2 A29.out).mono ?_;(case side1=>exact Kd.C_nil _ _)
   (case side2=>exact Nat.le_refl _)
   rintro e w32 ⟨v499,rfl,ho0,hb⟩;refine ⟨_,rfl,?_⟩;have HO500:=A_ (Kd.R_lower ho0 (below_size (zz1 HB GE484)));replace BK484:=A_ (bB (zz2 BK484) hb);replace HB:=A_ (bS (zz1 HB GE484) hb);(try clear hb)
   (try clear hb2)
   (try clear hk)
   (try clear hi)
   (try clear ho0)
   obtain ⟨Ao34,co34,eo34⟩:=Kd.R_slice HO500.out;(first|subst eo34|(injection eo34 with f1_ f2_ f3_;have f4_:=f1_.symm;have f5_:=f3_.symm;clear f1_ f2_ f3_;subst f4_;subst f5_))
   refine hK.out _ _ trivial (fun hHeld=>?_);clear hK K;refine nZ 28 ?_;refine pureZ 8 (some 29) (yA 9 3) ?_;refine pureZ 9 (some 30) (yA 10 2) ?_;refine oneZ 10 (none) (yA 11 1) (fun K hK=>?_);have hs33:w32.cell? ⟨gb484,0,none⟩=some (.string (⟨#[]⟩:ByteArray)):=(blk_cell BK484.out 0).trans rfl;have hfs33:=blk_frozen BK484.out 0;have hs35:w32.cell? ⟨gb484,1,none⟩=some (.slice none 0 0):=(blk_cell BK484.out 1).trans rfl;have hfs35:=blk_frozen BK484.out 1;have hs36:w32.cell? ⟨gb484,2,none⟩=some (.bool false):=(blk_cell BK484.out 2).trans rfl;have hfs36:=blk_frozen BK484.out 2;have hs37:w32.cell? ⟨gb484,3,none⟩=some (.string (⟨#[]⟩:ByteArray)):=(blk_cell BK484.out 3).trans rfl;have hfs37:=blk_frozen BK484.out 3;refine skip_ (w1:=?_) (by rfl) rfl ?_ ?_;rotate_left
   ·go_simp
    rfl
   refine hK.out _ _ trivial (fun hHeld=>?_);clear hK K;refine pureZ 11 (some 3) (yA 12 0) ?_;refine done_ (done_of HT_.out (by kernel_rfl)) ?_;try go_wp2
   refine pR (results_ct rfl _ _ gb484 75 #[.string t497,.slice Ao34 t498.length co34,.bool t501,.string t502] (0,0) _ rfl (zz87 BK484) Tryz.underlying75 rfl (by kernel_rfl)) rfl ?_;exact ⟨_,zz5,(zz24 (rt HO500 BK484)),(zz1 HB GE484)⟩
 ·simp only [Option.some.injEq,Prod.mk.injEq] at H
  obtain ⟨rfl,rfl,rfl,rfl,rfl⟩:=H;obtain ⟨_,_,_,_,_,_,_,_⟩:=cf4 BK484;go_wp2
  refine pR (results_ct rfl _ _ gb484 75 #[.string (⟨#[]⟩:ByteArray),.slice none 0 0,.bool false,.string (⟨#[]⟩:ByteArray)] (0,0) _ rfl (zz87 BK484) Tryz.underlying75 rfl (by kernel_rfl)) rfl ?_;exact ⟨_,zz5,zz72,(zz1 HB GE484)⟩
def impl_AddrRead.f (k:Nat) (a0:ByteArray):Option (ByteArray×List ByteArray×Bool×ByteArray×Bool):=if (a0.size:Int) > 60 then (some ((⟨#[]⟩:ByteArray),([]:List ByteArray),false,(⟨#[]⟩:ByteArray),false)) else ((strings_Cut.f a0 (⟨#[35]⟩:ByteArray)).bind fun bt505=>((impl_readWhole.f k bt505.1).bind fun bt508=>(some (bt508.1,bt508.2.1,bt508.2.2.1,bt508.2.2.2.1,bt508.2.2.2.2))))
theorem impl_AddrRead.calls (k:Nat) (a0:ByteArray) (r1:ByteArray) (r2:List ByteArray) (r3:Bool) (r4:ByteArray) (r5:Bool) (w:World) (h:impl_AddrRead.f k a0=some (r1,r2,r3,r4,r5)) :
  Calls Tryz.prog 70 #[.string a0] w fun e w'=>∃ v1_:Value,e=.returned (.tuple #[.agg #[.string r1,v1_,.bool r3,.string r4],.bool r5])∧Kd.R Kd.string 9 w' w.heap.size (fun _=>True) v1_ r2∧Below w.heap.size w w':=by
 have hu75:=Tryz.underlying75;have HB:=A_ (Below.refl w.heap.size w);unfold impl_AddrRead.f at h
 have H:=h;clear h;have HF2:=A_ H;clear H;go_enter Tryz.func70,Tryz.ntmps70;go_upto_if 9 with (first|(refine boxF 2 #[.string (⟨#[]⟩:ByteArray),.slice none 0 0,.bool false,.string (⟨#[]⟩:ByteArray)] 75 ?_;intro gb504 hg w3 BK504 hb;have GE504:=geB hg (zz0 HB);replace HB:=A_ (bS (zz0 HB) hb);clear hb hg))
 obtain ⟨H⟩:=HF2;replace H:=iteE H;rcases H with ⟨c4,H⟩|⟨c4,H⟩
 ·have c4b0:=gtT c4
  have c4b1:decide (60 < a0.size)=true:=dT (by omega);clear c4;(first|rw [c4b0]|(simp only [i64_w,i32_w];rw [c4b0])|skip)
  simp only [Option.some.injEq,Prod.mk.injEq] at H
  obtain ⟨rfl,rfl,rfl,rfl,rfl⟩:=H;obtain ⟨_,_,_,_,_,_,_,_⟩:=cf4 BK504;go_wp2
  refine pR (results_ct rfl _ _ gb504 75 #[.string (⟨#[]⟩:ByteArray),.slice none 0 0,.bool false,.string (⟨#[]⟩:ByteArray)] (0,0) _ rfl (zz87 BK504) Tryz.underlying75 rfl (by kernel_rfl)) rfl ?_;exact ⟨_,zz5,zz72,(zz1 HB GE504)⟩
 ·have c4b0:=gtF c4
  have c4b1:decide (60 < a0.size)=false:=dF (by omega);clear c4;(first|rw [c4b0]|(simp only [i64_w,i32_w];rw [c4b0])|skip)
  replace H:=bindA H;obtain ⟨⟨t505,t506,t507⟩,A6,H⟩:=H;try dsimp only at H
  replace H:=bindA H;obtain ⟨⟨t508,t509,t512,t513,t514⟩,A7,H⟩:=H;try dsimp only at H
  simp only [Option.some.injEq,Prod.mk.injEq] at H
  obtain ⟨rfl,rfl,rfl,rfl,rfl⟩:=H;go_wp2_with (first|(refine gR 86 (some 13) Tryz.func86 (strings_Cut.calls a0 (⟨#[35]⟩:ByteArray) t505 t506 t507 _ A6.out) ?_;rintro w8 hb;replace BK504:=A_ (bB (zz2 BK504) hb);replace HB:=A_ (bS (zz1 HB GE504) hb);(try clear hb))|(refine gV 87 (some 18) Tryz.func87 (impl_readWhole.calls k t505 t508 t509 t512 t513 t514 _ A7.out) ?_;rintro v510 w9 ⟨ho0,hb⟩;have HO511:=A_ (Kd.R_lower ho0 (below_size (zz1 HB GE504)));replace BK504:=A_ (bB (zz2 BK504) hb);replace HB:=A_ (bS (zz1 HB GE504) hb);(try clear hb ho0);obtain ⟨_,_,_,_,_,_,_,_⟩:=cf4 BK504;obtain ⟨Ao11,co11,eo11⟩:=Kd.R_slice HO511.out;subst eo11))
  refine pR (results_ct rfl _ _ gb504 75 #[.string t508,.slice Ao11 t509.length co11,.bool t512,.string t513] (0,0) _ rfl (zz87 BK504) Tryz.underlying75 rfl (by kernel_rfl)) rfl ?_;exact ⟨_,zz5,(zz24 (rt HO511 BK504)),(zz1 HB GE504)⟩
def impl_readAddress.f (k:Nat) (a0:ByteArray):Option (ByteArray×List ByteArray×Bool×ByteArray×Bool):=(impl_AddrRead.f k a0).bind fun bt516=>(if bt516.2.2.2.2=true then ((impl_writeAddr.f bt516.1 bt516.2.1 bt516.2.2.1 bt516.2.2.2.1).bind fun t524=>(if t524.toList=a0.toList then (some (bt516.1,bt516.2.1,bt516.2.2.1,bt516.2.2.2.1,true)) else (some ((⟨#[]⟩:ByteArray),([]:List ByteArray),false,(⟨#[]⟩:ByteArray),false)))) else (some ((⟨#[]⟩:ByteArray),([]:List ByteArray),false,(⟨#[]⟩:ByteArray),false)))
theorem impl_readAddress.calls (k:Nat) (a0:ByteArray) (r1:ByteArray) (r2:List ByteArray) (r3:Bool) (r4:ByteArray) (r5:Bool) (w:World) (h:impl_readAddress.f k a0=some (r1,r2,r3,r4,r5)) :
  Calls Tryz.prog 52 #[.string a0] w fun e w'=>∃ v1_:Value,e=.returned (.tuple #[.agg #[.string r1,v1_,.bool r3,.string r4],.bool r5])∧Kd.R Kd.string 9 w' w.heap.size (fun _=>True) v1_ r2∧Below w.heap.size w w':=by
 have hu75:=Tryz.underlying75;have HB:=A_ (Below.refl w.heap.size w);unfold impl_readAddress.f at h
 have H:=h;clear h;replace H:=bindA H;obtain ⟨⟨t516,t517,t520,t521,t522⟩,A2,H⟩:=H;try dsimp only at H
 have HF3:=A_ H;clear H;go_enter Tryz.func52,Tryz.ntmps52;go_wp2_with (first|(refine boxF 2 #[.string (⟨#[]⟩:ByteArray),.slice none 0 0,.bool false,.string (⟨#[]⟩:ByteArray)] 75 ?_;intro gb515 hg w4 BK515 hb;have GE515:=geB hg (zz0 HB);replace HB:=A_ (bS (zz0 HB) hb);clear hb hg)|(refine gV 70 (some 8) Tryz.func70 (impl_AddrRead.calls k a0 t516 t517 t520 t521 t522 _ A2.out) ?_;rintro v518 w5 ⟨ho0,hb⟩;have HO519:=A_ (Kd.R_lower ho0 (below_size (zz1 HB GE515)));replace BK515:=A_ (bB (zz2 BK515) hb);replace HB:=A_ (bS (zz1 HB GE515) hb);(try clear hb ho0))|(refine boxF 4 #[.string (⟨#[]⟩:ByteArray),.slice none 0 0,.bool false,.string (⟨#[]⟩:ByteArray)] 75 ?_;intro gb523 hg w6 BK523 hb;replace HO519:=A_ (rB (zz12 HO519) hb);have GE523:=geB hg (zz1 HB GE515);replace HB:=A_ (bS (zz1 HB GE515) hb);have NB515_523:=A_ ((by rw [hg];exact Nat.ne_of_lt (blk_lt (zz2 BK515)):gb515≠gb523));have NB523_515:=A_ ((by rw [hg];exact Nat.ne_of_gt (blk_lt (zz2 BK515)):gb523≠gb515));replace BK515:=A_ (bB (zz2 BK515) hb);clear hb hg;have hnb7:=NB523_515.out;have hnc7:=NB515_523.out;obtain ⟨_,_,_,_,_,_,_,_⟩:=cf4 BK523;obtain ⟨Ao9,co9,eo9⟩:=Kd.R_slice HO519.out;subst eo9)|((with_reducible refine gate_store (t:=75) (p:=4) rfl ?_);refine store_event (t:=75) (p:=4) (v:=?vo_w10) (w1:=((((w6.setCell ⟨gb523,0,none⟩ (.string t516)).setCell ⟨gb523,1,none⟩ (.slice Ao9 t517.length co9)).setCell ⟨gb523,2,none⟩ (.bool t520)).setCell ⟨gb523,3,none⟩ (.string t521))) ?hg ?ho ?hn ?hr ?_;(case ho=>rfl);(case hg=>rfl);(case hn=>rfl);(case hr=>exact zz14);intro w10 hw;have n0_:Aside0 (Kd.R Kd.string 9 w10 w.heap.size (fun _=>True) (.slice Ao9 t517.length co9) t517):=⟨(by rw [hw];exact (zz24 (rt HO519 BK523)))⟩;have n1_:Aside0 (w10.heap[gb515]?=some (.cells #[.string (⟨#[]⟩:ByteArray),.slice none 0 0,.bool false,.string (⟨#[]⟩:ByteArray)] 75 (0,0))):=⟨(by rw [hw];exact (zz4 BK515 NB515_523))⟩;have n2_:Aside0 (w10.heap[gb523]?=some (.cells #[.string t516,.slice Ao9 t517.length co9,.bool t520,.string t521] 75 (0,0))):=⟨(by rw [hw];exact (zz87 BK523))⟩;have n3_:Aside0 (Below w.heap.size w w10):=⟨(by rw [hw];exact (zz3 HB GE515 GE523))⟩;clear hw;clear HO519;clear BK515;clear BK523;clear HB;have HO519:=n0_;have BK515:=n1_;have BK523:=n2_;have HB:=n3_;clear n0_ n1_ n2_ n3_)|((with_reducible refine atG ?_ ?_ fun K_ hK_=>?_);rfl;exact undecG)|((with_reducible refine atI ?_ fun K_ hK_=>?_);exact undecI))
 refine unG hK_ ?_;clear hK_ K_;obtain ⟨H⟩:=HF3;replace H:=iteB H;rcases H with ⟨rfl,H⟩|⟨rfl,H⟩
 ·(first|refine iteT ?_|refine iteF ?_|skip)
  replace H:=bindA H;obtain ⟨t524,A12,H⟩:=H;have HF13:=A_ H;clear H;have hnb14:=NB523_515.out;have hnc14:=NB515_523.out;obtain ⟨_,_,_,_,_,_,_,_⟩:=cf4 BK523;(try ((with_reducible refine upS ?_);go_simp))
  go_upto_if 18 with (first|(go_at_call 71;(with_reducible refine (impl_writeAddr.calls t516 _ _ t517 t520 t521 t524 _ ?side1 ?side2 A12.out).mono ?_);(case side1=>exact (zz88 HO519));(case side2=>exact (Kd.R_reads' HO519.out).2.1);rintro e w16 ⟨rfl,hb⟩;replace HO519:=A_ (rB (zz12 HO519) hb);replace BK515:=A_ (bB (zz2 BK515) hb);replace BK523:=A_ (bB (zz2 BK523) hb);replace HB:=A_ (bS (zz3 HB GE515 GE523) hb);(try clear hb)))
  obtain ⟨H⟩:=HF13;replace H:=iteEq H;rcases H with ⟨c17b0,c17b1,H⟩|⟨c17b0,c17b1,c17,H⟩
  ·(first|rw [c17b0]|(simp only [i64_w,i32_w];rw [c17b0])|skip)
   simp only [Option.some.injEq,Prod.mk.injEq] at H
   obtain ⟨rfl,rfl,rfl,rfl,rfl⟩:=H;have hnb18:=NB523_515.out;have hnc18:=NB515_523.out;obtain ⟨_,_,_,_,_,_,_,_⟩:=cf4 BK523;obtain ⟨_,_,_,_,_,_,_,_⟩:=cf4 BK515;go_wp2
   refine pR (results_ct rfl _ _ gb515 75 #[.string t516,.slice Ao9 t517.length co9,.bool t520,.string t521] (0,0) _ rfl (zz87 BK515) Tryz.underlying75 rfl (by kernel_rfl)) rfl ?_;exact ⟨_,zz5,(zz24 (rt HO519 BK515)),(zz3 HB GE515 GE523)⟩
  ·(first|rw [c17b0]|(simp only [i64_w,i32_w];rw [c17b0])|skip)
   simp only [Option.some.injEq,Prod.mk.injEq] at H
   obtain ⟨rfl,rfl,rfl,rfl,rfl⟩:=H;have hnb21:=NB515_523.out;have hnc21:=NB523_515.out;obtain ⟨_,_,_,_,_,_,_,_⟩:=cf4 BK515;go_wp2
   refine pR (results_ct rfl _ _ gb515 75 #[.string (⟨#[]⟩:ByteArray),.slice none 0 0,.bool false,.string (⟨#[]⟩:ByteArray)] (0,0) _ rfl (zz87 BK515) Tryz.underlying75 rfl (by kernel_rfl)) rfl ?_;exact ⟨_,zz5,zz72,(zz3 HB GE515 GE523)⟩
 ·(first|refine iteT ?_|refine iteF ?_|skip)
  simp only [Option.some.injEq,Prod.mk.injEq] at H
  obtain ⟨rfl,rfl,rfl,rfl,rfl⟩:=H;have hnb23:=NB515_523.out;have hnc23:=NB523_515.out;obtain ⟨_,_,_,_,_,_,_,_⟩:=cf4 BK515;(try ((with_reducible refine upS ?_);go_simp))
  go_wp2
  refine pR (results_ct rfl _ _ gb515 75 #[.string (⟨#[]⟩:ByteArray),.slice none 0 0,.bool false,.string (⟨#[]⟩:ByteArray)] (0,0) _ rfl (zz87 BK515) Tryz.underlying75 rfl (by kernel_rfl)) rfl ?_;exact ⟨_,zz5,zz72,(zz3 HB GE515 GE523)⟩
def impl_isAddress.f (k:Nat) (a0:ByteArray):Option (Bool):=(impl_readAddress.f k a0).bind fun bt525=>(some bt525.2.2.2.2)
theorem impl_isAddress.calls (k:Nat) (a0:ByteArray) (r:Bool) (w:World) (h:impl_isAddress.f k a0=some r) :
  Calls Tryz.prog 49 #[.string a0] w fun e w'=>e=.returned (.bool r)∧Below w.heap.size w w':=by
 have hu75:=Tryz.underlying75;have HB:=A_ (Below.refl w.heap.size w);unfold impl_isAddress.f at h
 have H:=h;clear h;replace H:=bindA H;obtain ⟨⟨t525,t526,t529,t530,t531⟩,A2,H⟩:=H;try dsimp only at H
 obtain rfl:=sI H;go_enter Tryz.func49,Tryz.ntmps49;go_wp2_with (first|(refine gV 52 (some 7) Tryz.func52 (impl_readAddress.calls k a0 t525 t526 t529 t530 t531 _ A2.out) ?_;rintro v527 w3 ⟨ho0,hb⟩;have HO528:=A_ (Kd.R_lower ho0 (below_size (zz0 HB)));replace HB:=A_ (bS (zz0 HB) hb);(try clear hb ho0))|(refine boxF 3 #[.string (⟨#[]⟩:ByteArray),.slice none 0 0,.bool false,.string (⟨#[]⟩:ByteArray)] 75 ?_;intro gb532 hg w4 BK532 hb;replace HO528:=A_ (rB (zz12 HO528) hb);have GE532:=geB hg (zz0 HB);replace HB:=A_ (bS (zz0 HB) hb);clear hb hg;obtain ⟨_,_,_,_,_,_,_,_⟩:=cf4 BK532;obtain ⟨Ao6,co6,eo6⟩:=Kd.R_slice HO528.out;subst eo6))
 go_ret
 exact ⟨zz5,(zz1 HB GE532)⟩
end Go.Proofs.YteepbodnaameiaaGreatDoor.P
end
section
namespace Go.Proofs.YteepbodnaameiaaGreatDoor.P
open Go.RowKit Go.Proofs.YteepbodnaameiaaGreatDoorW.PrintWords Go.Proofs.YteepbodnaameiaaGreatDoorW.PrintLast Go.Proofs.YteepbodnaameiaaGreatDoorW.PrintMore Go.Maps Go.ChangeMaps
set_option linter.unusedVariables false
set_option linter.unusedSimpArgs false
def keyT (s:ByteArray):Lit:=.string s.data.toList
theorem keyT_lit (a:ByteArray):WideAt.IsKeyLit (keyT a):=trivial
theorem keyT_inj {a b:ByteArray} (h:keyT a=keyT b):a=b:=by
 obtain ⟨⟨a⟩⟩:=a
 obtain ⟨⟨b⟩⟩:=b
 simp [keyT] at h
 rw [h]
inductive Cnt:List ByteArray→DataW Unit→Prop
 | nil:Cnt [] (.map [])
 | put {r:List ByteArray} {D:DataW Unit} {s:ByteArray} {c:DataW Unit} (h:Cnt r D):Cnt (s :: r) (D.put (keyT s) c)
theorem Cnt.facts {l:List ByteArray} {D:DataW Unit} (h:Cnt l D):IsMap D∧Tidy D∧(∀ a,has D (keyT a)=l.any fun s=>decide (s=a))∧size D≤l.length∧(size D=l.length↔l.Nodup):=by
 induction h with
 | nil=>exact ⟨isMap_empty,tidy_empty,fun a=>rfl,Nat.le_refl _,by simp [Maps.size]⟩
 | @put r D s c h ih=>
  obtain ⟨h1,h2,h3,h4,h5⟩:=ih
  refine ⟨h1.put _ _,h2.put (keyT_lit _) _,fun a=>?_,?_,?_⟩
  ·rw [List.any_cons]
   by_cases e:s=a
   ·rw [e,has_put_same h1 (keyT_lit _)];simp
   ·rw [has_put_other (fun e2=>e (keyT_inj e2).symm),h3 a];simp [e]
  ·rw [size_put h2,h3 s,List.length_cons]
   split <;> omega
  ·rw [size_put h2,h3 s,List.length_cons,List.nodup_cons]
   have hm:(r.any fun q=>decide (q=s))=true↔s ∈ r:=by simp
   by_cases e:s ∈ r
   ·rw [if_pos (hm.2 e)]
    exact ⟨fun x=>by omega,fun x=>absurd e x.1⟩
   ·rw [if_neg (fun x=>e (hm.1 x)),← h5]
    exact ⟨fun x=>⟨e,by omega⟩,fun x=>by omega⟩
def impl_allOnce.f (k:Nat) (l0:List ByteArray):Option Bool:=if l0.length≤4611686018427387904∧∀ s ∈ l0,s.size≤9223372036854775807 then some (decide l0.Nodup) else none
theorem nodup_rev {α:Type} (l:List α):l.reverse.Nodup↔l.Nodup:=by
 unfold List.Nodup
 rw [List.pairwise_reverse]
 exact ⟨fun h=>h.imp fun e=>e.symm,fun h=>h.imp fun e=>e.symm⟩
theorem grown_below1 {w W W':World} (h:Below w.heap.size w W) (g:W.grownBy W' (some w.heap.size)):Below w.heap.size w W':=
 ⟨g.os.trans h.os,g.tape.trans h.tape,g.output.trans h.output,Nat.le_trans h.size g.size,fun i hi=>(g.block i (Nat.lt_of_lt_of_le hi h.size) (by intro e;injection e with e;omega)).trans (h.block i hi)⟩
theorem zeroInt (w:World):(zeroValue 3).run Tryz.prog w=.ok (.int .i64 0) w:=by kernel_rfl
set_option maxHeartbeats 4000000 in
set_option maxRecDepth 100000 in
theorem impl_allOnce.calls (k:Nat) (A0:Option Addr) (c0:Nat) (l0:List ByteArray) (r:Bool) (w:World) (hr0:Kd.C Kd.string w A0 l0.length l0) (hc0:l0.length≤c0) (h:impl_allOnce.f k l0=some r) :
  Calls Tryz.prog 31 #[.slice A0 l0.length c0] w fun e w'=>e=.returned (.bool r)∧Below w.heap.size w w':=by
 unfold impl_allOnce.f at h
 split at h
 case isFalse=>cases h
 rename_i hz
 obtain ⟨h1,h2⟩:=hz
 have hR:=Option.some.inj h
 clear h
 have hmm:=@run_makeMap Tryz.prog
 have HR0:=A_ hr0
 have HN:=A_ h2
 have HR:=A_ hR
 clear hr0 h2 hR
 go_enter Tryz.func31,Tryz.ntmps31
 go_wp2
 go_loopg [9] l0.length (fun g v wx=>∃ (i:Nat) (D:DataW Unit),v=.int .i64 i∧i+g=l0.length∧Aside0 (Cnt (l0.take i).reverse D)∧Aside0 (wx.ownsMap Tryz.prog 9 (plainElem Tryz.prog 3) w.heap.size i D)∧Aside0 (Below w.heap.size w wx))
 case atStart=>exact ⟨0,.map [],rfl,by omega,⟨Cnt.nil⟩,⟨World.ownsMap_made w Tryz.prog 9 _⟩,⟨(Below.refl _ _).alloc (Nat.le_refl _) _⟩⟩
 case round=>
  clear hmm
  obtain ⟨i,D,rfl,hig,HC,HM,HB⟩:=hrel
  cases gk with
  | zero=>
   obtain rfl:i=l0.length:=by omega
   have hlt:decide ((l0.length:Int) < (l0.length:Int))=false:=decide_eq_false (by omega)
   have hlen:=fun ty=>HM.out.len Tryz.underlying89 ty
   have e:((Maps.size D:Int) == (l0.length:Int))=r:=by
    have hf:=HC.out.facts.2.2.2.2
    rw [List.take_length,List.length_reverse,nodup_rev] at hf
    rw [← HR.out]
    by_cases hd:l0.Nodup
    ·rw [hf.2 hd];simp [hd]
    ·have:Maps.size D≠l0.length:=fun e=>hd (hf.1 e)
     simp only [hd,decide_false]
     exact beq_eq_false_iff_ne.2 (by omega)
   have HE:=A_ e
   clear e
   go_wp2
   go_ret
   exact ⟨by rw [← HE.out];rfl,HB.out⟩
  | succ g=>
   have hi:i < l0.length:=by omega
   have hlt:decide ((i:Int) < (l0.length:Int))=true:=decide_eq_true (by omega)
   obtain ⟨bk,o,ea,hb0,hcells⟩:=row_at HR0.out (by omega)
   subst ea
   have hx:=hcells i _ (List.getElem?_eq_getElem hi)
   have hxs:=HN.out _ (List.getElem_mem hi)
   have ht:(l0.take (i+1)).reverse=l0[i] :: (l0.take i).reverse:=by rw [List.take_succ_eq_append_getElem hi,List.reverse_append];rfl
   generalize l0[i]=s at hx hxs ht
   replace hx:=(HB.out.cell hb0).trans hx
   have p0:(0≤(i:Int))=True:=eq_true (by omega)
   have q0:((i:Int) < (l0.length:Int))=True:=eq_true (by omega)
   have hkey:=Go.WideMaps.keyOf_string_mk (P:=Tryz.prog) Tryz.underlying9 (s:=s) (by have:maxLen=2 ^ 63 - 1:=rfl;omega)
   obtain ⟨c,hrun,hat,_⟩:=HM.out.lookup_int (string_keyed Tryz.underlying9) Tryz.underlying89 Tryz.underlying3 (zeroInt _) hkey
   have HK:=A_ hkey
   have HT:=A_ ht
   clear hkey hat ht hxs hcells hb0
   go_wp2_with (first|(at_mapUpdate;refine wpList_mapUpdate_own _ rfl _ _ _ 89 rfl 9 3 (string_keyed Tryz.underlying9) Tryz.underlying89 _ w.heap.size i D rfl HM.out (by have:maxLen=2 ^ 63 - 1:=rfl;omega) _ _ (keyT s) rfl rfl HK.out _ [] (plainElem_int Tryz.underlying3 (wrap64_wf _)) ?_;intro w9 hown hgrow))
   go_roundg g
   case measure=>omega
   case rel=>exact ⟨i+1,_,by simp,by omega,⟨by rw [HT.out];exact HC.out.put⟩,⟨hown⟩,⟨grown_below1 HB.out hgrow⟩⟩
end Go.Proofs.YteepbodnaameiaaGreatDoor.P
end
section
namespace Go.Proofs.YteepbodnaameiaaGreatDoor.P
open Go.RowKit Go.Proofs.YteepbodnaameiaaGreatDoorW.PrintWords Go.Proofs.YteepbodnaameiaaGreatDoorW.PrintLast Go.Proofs.YteepbodnaameiaaGreatDoorW.PrintMore
attribute [local go_sem] max2_int min2_int max_two min_two max_three min_three max_four min_four
set_option linter.unusedVariables false
set_option linter.unusedSimpArgs false
set_option maxHeartbeats 8000000
set_option maxRecDepth 100000
mutual
def impl_seenOk.j0:Nat→List ByteArray→Bool→Option (Bool)
 | 0,_,_=>none
 | k+1,x0,x12=>if x12=true then (some false) else (impl_seenOk.l0 k x0 (x0.length:Int) 0)
def impl_seenOk.l0:Nat→List ByteArray→Int→Int→Option (Bool)
 | 0,_,_,_=>none
 | k+1,x13,x14,x15=>if x15 < x14 then (if 0≤x15 then (if x15 < (x13.length:Int) then ((impl_isAddress.f k (rdOf ByteArray.empty x13 x15)).bind fun t535=>(if t535=true then (impl_seenOk.l0 k x13 x14 (wrap64 (x15+1))) else (some false))) else (none)) else (none)) else (some true)
end
def impl_seenOk.f (k:Nat) (l0:List ByteArray):Option (Bool):=if (l0.length:Int) > 60 then (impl_seenOk.j0 k l0 true) else ((impl_allOnce.f k l0).bind fun t533=>(impl_seenOk.j0 k l0 (!t533)))
theorem impl_seenOk.calls (k:Nat) (A0:Option Addr) (c0:Nat) (l0:List ByteArray) (r:Bool) (w:World) (hr0:Kd.C Kd.string w A0 l0.length l0) (hc0:l0.length≤c0) (h:impl_seenOk.f k l0=some r) :
  Calls Tryz.prog 27 #[.slice A0 l0.length c0] w fun e w'=>e=.returned (.bool r)∧Below w.heap.size w w':=by
 have HR0:=A_ hr0;have HC0:=A_ hc0;clear hr0 hc0;have HB:=A_ (Below.refl w.heap.size w);unfold impl_seenOk.f at h
 have H:=h;clear h;have HC2:=A_ H;clear H;go_enter Tryz.func27,Tryz.ntmps27;go_upto_region 1 with (fail)
 go_cut [12] (fun v12 wc=>∃ (kq:Nat) (x12_1:Bool),v12=.bool x12_1∧Aside0 (impl_seenOk.j0 kq l0 x12_1=some r)∧Aside0 (kq≤k)∧Aside0 (Below w.heap.size w wc))
 case first=>
  obtain ⟨H⟩:=HC2;replace H:=iteE H;rcases H with ⟨c3,H⟩|⟨c3,H⟩
  ·have c3b0:=gtT c3
   have c3b1:decide (60 < l0.length)=true:=dT (by omega);clear c3;(first|rw [c3b0]|(simp only [i64_w,i32_w];rw [c3b0])|skip)
   have H':=A_ H;clear H;go_wp2
   go_meet
   case rel=>exact ⟨_,(true),zz7,H',⟨zz51⟩,⟨(zz0 HB)⟩⟩
  ·have c3b0:=gtF c3
   have c3b1:decide (60 < l0.length)=false:=dF (by omega);clear c3;(first|rw [c3b0]|(simp only [i64_w,i32_w];rw [c3b0])|skip)
   replace H:=bindA H;obtain ⟨t533,A4,H⟩:=H;have H':=A_ H;clear H;go_wp2_with (first|(go_at_call 31;(with_reducible refine (impl_allOnce.calls k _ _ l0 t533 _ ?side1 ?side2 A4.out).mono ?_);(case side1=>exact (zz21 HR0 HB));(case side2=>exact HC0.out);rintro e w5 ⟨rfl,hb⟩;replace HB:=A_ (bS (zz0 HB) hb);(try clear hb)))
   go_meet
   case rel=>exact ⟨_,(!t533),zz7,H',⟨zz51⟩,⟨(zz0 HB)⟩⟩
 case rest=>
  clear HC2;obtain ⟨kq,x12_1,rfl,HA,HJ1,HB⟩:=hcut;cases kq with
  | zero=>exact absurd HA.out (by simp [impl_seenOk.j0])
  | succ kj1=>
   obtain ⟨H⟩:=HA;simp only [impl_seenOk.j0] at H
   replace H:=iteB H;rcases H with ⟨rfl,H⟩|⟨rfl,H⟩
   ·obtain rfl:=sI H
    go_wp2
    go_ret
    exact ⟨zz5,(zz0 HB)⟩
   ·have H':=A_ H
    clear H;go_wp2
    go_loopg [15] kj1 (fun kq v15 w'=>∃ (x15_2:Int),v15=.int .i64 x15_2∧Aside0 (impl_seenOk.l0 kq l0 (l0.length:Int) x15_2=some r)∧Aside0 (kq≤kj1)∧Aside0 (Below w.heap.size w w'))
    case atStart=>exact ⟨(0),zz7,H',⟨Nat.le_refl _⟩,⟨(zz0 HB)⟩⟩
    case round=>
     clear H';obtain ⟨x15_2,rfl,HA,HK2,HB⟩:=hrel;cases gk with
     | zero=>exact absurd HA.out (by simp [impl_seenOk.l0])
     | succ k2=>
      obtain ⟨H⟩:=HA;simp only [impl_seenOk.l0] at H
      replace H:=iteEd H;rcases H with ⟨c7b0,H⟩|⟨c7b0,H⟩
      ·replace H:=iteNd H
       obtain ⟨c8b0,H⟩:=H;replace H:=iteNd H;obtain ⟨c9b0,H⟩:=H;replace H:=bindA H;obtain ⟨t535,A10,H⟩:=H;have HF11:=A_ H;clear H;obtain ⟨⟨ad534,e534,hx534_0⟩,p534,q534⟩:=atB (Kd.at_string HR0.out x15_2);cases e534
       replace hx534_0:=cbl HB hx534_0;go_upto_if 21 with (first|(refine gR 49 (some 20) Tryz.func49 (impl_isAddress.calls k2 (rdOf ByteArray.empty l0 x15_2) t535 _ A10.out) ?_;rintro w12 hb;replace HB:=A_ (bS (zz0 HB) hb);(try clear hb)))
       obtain ⟨H⟩:=HF11;replace H:=iteB H;rcases H with ⟨rfl,H⟩|⟨rfl,H⟩
       ·have H':=A_ H
        clear H;go_wp2
        go_roundg k2
        case measure=>have:=HJ1.out;have:=HK2.out;omega
        case rel=>exact ⟨(wrap64 (x15_2+1)),zz7,H',⟨(zz60 HJ1 HK2)⟩,⟨(zz0 HB)⟩⟩
       ·obtain rfl:=sI H
        go_wp2
        go_ret
        exact ⟨zz5,(zz0 HB)⟩
      ·obtain rfl:=sI H
       go_wp2
       go_ret
       exact ⟨zz5,(zz0 HB)⟩
mutual
def impl_looksOk.l0:Nat→Int→Int→List (S45)→Int→Int→Option (Bool)
 | 0,_,_,_,_,_=>none
 | k+1,x1,x5,x11,x12,x13=>if x13 < x12 then (if 0≤x13 then (if x13 < (x11.length:Int) then ((impl_between.f x5 ((rd_T45 x11 x13).f0) x1).bind fun t538=>(if t538=true then ((impl_between.f 0 ((rd_T45 x11 x13).f2) 3).bind fun t539=>(impl_looksOk.j1 k x1 x11 x12 x13 (!t539) ((rd_T45 x11 x13).f0) ((rd_T45 x11 x13).f1) ((rd_T45 x11 x13).f2))) else (impl_looksOk.j1 k x1 x11 x12 x13 true ((rd_T45 x11 x13).f0) ((rd_T45 x11 x13).f1) ((rd_T45 x11 x13).f2)))) else (none)) else (none)) else (some true)
def impl_looksOk.j1:Nat→Int→List (S45)→Int→Int→Bool→Int→ByteArray→Int→Option (Bool)
 | 0,_,_,_,_,_,_,_,_=>none
 | k+1,x1,x11,x12,x13,x28,x538000,x538001,x538002=>if x28=true then (some false) else ((impl_isAddress.f k x538001).bind fun t540=>(if t540=true then (impl_looksOk.l0 k x1 x538000 x11 x12 (wrap64 (x13+1))) else (some false)))
end
def impl_looksOk.f (k:Nat) (l0:List (S45)) (a1:Int):Option (Bool):=if (l0.length:Int) > 400 then (some false) else (impl_looksOk.l0 k a1 0 l0 (l0.length:Int) 0)
theorem impl_looksOk.calls (k:Nat) (A0:Option Addr) (c0:Nat) (l0:List (S45)) (a1:Int) (r:Bool) (w:World) (hr0:Kd.C k45 w A0 l0.length l0) (hc0:l0.length≤c0) (h:impl_looksOk.f k l0 a1=some r) :
  Calls Tryz.prog 28 #[.slice A0 l0.length c0,.int .i64 a1] w fun e w'=>e=.returned (.bool r)∧Below w.heap.size w w':=by
 have hu45:=Tryz.underlying45;have HR0:=A_ hr0;have HC0:=A_ hc0;clear hr0 hc0;have HB:=A_ (Below.refl w.heap.size w);unfold impl_looksOk.f at h
 have H:=h;clear h;replace H:=iteE H;rcases H with ⟨c3,H⟩|⟨c3,H⟩
 ·have c3b0:=gtT c3
  have c3b1:decide (400 < l0.length)=true:=dT (by omega);clear c3;obtain rfl:=sI H;go_enter Tryz.func28,Tryz.ntmps28;go_wp2
  go_ret
  exact ⟨zz5,(zz0 HB)⟩
 ·have c3b0:=gtF c3
  have c3b1:decide (400 < l0.length)=false:=dF (by omega);clear c3;have H':=A_ H;clear H;go_enter Tryz.func28,Tryz.ntmps28;go_wp2
  go_loopg [5,13] k (fun kq v5 v13 w'=>∃ (x5_1:Int) (x13_1:Int),v5=.int .i64 x5_1∧v13=.int .i64 x13_1∧Aside0 (impl_looksOk.l0 kq a1 x5_1 l0 (l0.length:Int) x13_1=some r)∧Aside0 (kq≤k)∧Aside0 (Below w.heap.size w w'))
  case atStart=>exact ⟨(0),(0),zz7,zz7,H',⟨Nat.le_refl _⟩,⟨(zz0 HB)⟩⟩
  case round=>
   clear H';obtain ⟨x5_1,x13_1,rfl,rfl,HA,HK1,HB⟩:=hrel;cases gk with
   | zero=>exact absurd HA.out (by simp [impl_looksOk.l0])
   | succ k1=>
    obtain ⟨H⟩:=HA;simp only [impl_looksOk.l0] at H
    replace H:=iteEd H;rcases H with ⟨c4b0,H⟩|⟨c4b0,H⟩
    ·replace H:=iteNd H
     obtain ⟨c5b0,H⟩:=H;replace H:=iteNd H;obtain ⟨c6b0,H⟩:=H;have HC7:=A_ H;clear H;obtain ⟨⟨ad536,e536,hx536_0,hx536_1,hx536_2⟩,p536,q536⟩:=atB (at_T45 HR0.out x13_1);cases e536
     obtain ⟨hx536_0,hx536_1,hx536_2⟩:=cb3 HB hx536_0 hx536_1 hx536_2;go_upto_region 7 with (first|(refine boxF 7 #[.int .i64 0,.string (⟨#[]⟩:ByteArray),.int .i64 0] 45 ?_;intro gb537 hg w8 BK537 hb;have GE537:=geB hg (zz0 HB);replace HB:=A_ (bS (zz0 HB) hb);clear hb hg;obtain ⟨_,_,_,_,_,_⟩:=cf3 BK537))
     (try simp only [Act.put,List.setIfInBounds_toArray,List.set_cons_zero,List.set_cons_succ])
     go_cut [28] (fun v28 wc=>∃ (kq:Nat) (x28_6:Bool),v28=.bool x28_6∧Aside0 (impl_looksOk.j1 kq a1 l0 (l0.length:Int) x13_1 x28_6 ((rd_T45 l0 x13_1).f0) ((rd_T45 l0 x13_1).f1) ((rd_T45 l0 x13_1).f2)=some r)∧Aside0 (kq≤k1)∧Aside0 (wc.heap[gb537]?=some (.cells #[.int .i64 ((rd_T45 l0 x13_1).f0),.string ((rd_T45 l0 x13_1).f1),.int .i64 ((rd_T45 l0 x13_1).f2)] 45 (0,0)))∧Aside0 (Below w.heap.size w wc))
     case first=>
      obtain ⟨H⟩:=HC7;replace H:=bindA H;obtain ⟨t538,A10,H⟩:=H;have HF11:=A_ H;clear H;obtain ⟨_,_,_,_,_,_⟩:=cf3 BK537;go_wp2_with (first|(refine gR 26 (some 21) Tryz.func26 (impl_between.calls x5_1 ((rd_T45 l0 x13_1).f0) a1 t538 _ A10.out) ?_;rintro w' ⟨nd,rfl⟩)|((with_reducible refine atG ?_ ?_ fun K_ hK_=>?_);rfl;exact undecG)|((with_reducible refine atI ?_ fun K_ hK_=>?_);exact undecI))
      refine unG hK_ ?_;clear hK_ K_;obtain ⟨H⟩:=HF11;replace H:=iteB H;rcases H with ⟨rfl,H⟩|⟨rfl,H⟩
      ·(first|refine iteT ?_|refine iteF ?_|skip)
       replace H:=bindA H;obtain ⟨t539,A14,H⟩:=H;have H':=A_ H;clear H;obtain ⟨_,_,_,_,_,_⟩:=cf3 BK537;(try ((with_reducible refine upS ?_);go_simp))
       go_wp2_with (first|(go_at_call 26;(with_reducible refine (impl_between.calls 0 ((rd_T45 l0 x13_1).f2) 3 t539 _ A14.out).mono ?_);rintro e w' ⟨rfl,⟨nd,rfl⟩⟩))
       go_meet
       case rel=>exact ⟨_,(!t539),zz7,H',⟨(zz53 HK1)⟩,⟨(zz26 BK537)⟩,⟨(zz1 HB GE537)⟩⟩
      ·(first|refine iteT ?_|refine iteF ?_|skip)
       have H':=A_ H;clear H;(try ((with_reducible refine upS ?_);go_simp))
       go_wp2
       go_meet
       case rel=>exact ⟨_,(true),zz7,H',⟨(zz53 HK1)⟩,⟨(zz26 BK537)⟩,⟨(zz1 HB GE537)⟩⟩
     case rest=>
      clear HC7;obtain ⟨kq,x28_6,rfl,HA,HJ6,BK537,HB⟩:=hcut;cases kq with
      | zero=>exact absurd HA.out (by simp [impl_looksOk.j1])
      | succ kj6=>
       obtain ⟨H⟩:=HA;simp only [impl_looksOk.j1] at H
       replace H:=iteB H;rcases H with ⟨rfl,H⟩|⟨rfl,H⟩
       ·obtain rfl:=sI H
        go_wp2
        go_ret
        exact ⟨zz5,(zz1 HB GE537)⟩
       ·replace H:=bindA H
        obtain ⟨t540,A17,H⟩:=H;have HF18:=A_ H;clear H;obtain ⟨_,_,_,_,_,_⟩:=cf3 BK537;go_upto_if 32 with (first|(refine gR 49 (some 31) Tryz.func49 (impl_isAddress.calls kj6 ((rd_T45 l0 x13_1).f1) t540 _ A17.out) ?_;rintro w20 hb;replace BK537:=A_ (bB (zz2 BK537) hb);replace HB:=A_ (bS (zz1 HB GE537) hb);(try clear hb)))
        obtain ⟨H⟩:=HF18;replace H:=iteB H;rcases H with ⟨rfl,H⟩|⟨rfl,H⟩
        ·have H':=A_ H
         clear H;obtain ⟨_,_,_,_,_,_⟩:=cf3 BK537;go_wp2
         go_roundg kj6
         case measure=>have:=HK1.out;have:=HJ6.out;omega
         case rel=>exact ⟨(((rd_T45 l0 x13_1).f0)),(wrap64 (x13_1+1)),zz7,zz7,H',⟨(zz60 HK1 HJ6)⟩,⟨(zz1 HB GE537)⟩⟩
        ·obtain rfl:=sI H
         go_wp2
         go_ret
         exact ⟨zz5,(zz1 HB GE537)⟩
    ·obtain rfl:=sI H
     go_wp2
     go_ret
     exact ⟨zz5,(zz0 HB)⟩
mutual
def impl_todoOk.l0:Nat→List ByteArray→List ByteArray→List (S87)→Int→Int→ByteArray→Int→Bool→List ByteArray→List (S81)→Int→Int→List (S87)→Option (Bool)
 | 0,_,_,_,_,_,_,_,_,_,_,_,_,_=>none
 | k+1,x1,x5,x17,x18,x19,x560000,x560001,x560002,x560003,x560004,x560005,x560006,x560007=>if x19 < x18 then (if 0≤x19 then (if x19 < (x17.length:Int) then ((impl_readAddress.f k ((rd_T87 x17 x19).f0)).bind fun bt563=>(if bt563.2.2.2.2=true then (if bt563.1.toList=x560000.toList then ((slices_Contains_string_string.f k x1 ((rd_T87 x17 x19).f0)).bind fun t571=>(impl_todoOk.j1 k x1 x5 x17 x18 x19 (!t571) x560000 x560001 x560002 x560003 x560004 x560005 x560006 x560007 ((rd_T87 x17 x19).f0) ((rd_T87 x17 x19).f1))) else (impl_todoOk.j1 k x1 x5 x17 x18 x19 true x560000 x560001 x560002 x560003 x560004 x560005 x560006 x560007 ((rd_T87 x17 x19).f0) ((rd_T87 x17 x19).f1))) else (impl_todoOk.j1 k x1 x5 x17 x18 x19 true x560000 x560001 x560002 x560003 x560004 x560005 x560006 x560007 ((rd_T87 x17 x19).f0) ((rd_T87 x17 x19).f1)))) else (none)) else (none)) else ((impl_allOnce.f k x5).bind fun t560=>(some t560))
def impl_todoOk.j1:Nat→List ByteArray→List ByteArray→List (S87)→Int→Int→Bool→ByteArray→Int→Bool→List ByteArray→List (S81)→Int→Int→List (S87)→ByteArray→Int→Option (Bool)
 | 0,_,_,_,_,_,_,_,_,_,_,_,_,_,_,_,_=>none
 | k+1,x1,x5,x17,x18,x19,x44,x560000,x560001,x560002,x560003,x560004,x560005,x560006,x560007,x563000,x563001=>if x44=true then (some false) else ((impl_between.f 0 x563001 2).bind fun t572=>(if t572=true then (if x5.length < 8796093022208 then (impl_todoOk.l0 k x1 (x5++[x563000]) x17 x18 (wrap64 (x19+1)) x560000 x560001 x560002 x560003 x560004 x560005 x560006 x560007) else (none)) else (some false)))
end
def impl_todoOk.f (k:Nat) (a0_0:ByteArray) (a0_1:Int) (a0_2:Bool) (l0_3:List ByteArray) (l0_4:List (S81)) (a0_5:Int) (a0_6:Int) (l0_7:List (S87)) (l1:List ByteArray):Option (Bool):=if (l0_7.length:Int) > (l1.length:Int) then (some false) else (impl_todoOk.l0 k l1 ([]:List ByteArray) l0_7 (l0_7.length:Int) 0 a0_0 a0_1 a0_2 l0_3 l0_4 a0_5 a0_6 l0_7)
theorem impl_todoOk.calls (k:Nat) (a0_0:ByteArray) (a0_1:Int) (a0_2:Bool) (A0_3:Option Addr) (c0_3:Nat) (l0_3:List ByteArray) (A0_4:Option Addr) (c0_4:Nat) (l0_4:List (S81)) (a0_5:Int) (a0_6:Int) (A0_7:Option Addr) (c0_7:Nat) (l0_7:List (S87)) (A1:Option Addr) (c1:Nat) (l1:List ByteArray) (r:Bool) (w:World) (hr0_3:Kd.C Kd.string w A0_3 l0_3.length l0_3) (hc0_3:l0_3.length≤c0_3) (hr0_4:Kd.C k81 w A0_4 l0_4.length l0_4) (hc0_4:l0_4.length≤c0_4) (hr0_7:Kd.C k87 w A0_7 l0_7.length l0_7) (hc0_7:l0_7.length≤c0_7) (hr1:Kd.C Kd.string w A1 l1.length l1) (hc1:l1.length≤c1) (h:impl_todoOk.f k a0_0 a0_1 a0_2 l0_3 l0_4 a0_5 a0_6 l0_7 l1=some r) :
  Calls Tryz.prog 30 #[.agg #[.string a0_0,.int .i64 a0_1,.bool a0_2,.slice A0_3 l0_3.length c0_3,.slice A0_4 l0_4.length c0_4,.int .i64 a0_5,.int .i64 a0_6,.slice A0_7 l0_7.length c0_7],.slice A1 l1.length c1] w fun e w'=>e=.returned (.bool r)∧Below w.heap.size w w':=by
 have hu56:=Tryz.underlying56;have hu87:=Tryz.underlying87;have hu75:=Tryz.underlying75;have HR0_3:=A_ hr0_3;have HC0_3:=A_ hc0_3;clear hr0_3 hc0_3;have HR0_4:=A_ hr0_4;have HC0_4:=A_ hc0_4;clear hr0_4 hc0_4;have HR0_7:=A_ hr0_7;have HC0_7:=A_ hc0_7;clear hr0_7 hc0_7;have HR1:=A_ hr1;have HC1:=A_ hc1;clear hr1 hc1;have HB:=A_ (Below.refl w.heap.size w);unfold impl_todoOk.f at h
 have H:=h;clear h;replace H:=iteE H;rcases H with ⟨c3,H⟩|⟨c3,H⟩
 ·have c3b0:=gtT c3
  have c3b1:decide (l1.length < l0_7.length)=true:=dT (Int.ofNat_lt.mp c3);clear c3;obtain rfl:=sI H;go_enter Tryz.func30,Tryz.ntmps30;go_wp2_with (first|(refine boxF 2 #[.string a0_0,.int .i64 a0_1,.bool a0_2,.slice A0_3 l0_3.length c0_3,.slice A0_4 l0_4.length c0_4,.int .i64 a0_5,.int .i64 a0_6,.slice A0_7 l0_7.length c0_7] 56 ?_;intro gb559 hg w4 BK559 hb;have GE559:=geB hg (zz0 HB);replace HB:=A_ (bS (zz0 HB) hb);clear hb hg;have hcz5_0:w4.cell? ⟨gb559,0,none⟩=some (.string a0_0):=(blk_cell BK559.out 0).trans rfl;have hcz5_1:w4.cell? ⟨gb559,1,none⟩=some (.int .i64 a0_1):=(blk_cell BK559.out 1).trans rfl;have hcz5_2:w4.cell? ⟨gb559,2,none⟩=some (.bool a0_2):=(blk_cell BK559.out 2).trans rfl;have hcz5_3:w4.cell? ⟨gb559,3,none⟩=some (.slice A0_3 l0_3.length c0_3):=(blk_cell BK559.out 3).trans rfl;have hcz5_4:w4.cell? ⟨gb559,4,none⟩=some (.slice A0_4 l0_4.length c0_4):=(blk_cell BK559.out 4).trans rfl;have hcz5_5:w4.cell? ⟨gb559,5,none⟩=some (.int .i64 a0_5):=(blk_cell BK559.out 5).trans rfl;have hcz5_6:w4.cell? ⟨gb559,6,none⟩=some (.int .i64 a0_6):=(blk_cell BK559.out 6).trans rfl;have hcz5_7:w4.cell? ⟨gb559,7,none⟩=some (.slice A0_7 l0_7.length c0_7):=(blk_cell BK559.out 7).trans rfl;have hfz5_0:=blk_frozen BK559.out 0;have hfz5_1:=blk_frozen BK559.out 1;have hfz5_2:=blk_frozen BK559.out 2;have hfz5_3:=blk_frozen BK559.out 3;have hfz5_4:=blk_frozen BK559.out 4;have hfz5_5:=blk_frozen BK559.out 5;have hfz5_6:=blk_frozen BK559.out 6;have hfz5_7:=blk_frozen BK559.out 7))
  go_ret
  exact ⟨zz5,(zz1 HB GE559)⟩
 ·have c3b0:=gtF c3
  have c3b1:decide (l1.length < l0_7.length)=false:=dF (fun h=>c3 (Int.ofNat_lt.mpr h));clear c3;have H':=A_ H;clear H;go_enter Tryz.func30,Tryz.ntmps30;go_wp2_with (first|(refine boxF 2 #[.string a0_0,.int .i64 a0_1,.bool a0_2,.slice A0_3 l0_3.length c0_3,.slice A0_4 l0_4.length c0_4,.int .i64 a0_5,.int .i64 a0_6,.slice A0_7 l0_7.length c0_7] 56 ?_;intro gb559 hg w6 BK559 hb;have GE559:=geB hg (zz0 HB);replace HB:=A_ (bS (zz0 HB) hb);clear hb hg;have hcz7_0:w6.cell? ⟨gb559,0,none⟩=some (.string a0_0):=(blk_cell BK559.out 0).trans rfl;have hcz7_1:w6.cell? ⟨gb559,1,none⟩=some (.int .i64 a0_1):=(blk_cell BK559.out 1).trans rfl;have hcz7_2:w6.cell? ⟨gb559,2,none⟩=some (.bool a0_2):=(blk_cell BK559.out 2).trans rfl;have hcz7_3:w6.cell? ⟨gb559,3,none⟩=some (.slice A0_3 l0_3.length c0_3):=(blk_cell BK559.out 3).trans rfl;have hcz7_4:w6.cell? ⟨gb559,4,none⟩=some (.slice A0_4 l0_4.length c0_4):=(blk_cell BK559.out 4).trans rfl;have hcz7_5:w6.cell? ⟨gb559,5,none⟩=some (.int .i64 a0_5):=(blk_cell BK559.out 5).trans rfl;have hcz7_6:w6.cell? ⟨gb559,6,none⟩=some (.int .i64 a0_6):=(blk_cell BK559.out 6).trans rfl;have hcz7_7:w6.cell? ⟨gb559,7,none⟩=some (.slice A0_7 l0_7.length c0_7):=(blk_cell BK559.out 7).trans rfl;have hfz7_0:=blk_frozen BK559.out 0;have hfz7_1:=blk_frozen BK559.out 1;have hfz7_2:=blk_frozen BK559.out 2;have hfz7_3:=blk_frozen BK559.out 3;have hfz7_4:=blk_frozen BK559.out 4;have hfz7_5:=blk_frozen BK559.out 5;have hfz7_6:=blk_frozen BK559.out 6;have hfz7_7:=blk_frozen BK559.out 7))
  go_loopg [5,19] k (fun kq v5 v19 w'=>∃ (x5_1:List ByteArray) (x19_1:Int),v19=.int .i64 x19_1∧Aside0 (impl_todoOk.l0 kq l1 x5_1 l0_7 (l0_7.length:Int) x19_1 a0_0 a0_1 a0_2 l0_3 l0_4 a0_5 a0_6 l0_7=some r)∧Aside0 (kq≤k)∧Aside0 (Kd.R Kd.string 9 w' w.heap.size (fun _=>True) v5 x5_1)∧Aside0 (w'.heap[gb559]?=some (.cells #[.string a0_0,.int .i64 a0_1,.bool a0_2,(.slice A0_3 l0_3.length c0_3),(.slice A0_4 l0_4.length c0_4),.int .i64 a0_5,.int .i64 a0_6,(.slice A0_7 l0_7.length c0_7)] 56 (0,0)))∧Aside0 (Below w.heap.size w w'))
  case atStart=>exact ⟨(([]:List ByteArray)),(0),zz7,H',⟨Nat.le_refl _⟩,⟨zz72⟩,⟨(zz2 BK559)⟩,⟨(zz1 HB GE559)⟩⟩
  case round=>
   clear H';obtain ⟨x5_1,x19_1,rfl,HA,HK1,HO_5,BK559,HB⟩:=hrel;cases gk with
   | zero=>exact absurd HA.out (by simp [impl_todoOk.l0])
   | succ k1=>
    obtain ⟨H⟩:=HA;simp only [impl_todoOk.l0] at H
    replace H:=iteEd H;rcases H with ⟨c8b0,H⟩|⟨c8b0,H⟩
    ·replace H:=iteNd H
     obtain ⟨c9b0,H⟩:=H;replace H:=iteNd H;obtain ⟨c10b0,H⟩:=H;replace H:=bindA H;obtain ⟨⟨t563,t564,t567,t568,t569⟩,A11,H⟩:=H;try dsimp only at H
     have HC12:=A_ H;clear H;obtain ⟨⟨ad561,e561,hx561_0,hx561_1⟩,p561,q561⟩:=atB (at_T87 HR0_7.out x19_1);cases e561
     obtain ⟨hx561_0,hx561_1⟩:=cb2 HB hx561_0 hx561_1;go_upto_region 8 with (first|(refine boxF 7 #[.string (⟨#[]⟩:ByteArray),.int .i64 0] 87 ?_;intro gb562 hg w13 BK562 hb;replace HO_5:=A_ (rB (zz12 HO_5) hb);have GE562:=geB hg (zz1 HB GE559);replace HB:=A_ (bS (zz1 HB GE559) hb);have NB559_562:=A_ ((by rw [hg];exact Nat.ne_of_lt (blk_lt (zz2 BK559)):gb559≠gb562));have NB562_559:=A_ ((by rw [hg];exact Nat.ne_of_gt (blk_lt (zz2 BK559)):gb562≠gb559));replace BK559:=A_ (bB (zz2 BK559) hb);clear hb hg;have hnb14:=NB562_559.out;have hnc14:=NB559_562.out;obtain ⟨_,_,_,_⟩:=cf2 BK562)|(refine gV 52 (some 26) Tryz.func52 (impl_readAddress.calls k1 ((rd_T87 l0_7 x19_1).f0) t563 t564 t567 t568 t569 _ A11.out) ?_;rintro v565 w16 ⟨ho0,hb⟩;have HO566:=A_ (Kd.R_lower (Kd.R_new' ho0 (Kd.R_lt (zz178 HO_5 BK562))) (below_size (zz3 HB GE559 GE562)));replace HO_5:=A_ (Kd.R_elder' (zz178 HO_5 BK562) (Kd.R_base ho0) hb);replace BK559:=A_ (bB (g:=gb559) (o:=.cells #[.string a0_0,.int .i64 a0_1,.bool a0_2,.slice A0_3 l0_3.length c0_3,.slice A0_4 l0_4.length c0_4,.int .i64 a0_5,.int .i64 a0_6,.slice (some ad561) l0_7.length c0_7] 56 (0,0)) (zz4 BK559 NB559_562) hb);replace BK562:=A_ (bB (g:=gb562) (o:=.cells #[.string ((rd_T87 l0_7 x19_1).f0),.int .i64 ((rd_T87 l0_7 x19_1).f1)] 87 (0,0)) (zz30 BK562) hb);replace HB:=A_ (bS (zz3 HB GE559 GE562) hb);(try clear hb ho0))|(refine boxF 8 #[.string (⟨#[]⟩:ByteArray),.slice none 0 0,.bool false,.string (⟨#[]⟩:ByteArray)] 75 ?_;intro gb570 hg w17 BK570 hb;replace HO_5:=A_ (rB (zz12 HO_5) hb);replace HO566:=A_ (rB (zz12 HO566) hb);have GE570:=geB hg (zz3 HB GE559 GE562);replace HB:=A_ (bS (zz3 HB GE559 GE562) hb);have NB559_570:=A_ ((by rw [hg];exact Nat.ne_of_lt (blk_lt (zz2 BK559)):gb559≠gb570));have NB570_559:=A_ ((by rw [hg];exact Nat.ne_of_gt (blk_lt (zz2 BK559)):gb570≠gb559));replace BK559:=A_ (bB (zz2 BK559) hb);have NB562_570:=A_ ((by rw [hg];exact Nat.ne_of_lt (blk_lt (zz2 BK562)):gb562≠gb570));have NB570_562:=A_ ((by rw [hg];exact Nat.ne_of_gt (blk_lt (zz2 BK562)):gb570≠gb562));replace BK562:=A_ (bB (zz2 BK562) hb);clear hb hg;have hnb18:=NB570_559.out;have hnc18:=NB559_570.out;have hnb19:=NB570_562.out;have hnc19:=NB562_570.out;obtain ⟨_,_,_,_,_,_,_,_⟩:=cf4 BK570;obtain ⟨Ao21,co21,eo21⟩:=Kd.R_slice HO566.out;subst eo21))
     (try simp only [Act.put,List.setIfInBounds_toArray,List.set_cons_zero,List.set_cons_succ])
     go_cut [44] (fun v44 wc=>∃ (kq:Nat) (x44_11:Bool),v44=.bool x44_11∧Aside0 (impl_todoOk.j1 kq l1 x5_1 l0_7 (l0_7.length:Int) x19_1 x44_11 a0_0 a0_1 a0_2 l0_3 l0_4 a0_5 a0_6 l0_7 ((rd_T87 l0_7 x19_1).f0) ((rd_T87 l0_7 x19_1).f1)=some r)∧Aside0 (kq≤k1)∧Aside0 (Kd.R Kd.string 9 wc w.heap.size (fun k_=>some k_≠((.slice Ao21 t564.length co21):Value).ownBlock) u5 x5_1)∧Aside0 (Kd.R Kd.string 9 wc w.heap.size (fun k_=>some k_≠(u5:Value).ownBlock) (.slice Ao21 t564.length co21) t564)∧Aside0 (wc.heap[gb559]?=some (.cells #[.string a0_0,.int .i64 a0_1,.bool a0_2,(.slice A0_3 l0_3.length c0_3),(.slice A0_4 l0_4.length c0_4),.int .i64 a0_5,.int .i64 a0_6,(.slice (some ad561) l0_7.length c0_7)] 56 (0,0)))∧Aside0 (wc.heap[gb562]?=some (.cells #[.string ((rd_T87 l0_7 x19_1).f0),.int .i64 ((rd_T87 l0_7 x19_1).f1)] 87 (0,0)))∧Aside0 (wc.heap[gb570]?=some (.cells #[.string t563,(.slice Ao21 t564.length co21),.bool t567,.string t568] 75 (0,0)))∧Aside0 (Below w.heap.size w wc))
     case first=>
      obtain ⟨H⟩:=HC12;replace H:=iteB H;rcases H with ⟨rfl,H⟩|⟨rfl,H⟩
      ·replace H:=iteE H
       rcases H with ⟨c23,H⟩|⟨c23,H⟩
       ·obtain ⟨c23b0,c23b1⟩:=eqT c23
        clear c23;(first|rw [c23b0]|(simp only [i64_w,i32_w];rw [c23b0])|skip)
        replace H:=bindA H;obtain ⟨t571,A24,H⟩:=H;have H':=A_ H;clear H;have hnb25:=NB570_559.out;have hnc25:=NB559_570.out;have hnb26:=NB570_562.out;have hnc26:=NB562_570.out;obtain ⟨_,_,_,_,_,_,_,_⟩:=cf4 BK570;have hnb28:=NB559_562.out;have hnc28:=NB562_559.out;have hcz29_0:w17.cell? ⟨gb559,0,none⟩=some (.string a0_0):=(blk_cell BK559.out 0).trans rfl;have hcz29_1:w17.cell? ⟨gb559,1,none⟩=some (.int .i64 a0_1):=(blk_cell BK559.out 1).trans rfl;have hcz29_2:w17.cell? ⟨gb559,2,none⟩=some (.bool a0_2):=(blk_cell BK559.out 2).trans rfl;have hcz29_3:w17.cell? ⟨gb559,3,none⟩=some (.slice A0_3 l0_3.length c0_3):=(blk_cell BK559.out 3).trans rfl;have hcz29_4:w17.cell? ⟨gb559,4,none⟩=some (.slice A0_4 l0_4.length c0_4):=(blk_cell BK559.out 4).trans rfl;have hcz29_5:w17.cell? ⟨gb559,5,none⟩=some (.int .i64 a0_5):=(blk_cell BK559.out 5).trans rfl;have hcz29_6:w17.cell? ⟨gb559,6,none⟩=some (.int .i64 a0_6):=(blk_cell BK559.out 6).trans rfl;have hcz29_7:w17.cell? ⟨gb559,7,none⟩=some (.slice (some ad561) l0_7.length c0_7):=(blk_cell BK559.out 7).trans rfl;have hfz29_0:=blk_frozen BK559.out 0;have hfz29_1:=blk_frozen BK559.out 1;have hfz29_2:=blk_frozen BK559.out 2;have hfz29_3:=blk_frozen BK559.out 3;have hfz29_4:=blk_frozen BK559.out 4;have hfz29_5:=blk_frozen BK559.out 5;have hfz29_6:=blk_frozen BK559.out 6;have hfz29_7:=blk_frozen BK559.out 7;obtain ⟨_,_,_,_⟩:=cf2 BK562;go_wp2_with (first|(go_at_call 53;(with_reducible refine (slices_Contains_string_string.calls k1 _ _ l1 ((rd_T87 l0_7 x19_1).f0) t571 _ ?side1 ?side2 A24.out).mono ?_);(case side1=>exact Kd.C_below HR1.out (zz6 HB GE559 GE562 GE570));(case side2=>exact HC1.out);rintro e w' ⟨rfl,⟨nd,rfl⟩⟩))
        go_meet
        case rel=>exact ⟨_,(!t571),zz7,H',⟨(zz53 HK1)⟩,⟨(zz24 (rt HO_5 BK570))⟩,⟨(zz24 (rt HO566 BK570))⟩,⟨(zz4 BK559 NB559_570)⟩,⟨(zz4 BK562 NB562_570)⟩,⟨(zz87 BK570)⟩,⟨(zz6 HB GE559 GE562 GE570)⟩⟩
       ·obtain ⟨c23b0,c23b1⟩:=eqF c23
        (first|rw [c23b0]|(simp only [i64_w,i32_w];rw [c23b0])|skip)
        have H':=A_ H;clear H;have hnb31:=NB570_559.out;have hnc31:=NB559_570.out;have hnb32:=NB570_562.out;have hnc32:=NB562_570.out;obtain ⟨_,_,_,_,_,_,_,_⟩:=cf4 BK570;have hnb34:=NB559_562.out;have hnc34:=NB562_559.out;have hcz35_0:w17.cell? ⟨gb559,0,none⟩=some (.string a0_0):=(blk_cell BK559.out 0).trans rfl;have hcz35_1:w17.cell? ⟨gb559,1,none⟩=some (.int .i64 a0_1):=(blk_cell BK559.out 1).trans rfl;have hcz35_2:w17.cell? ⟨gb559,2,none⟩=some (.bool a0_2):=(blk_cell BK559.out 2).trans rfl;have hcz35_3:w17.cell? ⟨gb559,3,none⟩=some (.slice A0_3 l0_3.length c0_3):=(blk_cell BK559.out 3).trans rfl;have hcz35_4:w17.cell? ⟨gb559,4,none⟩=some (.slice A0_4 l0_4.length c0_4):=(blk_cell BK559.out 4).trans rfl;have hcz35_5:w17.cell? ⟨gb559,5,none⟩=some (.int .i64 a0_5):=(blk_cell BK559.out 5).trans rfl;have hcz35_6:w17.cell? ⟨gb559,6,none⟩=some (.int .i64 a0_6):=(blk_cell BK559.out 6).trans rfl;have hcz35_7:w17.cell? ⟨gb559,7,none⟩=some (.slice (some ad561) l0_7.length c0_7):=(blk_cell BK559.out 7).trans rfl;have hfz35_0:=blk_frozen BK559.out 0;have hfz35_1:=blk_frozen BK559.out 1;have hfz35_2:=blk_frozen BK559.out 2;have hfz35_3:=blk_frozen BK559.out 3;have hfz35_4:=blk_frozen BK559.out 4;have hfz35_5:=blk_frozen BK559.out 5;have hfz35_6:=blk_frozen BK559.out 6;have hfz35_7:=blk_frozen BK559.out 7;go_wp2
        go_meet
        case rel=>exact ⟨_,(true),zz7,H',⟨(zz53 HK1)⟩,⟨(zz24 (rt HO_5 BK570))⟩,⟨(zz24 (rt HO566 BK570))⟩,⟨(zz4 BK559 NB559_570)⟩,⟨(zz4 BK562 NB562_570)⟩,⟨(zz87 BK570)⟩,⟨(zz6 HB GE559 GE562 GE570)⟩⟩
      ·have H':=A_ H
       clear H;go_wp2
       go_meet
       case rel=>exact ⟨_,(true),zz7,H',⟨(zz53 HK1)⟩,⟨(zz24 (rt HO_5 BK570))⟩,⟨(zz24 (rt HO566 BK570))⟩,⟨(zz4 BK559 NB559_570)⟩,⟨(zz4 BK562 NB562_570)⟩,⟨(zz87 BK570)⟩,⟨(zz6 HB GE559 GE562 GE570)⟩⟩
     case rest=>
      clear HC12;obtain ⟨kq,x44_11,rfl,HA,HJ11,HO_5,HO_571001,BK559,BK562,BK570,HB⟩:=hcut;cases kq with
      | zero=>exact absurd HA.out (by simp [impl_todoOk.j1])
      | succ kj11=>
       obtain ⟨H⟩:=HA;simp only [impl_todoOk.j1] at H
       replace H:=iteB H;rcases H with ⟨rfl,H⟩|⟨rfl,H⟩
       ·obtain rfl:=sI H
        go_wp2
        go_ret
        exact ⟨zz5,(zz6 HB GE559 GE562 GE570)⟩
       ·replace H:=bindA H
        obtain ⟨t572,A37,H⟩:=H;replace H:=iteB H;rcases H with ⟨rfl,H⟩|⟨rfl,H⟩
        ·replace H:=iteN H
         obtain ⟨c39,H⟩:=H;have LMc39:=A_ c39;clear c39;obtain ⟨y573,Ny573⟩:=toY (x5_1++[((rd_T87 l0_7 x19_1).f0)]);(first|with_reducible replace H:=bindZ Ny573 H|rw [← Ny573.out] at H|skip)
         have H':=A_ H;clear H;have hnb40:=NB562_559.out;have hnc40:=NB559_562.out;have hnb41:=NB562_570.out;have hnc41:=NB570_562.out;obtain ⟨_,_,_,_⟩:=cf2 BK562;go_wp2_with (first|(refine gR 26 (some 47) Tryz.func26 (impl_between.calls 0 ((rd_T87 l0_7 x19_1).f1) 2 true _ A37.out) ?_;rintro w' ⟨nd,rfl⟩)|((with_reducible refine gate_builtin (b:=.append) (xs:=#[.tmp 49,.tmp 52]) rfl ?_);at_builtin;refine Kd.R_append Kd.string (w0:=w) w.heap.size rfl (.tmp 49) (.tmp 52) 23 9 (.string ⟨#[]⟩) 16 rfl Tryz.underlying23 info9 rfl (by decide) (by omega) u5 x5_1 ((rd_T87 l0_7 x19_1).f0) [.string ((rd_T87 l0_7 x19_1).f0)] (fun k_=>some k_≠(.slice Ao21 t564.length co21:Value).ownBlock) (fun _=>False) rfl rfl ?aP (fun _ hk=>hk.elim) ?aF ?aO ?aB ?aS ?aL ?_;(case aP=>exact rfl);(case aB=>exact (zz6 HB GE559 GE562 GE570));(case aF=>exact (fun k_ hk=>Kd.fresh' (Kd.R_lt (zz12 HO_571001)) k_ hk));(case aO=>exact (zz12 HO_5));(case aS=>exact (below_size (zz6 HB GE559 GE562 GE570)));(case aL=>exact (zz17 LMc39));intro v574 w43 ho hb hg hat;rw [← Ny573.out] at ho;replace HO_571001:=A_ (Kd.R_after (ok:=(fun _=>True)) (zz86 HO_571001) hg hat);replace BK559:=A_ (blk_grown (zz2 BK559) hg (Kd.R_ne HO_5.out BK559.out (by decide)));replace BK562:=A_ (blk_grown (zz2 BK562) hg (Kd.R_ne HO_5.out BK562.out (by decide)));replace BK570:=A_ (blk_grown (zz2 BK570) hg (Kd.R_ne HO_5.out BK570.out (by decide)));replace HB:=A_ (hb);have HO575:=A_ (ho);clear HO_5;clear ho hb hg hat))
         go_roundg kj11
         case measure=>have:=HK1.out;have:=HJ11.out;omega
         case rel=>exact ⟨(y573),(wrap64 (x19_1+1)),zz7,H',⟨(zz60 HK1 HJ11)⟩,⟨(zz151 HO575)⟩,⟨(zz2 BK559)⟩,⟨(zz6 HB GE559 GE562 GE570)⟩⟩
        ·obtain rfl:=sI H
         have hnb44:=NB562_559.out;have hnc44:=NB559_562.out;have hnb45:=NB562_570.out;have hnc45:=NB570_562.out;obtain ⟨_,_,_,_⟩:=cf2 BK562;go_wp2_with (first|(refine gR 26 (some 47) Tryz.func26 (impl_between.calls 0 ((rd_T87 l0_7 x19_1).f1) 2 false _ A37.out) ?_;rintro w' ⟨nd,rfl⟩))
         go_ret
         exact ⟨zz5,(zz6 HB GE559 GE562 GE570)⟩
    ·replace H:=bindA H
     obtain ⟨t560,A47,H⟩:=H;obtain rfl:=sI H;obtain ⟨Ao48,co48,eo48⟩:=Kd.R_slice HO_5.out;subst eo48;go_wp2_with (first|(refine gR 31 (some 56) Tryz.func31 (impl_allOnce.calls k1 _ _ x5_1 t560 _ ?side1 ?side2 A47.out) ?_;(case side1=>exact (zz88 HO_5));(case side2=>exact (Kd.R_reads' HO_5.out).2.1);rintro w49 hb;replace HO_5:=A_ (rB (zz12 HO_5) hb);replace BK559:=A_ (bB (zz2 BK559) hb);replace HB:=A_ (bS (zz1 HB GE559) hb);(try clear hb)))
     go_ret
     exact ⟨zz5,(zz1 HB GE559)⟩
mutual
def impl_TripOk.j0:Nat→Bool→ByteArray→Int→List (S56)→List ByteArray→List (S45)→Option (Bool)
 | 0,_,_,_,_,_,_=>none
 | k+1,x15,x577000,x577001,x577002,x577003,x577004=>if x15=true then (some false) else ((impl_seenOk.f k x577003).bind fun t579=>(if t579=true then ((impl_looksOk.f k x577004 x577001).bind fun t580=>(impl_TripOk.j1 k (!t580) x577000 x577001 x577002 x577003 x577004)) else (impl_TripOk.j1 k true x577000 x577001 x577002 x577003 x577004)))
def impl_TripOk.j1:Nat→Bool→ByteArray→Int→List (S56)→List ByteArray→List (S45)→Option (Bool)
 | 0,_,_,_,_,_,_=>none
 | k+1,x27,x577000,x577001,x577002,x577003,x577004=>if x27=true then (some false) else (impl_TripOk.l0 k ([]:List ByteArray) x577002 (x577002.length:Int) 0 x577000 x577001 x577002 x577003 x577004)
def impl_TripOk.l0:Nat→List ByteArray→List (S56)→Int→Int→ByteArray→Int→List (S56)→List ByteArray→List (S45)→Option (Bool)
 | 0,_,_,_,_,_,_,_,_,_=>none
 | k+1,x3,x29,x30,x31,x577000,x577001,x577002,x577003,x577004=>if x31 < x30 then (if 0≤x31 then (if x31 < (x29.length:Int) then ((impl_houseOk.f k ((rd_T56 x29 x31).f0) ((rd_T56 x29 x31).f1) ((rd_T56 x29 x31).f2) ((rd_T56 x29 x31).f3.f0) ((rd_T56 x29 x31).f3.f1) ((rd_T56 x29 x31).f3.f2) ((rd_T56 x29 x31).f4) ((rd_T56 x29 x31).f5) x577000).bind fun t584=>(if t584=true then ((impl_todoOk.f k ((rd_T56 x29 x31).f0) ((rd_T56 x29 x31).f1) ((rd_T56 x29 x31).f2) ((rd_T56 x29 x31).f3.f0) ((rd_T56 x29 x31).f3.f1) ((rd_T56 x29 x31).f3.f2) ((rd_T56 x29 x31).f4) ((rd_T56 x29 x31).f5) x577003).bind fun t585=>(if t585=true then (if x3.length < 8796093022208 then (impl_TripOk.l0 k (x3++[(rd_T56 x29 x31).f0]) x29 x30 (wrap64 (x31+1)) x577000 x577001 x577002 x577003 x577004) else (none)) else (some false))) else (some false))) else (none)) else (none)) else ((impl_allOnce.f k x3).bind fun t581=>(some t581))
end
def impl_TripOk.f (k:Nat) (a0_0:ByteArray) (a0_1:Int) (l0_2:List (S56)) (l0_3:List ByteArray) (l0_4:List (S45)):Option (Bool):=(impl_isName.f k a0_0).bind fun t577=>(if t577=true then ((impl_between.f 0 a0_1 5000).bind fun t578=>(impl_TripOk.j0 k (!t578) a0_0 a0_1 l0_2 l0_3 l0_4)) else (impl_TripOk.j0 k true a0_0 a0_1 l0_2 l0_3 l0_4))
theorem impl_TripOk.calls (k:Nat) (a0_0:ByteArray) (a0_1:Int) (A0_2:Option Addr) (c0_2:Nat) (l0_2:List (S56)) (A0_3:Option Addr) (c0_3:Nat) (l0_3:List ByteArray) (A0_4:Option Addr) (c0_4:Nat) (l0_4:List (S45)) (r:Bool) (w:World) (hr0_2:Kd.C k56 w A0_2 l0_2.length l0_2) (hc0_2:l0_2.length≤c0_2) (hr0_3:Kd.C Kd.string w A0_3 l0_3.length l0_3) (hc0_3:l0_3.length≤c0_3) (hr0_4:Kd.C k45 w A0_4 l0_4.length l0_4) (hc0_4:l0_4.length≤c0_4) (h:impl_TripOk.f k a0_0 a0_1 l0_2 l0_3 l0_4=some r) :
  Calls Tryz.prog 9 #[.agg #[.string a0_0,.int .i64 a0_1,.slice A0_2 l0_2.length c0_2,.slice A0_3 l0_3.length c0_3,.slice A0_4 l0_4.length c0_4]] w fun e w'=>e=.returned (.bool r)∧Below w.heap.size w w':=by
 have hu32:=Tryz.underlying32;have hu56:=Tryz.underlying56;have HR0_2:=A_ hr0_2;have HC0_2:=A_ hc0_2;clear hr0_2 hc0_2;have HR0_3:=A_ hr0_3;have HC0_3:=A_ hc0_3;clear hr0_3 hc0_3;have HR0_4:=A_ hr0_4;have HC0_4:=A_ hc0_4;clear hr0_4 hc0_4;have HB:=A_ (Below.refl w.heap.size w);unfold impl_TripOk.f at h
 have H:=h;clear h;have HC2:=A_ H;clear H;go_enter Tryz.func9,Tryz.ntmps9;go_upto_region 1 with (first|(refine boxF 1 #[.string a0_0,.int .i64 a0_1,.slice A0_2 l0_2.length c0_2,.slice A0_3 l0_3.length c0_3,.slice A0_4 l0_4.length c0_4] 32 ?_;intro gb576 hg w3 BK576 hb;have GE576:=geB hg (zz0 HB);replace HB:=A_ (bS (zz0 HB) hb);clear hb hg))
 (try simp only [Act.put,List.setIfInBounds_toArray,List.set_cons_zero,List.set_cons_succ])
 go_cut [15] (fun v15 wc=>∃ (kq:Nat) (x15_1:Bool),v15=.bool x15_1∧Aside0 (impl_TripOk.j0 kq x15_1 a0_0 a0_1 l0_2 l0_3 l0_4=some r)∧Aside0 (kq≤k)∧Aside0 (wc.heap[gb576]?=some (.cells #[.string a0_0,.int .i64 a0_1,(.slice A0_2 l0_2.length c0_2),(.slice A0_3 l0_3.length c0_3),(.slice A0_4 l0_4.length c0_4)] 32 (0,0)))∧Aside0 (Below w.heap.size w wc))
 case first=>
  obtain ⟨H⟩:=HC2;replace H:=bindA H;obtain ⟨t577,A4,H⟩:=H;have HF5:=A_ H;clear H;obtain ⟨_,_,_,_,_,_,_,_,_,_⟩:=cf5 BK576;go_wp2_with (first|(refine gR 25 (some 8) Tryz.func25 (impl_isName.calls k a0_0 t577 _ A4.out) ?_;rintro w' ⟨nd,rfl⟩)|((with_reducible refine atG ?_ ?_ fun K_ hK_=>?_);rfl;exact undecG)|((with_reducible refine atI ?_ fun K_ hK_=>?_);exact undecI))
  refine unG hK_ ?_;clear hK_ K_;obtain ⟨H⟩:=HF5;replace H:=iteB H;rcases H with ⟨rfl,H⟩|⟨rfl,H⟩
  ·(first|refine iteT ?_|refine iteF ?_|skip)
   replace H:=bindA H;obtain ⟨t578,A8,H⟩:=H;have H':=A_ H;clear H;obtain ⟨_,_,_,_,_,_,_,_,_,_⟩:=cf5 BK576;(try ((with_reducible refine upS ?_);go_simp))
   go_wp2_with (first|(go_at_call 26;(with_reducible refine (impl_between.calls 0 a0_1 5000 t578 _ A8.out).mono ?_);rintro e w' ⟨rfl,⟨nd,rfl⟩⟩))
   go_meet
   case rel=>exact ⟨_,(!t578),zz7,H',⟨zz51⟩,⟨(zz2 BK576)⟩,⟨(zz1 HB GE576)⟩⟩
  ·(first|refine iteT ?_|refine iteF ?_|skip)
   have H':=A_ H;clear H;(try ((with_reducible refine upS ?_);go_simp))
   go_wp2
   go_meet
   case rel=>exact ⟨_,(true),zz7,H',⟨zz51⟩,⟨(zz2 BK576)⟩,⟨(zz1 HB GE576)⟩⟩
 case rest=>
  clear HC2;obtain ⟨kq,x15_1,rfl,HA,HJ1,BK576,HB⟩:=hcut;cases kq with
  | zero=>exact absurd HA.out (by simp [impl_TripOk.j0])
  | succ kj1=>
   obtain ⟨H⟩:=HA;simp only [impl_TripOk.j0] at H
   replace H:=iteB H;rcases H with ⟨rfl,H⟩|⟨rfl,H⟩
   ·obtain rfl:=sI H
    go_wp2
    go_ret
    exact ⟨zz5,(zz1 HB GE576)⟩
   ·have HC11:=A_ H
    clear H;go_upto_region 3 with (fail)
    go_cut [27] (fun v27 wc=>∃ (kq:Nat) (x27_10:Bool),v27=.bool x27_10∧Aside0 (impl_TripOk.j1 kq x27_10 a0_0 a0_1 l0_2 l0_3 l0_4=some r)∧Aside0 (kq≤kj1)∧Aside0 (wc.heap[gb576]?=some (.cells #[.string a0_0,.int .i64 a0_1,(.slice A0_2 l0_2.length c0_2),(.slice A0_3 l0_3.length c0_3),(.slice A0_4 l0_4.length c0_4)] 32 (0,0)))∧Aside0 (Below w.heap.size w wc))
    case first=>
     obtain ⟨H⟩:=HC11;replace H:=bindA H;obtain ⟨t579,A12,H⟩:=H;have HF13:=A_ H;clear H;obtain ⟨_,_,_,_,_,_,_,_,_,_⟩:=cf5 BK576;go_wp2_with (first|(refine gR 27 (some 18) Tryz.func27 (impl_seenOk.calls kj1 _ _ l0_3 t579 _ ?side1 ?side2 A12.out) ?_;(case side1=>exact (zz21 HR0_3 HB));(case side2=>exact HC0_3.out);rintro w15 hb;replace BK576:=A_ (bB (zz2 BK576) hb);replace HB:=A_ (bS (zz1 HB GE576) hb);(try clear hb))|((with_reducible refine atG ?_ ?_ fun K_ hK_=>?_);rfl;exact undecG)|((with_reducible refine atI ?_ fun K_ hK_=>?_);exact undecI))
     refine unG hK_ ?_;clear hK_ K_;obtain ⟨H⟩:=HF13;replace H:=iteB H;rcases H with ⟨rfl,H⟩|⟨rfl,H⟩
     ·(first|refine iteT ?_|refine iteF ?_|skip)
      replace H:=bindA H;obtain ⟨t580,A17,H⟩:=H;have H':=A_ H;clear H;obtain ⟨_,_,_,_,_,_,_,_,_,_⟩:=cf5 BK576;(try ((with_reducible refine upS ?_);go_simp))
      go_wp2_with (first|(go_at_call 28;(with_reducible refine (impl_looksOk.calls kj1 _ _ l0_4 a0_1 t580 _ ?side1 ?side2 A17.out).mono ?_);(case side1=>exact (zz21 HR0_4 HB));(case side2=>exact HC0_4.out);rintro e w19 ⟨rfl,hb⟩;replace BK576:=A_ (bB (zz2 BK576) hb);replace HB:=A_ (bS (zz1 HB GE576) hb);(try clear hb)))
      go_meet
      case rel=>exact ⟨_,(!t580),zz7,H',⟨(zz53 HJ1)⟩,⟨(zz2 BK576)⟩,⟨(zz1 HB GE576)⟩⟩
     ·(first|refine iteT ?_|refine iteF ?_|skip)
      have H':=A_ H;clear H;(try ((with_reducible refine upS ?_);go_simp))
      go_wp2
      go_meet
      case rel=>exact ⟨_,(true),zz7,H',⟨(zz53 HJ1)⟩,⟨(zz2 BK576)⟩,⟨(zz1 HB GE576)⟩⟩
    case rest=>
     clear HC11;obtain ⟨kq,x27_10,rfl,HA,HJ10,BK576,HB⟩:=hcut;cases kq with
     | zero=>exact absurd HA.out (by simp [impl_TripOk.j1])
     | succ kj10=>
      obtain ⟨H⟩:=HA;simp only [impl_TripOk.j1] at H
      replace H:=iteB H;rcases H with ⟨rfl,H⟩|⟨rfl,H⟩
      ·obtain rfl:=sI H
       go_wp2
       go_ret
       exact ⟨zz5,(zz1 HB GE576)⟩
      ·have H':=A_ H
       clear H;obtain ⟨_,_,_,_,_,_,_,_,_,_⟩:=cf5 BK576;go_wp2
       go_loopg [3,31] kj10 (fun kq v3 v31 w'=>∃ (x3_3:List ByteArray) (x31_3:Int),v31=.int .i64 x31_3∧Aside0 (impl_TripOk.l0 kq x3_3 l0_2 (l0_2.length:Int) x31_3 a0_0 a0_1 l0_2 l0_3 l0_4=some r)∧Aside0 (kq≤kj10)∧Aside0 (Kd.R Kd.string 9 w' w.heap.size (fun _=>True) v3 x3_3)∧Aside0 (w'.heap[gb576]?=some (.cells #[.string a0_0,.int .i64 a0_1,(.slice A0_2 l0_2.length c0_2),(.slice A0_3 l0_3.length c0_3),(.slice A0_4 l0_4.length c0_4)] 32 (0,0)))∧Aside0 (Below w.heap.size w w'))
       case atStart=>exact ⟨(([]:List ByteArray)),(0),zz7,H',⟨Nat.le_refl _⟩,⟨zz72⟩,⟨(zz2 BK576)⟩,⟨(zz1 HB GE576)⟩⟩
       case round=>
        clear H';obtain ⟨x3_3,x31_3,rfl,HA,HK3,HO_3,BK576,HB⟩:=hrel;cases gk with
        | zero=>exact absurd HA.out (by simp [impl_TripOk.l0])
        | succ k3=>
         obtain ⟨H⟩:=HA;simp only [impl_TripOk.l0] at H
         replace H:=iteEd H;rcases H with ⟨c22b0,H⟩|⟨c22b0,H⟩
         ·replace H:=iteNd H
          obtain ⟨c23b0,H⟩:=H;replace H:=iteNd H;obtain ⟨c24b0,H⟩:=H;replace H:=bindA H;obtain ⟨t584,A25,H⟩:=H;have HF26:=A_ H;clear H;obtain ⟨⟨ad582,A582_3,c582_3,A582_4,c582_4,A582_7,c582_7,e582,hx582_0,hx582_1,hx582_2,hx582_3,hx582_4,hx582_5,hx582_6,hx582_7,hl582_3,hi582_3,hl582_4,hi582_4,hl582_7,hi582_7⟩,p582,q582⟩:=atB (at_T56 HR0_2.out x31_3);cases e582
          obtain ⟨hx582_0,hx582_1,hx582_2,hx582_3⟩:=cb4 HB hx582_0 hx582_1 hx582_2 hx582_3;obtain ⟨hx582_4,hx582_5,hx582_6,hx582_7⟩:=cb4 HB hx582_4 hx582_5 hx582_6 hx582_7;have HR582_3:=A_ hi582_3;have HC582_3:=A_ hl582_3;clear hi582_3 hl582_3;have HR582_4:=A_ hi582_4;have HC582_4:=A_ hl582_4;clear hi582_4 hl582_4;have HR582_7:=A_ hi582_7;have HC582_7:=A_ hl582_7;clear hi582_7 hl582_7;go_wp2_with (first|(refine boxF 5 #[.string (⟨#[]⟩:ByteArray),.int .i64 0,.bool false,.slice none 0 0,.slice none 0 0,.int .i64 0,.int .i64 0,.slice none 0 0] 56 ?_;intro gb583 hg w27 BK583 hb;replace HO_3:=A_ (rB (zz12 HO_3) hb);have GE583:=geB hg (zz1 HB GE576);replace HB:=A_ (bS (zz1 HB GE576) hb);have NB576_583:=A_ ((by rw [hg];exact Nat.ne_of_lt (blk_lt (zz2 BK576)):gb576≠gb583));have NB583_576:=A_ ((by rw [hg];exact Nat.ne_of_gt (blk_lt (zz2 BK576)):gb583≠gb576));replace BK576:=A_ (bB (zz2 BK576) hb);clear hb hg;have hnb28:=NB583_576.out;have hnc28:=NB576_583.out;have hcz29_0:w27.cell? ⟨gb583,0,none⟩=some (.string (⟨#[]⟩:ByteArray)):=(blk_cell BK583.out 0).trans rfl;have hcz29_1:w27.cell? ⟨gb583,1,none⟩=some (.int .i64 0):=(blk_cell BK583.out 1).trans rfl;have hcz29_2:w27.cell? ⟨gb583,2,none⟩=some (.bool false):=(blk_cell BK583.out 2).trans rfl;have hcz29_3:w27.cell? ⟨gb583,3,none⟩=some (.slice none 0 0):=(blk_cell BK583.out 3).trans rfl;have hcz29_4:w27.cell? ⟨gb583,4,none⟩=some (.slice none 0 0):=(blk_cell BK583.out 4).trans rfl;have hcz29_5:w27.cell? ⟨gb583,5,none⟩=some (.int .i64 0):=(blk_cell BK583.out 5).trans rfl;have hcz29_6:w27.cell? ⟨gb583,6,none⟩=some (.int .i64 0):=(blk_cell BK583.out 6).trans rfl;have hcz29_7:w27.cell? ⟨gb583,7,none⟩=some (.slice none 0 0):=(blk_cell BK583.out 7).trans rfl;have hfz29_0:=blk_frozen BK583.out 0;have hfz29_1:=blk_frozen BK583.out 1;have hfz29_2:=blk_frozen BK583.out 2;have hfz29_3:=blk_frozen BK583.out 3;have hfz29_4:=blk_frozen BK583.out 4;have hfz29_5:=blk_frozen BK583.out 5;have hfz29_6:=blk_frozen BK583.out 6;have hfz29_7:=blk_frozen BK583.out 7;obtain ⟨_,_,_,_,_,_,_,_,_,_⟩:=cf5 BK576)|(refine gR 29 (some 38) Tryz.func29 (impl_houseOk.calls k3 ((rd_T56 l0_2 x31_3).f0) ((rd_T56 l0_2 x31_3).f1) ((rd_T56 l0_2 x31_3).f2) _ _ ((rd_T56 l0_2 x31_3).f3.f0) _ _ ((rd_T56 l0_2 x31_3).f3.f1) ((rd_T56 l0_2 x31_3).f3.f2) ((rd_T56 l0_2 x31_3).f4) _ _ ((rd_T56 l0_2 x31_3).f5) a0_0 t584 _ ?side1 ?side2 ?side3 ?side4 ?side5 ?side6 A25.out) ?_;(case side1=>exact Kd.C_below HR582_3.out (zz3 HB GE576 GE583));(case side2=>exact HC582_3.out);(case side3=>exact Kd.C_below HR582_4.out (zz3 HB GE576 GE583));(case side4=>exact HC582_4.out);(case side5=>exact Kd.C_below HR582_7.out (zz3 HB GE576 GE583));(case side6=>exact HC582_7.out);rintro w31 hb;replace HO_3:=A_ (rB (by (with_reducible repeat (first|apply Kd.R_alloc|apply Kd.R_drewN|apply Kd.R_drew));exact (Kd.R_mono (Kd.R_far (p:=⟨gb583,7,none⟩) (Kd.R_far (p:=⟨gb583,6,none⟩) (Kd.R_far (p:=⟨gb583,5,none⟩) (Kd.R_far (p:=⟨gb583,4,none⟩) (Kd.R_far (p:=⟨gb583,3,none⟩) (Kd.R_far (p:=⟨gb583,2,none⟩) (Kd.R_far (p:=⟨gb583,1,none⟩) (Kd.R_far (p:=⟨gb583,0,none⟩) (Kd.R_types HO_3.out BK583.out (by decide)) (fun _ hk=>hk.2) (.string ((rd_T56 l0_2 x31_3).f0))) (fun _ hk=>hk.2) (.int .i64 ((rd_T56 l0_2 x31_3).f1))) (fun _ hk=>hk.2) (.bool ((rd_T56 l0_2 x31_3).f2))) (fun _ hk=>hk.2) (.slice A582_3 ((rd_T56 l0_2 x31_3).f3.f0).length c582_3)) (fun _ hk=>hk.2) (.slice A582_4 ((rd_T56 l0_2 x31_3).f3.f1).length c582_4)) (fun _ hk=>hk.2) (.int .i64 ((rd_T56 l0_2 x31_3).f3.f2))) (fun _ hk=>hk.2) (.int .i64 ((rd_T56 l0_2 x31_3).f4))) (fun _ hk=>hk.2) (.slice A582_7 ((rd_T56 l0_2 x31_3).f5).length c582_7)) (fun _ h_=>h_.1))) hb);replace BK576:=A_ (bB (g:=gb576) (o:=.cells #[.string a0_0,.int .i64 a0_1,.slice (some ad582) l0_2.length c0_2,.slice A0_3 l0_3.length c0_3,.slice A0_4 l0_4.length c0_4] 32 (0,0)) (zz4 BK576 NB576_583) hb);replace BK583:=A_ (bB (g:=gb583) (o:=.cells #[.string ((rd_T56 l0_2 x31_3).f0),.int .i64 ((rd_T56 l0_2 x31_3).f1),.bool ((rd_T56 l0_2 x31_3).f2),.slice A582_3 ((rd_T56 l0_2 x31_3).f3.f0).length c582_3,.slice A582_4 ((rd_T56 l0_2 x31_3).f3.f1).length c582_4,.int .i64 ((rd_T56 l0_2 x31_3).f3.f2),.int .i64 ((rd_T56 l0_2 x31_3).f4),.slice A582_7 ((rd_T56 l0_2 x31_3).f5).length c582_7] 56 (0,0)) (zz137 BK583) hb);replace HB:=A_ (bS (zz3 HB GE576 GE583) hb);(try clear hb))|((with_reducible refine atG ?_ ?_ fun K_ hK_=>?_);rfl;exact undecG)|((with_reducible refine atI ?_ fun K_ hK_=>?_);exact undecI))
          refine unG hK_ ?_;clear hK_ K_;obtain ⟨H⟩:=HF26;replace H:=iteB H;rcases H with ⟨rfl,H⟩|⟨rfl,H⟩
          ·(first|refine iteT ?_|refine iteF ?_|skip)
           replace H:=bindA H;obtain ⟨t585,A33,H⟩:=H;have HF34:=A_ H;clear H;have hnb35:=NB583_576.out;have hnc35:=NB576_583.out;have hcz36_0:w31.cell? ⟨gb583,0,none⟩=some (.string ((rd_T56 l0_2 x31_3).f0)):=(blk_cell BK583.out 0).trans rfl;have hcz36_1:w31.cell? ⟨gb583,1,none⟩=some (.int .i64 ((rd_T56 l0_2 x31_3).f1)):=(blk_cell BK583.out 1).trans rfl;have hcz36_2:w31.cell? ⟨gb583,2,none⟩=some (.bool ((rd_T56 l0_2 x31_3).f2)):=(blk_cell BK583.out 2).trans rfl;have hcz36_3:w31.cell? ⟨gb583,3,none⟩=some (.slice A582_3 ((rd_T56 l0_2 x31_3).f3.f0).length c582_3):=(blk_cell BK583.out 3).trans rfl;have hcz36_4:w31.cell? ⟨gb583,4,none⟩=some (.slice A582_4 ((rd_T56 l0_2 x31_3).f3.f1).length c582_4):=(blk_cell BK583.out 4).trans rfl;have hcz36_5:w31.cell? ⟨gb583,5,none⟩=some (.int .i64 ((rd_T56 l0_2 x31_3).f3.f2)):=(blk_cell BK583.out 5).trans rfl;have hcz36_6:w31.cell? ⟨gb583,6,none⟩=some (.int .i64 ((rd_T56 l0_2 x31_3).f4)):=(blk_cell BK583.out 6).trans rfl;have hcz36_7:w31.cell? ⟨gb583,7,none⟩=some (.slice A582_7 ((rd_T56 l0_2 x31_3).f5).length c582_7):=(blk_cell BK583.out 7).trans rfl;have hfz36_0:=blk_frozen BK583.out 0;have hfz36_1:=blk_frozen BK583.out 1;have hfz36_2:=blk_frozen BK583.out 2;have hfz36_3:=blk_frozen BK583.out 3;have hfz36_4:=blk_frozen BK583.out 4;have hfz36_5:=blk_frozen BK583.out 5;have hfz36_6:=blk_frozen BK583.out 6;have hfz36_7:=blk_frozen BK583.out 7;obtain ⟨_,_,_,_,_,_,_,_,_,_⟩:=cf5 BK576;(try ((with_reducible refine upS ?_);go_simp))
           go_upto_if 46 with (first|(go_at_call 30;(with_reducible refine (impl_todoOk.calls k3 ((rd_T56 l0_2 x31_3).f0) ((rd_T56 l0_2 x31_3).f1) ((rd_T56 l0_2 x31_3).f2) _ _ ((rd_T56 l0_2 x31_3).f3.f0) _ _ ((rd_T56 l0_2 x31_3).f3.f1) ((rd_T56 l0_2 x31_3).f3.f2) ((rd_T56 l0_2 x31_3).f4) _ _ ((rd_T56 l0_2 x31_3).f5) _ _ l0_3 t585 _ ?side1 ?side2 ?side3 ?side4 ?side5 ?side6 ?side7 ?side8 A33.out).mono ?_);(case side1=>exact (zz21 HR582_3 HB));(case side2=>exact HC582_3.out);(case side3=>exact (zz21 HR582_4 HB));(case side4=>exact HC582_4.out);(case side5=>exact (zz21 HR582_7 HB));(case side6=>exact HC582_7.out);(case side7=>exact (zz21 HR0_3 HB));(case side8=>exact HC0_3.out);rintro e w38 ⟨rfl,hb⟩;replace HO_3:=A_ (rB (zz12 HO_3) hb);replace BK576:=A_ (bB (zz2 BK576) hb);replace BK583:=A_ (bB (zz2 BK583) hb);replace HB:=A_ (bS (zz3 HB GE576 GE583) hb);(try clear hb)))
           obtain ⟨H⟩:=HF34;replace H:=iteB H;rcases H with ⟨rfl,H⟩|⟨rfl,H⟩
           ·replace H:=iteN H
            obtain ⟨c40,H⟩:=H;have LMc40:=A_ c40;clear c40;obtain ⟨y586,Ny586⟩:=toY (x3_3++[(rd_T56 l0_2 x31_3).f0]);(first|with_reducible replace H:=bindZ Ny586 H|rw [← Ny586.out] at H|skip)
            have H':=A_ H;clear H;have hnb41:=NB583_576.out;have hnc41:=NB576_583.out;have hcz42_0:w38.cell? ⟨gb583,0,none⟩=some (.string ((rd_T56 l0_2 x31_3).f0)):=(blk_cell BK583.out 0).trans rfl;have hcz42_1:w38.cell? ⟨gb583,1,none⟩=some (.int .i64 ((rd_T56 l0_2 x31_3).f1)):=(blk_cell BK583.out 1).trans rfl;have hcz42_2:w38.cell? ⟨gb583,2,none⟩=some (.bool ((rd_T56 l0_2 x31_3).f2)):=(blk_cell BK583.out 2).trans rfl;have hcz42_3:w38.cell? ⟨gb583,3,none⟩=some (.slice A582_3 ((rd_T56 l0_2 x31_3).f3.f0).length c582_3):=(blk_cell BK583.out 3).trans rfl;have hcz42_4:w38.cell? ⟨gb583,4,none⟩=some (.slice A582_4 ((rd_T56 l0_2 x31_3).f3.f1).length c582_4):=(blk_cell BK583.out 4).trans rfl;have hcz42_5:w38.cell? ⟨gb583,5,none⟩=some (.int .i64 ((rd_T56 l0_2 x31_3).f3.f2)):=(blk_cell BK583.out 5).trans rfl;have hcz42_6:w38.cell? ⟨gb583,6,none⟩=some (.int .i64 ((rd_T56 l0_2 x31_3).f4)):=(blk_cell BK583.out 6).trans rfl;have hcz42_7:w38.cell? ⟨gb583,7,none⟩=some (.slice A582_7 ((rd_T56 l0_2 x31_3).f5).length c582_7):=(blk_cell BK583.out 7).trans rfl;have hfz42_0:=blk_frozen BK583.out 0;have hfz42_1:=blk_frozen BK583.out 1;have hfz42_2:=blk_frozen BK583.out 2;have hfz42_3:=blk_frozen BK583.out 3;have hfz42_4:=blk_frozen BK583.out 4;have hfz42_5:=blk_frozen BK583.out 5;have hfz42_6:=blk_frozen BK583.out 6;have hfz42_7:=blk_frozen BK583.out 7;go_wp2_with (first|((with_reducible refine gate_builtin (b:=.append) (xs:=#[.tmp 47,.tmp 50]) rfl ?_);at_builtin;refine Kd.R_append Kd.string (w0:=w) w.heap.size rfl (.tmp 47) (.tmp 50) 23 9 (.string ⟨#[]⟩) 16 rfl Tryz.underlying23 info9 rfl (by decide) (by omega) u3 x3_3 ((rd_T56 l0_2 x31_3).f0) [.string ((rd_T56 l0_2 x31_3).f0)] (fun _=>True) (fun _=>False) rfl rfl ?aP (fun _ hk=>hk.elim) ?aF ?aO ?aB ?aS ?aL ?_;(case aP=>exact rfl);(case aB=>exact (zz3 HB GE576 GE583));(case aF=>exact (fun _ _=>trivial));(case aO=>exact (zz12 HO_3));(case aS=>exact (below_size (zz3 HB GE576 GE583)));(case aL=>exact (zz17 LMc40));intro v587 w43 ho hb hg hat;rw [← Ny586.out] at ho;replace BK576:=A_ (blk_grown (zz2 BK576) hg (Kd.R_ne HO_3.out BK576.out (by decide)));replace BK583:=A_ (blk_grown (zz2 BK583) hg (Kd.R_ne HO_3.out BK583.out (by decide)));replace HB:=A_ (hb);have HO588:=A_ (ho);clear HO_3;clear ho hb hg hat))
            go_roundg k3
            case measure=>have:=HJ1.out;have:=HJ10.out;have:=HK3.out;omega
            case rel=>exact ⟨(y586),(wrap64 (x31_3+1)),zz7,H',⟨(by have:=HJ1.out;have:=HJ10.out;have:=HK3.out;omega)⟩,⟨(zz12 HO588)⟩,⟨(zz2 BK576)⟩,⟨(zz3 HB GE576 GE583)⟩⟩
           ·obtain rfl:=sI H
            go_wp2
            go_ret
            exact ⟨zz5,(zz3 HB GE576 GE583)⟩
          ·(first|refine iteT ?_|refine iteF ?_|skip)
           obtain rfl:=sI H;(try ((with_reducible refine upS ?_);go_simp))
           go_wp2
           go_ret
           exact ⟨zz5,(zz3 HB GE576 GE583)⟩
         ·replace H:=bindA H
          obtain ⟨t581,A44,H⟩:=H;obtain rfl:=sI H;obtain ⟨Ao45,co45,eo45⟩:=Kd.R_slice HO_3.out;subst eo45;go_wp2_with (first|(refine gR 31 (some 54) Tryz.func31 (impl_allOnce.calls k3 _ _ x3_3 t581 _ ?side1 ?side2 A44.out) ?_;(case side1=>exact (zz88 HO_3));(case side2=>exact (Kd.R_reads' HO_3.out).2.1);rintro w46 hb;replace HO_3:=A_ (rB (zz12 HO_3) hb);replace BK576:=A_ (bB (zz2 BK576) hb);replace HB:=A_ (bS (zz1 HB GE576) hb);(try clear hb)))
          go_ret
          exact ⟨zz5,(zz1 HB GE576)⟩
end Go.Proofs.YteepbodnaameiaaGreatDoor.P
end
section
namespace Go.Proofs.YteepbodnaameiaaGreatDoor.P
open Go.RowKit Go.Proofs.YteepbodnaameiaaGreatDoorW.PrintWords Go.Proofs.YteepbodnaameiaaGreatDoorW.PrintLast Go.Proofs.YteepbodnaameiaaGreatDoorW.PrintMore
set_option linter.unusedVariables false
set_option linter.unusedSimpArgs false
set_option maxHeartbeats 4000000 in
set_option maxRecDepth 100000 in
theorem ready_walk (q:Addr) (T B:Nat) (i1 now:Int) (A7:Option Addr) (n7 c7:Nat) (w:World) (h1:w.cell? ⟨q.block,q.off+1,none⟩=some (.int .i64 i1)) (h7:w.cell? ⟨q.block,q.off+7,none⟩=some (.slice A7 n7 c7))
  (hB:w.cell? ⟨B,0,none⟩=some (.pointer (some ⟨T,0,none⟩))) (hT:w.cell? ⟨T,1,none⟩=some (.int .i64 now)) :
  Calls Tryz.prog 59 #[.pointer (some q),.pointer (some ⟨B,0,none⟩)] w fun e w'=>e=.returned (.tuple #[.int .i64 (max i1 now),.bool (decide (0 < n7))])∧Below w.heap.size w w':=by
 have hu:=Tryz.underlying56
 have hu2:=Tryz.underlying32
 have HB:=A_ (Below.refl w.heap.size w)
 go_enter Tryz.func59,Tryz.ntmps59
 go_upto_region 1 with (fail)
 refine start_ (n:=17) (S:=fun w'=>w'.cell? ⟨q.block,q.off+1,none⟩=some (.int .i64 i1)∧w'.cell? ⟨q.block,q.off+7,none⟩=some (.slice A7 n7 c7)∧w'.cell? ⟨B,0,none⟩=some (.pointer (some ⟨T,0,none⟩))∧w'.cell? ⟨T,1,none⟩=some (.int .i64 now)) (ds:=[]) #[false,false,false,false,false,false,false,false,false,false,false,false,false,false,false,false,false] (by kernel_rfl) rfl rfl ⟨h1,h7,hB,hT⟩ (fun hHeld=>?_)
 replace HB:=A_ (below_drew1 HB.out)
 generalize w.drew=w3 at HB hHeld ⊢
 refine rgP 0 (some 5) #[true,false,false,false,false,false,false,false,false,false,false,false,false,false,false,false,false] ?_
 refine rgP 1 (some 6) #[true,true,false,false,false,false,false,false,false,false,false,false,false,false,false,false,false] ?_
 refine rgP 2 (some 7) #[true,true,true,false,false,false,false,false,false,false,false,false,false,false,false,false,false] ?_
 refine rgP 9 (some 14) #[true,true,true,false,false,false,false,false,false,true,false,false,false,false,false,false,false] ?_
 refine rgP 10 (some 15) #[true,true,true,false,false,false,false,false,false,true,true,false,false,false,false,false,false] ?_
 refine rgP 11 (some 16) #[true,true,true,false,false,false,false,false,false,true,true,true,false,false,false,false,false] ?_
 refine rgT4 3 (some 8) #[true,true,true,true,false,false,false,false,false,true,true,true,false,false,false,false,false] hHeld ?_
 refine rgT4 4 (some 9) #[true,true,true,true,true,false,false,false,false,true,true,true,false,false,false,false,false] hHeld ?_
 refine rgP 5 (some 10) #[true,true,true,true,true,true,false,false,false,true,true,true,false,false,false,false,false] ?_
 refine rgP 6 (some 11) #[true,true,true,true,true,true,true,false,false,true,true,true,false,false,false,false,false] ?_
 refine rgT4 7 (some 12) #[true,true,true,true,true,true,true,true,false,true,true,true,false,false,false,false,false] hHeld ?_
 have hmx:=A_ (show (if i1 < now then now else i1)=max i1 now by split <;> omega)
 refine rgP (v:=.int .i64 (max i1 now)) (hy:=Or.inl ⟨by rfl,by intro w';go_simp;try exact hmx.out⟩) 8 (some 13) #[true,true,true,true,true,true,true,true,true,true,true,true,false,false,false,false,false] ?_
 refine rgT4 12 (some 17) #[true,true,true,true,true,true,true,true,true,true,true,true,true,false,false,false,false] hHeld ?_
 refine rgP 13 (some 18) #[true,true,true,true,true,true,true,true,true,true,true,true,true,true,false,false,false] ?_
 refine rgP 14 (some 19) #[true,true,true,true,true,true,true,true,true,true,true,true,true,true,true,false,false] ?_
 refine rgP 15 (some 3) #[true,true,true,true,true,true,true,true,true,true,true,true,true,true,true,true,false] ?_
 refine rgP 16 (some 4) #[true,true,true,true,true,true,true,true,true,true,true,true,true,true,true,true,true] ?_
 refine done_ (by kernel_rfl) ?_
 go_wp2
 go_ret2
 exact ⟨rfl,HB.out⟩
def leastF (now:Int):List He→Int→Int→Int→Int×Int
 | [],_,p,n=>(p,n)
 | h :: r,i,p,n=>if (decide (0 < h.f5.length) && (decide (p < 0) || decide (max h.f1 now < n)))=true then leastF now r (i+1) i (max h.f1 now) else leastF now r (i+1) p n
set_option maxHeartbeats 4000000 in
set_option maxRecDepth 100000 in
theorem least_walk (A0:Option Addr) (c0:Nat) (l0:List He) (T B:Nat) (now:Int) (a n':Int) (w:World) (hr0:Kd.C k56 w A0 l0.length l0) (hB:w.cell? ⟨B,0,none⟩=some (.pointer (some ⟨T,0,none⟩))) (hT:w.cell? ⟨T,1,none⟩=some (.int .i64 now)) (hl:l0.length≤4611686018427387904) (h:leastF now l0 0 (-1) 0=(a,n')) :
  Calls Tryz.prog 58 #[.slice A0 l0.length c0,.func (.func 59) #[] #[.pointer (some ⟨B,0,none⟩)]] w fun e w'=>e=.returned (.tuple #[.int .i64 (max a 0),.int .i64 n',.bool (decide (0≤a))])∧Below w.heap.size w w':=by
 have hu:=Tryz.underlying56
 have HB0:=A_ (Below.refl w.heap.size w)
 have H0:=A_ h
 clear h
 go_enter Tryz.func58,Tryz.ntmps58
 go_wp2
 go_loopg [7,8,14] l0.length (fun g v7 v8 v14 wx=>∃ (i:Nat) (p n:Int),v7=.int .i64 p∧v8=.int .i64 n∧v14=.int .i64 i∧i+g=l0.length∧Aside0 (leastF now (l0.drop i) (i:Int) p n=(a,n'))∧Aside0 (Below w.heap.size w wx))
 case atStart=>exact ⟨0,-1,0,rfl,rfl,rfl,by omega,⟨by simpa using H0.out⟩,HB0⟩
 case round=>
  clear HB0 H0
  obtain ⟨i,a0,n,rfl,rfl,rfl,hig,HA,HB⟩:=hrel
  cases gk with
  | zero=>
   obtain rfl:i=l0.length:=by omega
   have hlt:decide ((l0.length:Int) < (l0.length:Int))=false:=decide_eq_false (by omega)
   have ha:=HA.out
   rw [List.drop_length] at ha
   obtain ⟨rfl,rfl⟩:=Prod.mk.inj ha
   clear ha HA
   go_wp2
   all_goals go_ret3
   all_goals exact ⟨by first|rfl|(rw [show max a0 0=0 from by omega];rfl)|(rw [show max a0 0=a0 from by omega];rfl),HB.out⟩
  | succ g=>
   have hi:i < l0.length:=by omega
   have hlt:decide ((i:Int) < (l0.length:Int))=true:=decide_eq_true (by omega)
   obtain ⟨ad,A3,c3,A4,c4,A7,c7,ea,hx0,hx1,hx2,hx3,hx4,hx5,hx6,hx7,_⟩:=at_T56 hr0 (i:Int) (by omega) (by omega)
   subst ea
   replace hx1:=(HB.out.cell (World.block_lt_of_cell? w _ hx1)).trans hx1
   replace hx7:=(HB.out.cell (World.block_lt_of_cell? w _ hx7)).trans hx7
   have hxB:=(HB.out.cell (World.block_lt_of_cell? w _ hB)).trans hB
   have hxT:=(HB.out.cell (World.block_lt_of_cell? w _ hT)).trans hT
   have p0:(0≤(i:Int))=True:=eq_true (by omega)
   have q0:((i:Int) < (l0.length:Int))=True:=eq_true (by omega)
   obtain ⟨p,hp⟩:∃ p,rd_T56 l0 (i:Int)=p:=⟨_,rfl⟩
   have hpi:p=l0[i]:=by
    rw [← hp]
    simp [rd_T56,List.getD,List.getElem?_eq_getElem hi]
   rw [hp] at hx1 hx7
   simp only [Int.toNat_natCast] at hx1 hx7
   have ha:=HA.out
   rw [show l0.drop i=p :: l0.drop (i+1) by rw [List.drop_eq_getElem_cons hi,hpi]] at ha
   simp only [leastF] at ha
   clear hp hpi HA hx0 hx2 hx3 hx4 hx5 hx6
   obtain ⟨q,hq⟩:∃ q,decide (0 < p.f5.length)=q:=⟨_,rfl⟩
   rw [hq] at ha
   have HQ:=A_ hq
   clear hq
   have ew:wrap64 ((i:Int)+1)=((i+1:Nat):Int):=by unfold wrap64;omega
   cases q with
   | false=>
    rw [if_neg (by simp)] at ha
    have HA:=A_ ha
    clear ha
    go_wp2_with (first|(go_at_call 59;refine (ready_walk _ T B p.f1 now A7 p.f5.length c7 _ hx1 hx7 hxB hxT).mono ?_;rintro e w3 ⟨rfl,hb⟩;rw [HQ.out];replace HB:=A_ (below_step HB.out hb);clear hb))
    go_roundg g
    case measure=>omega
    case rel=>exact ⟨i+1,a0,n,rfl,rfl,by simp,by omega,HA,HB⟩
   | true=>
    by_cases c1:a0 < 0
    ·have e1:decide (a0 < 0)=true:=decide_eq_true c1
     rw [if_pos (by simp [c1])] at ha
     have HA:=A_ ha
     clear ha
     go_wp2_with (first|(go_at_call 59;refine (ready_walk _ T B p.f1 now A7 p.f5.length c7 _ hx1 hx7 hxB hxT).mono ?_;rintro e w3 ⟨rfl,hb⟩;rw [HQ.out];replace HB:=A_ (below_step HB.out hb);clear hb))
     go_roundg g
     case measure=>omega
     case rel=>exact ⟨i+1,i,_,rfl,rfl,by simp,by omega,HA,HB⟩
    ·have e1:decide (a0 < 0)=false:=decide_eq_false c1
     by_cases c2:max p.f1 now < n
     ·have e2:decide (max p.f1 now < n)=true:=decide_eq_true c2
      rw [if_pos (by simp [c2])] at ha
      have HA:=A_ ha
      clear ha
      go_wp2_with (first|(go_at_call 59;refine (ready_walk _ T B p.f1 now A7 p.f5.length c7 _ hx1 hx7 hxB hxT).mono ?_;rintro e w3 ⟨rfl,hb⟩;rw [HQ.out];replace HB:=A_ (below_step HB.out hb);clear hb))
      go_roundg g
      case measure=>omega
      case rel=>exact ⟨i+1,i,_,rfl,rfl,by simp,by omega,HA,HB⟩
     ·have e2:decide (max p.f1 now < n)=false:=decide_eq_false c2
      rw [if_neg (by simp [c1,c2])] at ha
      have HA:=A_ ha
      clear ha
      go_wp2_with (first|(go_at_call 59;refine (ready_walk _ T B p.f1 now A7 p.f5.length c7 _ hx1 hx7 hxB hxT).mono ?_;rintro e w3 ⟨rfl,hb⟩;rw [HQ.out];replace HB:=A_ (below_step HB.out hb);clear hb))
      go_roundg g
      case measure=>omega
      case rel=>exact ⟨i+1,a0,n,rfl,rfl,by simp,by omega,HA,HB⟩
def nextF (now:Int) (l:List He):Int×Int×Bool:=if 0≤(leastF now l 0 (-1) 0).1∧(leastF now l 0 (-1) 0).2≤5000 then (max (leastF now l 0 (-1) 0).1 0,(leastF now l 0 (-1) 0).2,true) else (0,0,false)
set_option maxHeartbeats 4000000 in
set_option maxRecDepth 100000 in
theorem next_walk (T:Nat) (A2:Option Addr) (c2:Nat) (l2:List He) (now:Int) (r1 r2:Int) (r3:Bool) (w:World) (hr2:Kd.C k56 w A2 l2.length l2) (h1:w.cell? ⟨T,1,none⟩=some (.int .i64 now)) (h2:w.cell? ⟨T,2,none⟩=some (.slice A2 l2.length c2)) (hl:l2.length≤4611686018427387904) (h:nextF now l2=(r1,r2,r3)) :
  Calls Tryz.prog 37 #[.pointer (some ⟨T,0,none⟩)] w fun e w'=>e=.returned (.tuple #[.int .i64 r1,.int .i64 r2,.bool r3])∧Below w.heap.size w w':=by
 have hmf:∀ (fn:Fn) (first cap:Array Value) (w:World),(Instr.makeFunc fn first cap).run Tryz.prog w=.ok (.func fn first cap) w:=fun _ _ _ _=>rfl
 have hu2:=Tryz.underlying32
 have HB:=A_ (Below.refl w.heap.size w)
 have HR:=A_ hr2
 obtain ⟨⟨a,n⟩,hL⟩:∃ q,leastF now l2 0 (-1) 0=q:=⟨_,rfl⟩
 unfold nextF at h
 rw [hL] at h
 have HL:=A_ hL
 have HH:=A_ h
 clear hr2 hL h
 go_enter Tryz.func37,Tryz.ntmps37
 have hh:=HH.out
 clear HH
 by_cases d1:0≤a
 ·have e1:decide (0≤a)=true:=decide_eq_true d1
  by_cases d2:n≤5000
  ·have e2':decide ((5000:Int) < n)=false:=decide_eq_false (by omega)
   rw [if_pos ⟨d1,d2⟩] at hh
   obtain ⟨rfl,hh2⟩:=Prod.mk.inj hh
   obtain ⟨rfl,rfl⟩:=Prod.mk.inj hh2
   clear hh
   go_wp2_with (first|((with_reducible refine gate_dst (N:=1) rfl ?_);refine box_event ?hg (N:=1) ?hd (cs:=#[.pointer (some ⟨T,0,none⟩)]) (t:=64) ?hr ?_;(case hd=>rfl);(case hg=>rfl);(case hr=>first|(go_simp;done)|(go_simp;rfl));intro gb hg w2 hbox hb;have BK:=A_ hbox;replace HB:=A_ (below_step HB.out hb);replace HR:=A_ (Kd.C_below HR.out hb);replace h1:=(hb.cell (World.block_lt_of_cell? _ _ h1)).trans h1;replace h2:=(hb.cell (World.block_lt_of_cell? _ _ h2)).trans h2;clear hb hg hbox;have hc0:w2.cell? ⟨gb,0,none⟩=some (.pointer (some ⟨T,0,none⟩)):=(blk_cell BK.out 0).trans rfl)|(go_at_call 58;refine (least_walk A2 c2 l2 T gb now a n _ HR.out hc0 h1 hl HL.out).mono ?_;rintro e w3 ⟨rfl,hb⟩;replace HB:=A_ (below_step HB.out hb);clear hb))
   go_ret3
   exact ⟨rfl,HB.out⟩
  ·have e2':decide ((5000:Int) < n)=true:=decide_eq_true (by omega)
   rw [if_neg (fun x=>d2 x.2)] at hh
   obtain ⟨rfl,hh2⟩:=Prod.mk.inj hh
   obtain ⟨rfl,rfl⟩:=Prod.mk.inj hh2
   clear hh
   go_wp2_with (first|((with_reducible refine gate_dst (N:=1) rfl ?_);refine box_event ?hg (N:=1) ?hd (cs:=#[.pointer (some ⟨T,0,none⟩)]) (t:=64) ?hr ?_;(case hd=>rfl);(case hg=>rfl);(case hr=>first|(go_simp;done)|(go_simp;rfl));intro gb hg w2 hbox hb;have BK:=A_ hbox;replace HB:=A_ (below_step HB.out hb);replace HR:=A_ (Kd.C_below HR.out hb);replace h1:=(hb.cell (World.block_lt_of_cell? _ _ h1)).trans h1;replace h2:=(hb.cell (World.block_lt_of_cell? _ _ h2)).trans h2;clear hb hg hbox;have hc0:w2.cell? ⟨gb,0,none⟩=some (.pointer (some ⟨T,0,none⟩)):=(blk_cell BK.out 0).trans rfl)|(go_at_call 58;refine (least_walk A2 c2 l2 T gb now a n _ HR.out hc0 h1 hl HL.out).mono ?_;rintro e w3 ⟨rfl,hb⟩;replace HB:=A_ (below_step HB.out hb);clear hb))
   go_ret3
   exact ⟨rfl,HB.out⟩
 ·have e1:decide (0≤a)=false:=decide_eq_false d1
  rw [if_neg (fun x=>d1 x.1)] at hh
  obtain ⟨rfl,hh2⟩:=Prod.mk.inj hh
  obtain ⟨rfl,rfl⟩:=Prod.mk.inj hh2
  clear hh
  go_wp2_with (first|((with_reducible refine gate_dst (N:=1) rfl ?_);refine box_event ?hg (N:=1) ?hd (cs:=#[.pointer (some ⟨T,0,none⟩)]) (t:=64) ?hr ?_;(case hd=>rfl);(case hg=>rfl);(case hr=>first|(go_simp;done)|(go_simp;rfl));intro gb hg w2 hbox hb;have BK:=A_ hbox;replace HB:=A_ (below_step HB.out hb);replace HR:=A_ (Kd.C_below HR.out hb);replace h1:=(hb.cell (World.block_lt_of_cell? _ _ h1)).trans h1;replace h2:=(hb.cell (World.block_lt_of_cell? _ _ h2)).trans h2;clear hb hg hbox;have hc0:w2.cell? ⟨gb,0,none⟩=some (.pointer (some ⟨T,0,none⟩)):=(blk_cell BK.out 0).trans rfl)|(go_at_call 58;refine (least_walk A2 c2 l2 T gb now a n _ HR.out hc0 h1 hl HL.out).mono ?_;rintro e w3 ⟨rfl,hb⟩;replace HB:=A_ (below_step HB.out hb);clear hb))
  go_ret3
  exact ⟨rfl,HB.out⟩
def impl_TripNext.f (k:Nat) (a0:ByteArray) (a1:Int) (l2:List He) (l3:List ByteArray) (l4:List S45):Option (Int×Int×Bool):=
 (impl_TripOk.f k a0 a1 l2 l3 l4).bind fun t=>if t=true then (if l2.length≤4611686018427387904 then some (nextF a1 l2) else none) else some (0,0,false)
set_option maxHeartbeats 4000000 in
set_option maxRecDepth 100000 in
theorem impl_TripNext.calls (k:Nat) (a0:ByteArray) (a1:Int) (A2:Option Addr) (c2:Nat) (l2:List He) (A3:Option Addr) (c3:Nat) (l3:List ByteArray) (A4:Option Addr) (c4:Nat) (l4:List S45) (r1 r2:Int) (r3:Bool) (w:World) (hr2:Kd.C k56 w A2 l2.length l2) (hc2:l2.length≤c2) (hr3:Kd.C Kd.string w A3 l3.length l3) (hc3:l3.length≤c3) (hr4:Kd.C k45 w A4 l4.length l4) (hc4:l4.length≤c4) (h:impl_TripNext.f k a0 a1 l2 l3 l4=some (r1,r2,r3)) :
  Calls Tryz.prog 14 #[.agg #[.string a0,.int .i64 a1,.slice A2 l2.length c2,.slice A3 l3.length c3,.slice A4 l4.length c4]] w fun e w'=>e=.returned (.tuple #[.int .i64 r1,.int .i64 r2,.bool r3])∧Below w.heap.size w w':=by
 have hu2:=Tryz.underlying32
 have HB:=A_ (Below.refl w.heap.size w)
 have HR2:=A_ hr2
 have HR3:=A_ hr3
 have HR4:=A_ hr4
 unfold impl_TripNext.f at h
 obtain ⟨t,ht,h⟩:=Option.bind_eq_some_iff.mp h
 have HT:=A_ ht
 have HH:=A_ h
 clear hr2 hr3 hr4 ht h
 go_enter Tryz.func14,Tryz.ntmps14
 go_upto_if 7 with (first|((with_reducible refine gate_dst (N:=1) rfl ?_);refine box_event ?hg (N:=1) ?hd (cs:=#[.string a0,.int .i64 a1,.slice A2 l2.length c2,.slice A3 l3.length c3,.slice A4 l4.length c4]) (t:=32) ?hr ?_;(case hd=>rfl);(case hg=>rfl);(case hr=>first|(go_simp;done)|(go_simp;rfl));intro gb hg w2 hbox hb;have BK:=A_ hbox;replace HB:=A_ (below_step HB.out hb);replace HR2:=A_ (Kd.C_below HR2.out hb);replace HR3:=A_ (Kd.C_below HR3.out hb);replace HR4:=A_ (Kd.C_below HR4.out hb);clear hb hg hbox;have hx0:w2.cell? ⟨gb,0,none⟩=some (.string a0):=(blk_cell BK.out 0).trans rfl;have hx1:w2.cell? ⟨gb,1,none⟩=some (.int .i64 a1):=(blk_cell BK.out 1).trans rfl;have hx2:w2.cell? ⟨gb,2,none⟩=some (.slice A2 l2.length c2):=(blk_cell BK.out 2).trans rfl;have hx3:w2.cell? ⟨gb,3,none⟩=some (.slice A3 l3.length c3):=(blk_cell BK.out 3).trans rfl;have hx4:w2.cell? ⟨gb,4,none⟩=some (.slice A4 l4.length c4):=(blk_cell BK.out 4).trans rfl)|(go_at_call 9;refine (impl_TripOk.calls k a0 a1 A2 c2 l2 A3 c3 l3 A4 c4 l4 t _ HR2.out hc2 HR3.out hc3 HR4.out hc4 HT.out).mono ?_;rintro e w3 ⟨rfl,hb⟩;replace HB:=A_ (below_step HB.out hb);replace HR2:=A_ (Kd.C_below HR2.out hb);replace BK:=A_ (blk_below BK.out hb);clear hb hx0 hx1 hx2 hx3 hx4;have hx1:w3.cell? ⟨gb,1,none⟩=some (.int .i64 a1):=(blk_cell BK.out 1).trans rfl;have hx2:w3.cell? ⟨gb,2,none⟩=some (.slice A2 l2.length c2):=(blk_cell BK.out 2).trans rfl))
 have hh:=HH.out
 clear HH
 cases t with
 | false=>
  rw [if_neg (by decide)] at hh
  obtain ⟨rfl,hh2⟩:=Prod.mk.inj (Option.some.inj hh)
  obtain ⟨rfl,rfl⟩:=Prod.mk.inj hh2
  clear hh
  go_wp2
  go_ret3
  exact ⟨rfl,HB.out⟩
 | true=>
  rw [if_pos rfl] at hh
  split at hh
  case isFalse=>cases hh
  rename_i hl
  have HN:=A_ (Option.some.inj hh)
  clear hh
  go_wp2_with (first|(go_at_call 37;refine (next_walk gb A2 c2 l2 a1 r1 r2 r3 _ HR2.out hx1 hx2 hl HN.out).mono ?_;rintro e w4 ⟨rfl,hb⟩;replace HB:=A_ (below_step HB.out hb);clear hb))
  go_ret3
  exact ⟨rfl,HB.out⟩
end Go.Proofs.YteepbodnaameiaaGreatDoor.P
end
section
namespace Go.Proofs.YteepbodnaameiaaGreatDoor.P
open Go.RowKit Go.Proofs.YteepbodnaameiaaGreatDoorW.PrintWords Go.Proofs.YteepbodnaameiaaGreatDoorW.PrintLast Go.Proofs.YteepbodnaameiaaGreatDoorW.PrintMore
attribute [local go_sem] max2_int min2_int max_two min_two max_three min_three max_four min_four
set_option linter.unusedVariables false
set_option linter.unusedSimpArgs false
def laws_FnExactTripNext.j0:Nat→Bool→ByteArray→Int→List (S71)→List ByteArray→List (S73)→ByteArray→Int→List (S56)→List ByteArray→List (S45)→Option (Bool)
 | 0,_,_,_,_,_,_,_,_,_,_,_=>none
 | k+1,x43,x716000,x716001,x716002,x716003,x716004,x743000,x743001,x743002,x743003,x743004=>if x43=true then (some false) else ((laws_toTrip.f k x716000 x716001 x716002 x716003 x716004).bind fun bt746=>((laws_eqTrip.f k x743000 x743001 x743002 x743003 x743004 bt746.1 bt746.2.1 bt746.2.2.1 bt746.2.2.2.1 bt746.2.2.2.2).bind fun t757=>(if t757=true then (some true) else (some false))))
def laws_FnExactTripNext.f (k:Nat) (a0_0:ByteArray) (a0_1:Int) (l0_2:List (S71)) (l0_3:List ByteArray) (l0_4:List (S73)):Option (Bool):=(laws_szTrip.f k a0_0 a0_1 l0_2 l0_3 l0_4 1048576).bind fun t716=>(if t716 < 0 then (some true) else ((laws_toTrip.f k a0_0 a0_1 l0_2 l0_3 l0_4).bind fun bt717=>((spec_TripNext.f k bt717.1 bt717.2.1 bt717.2.2.1 bt717.2.2.2.1 bt717.2.2.2.2).bind fun bt728=>((laws_toTrip.f k a0_0 a0_1 l0_2 l0_3 l0_4).bind fun bt731=>((impl_TripNext.f k bt731.1 bt731.2.1 bt731.2.2.1 bt731.2.2.2.1 bt731.2.2.2.2).bind fun bt743=>(if bt743.1=bt728.1 then (if bt743.2.1=bt728.2.1 then (laws_FnExactTripNext.j0 k (bt743.2.2 != bt728.2.2) a0_0 a0_1 l0_2 l0_3 l0_4 bt731.1 bt731.2.1 bt731.2.2.1 bt731.2.2.2.1 bt731.2.2.2.2) else (laws_FnExactTripNext.j0 k true a0_0 a0_1 l0_2 l0_3 l0_4 bt731.1 bt731.2.1 bt731.2.2.1 bt731.2.2.2.1 bt731.2.2.2.2)) else (laws_FnExactTripNext.j0 k true a0_0 a0_1 l0_2 l0_3 l0_4 bt731.1 bt731.2.1 bt731.2.2.1 bt731.2.2.2.1 bt731.2.2.2.2)))))))
set_option maxHeartbeats 8000000 in
set_option maxRecDepth 100000 in
theorem laws_FnExactTripNext.calls (k:Nat) (a0_0:ByteArray) (a0_1:Int) (A0_2:Option Addr) (c0_2:Nat) (l0_2:List (S71)) (A0_3:Option Addr) (c0_3:Nat) (l0_3:List ByteArray) (A0_4:Option Addr) (c0_4:Nat) (l0_4:List (S73)) (r:Bool) (w:World) (hr0_2:Kd.C k71 w A0_2 l0_2.length l0_2) (hc0_2:l0_2.length≤c0_2) (hr0_3:Kd.C Kd.string w A0_3 l0_3.length l0_3) (hc0_3:l0_3.length≤c0_3) (hr0_4:Kd.C k73 w A0_4 l0_4.length l0_4) (hc0_4:l0_4.length≤c0_4) (h:laws_FnExactTripNext.f k a0_0 a0_1 l0_2 l0_3 l0_4=some r) :
  Calls Tryz.prog 5 #[.agg #[.string a0_0,.int .i64 a0_1,.slice A0_2 l0_2.length c0_2,.slice A0_3 l0_3.length c0_3,.slice A0_4 l0_4.length c0_4]] w fun e w'=>e=.returned (.bool r)∧Below w.heap.size w w':=by
 have hu26:=Tryz.underlying26
 have hu32:=Tryz.underlying32
 have HR0_2:=A_ hr0_2
 have HC0_2:=A_ hc0_2
 clear hr0_2 hc0_2
 have HR0_3:=A_ hr0_3
 have HC0_3:=A_ hc0_3
 clear hr0_3 hc0_3
 have HR0_4:=A_ hr0_4
 have HC0_4:=A_ hc0_4
 clear hr0_4 hc0_4
 have HB:=A_ (Below.refl w.heap.size w)
 have H:((laws_szTrip.f k a0_0 a0_1 l0_2 l0_3 l0_4 1048576).bind fun t716=>(if t716 < 0 then (some true) else ((laws_toTrip.f k a0_0 a0_1 l0_2 l0_3 l0_4).bind fun bt717=>((spec_TripNext.f k bt717.1 bt717.2.1 bt717.2.2.1 bt717.2.2.2.1 bt717.2.2.2.2).bind fun bt728=>((laws_toTrip.f k a0_0 a0_1 l0_2 l0_3 l0_4).bind fun bt731=>((impl_TripNext.f k bt731.1 bt731.2.1 bt731.2.2.1 bt731.2.2.2.1 bt731.2.2.2.2).bind fun bt743=>(if bt743.1=bt728.1 then (if bt743.2.1=bt728.2.1 then (laws_FnExactTripNext.j0 k (bt743.2.2 != bt728.2.2) a0_0 a0_1 l0_2 l0_3 l0_4 bt731.1 bt731.2.1 bt731.2.2.1 bt731.2.2.2.1 bt731.2.2.2.2) else (laws_FnExactTripNext.j0 k true a0_0 a0_1 l0_2 l0_3 l0_4 bt731.1 bt731.2.1 bt731.2.2.1 bt731.2.2.2.1 bt731.2.2.2.2)) else (laws_FnExactTripNext.j0 k true a0_0 a0_1 l0_2 l0_3 l0_4 bt731.1 bt731.2.1 bt731.2.2.1 bt731.2.2.2.1 bt731.2.2.2.2))))))))=some r:=h
 clear h
 replace H:=Option.bind_eq_some_iff.mp H
 obtain ⟨t716,A20,H⟩:=H
 replace H:(if t716 < 0 then (some true) else ((laws_toTrip.f k a0_0 a0_1 l0_2 l0_3 l0_4).bind fun bt717=>((spec_TripNext.f k bt717.1 bt717.2.1 bt717.2.2.1 bt717.2.2.2.1 bt717.2.2.2.2).bind fun bt728=>((laws_toTrip.f k a0_0 a0_1 l0_2 l0_3 l0_4).bind fun bt731=>((impl_TripNext.f k bt731.1 bt731.2.1 bt731.2.2.1 bt731.2.2.2.1 bt731.2.2.2.2).bind fun bt743=>(if bt743.1=bt728.1 then (if bt743.2.1=bt728.2.1 then (laws_FnExactTripNext.j0 k (bt743.2.2 != bt728.2.2) a0_0 a0_1 l0_2 l0_3 l0_4 bt731.1 bt731.2.1 bt731.2.2.1 bt731.2.2.2.1 bt731.2.2.2.2) else (laws_FnExactTripNext.j0 k true a0_0 a0_1 l0_2 l0_3 l0_4 bt731.1 bt731.2.1 bt731.2.2.1 bt731.2.2.2.1 bt731.2.2.2.2)) else (laws_FnExactTripNext.j0 k true a0_0 a0_1 l0_2 l0_3 l0_4 bt731.1 bt731.2.1 bt731.2.2.1 bt731.2.2.2.1 bt731.2.2.2.2)))))))=some r:=H
 have A2:=A_ A20
 clear A20
 have HF3:=A_ H
 clear H
 go_enter Tryz.func5,Tryz.ntmps5
 go_upto_if 15 with (first|((with_reducible refine gate_dst (N:=1) rfl ?_);refine box_event ?hg (N:=1) ?hd (cs:=#[.string a0_0,.int .i64 a0_1,.slice A0_2 l0_2.length c0_2,.slice A0_3 l0_3.length c0_3,.slice A0_4 l0_4.length c0_4]) (t:=26) ?hr ?_;(case hd=>rfl);(case hg=>rfl);(case hr=>first|(go_simp;done)|(go_simp;rfl));intro gb715 hg w4 hbox hb;have n0_:=A_ (below_step (by repeat (first|(with_reducible first|exact HB.out|apply below_alloc|apply pw_below_drewN|apply below_drew1)|exact HB.out)) hb);have n1_:=A_ (hbox);have n2_:=A_ ((by rw [hg];exact (below_size (by repeat (first|(with_reducible first|exact HB.out|apply below_alloc|apply pw_below_drewN|apply below_drew1)|exact HB.out))):w.heap.size≤gb715));have n3_:=A_ ((by rw [hg];exact (below_size (by repeat (first|(with_reducible first|exact HB.out|apply below_alloc|apply pw_below_drewN|apply below_drew1)|exact HB.out))):w.heap.size≤gb715));clear HB;have HB:=n0_;have BK715:=n1_;have GW715:=n2_;have GE715:=n3_;clear n0_ n1_ n2_ n3_;clear hb hbox hg;have hcz5_0:w4.cell? ⟨gb715,0,none⟩=some (.string a0_0):=(blk_cell BK715.out 0).trans rfl;have hcz5_1:w4.cell? ⟨gb715,1,none⟩=some (.int .i64 a0_1):=(blk_cell BK715.out 1).trans rfl;have hcz5_2:w4.cell? ⟨gb715,2,none⟩=some (.slice A0_2 l0_2.length c0_2):=(blk_cell BK715.out 2).trans rfl;have hcz5_3:w4.cell? ⟨gb715,3,none⟩=some (.slice A0_3 l0_3.length c0_3):=(blk_cell BK715.out 3).trans rfl;have hcz5_4:w4.cell? ⟨gb715,4,none⟩=some (.slice A0_4 l0_4.length c0_4):=(blk_cell BK715.out 4).trans rfl;have hfz5_0:=blk_frozen BK715.out 0;have hfz5_1:=blk_frozen BK715.out 1;have hfz5_2:=blk_frozen BK715.out 2;have hfz5_3:=blk_frozen BK715.out 3;have hfz5_4:=blk_frozen BK715.out 4)|((with_reducible refine gate_callee (f:=6) rfl ?_);refine goesL_ (some 13) rfl rfl Tryz.func6 (by kernel_rfl) rfl #[.agg #[.string a0_0,.int .i64 a0_1,.slice A0_2 l0_2.length c0_2,.slice A0_3 l0_3.length c0_3,.slice A0_4 l0_4.length c0_4],.int .i64 1048576] rfl (by (try simp only [List.map_toArray,List.map_cons,List.map_nil]);first|done|rfl|(simp only [List.length_drop,List.length_take];rfl)) ?_;(with_reducible refine (laws_szTrip.calls k a0_0 a0_1 _ _ l0_2 _ _ l0_3 _ _ l0_4 1048576 t716 _ ?side1 ?side2 ?side3 ?side4 ?side5 ?side6 A2.out).mono ?_);(case side1=>repeat (first|exact (Kd.C_below HR0_2.out HB.out)|(with_reducible refine Kd.C_alloc ?_ _)|(with_reducible refine Kd.C_drewN ?_ _)|(with_reducible refine Kd.C_drew ?_)));(case side2=>exact HC0_2.out);(case side3=>repeat (first|exact (Kd.C_below HR0_3.out HB.out)|(with_reducible refine Kd.C_alloc ?_ _)|(with_reducible refine Kd.C_drewN ?_ _)|(with_reducible refine Kd.C_drew ?_)));(case side4=>exact HC0_3.out);(case side5=>repeat (first|exact (Kd.C_below HR0_4.out HB.out)|(with_reducible refine Kd.C_alloc ?_ _)|(with_reducible refine Kd.C_drewN ?_ _)|(with_reducible refine Kd.C_drew ?_)));(case side6=>exact HC0_4.out);rintro e w6 ⟨rfl,hb⟩;refine ⟨_,rfl,?_⟩;have n0_:=A_ (blk_below (g:=gb715) (o:=.cells #[.string a0_0,.int .i64 a0_1,.slice A0_2 l0_2.length c0_2,.slice A0_3 l0_3.length c0_3,.slice A0_4 l0_4.length c0_4] 26 (0,0)) (by (with_reducible repeat (first|refine blk_drewN ?_ _|refine blk_drew ?_|refine blk_alloc ?_ _));exact BK715.out) hb);have n1_:=A_ (below_step (by repeat (first|(with_reducible first|exact HB.out|apply below_alloc|apply pw_below_drewN|apply below_drew1|refine below_set ?_ GE715.out)|exact HB.out)) hb);clear BK715;clear HB;have BK715:=n0_;have HB:=n1_;clear n0_ n1_;(try clear hb);(try clear hb2);(try clear hk);(try clear hi)))
 have H:=HF3.out
 clear HF3
 by_cases c7:t716 < 0
 ·rw [if_pos c7] at H
  have c7b0:decide (t716 < 0)=true:=decide_eq_true c7
  clear c7
  (first|rw [c7b0]|(simp only [i64_w,i32_w];rw [c7b0])|skip)
  obtain rfl:=Option.some.inj H
  go_wp2
  go_ret
  exact ⟨by first|rfl|(simp [errW_none,errW_some] <;> rfl)|(simp [*,errW_none,errW_some] <;> rfl),by repeat (first|(with_reducible first|exact HB.out|apply below_alloc|apply pw_below_drewN|apply below_drew1|refine below_set ?_ GE715.out)|exact HB.out)⟩
 ·rw [if_neg c7] at H
  have c7b0:decide (t716 < 0)=false:=decide_eq_false c7
  clear c7
  (first|rw [c7b0]|(simp only [i64_w,i32_w];rw [c7b0])|skip)
  replace H:=Option.bind_eq_some_iff.mp H
  obtain ⟨⟨t717,t718,t719,t722,t725⟩,A80,H⟩:=H
  replace H:((spec_TripNext.f k t717 t718 t719 t722 t725).bind fun bt728=>((laws_toTrip.f k a0_0 a0_1 l0_2 l0_3 l0_4).bind fun bt731=>((impl_TripNext.f k bt731.1 bt731.2.1 bt731.2.2.1 bt731.2.2.2.1 bt731.2.2.2.2).bind fun bt743=>(if bt743.1=bt728.1 then (if bt743.2.1=bt728.2.1 then (laws_FnExactTripNext.j0 k (bt743.2.2 != bt728.2.2) a0_0 a0_1 l0_2 l0_3 l0_4 bt731.1 bt731.2.1 bt731.2.2.1 bt731.2.2.2.1 bt731.2.2.2.2) else (laws_FnExactTripNext.j0 k true a0_0 a0_1 l0_2 l0_3 l0_4 bt731.1 bt731.2.1 bt731.2.2.1 bt731.2.2.2.1 bt731.2.2.2.2)) else (laws_FnExactTripNext.j0 k true a0_0 a0_1 l0_2 l0_3 l0_4 bt731.1 bt731.2.1 bt731.2.2.1 bt731.2.2.2.1 bt731.2.2.2.2)))))=some r:=H
  have A8:=A_ A80
  clear A80
  replace H:=Option.bind_eq_some_iff.mp H
  obtain ⟨⟨t728,t729,t730⟩,A90,H⟩:=H
  replace H:((laws_toTrip.f k a0_0 a0_1 l0_2 l0_3 l0_4).bind fun bt731=>((impl_TripNext.f k bt731.1 bt731.2.1 bt731.2.2.1 bt731.2.2.2.1 bt731.2.2.2.2).bind fun bt743=>(if bt743.1=t728 then (if bt743.2.1=t729 then (laws_FnExactTripNext.j0 k (bt743.2.2 != t730) a0_0 a0_1 l0_2 l0_3 l0_4 bt731.1 bt731.2.1 bt731.2.2.1 bt731.2.2.2.1 bt731.2.2.2.2) else (laws_FnExactTripNext.j0 k true a0_0 a0_1 l0_2 l0_3 l0_4 bt731.1 bt731.2.1 bt731.2.2.1 bt731.2.2.2.1 bt731.2.2.2.2)) else (laws_FnExactTripNext.j0 k true a0_0 a0_1 l0_2 l0_3 l0_4 bt731.1 bt731.2.1 bt731.2.2.1 bt731.2.2.2.1 bt731.2.2.2.2))))=some r:=H
  have A9:=A_ A90
  clear A90
  replace H:=Option.bind_eq_some_iff.mp H
  obtain ⟨⟨t731,t732,t733,t736,t739⟩,A100,H⟩:=H
  replace H:((impl_TripNext.f k t731 t732 t733 t736 t739).bind fun bt743=>(if bt743.1=t728 then (if bt743.2.1=t729 then (laws_FnExactTripNext.j0 k (bt743.2.2 != t730) a0_0 a0_1 l0_2 l0_3 l0_4 t731 t732 t733 t736 t739) else (laws_FnExactTripNext.j0 k true a0_0 a0_1 l0_2 l0_3 l0_4 t731 t732 t733 t736 t739)) else (laws_FnExactTripNext.j0 k true a0_0 a0_1 l0_2 l0_3 l0_4 t731 t732 t733 t736 t739)))=some r:=H
  have A10:=A_ A100
  clear A100
  replace H:=Option.bind_eq_some_iff.mp H
  obtain ⟨⟨t743,t744,t745⟩,A110,H⟩:=H
  replace H:(if t743=t728 then (if t744=t729 then (laws_FnExactTripNext.j0 k (t745 != t730) a0_0 a0_1 l0_2 l0_3 l0_4 t731 t732 t733 t736 t739) else (laws_FnExactTripNext.j0 k true a0_0 a0_1 l0_2 l0_3 l0_4 t731 t732 t733 t736 t739)) else (laws_FnExactTripNext.j0 k true a0_0 a0_1 l0_2 l0_3 l0_4 t731 t732 t733 t736 t739))=some r:=H
  have A11:=A_ A110
  clear A110
  have HC12:=A_ H
  clear H
  have hcz13_0:w6.cell? ⟨gb715,0,none⟩=some (.string a0_0):=(blk_cell BK715.out 0).trans rfl
  have hcz13_1:w6.cell? ⟨gb715,1,none⟩=some (.int .i64 a0_1):=(blk_cell BK715.out 1).trans rfl
  have hcz13_2:w6.cell? ⟨gb715,2,none⟩=some (.slice A0_2 l0_2.length c0_2):=(blk_cell BK715.out 2).trans rfl
  have hcz13_3:w6.cell? ⟨gb715,3,none⟩=some (.slice A0_3 l0_3.length c0_3):=(blk_cell BK715.out 3).trans rfl
  have hcz13_4:w6.cell? ⟨gb715,4,none⟩=some (.slice A0_4 l0_4.length c0_4):=(blk_cell BK715.out 4).trans rfl
  have hfz13_0:=blk_frozen BK715.out 0
  have hfz13_1:=blk_frozen BK715.out 1
  have hfz13_2:=blk_frozen BK715.out 2
  have hfz13_3:=blk_frozen BK715.out 3
  have hfz13_4:=blk_frozen BK715.out 4
  go_upto_region 8 with (first|((with_reducible refine gate_callee (f:=8) rfl ?_);refine goesL_ (some 18) rfl rfl Tryz.func8 (by kernel_rfl) rfl #[.agg #[.string a0_0,.int .i64 a0_1,.slice A0_2 l0_2.length c0_2,.slice A0_3 l0_3.length c0_3,.slice A0_4 l0_4.length c0_4]] rfl (by (try simp only [List.map_toArray,List.map_cons,List.map_nil]);first|done|rfl|(simp only [List.length_drop,List.length_take];rfl)) ?_;(with_reducible refine (laws_toTrip.calls k a0_0 a0_1 _ _ l0_2 _ _ l0_3 _ _ l0_4 t717 t718 t719 t722 t725 _ ?side1 ?side2 ?side3 ?side4 ?side5 ?side6 A8.out).mono ?_);(case side1=>repeat (first|exact (Kd.C_below HR0_2.out HB.out)|(with_reducible refine Kd.C_alloc ?_ _)|(with_reducible refine Kd.C_drewN ?_ _)|(with_reducible refine Kd.C_drew ?_)));(case side2=>exact HC0_2.out);(case side3=>repeat (first|exact (Kd.C_below HR0_3.out HB.out)|(with_reducible refine Kd.C_alloc ?_ _)|(with_reducible refine Kd.C_drewN ?_ _)|(with_reducible refine Kd.C_drew ?_)));(case side4=>exact HC0_3.out);(case side5=>repeat (first|exact (Kd.C_below HR0_4.out HB.out)|(with_reducible refine Kd.C_alloc ?_ _)|(with_reducible refine Kd.C_drewN ?_ _)|(with_reducible refine Kd.C_drew ?_)));(case side6=>exact HC0_4.out);rintro e w14 ⟨v720,v723,v726,rfl,ho0,ho1,ho2,hb⟩;refine ⟨_,rfl,?_⟩;have n0_:=A_ (Kd.S_lower ho0 (below_size (by repeat (first|(with_reducible first|exact HB.out|apply below_alloc|apply pw_below_drewN|apply below_drew1|refine below_set ?_ GE715.out)|exact HB.out))));have n1_:=A_ (Kd.R_lower ho1 (below_size (by repeat (first|(with_reducible first|exact HB.out|apply below_alloc|apply pw_below_drewN|apply below_drew1|refine below_set ?_ GE715.out)|exact HB.out))));have n2_:=A_ (Kd.R_lower ho2 (below_size (by repeat (first|(with_reducible first|exact HB.out|apply below_alloc|apply pw_below_drewN|apply below_drew1|refine below_set ?_ GE715.out)|exact HB.out))));have n3_:=A_ (blk_below (g:=gb715) (o:=.cells #[.string a0_0,.int .i64 a0_1,.slice A0_2 l0_2.length c0_2,.slice A0_3 l0_3.length c0_3,.slice A0_4 l0_4.length c0_4] 26 (0,0)) (by (with_reducible repeat (first|refine blk_drewN ?_ _|refine blk_drew ?_|refine blk_alloc ?_ _));exact BK715.out) hb);have n4_:=A_ (below_step (by repeat (first|(with_reducible first|exact HB.out|apply below_alloc|apply pw_below_drewN|apply below_drew1|refine below_set ?_ GE715.out)|exact HB.out)) hb);clear BK715;clear HB;have HO721:=n0_;have HO724:=n1_;have HO727:=n2_;have BK715:=n3_;have HB:=n4_;clear n0_ n1_ n2_ n3_ n4_;(try clear hb);(try clear hb2);(try clear hk);(try clear hi);(try clear ho0);(try clear ho1);(try clear ho2);obtain ⟨Ao15,co15,eo15⟩:=Kd.S_slice HO721.out;subst eo15;obtain ⟨Ao16,co16,eo16⟩:=Kd.R_slice HO724.out;subst eo16;obtain ⟨Ao17,co17,eo17⟩:=Kd.R_slice HO727.out;subst eo17)|((with_reducible refine gate_callee (f:=13) rfl ?_);refine goesL_ (some 19) rfl rfl Tryz.func13 (by kernel_rfl) rfl #[.agg #[.string t717,.int .i64 t718,.slice Ao15 t719.length co15,.slice Ao16 t722.length co16,.slice Ao17 t725.length co17]] rfl (by (try simp only [List.map_toArray,List.map_cons,List.map_nil]);first|done|rfl|(simp only [List.length_drop,List.length_take];rfl)) ?_;(with_reducible refine (spec_TripNext.calls k t717 t718 _ _ t719 _ _ t722 _ _ t725 t728 t729 t730 _ ?side1 ?side2 ?side3 ?side4 ?side5 ?side6 A9.out).mono ?_);(case side1=>repeat (first|exact (Kd.S_reads' HO721.out).2.2|(with_reducible refine Kd.C_alloc ?_ _)|(with_reducible refine Kd.C_drewN ?_ _)|(with_reducible refine Kd.C_drew ?_)));(case side2=>exact (Kd.S_reads' HO721.out).2.1);(case side3=>repeat (first|exact (Kd.R_reads' HO724.out).2.2|(with_reducible refine Kd.C_alloc ?_ _)|(with_reducible refine Kd.C_drewN ?_ _)|(with_reducible refine Kd.C_drew ?_)));(case side4=>exact (Kd.R_reads' HO724.out).2.1);(case side5=>repeat (first|exact (Kd.R_reads' HO727.out).2.2|(with_reducible refine Kd.C_alloc ?_ _)|(with_reducible refine Kd.C_drewN ?_ _)|(with_reducible refine Kd.C_drew ?_)));(case side6=>exact (Kd.R_reads' HO727.out).2.1);rintro e w18 ⟨rfl,hb⟩;refine ⟨_,rfl,?_⟩;have n0_:=A_ (Kd.S_below (by (with_reducible repeat (first|apply Kd.S_alloc|apply Kd.S_drewN|apply Kd.S_drew));exact HO721.out) hb);have n1_:=A_ (Kd.R_below (by (with_reducible repeat (first|apply Kd.R_alloc|apply Kd.R_drewN|apply Kd.R_drew));exact HO724.out) hb);have n2_:=A_ (Kd.R_below (by (with_reducible repeat (first|apply Kd.R_alloc|apply Kd.R_drewN|apply Kd.R_drew));exact HO727.out) hb);have n3_:=A_ (blk_below (g:=gb715) (o:=.cells #[.string a0_0,.int .i64 a0_1,.slice A0_2 l0_2.length c0_2,.slice A0_3 l0_3.length c0_3,.slice A0_4 l0_4.length c0_4] 26 (0,0)) (by (with_reducible repeat (first|refine blk_drewN ?_ _|refine blk_drew ?_|refine blk_alloc ?_ _));exact BK715.out) hb);have n4_:=A_ (below_step (by repeat (first|(with_reducible first|exact HB.out|apply below_alloc|apply pw_below_drewN|apply below_drew1|refine below_set ?_ GE715.out)|exact HB.out)) hb);clear HO721;clear HO724;clear HO727;clear BK715;clear HB;have HO721:=n0_;have HO724:=n1_;have HO727:=n2_;have BK715:=n3_;have HB:=n4_;clear n0_ n1_ n2_ n3_ n4_;(try clear hb);(try clear hb2);(try clear hk);(try clear hi);have hcz19_0:w18.cell? ⟨gb715,0,none⟩=some (.string a0_0):=(blk_cell BK715.out 0).trans rfl;have hcz19_1:w18.cell? ⟨gb715,1,none⟩=some (.int .i64 a0_1):=(blk_cell BK715.out 1).trans rfl;have hcz19_2:w18.cell? ⟨gb715,2,none⟩=some (.slice A0_2 l0_2.length c0_2):=(blk_cell BK715.out 2).trans rfl;have hcz19_3:w18.cell? ⟨gb715,3,none⟩=some (.slice A0_3 l0_3.length c0_3):=(blk_cell BK715.out 3).trans rfl;have hcz19_4:w18.cell? ⟨gb715,4,none⟩=some (.slice A0_4 l0_4.length c0_4):=(blk_cell BK715.out 4).trans rfl;have hfz19_0:=blk_frozen BK715.out 0;have hfz19_1:=blk_frozen BK715.out 1;have hfz19_2:=blk_frozen BK715.out 2;have hfz19_3:=blk_frozen BK715.out 3;have hfz19_4:=blk_frozen BK715.out 4)|((with_reducible refine gate_callee (f:=8) rfl ?_);refine goesL_ (some 24) rfl rfl Tryz.func8 (by kernel_rfl) rfl #[.agg #[.string a0_0,.int .i64 a0_1,.slice A0_2 l0_2.length c0_2,.slice A0_3 l0_3.length c0_3,.slice A0_4 l0_4.length c0_4]] rfl (by (try simp only [List.map_toArray,List.map_cons,List.map_nil]);first|done|rfl|(simp only [List.length_drop,List.length_take];rfl)) ?_;(with_reducible refine (laws_toTrip.calls k a0_0 a0_1 _ _ l0_2 _ _ l0_3 _ _ l0_4 t731 t732 t733 t736 t739 _ ?side1 ?side2 ?side3 ?side4 ?side5 ?side6 A10.out).mono ?_);(case side1=>repeat (first|exact (Kd.C_below HR0_2.out HB.out)|(with_reducible refine Kd.C_alloc ?_ _)|(with_reducible refine Kd.C_drewN ?_ _)|(with_reducible refine Kd.C_drew ?_)));(case side2=>exact HC0_2.out);(case side3=>repeat (first|exact (Kd.C_below HR0_3.out HB.out)|(with_reducible refine Kd.C_alloc ?_ _)|(with_reducible refine Kd.C_drewN ?_ _)|(with_reducible refine Kd.C_drew ?_)));(case side4=>exact HC0_3.out);(case side5=>repeat (first|exact (Kd.C_below HR0_4.out HB.out)|(with_reducible refine Kd.C_alloc ?_ _)|(with_reducible refine Kd.C_drewN ?_ _)|(with_reducible refine Kd.C_drew ?_)));(case side6=>exact HC0_4.out);rintro e w20 ⟨v734,v737,v740,rfl,ho0,ho1,ho2,hb⟩;refine ⟨_,rfl,?_⟩;have n0_:=A_ (Kd.S_mono (Kd.S_told (Kd.S_told (Kd.S_old (by (with_reducible repeat (first|apply Kd.S_alloc|apply Kd.S_drewN|apply Kd.S_drew));exact HO721.out) hb) (Kd.S_base ho0)) (Kd.R_base ho1)) (fun _ h_=>h_.1));have n1_:=A_ (Kd.R_elder' (by (with_reducible repeat (first|apply Kd.R_alloc|apply Kd.R_drewN|apply Kd.R_drew));exact HO724.out) (Kd.R_base ho1) hb);have n2_:=A_ (Kd.R_elder' (by (with_reducible repeat (first|apply Kd.R_alloc|apply Kd.R_drewN|apply Kd.R_drew));exact HO727.out) (Kd.R_base ho2) hb);have n3_:=A_ (Kd.S_lower (Kd.S_new' (Kd.S_new' ho0 (Kd.S_lt (by (with_reducible repeat (first|apply Kd.S_alloc|apply Kd.S_drewN|apply Kd.S_drew));exact HO721.out))) (Kd.R_lt (by (with_reducible repeat (first|apply Kd.R_alloc|apply Kd.R_drewN|apply Kd.R_drew));exact HO724.out))) (below_size (by repeat (first|(with_reducible first|exact HB.out|apply below_alloc|apply pw_below_drewN|apply below_drew1|refine below_set ?_ GE715.out)|exact HB.out))));have n4_:=A_ (Kd.R_lower (Kd.R_new' ho1 (Kd.R_lt (by (with_reducible repeat (first|apply Kd.R_alloc|apply Kd.R_drewN|apply Kd.R_drew));exact HO724.out))) (below_size (by repeat (first|(with_reducible first|exact HB.out|apply below_alloc|apply pw_below_drewN|apply below_drew1|refine below_set ?_ GE715.out)|exact HB.out))));have n5_:=A_ (Kd.R_lower (Kd.R_new' ho2 (Kd.R_lt (by (with_reducible repeat (first|apply Kd.R_alloc|apply Kd.R_drewN|apply Kd.R_drew));exact HO727.out))) (below_size (by repeat (first|(with_reducible first|exact HB.out|apply below_alloc|apply pw_below_drewN|apply below_drew1|refine below_set ?_ GE715.out)|exact HB.out))));have n6_:=A_ (blk_below (g:=gb715) (o:=.cells #[.string a0_0,.int .i64 a0_1,.slice A0_2 l0_2.length c0_2,.slice A0_3 l0_3.length c0_3,.slice A0_4 l0_4.length c0_4] 26 (0,0)) (by (with_reducible repeat (first|refine blk_drewN ?_ _|refine blk_drew ?_|refine blk_alloc ?_ _));exact BK715.out) hb);have n7_:=A_ (below_step (by repeat (first|(with_reducible first|exact HB.out|apply below_alloc|apply pw_below_drewN|apply below_drew1|refine below_set ?_ GE715.out)|exact HB.out)) hb);clear HO721;clear HO724;clear HO727;clear BK715;clear HB;have HO721:=n0_;have HO724:=n1_;have HO727:=n2_;have HO735:=n3_;have HO738:=n4_;have HO741:=n5_;have BK715:=n6_;have HB:=n7_;clear n0_ n1_ n2_ n3_ n4_ n5_ n6_ n7_;(try clear hb);(try clear hb2);(try clear hk);(try clear hi);(try clear ho0);(try clear ho1);(try clear ho2))|((with_reducible refine gate_dst (N:=7) rfl ?_);refine box_event ?hg (N:=7) ?hd (cs:=#[.string (⟨#[]⟩:ByteArray),.int .i64 0,.slice none 0 0,.slice none 0 0,.slice none 0 0]) (t:=32) ?hr ?_;(case hd=>rfl);(case hg=>rfl);(case hr=>first|(go_simp;done)|(go_simp;rfl));intro gb742 hg w21 hbox hb;have n0_:=A_ (Kd.S_below (by (with_reducible repeat (first|apply Kd.S_alloc|apply Kd.S_drewN|apply Kd.S_drew));exact HO721.out) hb);have n1_:=A_ (Kd.R_below (by (with_reducible repeat (first|apply Kd.R_alloc|apply Kd.R_drewN|apply Kd.R_drew));exact HO724.out) hb);have n2_:=A_ (Kd.R_below (by (with_reducible repeat (first|apply Kd.R_alloc|apply Kd.R_drewN|apply Kd.R_drew));exact HO727.out) hb);have n3_:=A_ (Kd.S_below (by (with_reducible repeat (first|apply Kd.S_alloc|apply Kd.S_drewN|apply Kd.S_drew));exact HO735.out) hb);have n4_:=A_ (Kd.R_below (by (with_reducible repeat (first|apply Kd.R_alloc|apply Kd.R_drewN|apply Kd.R_drew));exact HO738.out) hb);have n5_:=A_ (Kd.R_below (by (with_reducible repeat (first|apply Kd.R_alloc|apply Kd.R_drewN|apply Kd.R_drew));exact HO741.out) hb);have n6_:=A_ (blk_below (g:=gb715) (o:=.cells #[.string a0_0,.int .i64 a0_1,.slice A0_2 l0_2.length c0_2,.slice A0_3 l0_3.length c0_3,.slice A0_4 l0_4.length c0_4] 26 (0,0)) (by (with_reducible repeat (first|refine blk_drewN ?_ _|refine blk_drew ?_|refine blk_alloc ?_ _));exact BK715.out) hb);have n7_:=A_ (below_step (by repeat (first|(with_reducible first|exact HB.out|apply below_alloc|apply pw_below_drewN|apply below_drew1|refine below_set ?_ GE715.out)|exact HB.out)) hb);have n8_:=A_ (hbox);have n9_:=A_ ((by rw [hg];exact (below_size (by repeat (first|(with_reducible first|exact HB.out|apply below_alloc|apply pw_below_drewN|apply below_drew1|refine below_set ?_ GE715.out)|exact HB.out))):w.heap.size≤gb742));have n10_:=A_ ((by rw [hg];exact (below_size (by repeat (first|(with_reducible first|exact HB.out|apply below_alloc|apply pw_below_drewN|apply below_drew1|refine below_set ?_ GE715.out)|exact HB.out))):w.heap.size≤gb742));have n11_:=A_ ((by rw [hg];exact Nat.ne_of_lt (blk_lt (g:=gb715) (o:=.cells #[.string a0_0,.int .i64 a0_1,.slice A0_2 l0_2.length c0_2,.slice A0_3 l0_3.length c0_3,.slice A0_4 l0_4.length c0_4] 26 (0,0)) (by (with_reducible repeat (first|refine blk_drewN ?_ _|refine blk_drew ?_|refine blk_alloc ?_ _));exact BK715.out)):gb715≠gb742));have n12_:=A_ ((by rw [hg];exact Nat.ne_of_gt (blk_lt (g:=gb715) (o:=.cells #[.string a0_0,.int .i64 a0_1,.slice A0_2 l0_2.length c0_2,.slice A0_3 l0_3.length c0_3,.slice A0_4 l0_4.length c0_4] 26 (0,0)) (by (with_reducible repeat (first|refine blk_drewN ?_ _|refine blk_drew ?_|refine blk_alloc ?_ _));exact BK715.out)):gb742≠gb715));clear HO721;clear HO724;clear HO727;clear HO735;clear HO738;clear HO741;clear BK715;clear HB;have HO721:=n0_;have HO724:=n1_;have HO727:=n2_;have HO735:=n3_;have HO738:=n4_;have HO741:=n5_;have BK715:=n6_;have HB:=n7_;have BK742:=n8_;have GW742:=n9_;have GE742:=n10_;have NB715_742:=n11_;have NB742_715:=n12_;clear n0_ n1_ n2_ n3_ n4_ n5_ n6_ n7_ n8_ n9_ n10_ n11_ n12_;clear hb hbox hg;have hnb22:=NB742_715.out;have hnc22:=NB715_742.out;have hcz23_0:w21.cell? ⟨gb742,0,none⟩=some (.string (⟨#[]⟩:ByteArray)):=(blk_cell BK742.out 0).trans rfl;have hcz23_1:w21.cell? ⟨gb742,1,none⟩=some (.int .i64 0):=(blk_cell BK742.out 1).trans rfl;have hcz23_2:w21.cell? ⟨gb742,2,none⟩=some (.slice none 0 0):=(blk_cell BK742.out 2).trans rfl;have hcz23_3:w21.cell? ⟨gb742,3,none⟩=some (.slice none 0 0):=(blk_cell BK742.out 3).trans rfl;have hcz23_4:w21.cell? ⟨gb742,4,none⟩=some (.slice none 0 0):=(blk_cell BK742.out 4).trans rfl;have hfz23_0:=blk_frozen BK742.out 0;have hfz23_1:=blk_frozen BK742.out 1;have hfz23_2:=blk_frozen BK742.out 2;have hfz23_3:=blk_frozen BK742.out 3;have hfz23_4:=blk_frozen BK742.out 4;obtain ⟨Ao24,co24,eo24⟩:=Kd.S_slice HO735.out;subst eo24;obtain ⟨Ao25,co25,eo25⟩:=Kd.R_slice HO738.out;subst eo25;obtain ⟨Ao26,co26,eo26⟩:=Kd.R_slice HO741.out;subst eo26)|((with_reducible refine gate_callee (f:=14) rfl ?_);refine goesL_ (some 27) rfl rfl Tryz.func14 (by kernel_rfl) rfl #[.agg #[.string t731,.int .i64 t732,.slice Ao24 t733.length co24,.slice Ao25 t736.length co25,.slice Ao26 t739.length co26]] rfl (by (try simp only [List.map_toArray,List.map_cons,List.map_nil]);first|done|rfl|(simp only [List.length_drop,List.length_take];rfl)) ?_;(with_reducible refine (impl_TripNext.calls k t731 t732 _ _ t733 _ _ t736 _ _ t739 t743 t744 t745 _ ?side1 ?side2 ?side3 ?side4 ?side5 ?side6 A11.out).mono ?_);(case side1=>refine (Kd.S_reads' (e:=56) (base:=w.heap.size) (ok:=fun k_=>((some k_≠(.slice Ao25 t736.length co25:Value).ownBlock∧some k_≠(.slice Ao15 t719.length co15:Value).ownBlock)∧some k_≠(.slice Ao16 t722.length co16:Value).ownBlock)) (n:=t733.length) (c:=co24) ?_).2.2;exact (by (with_reducible repeat (first|apply Kd.S_alloc|apply Kd.S_drewN|apply Kd.S_drew));exact (Kd.S_mono (Kd.S_far (p:=⟨gb742,4,none⟩) (Kd.S_far (p:=⟨gb742,3,none⟩) (Kd.S_far (p:=⟨gb742,2,none⟩) (Kd.S_far (p:=⟨gb742,1,none⟩) (Kd.S_far (p:=⟨gb742,0,none⟩) (Kd.S_types HO735.out BK742.out (by decide)) (fun _ hk=>hk.2) (.string t731)) (fun _ hk=>hk.2) (.int .i64 t732)) (fun _ hk=>hk.2) (.slice Ao24 t733.length co24)) (fun _ hk=>hk.2) (.slice Ao25 t736.length co25)) (fun _ hk=>hk.2) (.slice Ao26 t739.length co26)) (fun _ h_=>h_.1))));(case side2=>exact (Kd.S_reads' HO735.out).2.1);(case side3=>refine (Kd.R_reads' (e:=9) (base:=w.heap.size) (ok:=fun k_=>(True∧some k_≠(.slice Ao16 t722.length co16:Value).ownBlock)) (n:=t736.length) (c:=co25) ?_).2.2;exact (by (with_reducible repeat (first|apply Kd.R_alloc|apply Kd.R_drewN|apply Kd.R_drew));exact (Kd.R_mono (Kd.R_far (p:=⟨gb742,4,none⟩) (Kd.R_far (p:=⟨gb742,3,none⟩) (Kd.R_far (p:=⟨gb742,2,none⟩) (Kd.R_far (p:=⟨gb742,1,none⟩) (Kd.R_far (p:=⟨gb742,0,none⟩) (Kd.R_types HO738.out BK742.out (by decide)) (fun _ hk=>hk.2) (.string t731)) (fun _ hk=>hk.2) (.int .i64 t732)) (fun _ hk=>hk.2) (.slice Ao24 t733.length co24)) (fun _ hk=>hk.2) (.slice Ao25 t736.length co25)) (fun _ hk=>hk.2) (.slice Ao26 t739.length co26)) (fun _ h_=>h_.1))));(case side4=>exact (Kd.R_reads' HO738.out).2.1);(case side5=>refine (Kd.R_reads' (e:=45) (base:=w.heap.size) (ok:=fun k_=>(True∧some k_≠(.slice Ao17 t725.length co17:Value).ownBlock)) (n:=t739.length) (c:=co26) ?_).2.2;exact (by (with_reducible repeat (first|apply Kd.R_alloc|apply Kd.R_drewN|apply Kd.R_drew));exact (Kd.R_mono (Kd.R_far (p:=⟨gb742,4,none⟩) (Kd.R_far (p:=⟨gb742,3,none⟩) (Kd.R_far (p:=⟨gb742,2,none⟩) (Kd.R_far (p:=⟨gb742,1,none⟩) (Kd.R_far (p:=⟨gb742,0,none⟩) (Kd.R_types HO741.out BK742.out (by decide)) (fun _ hk=>hk.2) (.string t731)) (fun _ hk=>hk.2) (.int .i64 t732)) (fun _ hk=>hk.2) (.slice Ao24 t733.length co24)) (fun _ hk=>hk.2) (.slice Ao25 t736.length co25)) (fun _ hk=>hk.2) (.slice Ao26 t739.length co26)) (fun _ h_=>h_.1))));(case side6=>exact (Kd.R_reads' HO741.out).2.1);rintro e w27 ⟨rfl,hb⟩;refine ⟨_,rfl,?_⟩;have n0_:=A_ (Kd.S_below (by (with_reducible repeat (first|apply Kd.S_alloc|apply Kd.S_drewN|apply Kd.S_drew));exact (Kd.S_mono (Kd.S_far (p:=⟨gb742,4,none⟩) (Kd.S_far (p:=⟨gb742,3,none⟩) (Kd.S_far (p:=⟨gb742,2,none⟩) (Kd.S_far (p:=⟨gb742,1,none⟩) (Kd.S_far (p:=⟨gb742,0,none⟩) (Kd.S_types HO721.out BK742.out (by decide)) (fun _ hk=>hk.2) (.string t731)) (fun _ hk=>hk.2) (.int .i64 t732)) (fun _ hk=>hk.2) (.slice Ao24 t733.length co24)) (fun _ hk=>hk.2) (.slice Ao25 t736.length co25)) (fun _ hk=>hk.2) (.slice Ao26 t739.length co26)) (fun _ h_=>h_.1))) hb);have n1_:=A_ (Kd.R_below (by (with_reducible repeat (first|apply Kd.R_alloc|apply Kd.R_drewN|apply Kd.R_drew));exact (Kd.R_mono (Kd.R_far (p:=⟨gb742,4,none⟩) (Kd.R_far (p:=⟨gb742,3,none⟩) (Kd.R_far (p:=⟨gb742,2,none⟩) (Kd.R_far (p:=⟨gb742,1,none⟩) (Kd.R_far (p:=⟨gb742,0,none⟩) (Kd.R_types HO724.out BK742.out (by decide)) (fun _ hk=>hk.2) (.string t731)) (fun _ hk=>hk.2) (.int .i64 t732)) (fun _ hk=>hk.2) (.slice Ao24 t733.length co24)) (fun _ hk=>hk.2) (.slice Ao25 t736.length co25)) (fun _ hk=>hk.2) (.slice Ao26 t739.length co26)) (fun _ h_=>h_.1))) hb);have n2_:=A_ (Kd.R_below (by (with_reducible repeat (first|apply Kd.R_alloc|apply Kd.R_drewN|apply Kd.R_drew));exact (Kd.R_mono (Kd.R_far (p:=⟨gb742,4,none⟩) (Kd.R_far (p:=⟨gb742,3,none⟩) (Kd.R_far (p:=⟨gb742,2,none⟩) (Kd.R_far (p:=⟨gb742,1,none⟩) (Kd.R_far (p:=⟨gb742,0,none⟩) (Kd.R_types HO727.out BK742.out (by decide)) (fun _ hk=>hk.2) (.string t731)) (fun _ hk=>hk.2) (.int .i64 t732)) (fun _ hk=>hk.2) (.slice Ao24 t733.length co24)) (fun _ hk=>hk.2) (.slice Ao25 t736.length co25)) (fun _ hk=>hk.2) (.slice Ao26 t739.length co26)) (fun _ h_=>h_.1))) hb);have n3_:=A_ (Kd.S_below (by (with_reducible repeat (first|apply Kd.S_alloc|apply Kd.S_drewN|apply Kd.S_drew));exact (Kd.S_mono (Kd.S_far (p:=⟨gb742,4,none⟩) (Kd.S_far (p:=⟨gb742,3,none⟩) (Kd.S_far (p:=⟨gb742,2,none⟩) (Kd.S_far (p:=⟨gb742,1,none⟩) (Kd.S_far (p:=⟨gb742,0,none⟩) (Kd.S_types HO735.out BK742.out (by decide)) (fun _ hk=>hk.2) (.string t731)) (fun _ hk=>hk.2) (.int .i64 t732)) (fun _ hk=>hk.2) (.slice Ao24 t733.length co24)) (fun _ hk=>hk.2) (.slice Ao25 t736.length co25)) (fun _ hk=>hk.2) (.slice Ao26 t739.length co26)) (fun _ h_=>h_.1))) hb);have n4_:=A_ (Kd.R_below (by (with_reducible repeat (first|apply Kd.R_alloc|apply Kd.R_drewN|apply Kd.R_drew));exact (Kd.R_mono (Kd.R_far (p:=⟨gb742,4,none⟩) (Kd.R_far (p:=⟨gb742,3,none⟩) (Kd.R_far (p:=⟨gb742,2,none⟩) (Kd.R_far (p:=⟨gb742,1,none⟩) (Kd.R_far (p:=⟨gb742,0,none⟩) (Kd.R_types HO738.out BK742.out (by decide)) (fun _ hk=>hk.2) (.string t731)) (fun _ hk=>hk.2) (.int .i64 t732)) (fun _ hk=>hk.2) (.slice Ao24 t733.length co24)) (fun _ hk=>hk.2) (.slice Ao25 t736.length co25)) (fun _ hk=>hk.2) (.slice Ao26 t739.length co26)) (fun _ h_=>h_.1))) hb);have n5_:=A_ (Kd.R_below (by (with_reducible repeat (first|apply Kd.R_alloc|apply Kd.R_drewN|apply Kd.R_drew));exact (Kd.R_mono (Kd.R_far (p:=⟨gb742,4,none⟩) (Kd.R_far (p:=⟨gb742,3,none⟩) (Kd.R_far (p:=⟨gb742,2,none⟩) (Kd.R_far (p:=⟨gb742,1,none⟩) (Kd.R_far (p:=⟨gb742,0,none⟩) (Kd.R_types HO741.out BK742.out (by decide)) (fun _ hk=>hk.2) (.string t731)) (fun _ hk=>hk.2) (.int .i64 t732)) (fun _ hk=>hk.2) (.slice Ao24 t733.length co24)) (fun _ hk=>hk.2) (.slice Ao25 t736.length co25)) (fun _ hk=>hk.2) (.slice Ao26 t739.length co26)) (fun _ h_=>h_.1))) hb);have n6_:=A_ (blk_below (g:=gb715) (o:=.cells #[.string a0_0,.int .i64 a0_1,.slice A0_2 l0_2.length c0_2,.slice A0_3 l0_3.length c0_3,.slice A0_4 l0_4.length c0_4] 26 (0,0)) (by (with_reducible repeat (first|refine blk_drewN ?_ _|refine blk_drew ?_|refine blk_alloc ?_ _));refine blk_far ?_ NB715_742.out _;(with_reducible repeat (first|refine blk_drewN ?_ _|refine blk_drew ?_|refine blk_alloc ?_ _));refine blk_far ?_ NB715_742.out _;(with_reducible repeat (first|refine blk_drewN ?_ _|refine blk_drew ?_|refine blk_alloc ?_ _));refine blk_far ?_ NB715_742.out _;(with_reducible repeat (first|refine blk_drewN ?_ _|refine blk_drew ?_|refine blk_alloc ?_ _));refine blk_far ?_ NB715_742.out _;(with_reducible repeat (first|refine blk_drewN ?_ _|refine blk_drew ?_|refine blk_alloc ?_ _));refine blk_far ?_ NB715_742.out _;(with_reducible repeat (first|refine blk_drewN ?_ _|refine blk_drew ?_|refine blk_alloc ?_ _));exact BK715.out) hb);have n7_:=A_ (blk_below (g:=gb742) (o:=.cells #[.string t731,.int .i64 t732,.slice Ao24 t733.length co24,.slice Ao25 t736.length co25,.slice Ao26 t739.length co26] 32 (0,0)) (by (with_reducible repeat (first|refine blk_drewN ?_ _|refine blk_drew ?_|refine blk_alloc ?_ _));refine blk_put (cs:=#[.string t731,.int .i64 t732,.slice Ao24 t733.length co24,.slice Ao25 t736.length co25,.slice none 0 0]) ?_ 4 _ rfl;(with_reducible repeat (first|refine blk_drewN ?_ _|refine blk_drew ?_|refine blk_alloc ?_ _));refine blk_put (cs:=#[.string t731,.int .i64 t732,.slice Ao24 t733.length co24,.slice none 0 0,.slice none 0 0]) ?_ 3 _ rfl;(with_reducible repeat (first|refine blk_drewN ?_ _|refine blk_drew ?_|refine blk_alloc ?_ _));refine blk_put (cs:=#[.string t731,.int .i64 t732,.slice none 0 0,.slice none 0 0,.slice none 0 0]) ?_ 2 _ rfl;(with_reducible repeat (first|refine blk_drewN ?_ _|refine blk_drew ?_|refine blk_alloc ?_ _));refine blk_put (cs:=#[.string t731,.int .i64 0,.slice none 0 0,.slice none 0 0,.slice none 0 0]) ?_ 1 _ rfl;(with_reducible repeat (first|refine blk_drewN ?_ _|refine blk_drew ?_|refine blk_alloc ?_ _));refine blk_put (cs:=#[.string (⟨#[]⟩:ByteArray),.int .i64 0,.slice none 0 0,.slice none 0 0,.slice none 0 0]) ?_ 0 _ rfl;(with_reducible repeat (first|refine blk_drewN ?_ _|refine blk_drew ?_|refine blk_alloc ?_ _));exact BK742.out) hb);have n8_:=A_ (below_step (by repeat (first|(with_reducible first|exact HB.out|apply below_alloc|apply pw_below_drewN|apply below_drew1|refine below_set ?_ GE715.out|refine below_set ?_ GE742.out)|exact HB.out)) hb);clear HO721;clear HO724;clear HO727;clear HO735;clear HO738;clear HO741;clear BK715;clear BK742;clear HB;have HO721:=n0_;have HO724:=n1_;have HO727:=n2_;have HO735:=n3_;have HO738:=n4_;have HO741:=n5_;have BK715:=n6_;have BK742:=n7_;have HB:=n8_;clear n0_ n1_ n2_ n3_ n4_ n5_ n6_ n7_ n8_;(try clear hb);(try clear hb2);(try clear hk);(try clear hi)))
  (try simp only [Act.put,List.setIfInBounds_toArray,List.set_cons_zero,List.set_cons_succ])
  go_cut [43] (fun v43 wc=>∃ (kq:Nat) (x43_11:Bool),v43=.bool x43_11∧Aside0 (laws_FnExactTripNext.j0 kq x43_11 a0_0 a0_1 l0_2 l0_3 l0_4 t731 t732 t733 t736 t739=some r)∧Aside0 (kq≤k)∧Aside0 (Kd.S k56 56 wc w.heap.size (fun k_=>some k_≠((.slice Ao25 t736.length co25):Value).ownBlock) (.slice Ao24 t733.length co24) t733)∧Aside0 (Kd.R Kd.string 9 wc w.heap.size (fun _=>True) (.slice Ao25 t736.length co25) t736)∧Aside0 (Kd.R k45 45 wc w.heap.size (fun _=>True) (.slice Ao26 t739.length co26) t739)∧Aside0 (wc.heap[gb715]?=some (.cells #[.string a0_0,.int .i64 a0_1,(.slice A0_2 l0_2.length c0_2),(.slice A0_3 l0_3.length c0_3),(.slice A0_4 l0_4.length c0_4)] 26 (0,0)))∧Aside0 (wc.heap[gb742]?=some (.cells #[.string t731,.int .i64 t732,(.slice Ao24 t733.length co24),(.slice Ao25 t736.length co25),(.slice Ao26 t739.length co26)] 32 (0,0)))∧Aside0 (Below w.heap.size w wc))
  case first=>
   have H:=HC12.out
   clear HC12
   by_cases c28:t743=t728
   ·rw [if_pos c28] at H
    have c28b0:(t743 == t728)=true:=beq_iff_eq.mpr c28
    have c28b1:(t743 != t728)=false:=bne_eq_false_iff_eq.mpr c28
    clear c28
    (first|rw [c28b0]|(simp only [i64_w,i32_w];rw [c28b0])|skip)
    by_cases c29:t744=t729
    ·rw [if_pos c29] at H
     have c29b0:(t744 == t729)=true:=beq_iff_eq.mpr c29
     have c29b1:(t744 != t729)=false:=bne_eq_false_iff_eq.mpr c29
     clear c29
     have H':=A_ H
     clear H
     go_wp2
     go_meet
     case rel=>exact ⟨_,((t745 != t730)),(by first|rfl|(simp only [i64_w,i32_w];done)|(simp only [aid_isEmpty,aid_isEmpty2];done)|(simp;done)|(simp [*];done)),H',⟨by first|omega|exact Nat.le_refl _⟩,⟨by (with_reducible repeat (first|apply Kd.S_alloc|apply Kd.S_drewN|apply Kd.S_drew));exact Kd.S_mono HO735.out (fun _ hk=>hk.1.1)⟩,⟨by (with_reducible repeat (first|apply Kd.R_alloc|apply Kd.R_drewN|apply Kd.R_drew));exact Kd.R_mono HO738.out (fun _ hk=>trivial)⟩,⟨by (with_reducible repeat (first|apply Kd.R_alloc|apply Kd.R_drewN|apply Kd.R_drew));exact Kd.R_mono HO741.out (fun _ hk=>trivial)⟩,⟨by (with_reducible repeat (first|refine blk_drewN ?_ _|refine blk_drew ?_|refine blk_alloc ?_ _));exact BK715.out⟩,⟨by (with_reducible repeat (first|refine blk_drewN ?_ _|refine blk_drew ?_|refine blk_alloc ?_ _));exact BK742.out⟩,⟨by repeat (first|(with_reducible first|exact HB.out|apply below_alloc|apply pw_below_drewN|apply below_drew1|refine below_set ?_ GE715.out|refine below_set ?_ GE742.out)|exact HB.out)⟩⟩
    ·rw [if_neg c29] at H
     have c29b0:(t744 == t729)=false:=beq_eq_false_iff_ne.mpr c29
     have c29b1:(t744 != t729)=true:=bne_iff_ne.mpr c29
     have H':=A_ H
     clear H
     go_wp2
     go_meet
     case rel=>exact ⟨_,(true),(by first|rfl|(simp only [i64_w,i32_w];done)|(simp only [aid_isEmpty,aid_isEmpty2];done)|(simp;done)|(simp [*];done)),H',⟨by first|omega|exact Nat.le_refl _⟩,⟨by (with_reducible repeat (first|apply Kd.S_alloc|apply Kd.S_drewN|apply Kd.S_drew));exact Kd.S_mono HO735.out (fun _ hk=>hk.1.1)⟩,⟨by (with_reducible repeat (first|apply Kd.R_alloc|apply Kd.R_drewN|apply Kd.R_drew));exact Kd.R_mono HO738.out (fun _ hk=>trivial)⟩,⟨by (with_reducible repeat (first|apply Kd.R_alloc|apply Kd.R_drewN|apply Kd.R_drew));exact Kd.R_mono HO741.out (fun _ hk=>trivial)⟩,⟨by (with_reducible repeat (first|refine blk_drewN ?_ _|refine blk_drew ?_|refine blk_alloc ?_ _));exact BK715.out⟩,⟨by (with_reducible repeat (first|refine blk_drewN ?_ _|refine blk_drew ?_|refine blk_alloc ?_ _));exact BK742.out⟩,⟨by repeat (first|(with_reducible first|exact HB.out|apply below_alloc|apply pw_below_drewN|apply below_drew1|refine below_set ?_ GE715.out|refine below_set ?_ GE742.out)|exact HB.out)⟩⟩
   ·rw [if_neg c28] at H
    have c28b0:(t743 == t728)=false:=beq_eq_false_iff_ne.mpr c28
    have c28b1:(t743 != t728)=true:=bne_iff_ne.mpr c28
    (first|rw [c28b0]|(simp only [i64_w,i32_w];rw [c28b0])|skip)
    have H':=A_ H
    clear H
    go_wp2
    go_meet
    case rel=>exact ⟨_,(true),(by first|rfl|(simp only [i64_w,i32_w];done)|(simp only [aid_isEmpty,aid_isEmpty2];done)|(simp;done)|(simp [*];done)),H',⟨by first|omega|exact Nat.le_refl _⟩,⟨by (with_reducible repeat (first|apply Kd.S_alloc|apply Kd.S_drewN|apply Kd.S_drew));exact Kd.S_mono HO735.out (fun _ hk=>hk.1.1)⟩,⟨by (with_reducible repeat (first|apply Kd.R_alloc|apply Kd.R_drewN|apply Kd.R_drew));exact Kd.R_mono HO738.out (fun _ hk=>trivial)⟩,⟨by (with_reducible repeat (first|apply Kd.R_alloc|apply Kd.R_drewN|apply Kd.R_drew));exact Kd.R_mono HO741.out (fun _ hk=>trivial)⟩,⟨by (with_reducible repeat (first|refine blk_drewN ?_ _|refine blk_drew ?_|refine blk_alloc ?_ _));exact BK715.out⟩,⟨by (with_reducible repeat (first|refine blk_drewN ?_ _|refine blk_drew ?_|refine blk_alloc ?_ _));exact BK742.out⟩,⟨by repeat (first|(with_reducible first|exact HB.out|apply below_alloc|apply pw_below_drewN|apply below_drew1|refine below_set ?_ GE715.out|refine below_set ?_ GE742.out)|exact HB.out)⟩⟩
  case rest=>
   clear HC12
   try clear c1
   try clear c2
   try clear p2
   try clear c5
   try clear c6
   try clear c7
   try clear c7b0
   try clear c8
   try clear c13
   try clear c14
   try clear c22
   try clear c28
   try clear c28b0
   try clear c28b1
   try clear c29
   try clear c29b0
   try clear c29b1
   try clear hcz13_0
   try clear hcz13_1
   try clear hcz13_2
   try clear hcz13_3
   try clear hcz13_4
   try clear hcz19_0
   try clear hcz19_1
   try clear hcz19_2
   try clear hcz19_3
   try clear hcz19_4
   try clear hcz23_0
   try clear hcz23_1
   try clear hcz23_2
   try clear hcz23_3
   try clear hcz23_4
   try clear hcz5_0
   try clear hcz5_1
   try clear hcz5_2
   try clear hcz5_3
   try clear hcz5_4
   try clear hfz13_0
   try clear hfz13_1
   try clear hfz13_2
   try clear hfz13_3
   try clear hfz13_4
   try clear hfz19_0
   try clear hfz19_1
   try clear hfz19_2
   try clear hfz19_3
   try clear hfz19_4
   try clear hfz23_0
   try clear hfz23_1
   try clear hfz23_2
   try clear hfz23_3
   try clear hfz23_4
   try clear hfz5_0
   try clear hfz5_1
   try clear hfz5_2
   try clear hfz5_3
   try clear hfz5_4
   obtain ⟨kq,x43_11,rfl,HA,HJ11,HO_743002,HO_743003,HO_743004,BK715,BK742,HB⟩:=hcut
   cases kq with
   | zero=>exact absurd HA.out (by simp [laws_FnExactTripNext.j0])
   | succ kj11=>
    have H:=HA.out
    clear HA
    simp only [laws_FnExactTripNext.j0] at H
    by_cases c30:x43_11=true
    ·subst c30
     have H1:(some false)=some r:=by rw [if_pos rfl] at H;exact H
     clear H
     have H:=H1
     clear H1
     obtain rfl:=Option.some.inj H
     go_wp2
     go_ret
     exact ⟨by first|rfl|(simp [errW_none,errW_some] <;> rfl)|(simp [*,errW_none,errW_some] <;> rfl),by repeat (first|(with_reducible first|exact HB.out|apply below_alloc|apply pw_below_drewN|apply below_drew1|refine below_set ?_ GE715.out|refine below_set ?_ GE742.out)|exact HB.out)⟩
    ·replace c30:=Bool.eq_false_iff.mpr c30
     subst c30
     have H1:((laws_toTrip.f kj11 a0_0 a0_1 l0_2 l0_3 l0_4).bind fun bt746=>((laws_eqTrip.f kj11 t731 t732 t733 t736 t739 bt746.1 bt746.2.1 bt746.2.2.1 bt746.2.2.2.1 bt746.2.2.2.2).bind fun t757=>(if t757=true then (some true) else (some false))))=some r:=by rw [if_neg (show ¬ (false=true) by decide)] at H;exact H
     clear H
     have H:=H1
     clear H1
     replace H:=Option.bind_eq_some_iff.mp H
     obtain ⟨⟨t746,t747,t748,t751,t754⟩,A310,H⟩:=H
     replace H:((laws_eqTrip.f kj11 t731 t732 t733 t736 t739 t746 t747 t748 t751 t754).bind fun t757=>(if t757=true then (some true) else (some false)))=some r:=H
     have A31:=A_ A310
     clear A310
     replace H:=Option.bind_eq_some_iff.mp H
     obtain ⟨t757,A320,H⟩:=H
     replace H:(if t757=true then (some true) else (some false))=some r:=H
     have A32:=A_ A320
     clear A320
     have HF33:=A_ H
     clear H
     try go_wp2
     have n0_:=A_ (Kd.S_drew HO_743002.out)
     have n1_:=A_ (Kd.R_drew HO_743003.out)
     have n2_:=A_ (Kd.R_drew HO_743004.out)
     have n3_:=A_ (blk_drew BK715.out)
     have n4_:=A_ (blk_drew BK742.out)
     have n5_:=A_ (below_drew1 HB.out)
     clear HO_743002
     clear HO_743003
     clear HO_743004
     clear BK715
     clear BK742
     clear HB
     have HO_743002:=n0_
     have HO_743003:=n1_
     have HO_743004:=n2_
     have BK715:=n3_
     have BK742:=n4_
     have HB:=n5_
     clear n0_ n1_ n2_ n3_ n4_ n5_
     refine start_ (n:=5) (S:=fun w'=>w'.cell? ⟨gb742,0,none⟩=some (.string t731)∧w'.cell? ⟨gb742,1,none⟩=some (.int .i64 t732)∧w'.cell? ⟨gb742,2,none⟩=some (.slice Ao24 t733.length co24)∧w'.cell? ⟨gb742,3,none⟩=some (.slice Ao25 t736.length co25)∧w'.cell? ⟨gb742,4,none⟩=some (.slice Ao26 t739.length co26)∧w'.cell? ⟨gb715,0,none⟩=some (.string a0_0)∧w'.cell? ⟨gb715,1,none⟩=some (.int .i64 a0_1)∧w'.cell? ⟨gb715,2,none⟩=some (.slice A0_2 l0_2.length c0_2)∧w'.cell? ⟨gb715,3,none⟩=some (.slice A0_3 l0_3.length c0_3)∧w'.cell? ⟨gb715,4,none⟩=some (.slice A0_4 l0_4.length c0_4)) (ds:=[]) #[false,false,false,false,false] (by kernel_rfl) rfl rfl ⟨(blk_cell BK742.out 0).trans rfl,(blk_cell BK742.out 1).trans rfl,(blk_cell BK742.out 2).trans rfl,(blk_cell BK742.out 3).trans rfl,(blk_cell BK742.out 4).trans rfl,(blk_cell BK715.out 0).trans rfl,(blk_cell BK715.out 1).trans rfl,(blk_cell BK715.out 2).trans rfl,(blk_cell BK715.out 3).trans rfl,(blk_cell BK715.out 4).trans rfl⟩ (fun hHeld=>?_)
     generalize wc.drew=w34 at HO_743002 HO_743003 HO_743004 BK715 BK742 HB hHeld ⊢
     refine take_ (i:=0) (N:=some 44) (v:=?_) (a':=?_) #[true,false,false,false,false] rfl rfl (by kernel_rfl) (fun _ _ _ h=>h) (Or.inl ⟨by rfl,?_⟩) hHeld ?_ ?_
     rotate_left
     ·rintro w' ⟨s0,s1,s2,s3,s4,s5,s6,s7,s8,s9⟩
      go_simp
      with_reducible rfl
     rotate_left
     ·simp only [Act.put,List.setIfInBounds_toArray,List.set_cons_zero,List.set_cons_succ,i64_w,i32_w]
      rfl
     refine take_ (i:=1) (N:=some 45) (v:=?_) (a':=?_) #[true,true,false,false,false] rfl rfl (by kernel_rfl) (fun _ _ _ h=>h) (Or.inl ⟨by rfl,?_⟩) hHeld ?_ ?_
     rotate_left
     ·rintro w' ⟨s0,s1,s2,s3,s4,s5,s6,s7,s8,s9⟩
      go_simp
      with_reducible rfl
     rotate_left
     ·simp only [Act.put,List.setIfInBounds_toArray,List.set_cons_zero,List.set_cons_succ,i64_w,i32_w]
      rfl
     refine one_ (i:=2) (N:=some 46) #[true,true,true,false,false] rfl rfl (by kernel_rfl) (by decide) (fun K hK=>?_)
     refine goes_ Tryz.func8 (by kernel_rfl) rfl #[.agg #[.string a0_0,.int .i64 a0_1,.slice A0_2 l0_2.length c0_2,.slice A0_3 l0_3.length c0_3,.slice A0_4 l0_4.length c0_4]] (by rfl) rfl rfl (by (try simp only [List.map_toArray,List.map_cons,List.map_nil]);first|done|rfl|(simp only [List.length_drop,List.length_take];rfl)) ?_
     with_reducible refine (laws_toTrip.calls kj11 a0_0 a0_1 _ _ l0_2 _ _ l0_3 _ _ l0_4 t746 t747 t748 t751 t754 _ ?side1 ?side2 ?side3 ?side4 ?side5 ?side6 A31.out).mono ?_
     (case side1=>repeat (first|exact (Kd.C_below HR0_2.out HB.out)|(with_reducible refine Kd.C_alloc ?_ _)|(with_reducible refine Kd.C_drewN ?_ _)|(with_reducible refine Kd.C_drew ?_)))
     (case side2=>exact HC0_2.out)
     (case side3=>repeat (first|exact (Kd.C_below HR0_3.out HB.out)|(with_reducible refine Kd.C_alloc ?_ _)|(with_reducible refine Kd.C_drewN ?_ _)|(with_reducible refine Kd.C_drew ?_)))
     (case side4=>exact HC0_3.out)
     (case side5=>repeat (first|exact (Kd.C_below HR0_4.out HB.out)|(with_reducible refine Kd.C_alloc ?_ _)|(with_reducible refine Kd.C_drewN ?_ _)|(with_reducible refine Kd.C_drew ?_)))
     (case side6=>exact HC0_4.out)
     rintro e w35 ⟨v749,v752,v755,rfl,ho0,ho1,ho2,hb⟩
     refine ⟨_,rfl,?_⟩
     have n0_:=A_ (Kd.S_mono (Kd.S_told (Kd.S_told (Kd.S_old (by (with_reducible repeat (first|apply Kd.S_alloc|apply Kd.S_drewN|apply Kd.S_drew));exact HO_743002.out) hb) (Kd.S_base ho0)) (Kd.R_base ho1)) (fun _ h_=>h_.1))
     have n1_:=A_ (Kd.R_elder' (by (with_reducible repeat (first|apply Kd.R_alloc|apply Kd.R_drewN|apply Kd.R_drew));exact HO_743003.out) (Kd.R_base ho1) hb)
     have n2_:=A_ (Kd.R_elder' (by (with_reducible repeat (first|apply Kd.R_alloc|apply Kd.R_drewN|apply Kd.R_drew));exact HO_743004.out) (Kd.R_base ho2) hb)
     have n3_:=A_ (Kd.S_lower (Kd.S_new' (Kd.S_new' ho0 (Kd.S_lt (by (with_reducible repeat (first|apply Kd.S_alloc|apply Kd.S_drewN|apply Kd.S_drew));exact HO_743002.out))) (Kd.R_lt (by (with_reducible repeat (first|apply Kd.R_alloc|apply Kd.R_drewN|apply Kd.R_drew));exact HO_743003.out))) (below_size (by repeat (first|(with_reducible first|exact HB.out|apply below_alloc|apply pw_below_drewN|apply below_drew1|refine below_set ?_ GE715.out|refine below_set ?_ GE742.out)|exact HB.out))))
     have n4_:=A_ (Kd.R_lower (Kd.R_new' ho1 (Kd.R_lt (by (with_reducible repeat (first|apply Kd.R_alloc|apply Kd.R_drewN|apply Kd.R_drew));exact HO_743003.out))) (below_size (by repeat (first|(with_reducible first|exact HB.out|apply below_alloc|apply pw_below_drewN|apply below_drew1|refine below_set ?_ GE715.out|refine below_set ?_ GE742.out)|exact HB.out))))
     have n5_:=A_ (Kd.R_lower (Kd.R_new' ho2 (Kd.R_lt (by (with_reducible repeat (first|apply Kd.R_alloc|apply Kd.R_drewN|apply Kd.R_drew));exact HO_743004.out))) (below_size (by repeat (first|(with_reducible first|exact HB.out|apply below_alloc|apply pw_below_drewN|apply below_drew1|refine below_set ?_ GE715.out|refine below_set ?_ GE742.out)|exact HB.out))))
     have n6_:=A_ (blk_below (g:=gb715) (o:=.cells #[.string a0_0,.int .i64 a0_1,.slice A0_2 l0_2.length c0_2,.slice A0_3 l0_3.length c0_3,.slice A0_4 l0_4.length c0_4] 26 (0,0)) (by (with_reducible repeat (first|refine blk_drewN ?_ _|refine blk_drew ?_|refine blk_alloc ?_ _));exact BK715.out) hb)
     have n7_:=A_ (blk_below (g:=gb742) (o:=.cells #[.string t731,.int .i64 t732,.slice Ao24 t733.length co24,.slice Ao25 t736.length co25,.slice Ao26 t739.length co26] 32 (0,0)) (by (with_reducible repeat (first|refine blk_drewN ?_ _|refine blk_drew ?_|refine blk_alloc ?_ _));exact BK742.out) hb)
     have n8_:=A_ (below_step (by repeat (first|(with_reducible first|exact HB.out|apply below_alloc|apply pw_below_drewN|apply below_drew1|refine below_set ?_ GE715.out|refine below_set ?_ GE742.out)|exact HB.out)) hb)
     clear HO_743002
     clear HO_743003
     clear HO_743004
     clear BK715
     clear BK742
     clear HB
     have HO_743002:=n0_
     have HO_743003:=n1_
     have HO_743004:=n2_
     have HO750:=n3_
     have HO753:=n4_
     have HO756:=n5_
     have BK715:=n6_
     have BK742:=n7_
     have HB:=n8_
     clear n0_ n1_ n2_ n3_ n4_ n5_ n6_ n7_ n8_
     (try clear hb)
     (try clear hb2)
     (try clear hk)
     (try clear hi)
     (try clear ho0)
     (try clear ho1)
     (try clear ho2)
     obtain ⟨Ao36,co36,eo36⟩:=Kd.S_slice HO750.out
     (first|subst eo36|(injection eo36 with f1_ f2_ f3_;have f4_:=f1_.symm;have f5_:=f3_.symm;clear f1_ f2_ f3_;subst f4_;subst f5_))
     obtain ⟨Ao37,co37,eo37⟩:=Kd.R_slice HO753.out
     (first|subst eo37|(injection eo37 with f1_ f2_ f3_;have f4_:=f1_.symm;have f5_:=f3_.symm;clear f1_ f2_ f3_;subst f4_;subst f5_))
     obtain ⟨Ao38,co38,eo38⟩:=Kd.R_slice HO756.out
     (first|subst eo38|(injection eo38 with f1_ f2_ f3_;have f4_:=f1_.symm;have f5_:=f3_.symm;clear f1_ f2_ f3_;subst f4_;subst f5_))
     refine hK.out _ _ ⟨(blk_cell BK742.out 0).trans rfl,(blk_cell BK742.out 1).trans rfl,(blk_cell BK742.out 2).trans rfl,(blk_cell BK742.out 3).trans rfl,(blk_cell BK742.out 4).trans rfl,(blk_cell BK715.out 0).trans rfl,(blk_cell BK715.out 1).trans rfl,(blk_cell BK715.out 2).trans rfl,(blk_cell BK715.out 3).trans rfl,(blk_cell BK715.out 4).trans rfl⟩ (fun hHeld=>?_)
     clear hK K
     refine norm_ (a':=?_) ?_ ?_
     rotate_left
     ·show Act.put _ (some 46) _=_
      simp only [Act.put,List.setIfInBounds_toArray,List.set_cons_zero,List.set_cons_succ,i64_w,i32_w]
      rfl
     refine one_ (i:=3) (N:=some 47) #[true,true,true,true,false] rfl rfl (by kernel_rfl) (by decide) (fun K hK=>?_)
     refine goes_ Tryz.func10 (by kernel_rfl) rfl #[.agg #[.string t731,.int .i64 t732,.slice Ao24 t733.length co24,.slice Ao25 t736.length co25,.slice Ao26 t739.length co26],.agg #[.string t746,.int .i64 t747,.slice Ao36 t748.length co36,.slice Ao37 t751.length co37,.slice Ao38 t754.length co38]] (by rfl) rfl rfl (by (try simp only [List.map_toArray,List.map_cons,List.map_nil]);first|done|rfl|(simp only [List.length_drop,List.length_take];rfl)) ?_
     with_reducible refine (laws_eqTrip.calls kj11 t731 t732 _ _ t733 _ _ t736 _ _ t739 t746 t747 _ _ t748 _ _ t751 _ _ t754 t757 _ ?side1 ?side2 ?side3 ?side4 ?side5 ?side6 ?side7 ?side8 ?side9 ?side10 ?side11 ?side12 A32.out).mono ?_
     (case side1=>repeat (first|exact (Kd.S_reads' HO_743002.out).2.2|(with_reducible refine Kd.C_alloc ?_ _)|(with_reducible refine Kd.C_drewN ?_ _)|(with_reducible refine Kd.C_drew ?_)))
     (case side2=>exact (Kd.S_reads' HO_743002.out).2.1)
     (case side3=>repeat (first|exact (Kd.R_reads' HO_743003.out).2.2|(with_reducible refine Kd.C_alloc ?_ _)|(with_reducible refine Kd.C_drewN ?_ _)|(with_reducible refine Kd.C_drew ?_)))
     (case side4=>exact (Kd.R_reads' HO_743003.out).2.1)
     (case side5=>repeat (first|exact (Kd.R_reads' HO_743004.out).2.2|(with_reducible refine Kd.C_alloc ?_ _)|(with_reducible refine Kd.C_drewN ?_ _)|(with_reducible refine Kd.C_drew ?_)))
     (case side6=>exact (Kd.R_reads' HO_743004.out).2.1)
     (case side7=>repeat (first|exact (Kd.S_reads' HO750.out).2.2|(with_reducible refine Kd.C_alloc ?_ _)|(with_reducible refine Kd.C_drewN ?_ _)|(with_reducible refine Kd.C_drew ?_)))
     (case side8=>exact (Kd.S_reads' HO750.out).2.1)
     (case side9=>repeat (first|exact (Kd.R_reads' HO753.out).2.2|(with_reducible refine Kd.C_alloc ?_ _)|(with_reducible refine Kd.C_drewN ?_ _)|(with_reducible refine Kd.C_drew ?_)))
     (case side10=>exact (Kd.R_reads' HO753.out).2.1)
     (case side11=>repeat (first|exact (Kd.R_reads' HO756.out).2.2|(with_reducible refine Kd.C_alloc ?_ _)|(with_reducible refine Kd.C_drewN ?_ _)|(with_reducible refine Kd.C_drew ?_)))
     (case side12=>exact (Kd.R_reads' HO756.out).2.1)
     rintro e w39 ⟨rfl,hb⟩
     refine ⟨_,rfl,?_⟩
     have n0_:=A_ (Kd.S_below (by (with_reducible repeat (first|apply Kd.S_alloc|apply Kd.S_drewN|apply Kd.S_drew));exact HO_743002.out) hb)
     have n1_:=A_ (Kd.R_below (by (with_reducible repeat (first|apply Kd.R_alloc|apply Kd.R_drewN|apply Kd.R_drew));exact HO_743003.out) hb)
     have n2_:=A_ (Kd.R_below (by (with_reducible repeat (first|apply Kd.R_alloc|apply Kd.R_drewN|apply Kd.R_drew));exact HO_743004.out) hb)
     have n3_:=A_ (Kd.S_below (by (with_reducible repeat (first|apply Kd.S_alloc|apply Kd.S_drewN|apply Kd.S_drew));exact HO750.out) hb)
     have n4_:=A_ (Kd.R_below (by (with_reducible repeat (first|apply Kd.R_alloc|apply Kd.R_drewN|apply Kd.R_drew));exact HO753.out) hb)
     have n5_:=A_ (Kd.R_below (by (with_reducible repeat (first|apply Kd.R_alloc|apply Kd.R_drewN|apply Kd.R_drew));exact HO756.out) hb)
     have n6_:=A_ (blk_below (g:=gb715) (o:=.cells #[.string a0_0,.int .i64 a0_1,.slice A0_2 l0_2.length c0_2,.slice A0_3 l0_3.length c0_3,.slice A0_4 l0_4.length c0_4] 26 (0,0)) (by (with_reducible repeat (first|refine blk_drewN ?_ _|refine blk_drew ?_|refine blk_alloc ?_ _));exact BK715.out) hb)
     have n7_:=A_ (blk_below (g:=gb742) (o:=.cells #[.string t731,.int .i64 t732,.slice Ao24 t733.length co24,.slice Ao25 t736.length co25,.slice Ao26 t739.length co26] 32 (0,0)) (by (with_reducible repeat (first|refine blk_drewN ?_ _|refine blk_drew ?_|refine blk_alloc ?_ _));exact BK742.out) hb)
     have n8_:=A_ (below_step (by repeat (first|(with_reducible first|exact HB.out|apply below_alloc|apply pw_below_drewN|apply below_drew1|refine below_set ?_ GE715.out|refine below_set ?_ GE742.out)|exact HB.out)) hb)
     clear HO_743002
     clear HO_743003
     clear HO_743004
     clear HO750
     clear HO753
     clear HO756
     clear BK715
     clear BK742
     clear HB
     have HO_743002:=n0_
     have HO_743003:=n1_
     have HO_743004:=n2_
     have HO750:=n3_
     have HO753:=n4_
     have HO756:=n5_
     have BK715:=n6_
     have BK742:=n7_
     have HB:=n8_
     clear n0_ n1_ n2_ n3_ n4_ n5_ n6_ n7_ n8_
     (try clear hb)
     (try clear hb2)
     (try clear hk)
     (try clear hi)
     refine hK.out _ _ ⟨(blk_cell BK742.out 0).trans rfl,(blk_cell BK742.out 1).trans rfl,(blk_cell BK742.out 2).trans rfl,(blk_cell BK742.out 3).trans rfl,(blk_cell BK742.out 4).trans rfl,(blk_cell BK715.out 0).trans rfl,(blk_cell BK715.out 1).trans rfl,(blk_cell BK715.out 2).trans rfl,(blk_cell BK715.out 3).trans rfl,(blk_cell BK715.out 4).trans rfl⟩ (fun hHeld=>?_)
     clear hK K
     refine norm_ (a':=?_) ?_ ?_
     rotate_left
     ·show Act.put _ (some 47) _=_
      simp only [Act.put,List.setIfInBounds_toArray,List.set_cons_zero,List.set_cons_succ,i64_w,i32_w]
      rfl
     refine pure_ (i:=4) (N:=some 48) (v:=?_) (a':=?_) #[true,true,true,true,true] rfl rfl (by kernel_rfl) (fun _ _ _ h=>h) (Or.inl ⟨by rfl,?_⟩) ?_ ?_
     rotate_left
     ·intro w'
      go_simp
      with_reducible rfl
     rotate_left
     ·simp only [Act.put,List.setIfInBounds_toArray,List.set_cons_zero,List.set_cons_succ,i64_w,i32_w]
      rfl
     refine done_ (by kernel_rfl) ?_
     go_upto_if 48 with (fail)
     have H:=HF33.out
     clear HF33
     by_cases c40:t757=true
     ·subst c40
      have H1:(some true)=some r:=by rw [if_pos rfl] at H;exact H
      clear H
      have H:=H1
      clear H1
      obtain rfl:=Option.some.inj H
      go_wp2
      go_ret
      exact ⟨by first|rfl|(simp [errW_none,errW_some] <;> rfl)|(simp [*,errW_none,errW_some] <;> rfl),by repeat (first|(with_reducible first|exact HB.out|apply below_alloc|apply pw_below_drewN|apply below_drew1|refine below_set ?_ GE715.out|refine below_set ?_ GE742.out)|exact HB.out)⟩
     ·replace c40:=Bool.eq_false_iff.mpr c40
      subst c40
      have H1:(some false)=some r:=by rw [if_neg (show ¬ (false=true) by decide)] at H;exact H
      clear H
      have H:=H1
      clear H1
      obtain rfl:=Option.some.inj H
      go_wp2
      go_ret
      exact ⟨by first|rfl|(simp [errW_none,errW_some] <;> rfl)|(simp [*,errW_none,errW_some] <;> rfl),by repeat (first|(with_reducible first|exact HB.out|apply below_alloc|apply pw_below_drewN|apply below_drew1|refine below_set ?_ GE715.out|refine below_set ?_ GE742.out)|exact HB.out)⟩
end Go.Proofs.YteepbodnaameiaaGreatDoor.P
end
section
namespace Go.Proofs.YteepbodnaameiaaGreatDoor.Ad
open Go.RowKit Go.Proofs.YteepbodnaameiaaGreatDoor.P Go.Proofs.YteepbodnaameiaaGreatDoorW.PrintWords Go.Proofs.YteepbodnaameiaaGreatDoorW.PrintLast Go.Proofs.YteepbodnaameiaaGreatDoorW.PrintMore Go.Proofs.YteepbodnaameiaaGreatDoor.B
set_option linter.unusedVariables false
set_option linter.unusedSimpArgs false
theorem plain_all:∀ n:Nat,n < 256→spec_l1Plain.f (n:Int)=some (plainB (UInt8.ofNat n)):=by decide +kernel
theorem of_toNat (c:UInt8):UInt8.ofNat c.toNat=c:=UInt8.ofNat_toNat
theorem nums_one (n:Nat) (h:n < 256):strOfNums [(n:Int) % 256]=ofL [UInt8.ofNat n]:=by
 unfold strOfNums ofL
 simp only [List.map_cons,List.map_nil,ByteArray.mk.injEq]
 congr 2
 rw [show ((n:Int) % 256)=(n:Int) from by omega]
 simp
theorem drop_at {l:List UInt8} {i:Nat} (h:i < l.length):l.drop i=l[i] :: l.drop (i+1):=List.drop_eq_getElem_cons h
theorem bt_get (s:ByteArray) (i:Nat) (h:i < (L s).length):bt s i=(((L s)[i]).toNat:Int):=by
 rw [bt_L,List.getD_eq_getElem?_getD,List.getElem?_eq_getElem h];rfl
theorem app_nil (a:ByteArray):a++ofL []=a:=by apply L_inj;rw [L_app,L_of,List.append_nil]
theorem bt_at {s:ByteArray} {i:Nat} {c:UInt8} {l:List UInt8} (h:(L s).drop i=c :: l):i < s.size∧bt s i=(c.toNat:Int)∧(L s).drop (i+1)=l:=by
 have hl:i < (L s).length:=by
  rcases Nat.lt_or_ge i (L s).length with h'|h'
  ·exact h'
  ·rw [List.drop_eq_nil_of_le h'] at h;cases h
 have hd:(L s).drop i=(L s)[i] :: (L s).drop (i+1):=List.drop_eq_getElem_cons hl
 rw [h] at hd
 injection hd with h1 h2
 refine ⟨by rw [← L_size];exact hl,?_,h2.symm⟩
 rw [bt_L,List.getD_eq_getElem?_getD,List.getElem?_eq_getElem hl,← h1]
 rfl
theorem bt_end {s:ByteArray} {i:Nat} (h:(L s).drop i=[]):s.size≤i:=by
 rw [← L_size];exact List.drop_eq_nil_iff.1 h
theorem u8_eq {a b:UInt8}:((a.toNat:Int)=(b.toNat:Int))↔a=b:=by
 constructor
 ·intro h;exact UInt8.toNat_inj.1 (by omega)
 ·intro h;rw [h]
theorem rd_at {l:List ByteArray} {i:Nat} (h:i < l.length):rdOf ByteArray.empty l (i:Int)=l[i]:=by
 unfold rdOf
 rw [List.getD_eq_getElem?_getD,Int.toNat_natCast,List.getElem?_eq_getElem h]
 rfl
theorem hex_all:∀ n:Nat,n < 256→spec_l1Hex.f 2 (n:Int)=some (match hexN (UInt8.ofNat n) with|some x=>(x:Int)|none=>-1):=by decide +kernel
theorem sign_all:∀ n:Nat,n < 256→(spec_l1Sign.f (n:Int)).map L=some [37,fig (n / 16),fig (n % 16)]:=by decide +kernel
theorem hex_ev (c:UInt8):Ev (fun k=>spec_l1Hex.f k (c.toNat:Int)) (match hexN c with|some x=>(x:Int)|none=>-1):=by
 refine Ev.of (fun k=>spec_l1Hex.mono _ k) (k:=2) ?_
 have:=hex_all c.toNat c.toNat_lt
 rwa [of_toNat] at this
theorem sign_f (n:Nat) (h:n < 256):spec_l1Sign.f (n:Int)=some (ofL [37,fig (n / 16),fig (n % 16)]):=by
 have:=sign_all n h
 obtain ⟨s,hs,e⟩:=Option.map_eq_some_iff.1 this
 rw [hs,← e,of_L]
theorem enc_ev (s acc:ByteArray) (i n:Nat) (h:n < 256) (hi:i < 1000000) (ha:acc.size≤1000000) {r:ByteArray×Bool}
  (H:Ev (fun k=>spec_EscNorm.l0 k s (acc++ofL (encN n)) (i+1:Nat)) r):Ev (fun k=>spec_EscNorm.j2 k s acc (i:Int) (n:Int)) r:=by
 refine Ev.step (fun k=>?_) H
 have hw:wrap64 ((i:Int)+1)=((i+1:Nat):Int):=by rw [w64 (by omega) (by omega)];omega
 simp only [spec_EscNorm.j2]
 rw [show ((n:Int) % 256)=(n:Int) from by omega,plain_all n h]
 simp only [Option.bind_some]
 by_cases hp:plainB (UInt8.ofNat n)=true
 ·have e:=nums_one n h
  rw [show ((n:Int) % 256)=(n:Int) from by omega] at e
  have he:encN n=[UInt8.ofNat n]:=by unfold encN;rw [if_pos hp]
  have hz:=ofL_size [UInt8.ofNat n]
  rw [if_pos hp,e,if_pos (by simp at hz;omega),hw,he]
 ·have he:encN n=[37,fig (n / 16),fig (n % 16)]:=by unfold encN;rw [if_neg hp]
  rw [if_neg hp,sign_f n h]
  simp only [Option.bind_some]
  have hz:=ofL_size [37,fig (n / 16),fig (n % 16)]
  rw [if_pos (by simp at hz;omega),hw,he]
def escR (acc:ByteArray) (o:Option (List UInt8)):ByteArray×Bool:=match o with
 | some r=>(acc++ofL r,true)
 | none=>(⟨#[]⟩,false)
theorem escR_map (acc:ByteArray) (x:List UInt8) (o:Option (List UInt8)):escR acc (o.map (x++·))=escR (acc++ofL x) o:=by
 cases o with
 | none=>rfl
 | some r=>simp only [escR,Option.map_some,ofL_app,ByteArray.append_assoc]
theorem esc_l (s:ByteArray) (hs:s.size≤60) (n:Nat):∀ (i:Nat) (acc:ByteArray),i≤s.size→s.size - i≤n→acc.size≤3 * i →
  Ev (fun k=>spec_EscNorm.l0 k s acc (i:Int)) (escR acc (esc ((L s).drop i))):=by
 have hL:=L_size s
 induction n with
 | zero=>
  intro i acc hi hn ha
  refine Ev.of (fun k=>spec_EscNorm.mono_l k |>.1 _ _ _) (k:=1) ?_
  simp only [spec_EscNorm.l0]
  rw [if_neg (by omega),List.drop_eq_nil_of_le (by omega)]
  simp only [esc,escR]
  rw [app_nil]
 | succ n ih=>
  intro i acc hi hn ha
  by_cases hlt:i < s.size
  ·have hlt':i < (L s).length:=by omega
   rw [drop_at hlt']
   have hb:=bt_get s i hlt'
   by_cases hc:(L s)[i]=37
   ·have hb37:bt s i=37:=by rw [hb,hc];rfl
    have w2:wrap64 ((i:Int)+2)=((i+2:Nat):Int):=by rw [w64 (by omega) (by omega)];omega
    have w1:wrap64 ((i:Int)+1)=((i+1:Nat):Int):=by rw [w64 (by omega) (by omega)];omega
    rw [hc]
    by_cases h2:i+2 < s.size
    ·have g1:i+1 < (L s).length:=by omega
     have g2:i+2 < (L s).length:=by omega
     rw [drop_at g1,drop_at g2]
     have b1:=bt_get s (i+1) g1
     have b2:=bt_get s (i+2) g2
     have q1:=hex_ev (L s)[i+1]
     have q2:=hex_ev (L s)[i+2]
     have l1:=@hexN_lt (L s)[i+1]
     have l2:=@hexN_lt (L s)[i+2]
     generalize (L s)[i+1]=ca at b1 q1 l1 ⊢
     generalize (L s)[i+2]=cb at b2 q2 l2 ⊢
     have e3:i+2+1=i+3:=rfl
     have bad:Ev (fun k=>spec_EscNorm.j1 k s acc (i:Int) true) ((⟨#[]⟩:ByteArray),false):=
      Ev.of (fun k=>spec_EscNorm.mono_l k |>.2.2 _ _ _ _) (k:=1) (by simp [spec_EscNorm.j1])
     refine Ev.step (f:=fun k=>(spec_l1Hex.f k (ca.toNat:Int)).bind fun t=>if t < 0 then spec_EscNorm.j1 k s acc (i:Int) true else (spec_l1Hex.f k (cb.toNat:Int)).bind fun t2=>spec_EscNorm.j1 k s acc (i:Int) (decide (t2 < 0))) (fun k=>?_) ?_
     ·simp only [spec_EscNorm.l0]
      rw [if_pos (by omega),if_pos (by omega),if_pos hb37,w2,w1,if_neg (by omega),if_pos (by omega),if_pos (by omega),b1]
      congr 1
      funext t
      by_cases ht:t < 0
      ·rw [if_pos ht,if_pos ht]
      ·rw [if_neg ht,if_neg ht,if_pos (by omega),if_pos (by omega),b2]
     ·refine Ev.bind q1 ?_
      cases ha':hexN ca with
      | none=>
       rw [esc_bad1 _ _ ha']
       simp only [show ((-1:Int) < 0) from by omega,if_true]
       exact bad
      | some x=>
       have hx:=l1 ha'
       simp only [show ¬ ((x:Int) < 0) from by omega,if_false]
       refine Ev.bind q2 ?_
       cases hb':hexN cb with
       | none=>
        rw [esc_bad2 _ _ hb']
        simp only [show decide ((-1:Int) < 0)=true from by decide]
        exact bad
       | some y=>
        have hy:=l2 hb'
        simp only [show decide ((y:Int) < 0)=false from by simp]
        rw [ha'] at q1
        rw [hb'] at q2
        refine Ev.step (f:=fun k=>(spec_l1Hex.f k (ca.toNat:Int)).bind fun t=>(spec_l1Hex.f k (cb.toNat:Int)).bind fun t2=>spec_EscNorm.j2 k s acc ((i+2:Nat):Int) (wrap64 (wrap64 (t * 16)+t2))) (fun k=>?_) ?_
        ·simp only [spec_EscNorm.j1]
         rw [if_neg (by simp),w1,w2,if_pos (by omega),if_pos (by omega),b1]
         congr 1
         funext t
         rw [if_pos (by omega),if_pos (by omega),b2]
        ·refine Ev.bind q1 (Ev.bind q2 ?_)
         rw [esc_sign _ ha' hb']
         rw [show wrap64 (wrap64 ((x:Int) * 16)+(y:Int))=((x * 16+y:Nat):Int) from by rw [w64 (n:=(x:Int) * 16) (by omega) (by omega),w64 (by omega) (by omega)];omega]
         refine enc_ev s acc (i+2) (x * 16+y) (by omega) (by omega) (by omega) ?_
         rw [escR_map]
         exact ih (i+2+1) _ (by omega) (by omega) (by have z:=ofL_size (encN (x * 16+y));have:=encN_len (x * 16+y);rw [ByteArray.size_append];omega)
    ·rw [esc_short (by rw [List.length_drop];omega)]
     refine Ev.of (fun k=>spec_EscNorm.mono_l k |>.1 _ _ _) (k:=2) ?_
     simp only [spec_EscNorm.l0,spec_EscNorm.j1]
     rw [if_pos (by omega),if_pos (by omega),if_pos hb37,w2,if_pos (by omega)]
     rfl
   ·have hb37:¬ bt s i=37:=by
     rw [hb]
     intro e
     exact hc (UInt8.toNat_inj.1 (by have:(37:UInt8).toNat=37:=rfl;omega))
    rw [esc_plain _ hc]
    have hlt8:=(L s)[i].toNat_lt
    refine Ev.step (f:=fun k=>spec_EscNorm.j2 k s acc (i:Int) (((L s)[i].toNat:Nat):Int)) (fun k=>?_) ?_
    ·simp only [spec_EscNorm.l0]
     rw [if_pos (by omega),if_pos (by omega),if_neg hb37,hb,w64 (by omega) (by omega)]
    ·refine enc_ev s acc i _ (by omega) (by omega) (by omega) ?_
     rw [escR_map]
     exact ih (i+1) _ (by omega) (by omega) (by have z:=ofL_size (encN (L s)[i].toNat);have:=encN_len (L s)[i].toNat;rw [ByteArray.size_append];omega)
  ·refine Ev.of (fun k=>spec_EscNorm.mono_l k |>.1 _ _ _) (k:=1) ?_
   simp only [spec_EscNorm.l0]
   rw [if_neg (by omega),List.drop_eq_nil_of_le (by omega)]
   simp only [esc,escR]
   rw [app_nil]
theorem escNorm_ev (s:ByteArray):Ev (fun k=>spec_EscNorm.f k s) (escNorm s):=by
 unfold spec_EscNorm.f escNorm
 by_cases h:s.size > 60
 ·simp only [show ((s.size:Int) > 60) from by omega,if_true,h]
  exact Ev.now _
 ·simp only [show ¬ ((s.size:Int) > 60) from by omega,if_false,h]
  have:=esc_l s (by omega) s.size 0 ⟨#[]⟩ (by omega) (by omega) (Nat.le_refl 0)
  simp only [List.drop_zero] at this
  have e:escR (⟨#[]⟩:ByteArray) (esc (L s))=escO (esc (L s)):=by
   unfold escR escO
   cases esc (L s) with
   | none=>rfl
   | some r=>simp only [Prod.mk.injEq,and_true];apply L_inj;rw [L_app];rfl
  rw [← e]
  exact this
theorem norm_ev (s:ByteArray):Ev (fun k=>spec_l1Norm.f k s) (isNorm s):=by
 unfold spec_l1Norm.f isNorm
 refine Ev.bind (escNorm_ev s) ?_
 by_cases h:(escNorm s).2=true
 ·simp only [h,if_true,Bool.true_and]
  exact Ev.now _
 ·simp only [h,if_false,Bool.false_and]
  exact Ev.now _
theorem spec_house_l (s:ByteArray) (hs:s.size≤140737488351232) (d:Nat):∀ (k:Nat) (i:Nat),i+d=s.size→d < k →
  spec_l1House.l0 k s (i:Int)=some (smallFrom s d i && (decide (1≤s.size) && decide (s.size≤5))):=by
 induction d with
 | zero=>
  intro k i h hk
  obtain ⟨k,rfl⟩:∃ m,k=m+1:=⟨k - 1,by omega⟩
  simp only [spec_l1House.l0,smallFrom,spec_l6In.f]
  rw [if_neg (by omega)]
  by_cases h1:1≤s.size
  ·rw [if_pos (by omega)];simp [h1];omega
  ·rw [if_neg (by omega)];simp [h1]
 | succ d ih=>
  intro k i h hk
  obtain ⟨k,rfl⟩:∃ m,k=m+1:=⟨k - 1,by omega⟩
  simp only [spec_l1House.l0,smallFrom]
  rw [if_pos (by omega),if_pos (by omega)]
  by_cases h1:bt s i < 97
  ·rw [if_pos h1,if_pos h1];rfl
  ·rw [if_neg h1,if_neg h1]
   by_cases h2:bt s i > 122
   ·rw [if_pos h2,if_pos h2];rfl
   ·rw [if_neg h2,if_neg h2,w64 (by omega) (by omega)]
    exact ih k (i+1) (by omega) (by omega)
theorem house_ev (s:ByteArray) (hs:s.size≤140737488351232):Ev (fun k=>spec_l1House.f k s) (isHouse s):=by
 refine Ev.of (fun k=>spec_l1House.mono _ k) (k:=s.size+1) ?_
 unfold spec_l1House.f
 have:=spec_house_l s hs s.size (s.size+1) 0 (by omega) (by omega)
 rw [show ((0:Nat):Int)=0 from rfl] at this
 rw [this]
 unfold isHouse isSmall
 cases smallFrom s s.size 0 <;> simp
structure Parts (ps:List ByteArray):Prop where
 few:ps.length≤1000
 short:∀ p ∈ ps,p.size≤1048576
def fin (asks:Bool) (ask b:ByteArray):ByteArray:=if asks=true then (b++⟨#[63]⟩)++ask else b
theorem path_end (acc house:ByteArray) (parts:List ByteArray) (asks:Bool) (ask:ByteArray) (i:Nat) (hi:i=parts.length) (ha:acc.size≤2000000000) (hq:ask.size≤1048576) :
  Ev (fun k=>spec_l1Path.l0 k acc (i:Int) house parts asks ask) (fin asks ask acc):=by
 refine Ev.of (fun k=>spec_l1Path.mono_l k _ _ _ _ _ _) (k:=1) ?_
 simp only [spec_l1Path.l0,fin]
 rw [if_neg (by omega)]
 by_cases h:asks=true
 ·rw [if_pos h,if_pos h,if_pos (by omega),if_pos (by omega)]
 ·rw [if_neg h,if_neg h]
theorem path_l (house:ByteArray) (parts:List ByteArray) (asks:Bool) (ask:ByteArray) (hP:Parts parts) (hq:ask.size≤1048576) (d:Nat):∀ (i:Nat) (acc:ByteArray),i+d=parts.length→1≤i→(acc.size:Int)≤1+(i:Int) * 1048577 →
  Ev (fun k=>spec_l1Path.l0 k acc (i:Int) house parts asks ask) (fin asks ask ((parts.drop i).foldl (fun a q=>(a++⟨#[47]⟩)++q) acc)):=by
 have hf:=hP.few
 induction d with
 | zero=>
  intro i acc hi _ ha
  rw [List.drop_eq_nil_of_le (by omega)]
  exact path_end acc house parts asks ask i (by omega) (by omega) hq
 | succ d ih=>
  intro i acc hi h1 ha
  have hlt:i < parts.length:=by omega
  have hz:=hP.short parts[i] (List.getElem_mem hlt)
  rw [List.drop_eq_getElem_cons hlt,List.foldl_cons]
  have h47:(⟨#[47]⟩:ByteArray).size=1:=rfl
  have hsz:((acc++(⟨#[47]⟩:ByteArray))++parts[i]).size=acc.size+1+parts[i].size:=by rw [ByteArray.size_append,ByteArray.size_append,h47]
  have f1:(i:Int) < (parts.length:Int):=by omega
  have f2:(i:Int) > 0:=by omega
  have f3:acc.size+1≤9223372036854775807:=by omega
  have f4:0≤(i:Int):=by omega
  have f5:acc.size+1+parts[i].size≤9223372036854775807:=by omega
  have hw:wrap64 ((i:Int)+1)=((i+1:Nat):Int):=by rw [w64 (by omega) (by omega)];omega
  have h:=ih (i+1) ((acc++(⟨#[47]⟩:ByteArray))++parts[i]) (by omega) (by omega) (by rw [hsz];omega)
  refine Ev.step (fun k=>?_) h
  simp only [spec_l1Path.l0]
  rw [if_pos f1,if_pos f2,if_pos f3,if_pos f4,rd_at hlt,if_pos f5,hw]
theorem path_ev (house:ByteArray) (parts:List ByteArray) (asks:Bool) (ask:ByteArray) (hP:Parts parts) (hq:ask.size≤1048576) :
  Ev (fun k=>spec_l1Path.f k house parts asks ask) (pathB parts asks ask):=by
 unfold spec_l1Path.f
 match parts,hP with
 | [],hP=>
  have:=path_end ⟨#[47]⟩ house [] asks ask 0 rfl (by decide) hq
  exact this
 | p :: r,hP=>
  have hz:=hP.short p List.mem_cons_self
  have hs:((⟨#[47]⟩:ByteArray)++p).size=1+p.size:=by rw [ByteArray.size_append];rfl
  refine Ev.step (fun k=>?_) (path_l house (p :: r) asks ask hP hq r.length 1 ((⟨#[47]⟩:ByteArray)++p) (by simp;omega) (by omega) (by omega))
  have h47:(⟨#[47]⟩:ByteArray).size=1:=rfl
  have hr0:rdOf ByteArray.empty (p :: r) 0=p:=rfl
  simp only [spec_l1Path.l0]
  have f1:(0:Int) < ((p :: r).length:Int):=by simp only [List.length_cons];omega
  have f5:(⟨#[47]⟩:ByteArray).size+p.size≤9223372036854775807:=by omega
  rw [if_pos f1,if_neg (by omega),if_pos (by omega),hr0,if_pos f5,w64 (by omega) (by omega)]
  rfl
theorem path_size (parts:List ByteArray) (asks:Bool) (ask:ByteArray) (hP:Parts parts) (hq:ask.size≤1048576):(pathB parts asks ask).size≤2000000000:=by
 have hf:=hP.few
 have hb:((body parts).size:Int)≤1+(parts.length:Int) * 1048577:=by
  match parts,hP with
  | [],_=>simp [body];decide
  | p :: r,hP=>
   have key:∀ (r:List ByteArray) (acc:ByteArray),(∀ q ∈ r,q.size≤1048576)→((r.foldl (fun a q=>(a++⟨#[47]⟩)++q) acc).size:Int)≤(acc.size:Int)+(r.length:Int) * 1048577:=by
    intro r
    induction r with
    | nil=>intro acc _;simp
    | cons q r ih=>
     intro acc h
     have:=ih ((acc++⟨#[47]⟩)++q) (fun x hx=>h x (List.mem_cons_of_mem _ hx))
     have hq:=h q List.mem_cons_self
     have h47:(⟨#[47]⟩:ByteArray).size=1:=rfl
     rw [List.foldl_cons]
     rw [ByteArray.size_append,ByteArray.size_append] at this
     simp only [List.length_cons]
     omega
   have:=key r ((⟨#[47]⟩:ByteArray)++p) (fun x hx=>hP.short x (List.mem_cons_of_mem _ hx))
   have hz:=hP.short p List.mem_cons_self
   have hs:((⟨#[47]⟩:ByteArray)++p).size=1+p.size:=by rw [ByteArray.size_append];rfl
   simp only [body,List.length_cons]
   omega
 unfold pathB
 have h63:(⟨#[63]⟩:ByteArray).size=1:=rfl
 split
 ·rw [ByteArray.size_append,ByteArray.size_append];omega
 ·omega
theorem text_ev (house:ByteArray) (parts:List ByteArray) (asks:Bool) (ask:ByteArray) (hP:Parts parts) (hq:ask.size≤1048576) (hh:house.size≤1048576) :
  Ev (fun k=>spec_l1Text.f k house parts asks ask) (textB house parts asks ask):=by
 unfold spec_l1Text.f
 have hz:=path_size parts asks ask hP hq
 simp only [show 2+house.size≤9223372036854775807 from by omega,if_true]
 refine Ev.bind (path_ev house parts asks ask hP hq) ?_
 simp only [show 2+house.size+(pathB parts asks ask).size≤9223372036854775807 from by omega,if_true]
 exact Ev.now _
theorem ok_l (house:ByteArray) (parts:List ByteArray) (asks:Bool) (ask:ByteArray) (hP:Parts parts) (hq:ask.size≤1048576) (hh:house.size≤1048576) (d:Nat):∀ (i:Nat),i+d=parts.length →
  Ev (fun k=>spec_AddrOk.l0 k (i:Int) house parts asks ask) ((parts.drop i).all partOk && decide ((textB house parts asks ask).size≤60)):=by
 have hf:=hP.few
 induction d with
 | zero=>
  intro i hi
  rw [List.drop_eq_nil_of_le (by omega)]
  simp only [List.all_nil,Bool.true_and]
  refine Ev.step (f:=fun k=>(spec_l1Text.f k house parts asks ask).bind fun t=>some (decide ((t.size:Int)≤60))) (fun k=>?_) (Ev.bind (text_ev house parts asks ask hP hq hh) ?_)
  ·simp only [spec_AddrOk.l0]
   rw [if_neg (by omega)]
  ·have e:decide (((textB house parts asks ask).size:Int)≤60)=decide ((textB house parts asks ask).size≤60):=by rw [Bool.eq_iff_iff];simp;omega
   rw [e]
   exact Ev.now _
 | succ d ih=>
  intro i hi
  have hlt:i < parts.length:=by omega
  rw [List.drop_eq_getElem_cons hlt,List.all_cons]
  refine Ev.step (f:=fun k=>(spec_l1Norm.f k parts[i]).bind fun t=>if t=true then (if parts[i].toList=[] then some false else if parts[i].toList=[46] then some false else if parts[i].toList=[46,46] then some false else spec_AddrOk.l0 k ((i+1:Nat):Int) house parts asks ask) else some false) (fun k=>?_) (Ev.bind (norm_ev parts[i]) ?_)
  ·simp only [spec_AddrOk.l0]
   rw [if_pos (by omega),if_pos (by omega),rd_at hlt,w64 (by omega) (by omega)]
   rfl
  ·by_cases h1:isNorm parts[i]=true
   ·by_cases h2:parts[i].toList=[]
    ·simp only [h1,h2,if_true]
     rw [show partOk parts[i]=false from by simp [partOk,h2]]
     exact Ev.now _
    ·by_cases h3:parts[i].toList=[46]
     ·simp only [h1,h3,if_true]
      rw [show partOk parts[i]=false from by simp [partOk,h3]]
      exact Ev.now _
     ·by_cases h4:parts[i].toList=[46,46]
      ·simp only [h1,h4,if_true]
       rw [show partOk parts[i]=false from by simp [partOk,h4]]
       exact Ev.now _
      ·simp only [h1,h2,h3,h4,if_true,if_false]
       rw [show partOk parts[i]=true from by simp [partOk,h1,h2,h3,h4],Bool.true_and]
       exact ih (i+1) (by omega)
   ·simp only [h1,if_false]
    rw [show partOk parts[i]=false from by simp [partOk,h1]]
    exact Ev.now _
theorem addrOk_ev (house:ByteArray) (parts:List ByteArray) (asks:Bool) (ask:ByteArray) (hP:Parts parts) (hq:ask.size≤1048576) (hh:house.size≤1048576) :
  Ev (fun k=>spec_AddrOk.f k house parts asks ask) (addrOk house parts asks ask):=by
 have hf:=hP.few
 have bad:∀ r,r=false→Ev (fun k=>spec_AddrOk.j0 k true house parts asks ask) r:=fun r hr=>by
  subst hr
  exact Ev.of (fun k=>spec_AddrOk.mono_l k |>.1 _ _ _ _ _) (k:=1) (by simp [spec_AddrOk.j0])
 have good:Ev (fun k=>spec_AddrOk.j0 k false house parts asks ask) (parts.all partOk && decide ((textB house parts asks ask).size≤60)):=by
  refine Ev.step (fun k=>?_) (by simpa using ok_l house parts asks ask hP hq hh parts.length 0 (by omega))
  simp [spec_AddrOk.j0]
 unfold spec_AddrOk.f
 refine Ev.bind (house_ev house (by omega)) ?_
 by_cases h1:isHouse house=true
 ·simp only [h1,if_true]
  by_cases h2:parts.length≤5
  ·simp only [show ¬ ((parts.length:Int) > 5) from by omega,if_false]
   refine Ev.bind (norm_ev ask) ?_
   by_cases h3:isNorm ask=true
   ·simp only [h3,if_true]
    by_cases h4:asks=true
    ·simp only [h4,if_true]
     rw [h4] at good
     rw [show addrOk house parts true ask=(parts.all partOk && decide ((textB house parts true ask).size≤60)) from by simp [addrOk,h1,h2,h3]]
     exact good
    ·rw [show (fun k=>if asks=true then spec_AddrOk.j0 k false house parts asks ask else spec_AddrOk.j0 k (ask.toList != []) house parts asks ask)=(fun k=>spec_AddrOk.j0 k (ask.toList != []) house parts asks ask) from by funext k;rw [if_neg h4]]
     by_cases h5:ask.toList=[]
     ·obtain rfl:asks=false:=by simpa using h4
      simp only [h5,bne_self_eq_false,Bool.false_eq_true,if_false]
      rw [show addrOk house parts false ask=(parts.all partOk && decide ((textB house parts false ask).size≤60)) from by simp [addrOk,h1,h2,h3,h5]]
      exact good
     ·rw [show (ask.toList != ([]:List UInt8))=true from by simp [h5]]
      exact bad _ (by simp [addrOk,h4,h5])
   ·simp only [h3,if_false]
    exact bad _ (by simp [addrOk,h3])
  ·simp only [show (parts.length:Int) > 5 from by omega,if_true]
   exact bad _ (by simp [addrOk,h2])
 ·simp only [h1,if_false]
  exact bad _ (by simp [addrOk,h1])
theorem addrText_ev (house:ByteArray) (parts:List ByteArray) (asks:Bool) (ask:ByteArray) (hP:Parts parts) (hq:ask.size≤1048576) (hh:house.size≤1048576) :
  Ev (fun k=>spec_AddrText.f k house parts asks ask) (addrText house parts asks ask):=by
 unfold spec_AddrText.f addrText
 refine Ev.bind (addrOk_ev house parts asks ask hP hq hh) ?_
 by_cases h:addrOk house parts asks ask=true
 ·simp only [h,if_true]
  exact Ev.bind (text_ev house parts asks ask hP hq hh) (Ev.now _)
 ·simp only [h,if_false]
  exact Ev.now _
end Go.Proofs.YteepbodnaameiaaGreatDoor.Ad
end
