/- Part 4 of the proof of FnExactTripLooked: the plain functions of what it reaches, that Go comes to just their answers, what they answer, and the words that the walks use; conditions: each theorem's own. -/
import Derived.Test.YtnnciiiackinpaaGreatDoorZFnExactTripLookedb
import Derived.Test.YtnnciiiackinpaaGreatDoorZFnExactTripLookedc

section
namespace Go.Proofs.YtnnciiiackinpaaGreatDoor.P
open Go.RowKit Go.Proofs.YtnnciiiackinpaaGreatDoorW.PrintWords Go.Proofs.YtnnciiiackinpaaGreatDoorW.PrintLast Go.Proofs.YtnnciiiackinpaaGreatDoorW.PrintMore
attribute [local go_sem] max2_int min2_int max_two min_two max_three min_three max_four min_four
set_option linter.unusedVariables false
set_option linter.unusedSimpArgs false
set_option maxHeartbeats 8000000
set_option maxRecDepth 100000
def impl_signByte.f (a0:ByteArray) (a1:Int):Option (Int×Bool):=if (wrap64 ((a0.size:Int) - a1)) < 3 then (some (0,false)) else (if 0≤(wrap64 (a1+1)) then (if (wrap64 (a1+1)) < (a0.size:Int) then ((impl_figureValue.f (bt a0 (wrap64 (a1+1)))).bind fun bt411=>(if 0≤(wrap64 (a1+2)) then (if (wrap64 (a1+2)) < (a0.size:Int) then ((impl_figureValue.f (bt a0 (wrap64 (a1+2)))).bind fun bt413=>(if bt411.2=true then (if bt413.2=true then (some ((wrap64 ((wrap64 (bt411.1 * 16))+bt413.1)) % 256,true)) else (some (0,false))) else (some (0,false)))) else (none)) else (none))) else (none)) else (none))
theorem impl_signByte.calls (a0:ByteArray) (a1:Int) (r1:Int) (r2:Bool) (w:World) (h:impl_signByte.f a0 a1=some (r1,r2)) :
  Calls Tryz.prog 135 #[.string a0,.int .i64 a1] w fun e w'=>e=.returned (.tuple #[.int .u8 r1,.bool r2])∧Below w.heap.size w w':=by
 have HB:=A_ (Below.refl w.heap.size w);unfold impl_signByte.f at h
 have H:=h;clear h;replace H:=iteEd H;rcases H with ⟨c3b0,H⟩|⟨c3b0,H⟩
 ·simp only [Option.some.injEq,Prod.mk.injEq] at H
  obtain ⟨rfl,rfl⟩:=H;go_enter Tryz.func135,Tryz.ntmps135;go_wp2
  go_ret2
  exact ⟨zz5,(zz0 HB)⟩
 ·obtain ⟨ji4,hji4⟩:∃ j_:Int,(wrap64 (a1+1))=j_:=⟨_,rfl⟩
  (first|rw [hji4] at H|simp only [hji4] at H)
  have hji4w:(IntKind.i64.wrap (a1+1))=ji4:=(i64_w _).trans hji4;replace H:=iteE H;rcases H with ⟨c5,H⟩|⟨c5,H⟩
  ·have c5b0:=dT c5
   clear c5;replace H:=iteNd H;obtain ⟨c6b0,H⟩:=H;replace H:=bindA H;obtain ⟨⟨t411,t412⟩,A8,H⟩:=H;try dsimp only at H
   obtain ⟨ji9,hji9⟩:∃ j_:Int,(wrap64 (a1+2))=j_:=⟨_,rfl⟩;(first|rw [hji9] at H|simp only [hji9] at H)
   (try rw [hji9] at A8)
   have hji9w:(IntKind.i64.wrap (a1+2))=ji9:=(i64_w _).trans hji9;replace H:=iteNd H;obtain ⟨c10b0,H⟩:=H;replace H:=iteNd H;obtain ⟨c11b0,H⟩:=H;replace H:=bindA H;obtain ⟨⟨t413,t414⟩,A13,H⟩:=H;try dsimp only at H
   have HF14:=A_ H;clear H;have p7:0≤((ji4):Int):=ofD;have q7:(ji4) < (a0.size:Int):=ofD;have hx7:=bt_at a0 (ji4);replace p7:=eq_true p7;replace q7:=eq_true q7;go_enter Tryz.func135,Tryz.ntmps135;go_wp2_with (first|((with_reducible refine gC (f:=143) rfl ?_);refine goesL_ (some 20) rfl rfl Tryz.func143 (by kernel_rfl) rfl #[.int .u8 (bt a0 (ji4))] rfl (by (try simp only [List.map_toArray,List.map_cons,List.map_nil]);first|done|(simp only [hji4];rfl)|rfl|(simp only [List.length_drop,List.length_take];rfl)) ?_;(with_reducible refine mR (impl_figureValue.calls (bt a0 (ji4)) t411 t412 _ A8.out) ?_);rintro w15 hb;replace HB:=A_ (bS (zz0 HB) hb);(try clear hb);have p12:0≤((ji9):Int):=ofD;have q12:(ji9) < (a0.size:Int):=ofD;have hx12:=bt_at a0 (ji9);replace p12:=eq_true p12;replace q12:=eq_true q12)|((with_reducible refine gC (f:=143) rfl ?_);refine goesL_ (some 28) rfl rfl Tryz.func143 (by kernel_rfl) rfl #[.int .u8 (bt a0 (ji9))] rfl (by (try simp only [List.map_toArray,List.map_cons,List.map_nil]);first|done|(simp only [hji9];rfl)|rfl|(simp only [List.length_drop,List.length_take];rfl)) ?_;(with_reducible refine mR (impl_figureValue.calls (bt a0 (ji9)) t413 t414 _ A13.out) ?_);rintro w16 hb;replace HB:=A_ (bS (zz0 HB) hb);(try clear hb))|((with_reducible refine atG ?_ ?_ fun K_ hK_=>?_);rfl;exact undecG)|((with_reducible refine atI ?_ fun K_ hK_=>?_);exact undecI))
   refine unG hK_ ?_;clear hK_ K_;obtain ⟨H⟩:=HF14;replace H:=iteB H;rcases H with ⟨rfl,H⟩|⟨rfl,H⟩
   ·(first|refine iteT ?_|refine iteF ?_|skip)
    replace H:=iteB H;rcases H with ⟨rfl,H⟩|⟨rfl,H⟩
    ·simp only [Option.some.injEq,Prod.mk.injEq] at H
     obtain ⟨rfl,rfl⟩:=H;go_wp2
     go_ret2
     exact ⟨zz124,(zz0 HB)⟩
    ·simp only [Option.some.injEq,Prod.mk.injEq] at H
     obtain ⟨rfl,rfl⟩:=H;go_wp2
     go_ret2
     exact ⟨zz124,(zz0 HB)⟩
   ·(first|refine iteT ?_|refine iteF ?_|skip)
    simp only [Option.some.injEq,Prod.mk.injEq] at H
    obtain ⟨rfl,rfl⟩:=H;(try ((with_reducible refine upS ?_);go_simp))
    go_wp2
    go_ret2
    exact ⟨zz124,(zz0 HB)⟩
  ·exact absurd H (by simp)
def strings_Index.f (a0:ByteArray) (a1:ByteArray):Option (Int):=(stringslite_Index.f a0 a1).bind fun t437=>(some t437)
theorem strings_Index.calls (a0:ByteArray) (a1:ByteArray) (r:Int) (w:World) (h:strings_Index.f a0 a1=some r) :
  Calls Tryz.prog 146 #[.string a0,.string a1] w fun e w'=>e=.returned (.int .i64 r)∧Below w.heap.size w w':=by
 have HB:=A_ (Below.refl w.heap.size w);unfold strings_Index.f at h
 have H:=h;clear h;replace H:=bindA H;obtain ⟨t437,A3,H⟩:=H;obtain rfl:=sI H;go_enter Tryz.func146,Tryz.ntmps146;go_wp2_with (first|(refine gR 111 (some 7) Tryz.func111 (stringslite_Index.calls a0 a1 t437 _ A3.out) ?_;rintro w4 hb;replace HB:=A_ (bS (zz0 HB) hb);(try clear hb)))
 go_ret
 exact ⟨zz5,(zz0 HB)⟩
mutual
def spec_AddrOk.j0:Nat→Bool→ByteArray→List ByteArray→Bool→ByteArray→Option (Bool)
 | 0,_,_,_,_,_=>none
 | k+1,x29,x142000,x142001,x142002,x142003=>if x29=true then (some false) else (spec_AddrOk.l0 k 0 x142000 x142001 x142002 x142003)
def spec_AddrOk.l0:Nat→Int→ByteArray→List ByteArray→Bool→ByteArray→Option (Bool)
 | 0,_,_,_,_,_=>none
 | k+1,x3,x142000,x142001,x142002,x142003=>if x3 < (x142001.length:Int) then (if 0≤x3 then ((spec_l1Norm.f k (rdOf ByteArray.empty x142001 x3)).bind fun t145=>(if t145=true then (if (rdOf ByteArray.empty x142001 x3).toList=([]:List UInt8) then (some false) else (if (rdOf ByteArray.empty x142001 x3).toList=([46]:List UInt8) then (some false) else (if (rdOf ByteArray.empty x142001 x3).toList=([46,46]:List UInt8) then (some false) else (spec_AddrOk.l0 k (wrap64 (x3+1)) x142000 x142001 x142002 x142003)))) else (some false))) else (none)) else ((spec_l1Text.f k x142000 x142001 x142002 x142003).bind fun t149=>(some (decide ((t149.size:Int)≤60))))
end
def spec_AddrOk.f (k:Nat) (a0_0:ByteArray) (l0_1:List ByteArray) (a0_2:Bool) (a0_3:ByteArray):Option (Bool):=(spec_l1House.f k a0_0).bind fun t142=>(if t142=true then (if (l0_1.length:Int) > 5 then (spec_AddrOk.j0 k true a0_0 l0_1 a0_2 a0_3) else ((spec_l1Norm.f k a0_3).bind fun t143=>(if t143=true then (if a0_2=true then (spec_AddrOk.j0 k false a0_0 l0_1 a0_2 a0_3) else (spec_AddrOk.j0 k (a0_3.toList != ([]:List UInt8)) a0_0 l0_1 a0_2 a0_3)) else (spec_AddrOk.j0 k true a0_0 l0_1 a0_2 a0_3)))) else (spec_AddrOk.j0 k true a0_0 l0_1 a0_2 a0_3))
theorem spec_AddrOk.mono_l:∀ k,(∀ y0 y1 y2 y3 y4,LeO (spec_AddrOk.j0 k y0 y1 y2 y3 y4) (spec_AddrOk.j0 (k+1) y0 y1 y2 y3 y4))∧(∀ y0 y1 y2 y3 y4,LeO (spec_AddrOk.l0 k y0 y1 y2 y3 y4) (spec_AddrOk.l0 (k+1) y0 y1 y2 y3 y4))
 | 0=>by refine ⟨?_,?_⟩ <;> (intros;intro r h;simp [spec_AddrOk.j0,spec_AddrOk.l0] at h)
 | k+1=>by
  obtain ⟨ih0,ih1⟩:=spec_AddrOk.mono_l k;refine ⟨?_,?_⟩ <;> intros <;> (first|unfold spec_AddrOk.j0|unfold spec_AddrOk.l0) <;>
  repeat' first|(with_reducible first|exact ih0 _ _ _ _ _|exact ih1 _ _ _ _ _|exact spec_l1House.mono _ _|exact spec_l1Norm.mono _ _|exact spec_l1Text.mono _ _ _ _ _|exact LeO.refl _|exact LeO.none _|refine LeO.ite ?_ ?_|refine LeO.bind ?_ (fun _=>?_))|exact LeO.none _|refine LeO.ite ?_ ?_|refine LeO.bind ?_ (fun _=>?_)
theorem spec_AddrOk.calls (k:Nat) (a0_0:ByteArray) (A0_1:Option Addr) (c0_1:Nat) (l0_1:List ByteArray) (a0_2:Bool) (a0_3:ByteArray) (r:Bool) (w:World) (hr0_1:Kd.C Kd.string w A0_1 l0_1.length l0_1) (hc0_1:l0_1.length≤c0_1) (h:spec_AddrOk.f k a0_0 l0_1 a0_2 a0_3=some r) :
  Calls Tryz.prog 86 #[.agg #[.string a0_0,.slice A0_1 l0_1.length c0_1,.bool a0_2,.string a0_3]] w fun e w'=>e=.returned (.bool r)∧Below w.heap.size w w':=by
 have hu48:=Tryz.underlying48;have HR0_1:=A_ hr0_1;have HC0_1:=A_ hc0_1;clear hr0_1 hc0_1;have HB:=A_ (Below.refl w.heap.size w);unfold spec_AddrOk.f at h
 have H:=h;clear h;have HC2:=A_ H;clear H;go_enter Tryz.func86,Tryz.ntmps86;go_upto_region 1 with (first|((with_reducible refine gD (N:=1) rfl ?_);(try (refine gate_guard (by rfl) ?_;dsimp only));refine boxE 1 #[.string a0_0,.slice A0_1 l0_1.length c0_1,.bool a0_2,.string a0_3] 48 ?_;intro gb141 hg w3 hbox hb;have BK141:=A_ (hbox);have GE141:=geB hg (zz0 HB);replace HB:=A_ (bS (zz0 HB) hb);clear hb hbox hg))
 (try simp only [Act.put,List.setIfInBounds_toArray,List.set_cons_zero,List.set_cons_succ])
 go_cut [29] (fun v29 wc=>∃ (kq:Nat) (x29_1:Bool),v29=.bool x29_1∧Aside0 (spec_AddrOk.j0 kq x29_1 a0_0 l0_1 a0_2 a0_3=some r)∧Aside0 (kq≤k)∧Aside0 (wc.heap[gb141]?=some (.cells #[.string a0_0,(.slice A0_1 l0_1.length c0_1),.bool a0_2,.string a0_3] 48 (0,0)))∧Aside0 (Below w.heap.size w wc))
 case first=>
  obtain ⟨H⟩:=HC2;replace H:=bindA H;obtain ⟨t142,A4,H⟩:=H;have HF5:=A_ H;clear H;obtain ⟨_,_,_,_,_,_,_,_⟩:=cf4 BK141;go_wp2_with (first|(refine gR 66 (some 6) Tryz.func66 (spec_l1House.calls k a0_0 t142 _ A4.out) ?_;rintro w' ⟨nd,rfl⟩)|((with_reducible refine atG ?_ ?_ fun K_ hK_=>?_);rfl;exact undecG)|((with_reducible refine atI ?_ fun K_ hK_=>?_);exact undecI))
  refine unG hK_ ?_;clear hK_ K_;obtain ⟨H⟩:=HF5;replace H:=iteB H;rcases H with ⟨rfl,H⟩|⟨rfl,H⟩
  ·(first|refine iteT ?_|refine iteF ?_|skip)
   replace H:=iteE H;rcases H with ⟨c8,H⟩|⟨c8,H⟩
   ·have c8b0:=gtT c8
    have c8b1:decide (5 < l0_1.length)=true:=dT (by omega);clear c8;have H':=A_ H;clear H;obtain ⟨_,_,_,_,_,_,_,_⟩:=cf4 BK141;go_wp2
    go_meet
    case rel=>exact ⟨_,(true),zz7,H',⟨zz63⟩,⟨(zz2 BK141)⟩,⟨(zz1 HB GE141)⟩⟩
   ·have c8b0:=gtF c8
    have c8b1:decide (5 < l0_1.length)=false:=dF (by omega);clear c8;replace H:=bindA H;obtain ⟨t143,A10,H⟩:=H;have HF11:=A_ H;clear H;obtain ⟨_,_,_,_,_,_,_,_⟩:=cf4 BK141;go_wp2_with (first|(go_at_call 104;(with_reducible refine (spec_l1Norm.calls k a0_3 t143 _ A10.out).mono ?_);rintro e w13 ⟨rfl,hb⟩;replace BK141:=A_ (bB (zz2 BK141) hb);replace HB:=A_ (bS (zz1 HB GE141) hb);(try clear hb))|((with_reducible refine atG ?_ ?_ fun K_ hK_=>?_);rfl;exact undecG)|((with_reducible refine atI ?_ fun K_ hK_=>?_);exact undecI))
    refine unG hK_ ?_;clear hK_ K_;obtain ⟨H⟩:=HF11;replace H:=iteB H;rcases H with ⟨rfl,H⟩|⟨rfl,H⟩
    ·(first|refine iteT ?_|refine iteF ?_|skip)
     replace H:=iteB H;rcases H with ⟨rfl,H⟩|⟨rfl,H⟩
     ·have H':=A_ H
      clear H;obtain ⟨_,_,_,_,_,_,_,_⟩:=cf4 BK141;go_wp2
      go_meet
      case rel=>exact ⟨_,(false),zz7,H',⟨zz63⟩,⟨(zz2 BK141)⟩,⟨(zz1 HB GE141)⟩⟩
     ·have H':=A_ H
      clear H;obtain ⟨_,_,_,_,_,_,_,_⟩:=cf4 BK141;go_wp2
      go_meet
      case rel=>exact ⟨_,((a0_3.toList != ([]:List UInt8))),zz7,H',⟨zz63⟩,⟨(zz2 BK141)⟩,⟨(zz1 HB GE141)⟩⟩
    ·(first|refine iteT ?_|refine iteF ?_|skip)
     have H':=A_ H;clear H;(try ((with_reducible refine upS ?_);go_simp))
     go_wp2
     go_meet
     case rel=>exact ⟨_,(true),zz7,H',⟨zz63⟩,⟨(zz2 BK141)⟩,⟨(zz1 HB GE141)⟩⟩
  ·(first|refine iteT ?_|refine iteF ?_|skip)
   have H':=A_ H;clear H;(try ((with_reducible refine upS ?_);go_simp))
   go_wp2
   go_meet
   case rel=>exact ⟨_,(true),zz7,H',⟨zz63⟩,⟨(zz2 BK141)⟩,⟨(zz1 HB GE141)⟩⟩
 case rest=>
  clear HC2;obtain ⟨kq,x29_1,rfl,HA,HJ1,BK141,HB⟩:=hcut;cases kq with
  | zero=>exact absurd HA.out (by simp [spec_AddrOk.j0])
  | succ kj1=>
   obtain ⟨H⟩:=HA;simp only [spec_AddrOk.j0] at H
   replace H:=iteB H;rcases H with ⟨rfl,H⟩|⟨rfl,H⟩
   ·obtain rfl:=sI H
    go_wp2
    go_ret
    exact ⟨zz5,(zz1 HB GE141)⟩
   ·have H':=A_ H
    clear H;go_wp2
    go_loopg [3] kj1 (fun kq v3 w'=>∃ (x3_2:Int),v3=.int .i64 x3_2∧Aside0 (spec_AddrOk.l0 kq x3_2 a0_0 l0_1 a0_2 a0_3=some r)∧Aside0 (kq≤kj1)∧Aside0 (w'.heap[gb141]?=some (.cells #[.string a0_0,(.slice A0_1 l0_1.length c0_1),.bool a0_2,.string a0_3] 48 (0,0)))∧Aside0 (Below w.heap.size w w'))
    case atStart=>exact ⟨(0),zz7,H',⟨Nat.le_refl _⟩,⟨(zz2 BK141)⟩,⟨(zz1 HB GE141)⟩⟩
    case round=>
     clear H';obtain ⟨x3_2,rfl,HA,HK2,BK141,HB⟩:=hrel;cases gk with
     | zero=>exact absurd HA.out (by simp [spec_AddrOk.l0])
     | succ k2=>
      obtain ⟨H⟩:=HA;simp only [spec_AddrOk.l0] at H
      replace H:=iteEd H;rcases H with ⟨c19b0,H⟩|⟨c19b0,H⟩
      ·replace H:=iteNd H
       obtain ⟨c20b0,H⟩:=H;replace H:=bindA H;obtain ⟨t145,A21,H⟩:=H;have HF22:=A_ H;clear H;obtain ⟨_,_,_,_,_,_,_,_⟩:=cf4 BK141;obtain ⟨⟨ad144,e144,hx144_0⟩,p144,q144⟩:=atB (Kd.at_string HR0_1.out x3_2);cases e144
       replace hx144_0:=cbl HB hx144_0;go_wp2_with (first|(refine gR 104 (some 42) Tryz.func104 (spec_l1Norm.calls k2 (rdOf ByteArray.empty l0_1 x3_2) t145 _ A21.out) ?_;rintro w24 hb;replace BK141:=A_ (bB (zz2 BK141) hb);replace HB:=A_ (bS (zz1 HB GE141) hb);(try clear hb))|((with_reducible refine atG ?_ ?_ fun K_ hK_=>?_);rfl;exact undecG)|((with_reducible refine atI ?_ fun K_ hK_=>?_);exact undecI))
       refine unG hK_ ?_;clear hK_ K_;obtain ⟨H⟩:=HF22;replace H:=iteB H;rcases H with ⟨rfl,H⟩|⟨rfl,H⟩
       ·(first|refine iteT ?_|refine iteF ?_|skip)
        replace H:=iteEq H;rcases H with ⟨c26b0,c26b1,H⟩|⟨c26b0,c26b1,c26,H⟩
        ·obtain rfl:=sI H
         obtain ⟨_,_,_,_,_,_,_,_⟩:=cf4 BK141;obtain ⟨⟨ad146,e146,hx146_0⟩,p146,q146⟩:=atB (Kd.at_string HR0_1.out x3_2);obtain rfl:ad144=ad146:=(by injection e146);replace hx146_0:=cbl HB hx146_0;go_wp2
         go_ret
         exact ⟨zz5,(zz1 HB GE141)⟩
        ·replace H:=iteEq H
         rcases H with ⟨c28b0,c28b1,H⟩|⟨c28b0,c28b1,c28,H⟩
         ·obtain rfl:=sI H
          obtain ⟨_,_,_,_,_,_,_,_⟩:=cf4 BK141;obtain ⟨⟨ad146,e146,hx146_0⟩,p146,q146⟩:=atB (Kd.at_string HR0_1.out x3_2);obtain rfl:ad144=ad146:=(by injection e146);replace hx146_0:=cbl HB hx146_0;obtain ⟨⟨ad147,e147,hx147_0⟩,p147,q147⟩:=atB (Kd.at_string HR0_1.out x3_2);obtain rfl:ad144=ad147:=(by injection e147);replace hx147_0:=cbl HB hx147_0;go_wp2
          go_ret
          exact ⟨zz5,(zz1 HB GE141)⟩
         ·replace H:=iteEq H
          rcases H with ⟨c30b0,c30b1,H⟩|⟨c30b0,c30b1,c30,H⟩
          ·obtain rfl:=sI H
           obtain ⟨_,_,_,_,_,_,_,_⟩:=cf4 BK141;obtain ⟨⟨ad146,e146,hx146_0⟩,p146,q146⟩:=atB (Kd.at_string HR0_1.out x3_2);obtain rfl:ad144=ad146:=(by injection e146);replace hx146_0:=cbl HB hx146_0;obtain ⟨⟨ad147,e147,hx147_0⟩,p147,q147⟩:=atB (Kd.at_string HR0_1.out x3_2);obtain rfl:ad144=ad147:=(by injection e147);replace hx147_0:=cbl HB hx147_0;obtain ⟨⟨ad148,e148,hx148_0⟩,p148,q148⟩:=atB (Kd.at_string HR0_1.out x3_2);obtain rfl:ad144=ad148:=(by injection e148);replace hx148_0:=cbl HB hx148_0;go_wp2
           go_ret
           exact ⟨zz5,(zz1 HB GE141)⟩
          ·have H':=A_ H
           clear H;obtain ⟨_,_,_,_,_,_,_,_⟩:=cf4 BK141;obtain ⟨⟨ad146,e146,hx146_0⟩,p146,q146⟩:=atB (Kd.at_string HR0_1.out x3_2);obtain rfl:ad144=ad146:=(by injection e146);replace hx146_0:=cbl HB hx146_0;obtain ⟨⟨ad147,e147,hx147_0⟩,p147,q147⟩:=atB (Kd.at_string HR0_1.out x3_2);obtain rfl:ad144=ad147:=(by injection e147);replace hx147_0:=cbl HB hx147_0;obtain ⟨⟨ad148,e148,hx148_0⟩,p148,q148⟩:=atB (Kd.at_string HR0_1.out x3_2);obtain rfl:ad144=ad148:=(by injection e148);replace hx148_0:=cbl HB hx148_0;go_wp2
           go_roundg k2
           case measure=>have:=HJ1.out;have:=HK2.out;omega
           case rel=>exact ⟨(wrap64 (x3_2+1)),zz7,H',⟨(zz72 HJ1 HK2)⟩,⟨(zz2 BK141)⟩,⟨(zz1 HB GE141)⟩⟩
       ·(first|refine iteT ?_|refine iteF ?_|skip)
        obtain rfl:=sI H;(try ((with_reducible refine upS ?_);go_simp))
        go_wp2
        go_ret
        exact ⟨zz5,(zz1 HB GE141)⟩
      ·replace H:=bindA H
       obtain ⟨t149,A33,H⟩:=H;obtain rfl:=sI H;obtain ⟨_,_,_,_,_,_,_,_⟩:=cf4 BK141;go_wp2_with (first|(refine gR 87 (some 69) Tryz.func87 (spec_l1Text.calls k2 a0_0 _ _ l0_1 a0_2 a0_3 t149 _ ?side1 ?side2 A33.out) ?_;(case side1=>exact (zz21 HR0_1 HB));(case side2=>exact HC0_1.out);rintro w35 hb;replace BK141:=A_ (bB (zz2 BK141) hb);replace HB:=A_ (bS (zz1 HB GE141) hb);(try clear hb)))
       go_ret
       exact ⟨zz5,(zz1 HB GE141)⟩
def spec_l1Way.l0:Nat→ByteArray→Bool→List ByteArray→List ByteArray→Int→ByteArray→List ByteArray→Bool→ByteArray→Option (ByteArray×List ByteArray×Bool×ByteArray×Bool)
 | 0,_,_,_,_,_,_,_,_,_=>none
 | k+1,x6,x7,x8,x9,x10,x173000,x173001,x173002,x173003=>if x10 < (x9.length:Int) then (if 0≤x10 then ((spec_EscNorm.f k (rdOf ByteArray.empty x9 x10)).bind fun bt187=>(if bt187.2=true then (if x8.length < 8796093022208 then (spec_l1Way.l0 k x6 x7 (x8++[bt187.1]) x9 (wrap64 (x10+1)) x173000 x173001 x173002 x173003) else (none)) else (some ((⟨#[]⟩:ByteArray),([]:List ByteArray),false,(⟨#[]⟩:ByteArray),false)))) else (none)) else ((spec_EscNorm.f k x6).bind fun bt192=>((spec_PathClean.f k x8).bind fun t194=>(if bt192.2=true then ((spec_AddrOk.f k x173000 t194 x7 bt192.1).bind fun t198=>(if t198=true then (some (x173000,t194,x7,bt192.1,true)) else (some ((⟨#[]⟩:ByteArray),([]:List ByteArray),false,(⟨#[]⟩:ByteArray),false)))) else (some ((⟨#[]⟩:ByteArray),([]:List ByteArray),false,(⟨#[]⟩:ByteArray),false)))))
def spec_l1Way.f (k:Nat) (a0_0:ByteArray) (l0_1:List ByteArray) (a0_2:Bool) (a0_3:ByteArray) (a1:ByteArray):Option (ByteArray×List ByteArray×Bool×ByteArray×Bool):=(spec_l1Cut.f k a1 63).bind fun bt174=>((some (([]:List ByteArray):List ByteArray)).bind fun y177=>(if y177.length+l0_1.length < 8796093022208 then ((spec_l1Split.f k bt174.1 47).bind fun t183=>(spec_l1Way.l0 k bt174.2.1 bt174.2.2 (y177++l0_1) t183 0 a0_0 l0_1 a0_2 a0_3)) else (none)))
def spec_l1Way.T12:Bool×List (List Nat×List Nat):=(true,[([],[]),([0],[0]),([],[]),([2],[2]),([],[]),([],[]),([1,3,4,5],[1,3,4,5]),([],[]),([7,6,3,0,1,2,3,4,5,6,7],[6,7])])
def spec_l1Way.B12:List Nat:=[0,1,0,4,0,0,63,0,255]
theorem spec_l1Way.tab12:rtab .any (opsOf Tryz.f70 12)=spec_l1Way.T12:=by kernel_rfl
theorem spec_l1Way.bits12:waitsOk spec_l1Way.T12.2 spec_l1Way.B12=true:=by kernel_rfl
theorem spec_l1Way.calls (k:Nat) (a0_0:ByteArray) (A0_1:Option Addr) (c0_1:Nat) (l0_1:List ByteArray) (a0_2:Bool) (a0_3:ByteArray) (a1:ByteArray) (r1:ByteArray) (r2:List ByteArray) (r3:Bool) (r4:ByteArray) (r5:Bool) (w:World) (hr0_1:Kd.C Kd.string w A0_1 l0_1.length l0_1) (hc0_1:l0_1.length≤c0_1) (h:spec_l1Way.f k a0_0 l0_1 a0_2 a0_3 a1=some (r1,r2,r3,r4,r5)) :
  Calls Tryz.prog 70 #[.agg #[.string a0_0,.slice A0_1 l0_1.length c0_1,.bool a0_2,.string a0_3],.string a1] w fun e w'=>∃ v1_:Value,e=.returned (.tuple #[.agg #[.string r1,v1_,.bool r3,.string r4],.bool r5])∧Kd.R Kd.string 9 w' w.heap.size (fun _=>True) v1_ r2∧Below w.heap.size w w':=by
 have hu48:=Tryz.underlying48;have HR0_1:=A_ hr0_1;have HC0_1:=A_ hc0_1;clear hr0_1 hc0_1;have HB:=A_ (Below.refl w.heap.size w);unfold spec_l1Way.f at h
 have H:=h;clear h;replace H:=bindA H;obtain ⟨⟨t174,t175,t176⟩,A3,H⟩:=H;try dsimp only at H
 obtain ⟨y177,Ny177,H⟩:=bindY H;replace H:=iteE H;rcases H with ⟨c4,H⟩|⟨c4,H⟩
 ·have LMc4:=A_ c4
  clear c4;obtain ⟨y180,Ny180⟩:=toY (y177++l0_1);(first|with_reducible replace H:=bindZ Ny180 H|rw [← Ny180.out] at H|skip)
  replace H:=bindA H;obtain ⟨t183,A5,H⟩:=H;have H':=A_ H;clear H;go_enter Tryz.func70,Tryz.ntmps70;go_wp2_with (first|(refine boxF 2 #[.string a0_0,.slice A0_1 l0_1.length c0_1,.bool a0_2,.string a0_3] 48 ?_;intro gb172 hg w6 BK172 hb;have GE172:=geB hg (zz0 HB);replace HB:=A_ (bS (zz0 HB) hb);clear hb hg)|(refine boxF 4 #[.string (⟨#[]⟩:ByteArray),.slice none 0 0,.bool false,.string (⟨#[]⟩:ByteArray)] 48 ?_;intro gb173 hg w7 BK173 hb;have GE173:=geB hg (zz1 HB GE172);replace HB:=A_ (bS (zz1 HB GE172) hb);have NB172_173:=A_ ((by rw [hg];exact Nat.ne_of_lt (blk_lt (zz2 BK172)):gb172≠gb173));have NB173_172:=A_ ((by rw [hg];exact Nat.ne_of_gt (blk_lt (zz2 BK172)):gb173≠gb172));replace BK172:=A_ (bB (zz2 BK172) hb);clear hb hg)|(refine gR 43 (some 18) Tryz.func43 (spec_l1Cut.calls k a1 63 t174 t175 t176 _ A3.out) ?_;rintro w' ⟨nd,rfl⟩)|((with_reducible refine gD (N:=22) rfl ?_);refine Kd.R_lit Kd.string _ 9 ?hg (N:=22) ?hd (xs:=([]:List ByteArray)) (inner:=[]) (ok:=fun _=>True) (okp:=fun _=>True) ?hr ?hp (fun _ hk=>hk) trivial (Below.refl _ _) (Nat.le_refl _) (by simp) ?_;(case hd=>rfl);(case hg=>rfl);(case hr=>exact zz14);(case hp=>exact (Reps.none _ _));intro v178 w8 ho9 hb hg_ hnew_;clear hg_ hnew_;(first|rw [← Ny177.out] at ho9|(simp only [Int.reduceToNat] at ho9;rw [← Ny177.out] at ho9));have HO179:=A_ (Kd.R_lower ho9 (below_size (zz3 HB GE172 GE173)));replace BK172:=A_ (bB (zz2 BK172) hb);replace BK173:=A_ (bB (zz2 BK173) hb);replace HB:=A_ (bS (zz3 HB GE172 GE173) hb);clear hb ho9;have hnb10:=NB172_173.out;have hnc10:=NB173_172.out;obtain ⟨_,_,_,_,_,_,_,_⟩:=cf4 BK172)|((with_reducible refine gate_builtin (b:=.append) (xs:=#[.tmp 22,.tmp 24]) rfl ?_);at_builtin;refine Kd.R_append_rows Kd.string (w0:=w) w.heap.size rfl (.tmp 22) (.tmp 24) 23 9 (.string ⟨#[]⟩) 16 rfl Tryz.underlying23 info9 rfl (by decide) (by omega) v178 y177 l0_1 _ _ _ (fun _=>True) (fun _=>False) rfl rfl ?aO ?aR (fun _ _ h=>h) (fun _ h=>h.elim) ?aF ?aB ?aS ?aL ?_;(case aR=>exact (zz21 HR0_1 HB));(case aB=>exact (zz3 HB GE172 GE173));(case aF=>exact (fun _ _=>trivial));(case aO=>exact (zz12 HO179));(case aS=>exact (below_size (zz3 HB GE172 GE173)));(case aL=>exact (zz17 LMc4));intro v181 w12 ho hb hg hat;rw [← Ny180.out] at ho;replace BK172:=A_ (blk_grown (zz2 BK172) hg (Kd.R_ne HO179.out BK172.out (by decide)));replace BK173:=A_ (blk_grown (zz2 BK173) hg (Kd.R_ne HO179.out BK173.out (by decide)));replace HB:=A_ (hb);have HO182:=A_ (ho);clear HO179;clear ho hb hg hat)|(refine gV 89 (some 27) Tryz.func89 (spec_l1Split.calls k t174 47 t183 _ A5.out) ?_;rintro v184 w13 ⟨ho0,hb⟩;have HO185:=A_ (Kd.R_lower (Kd.R_new' ho0 (Kd.R_lt (zz12 HO182))) (below_size (zz3 HB GE172 GE173)));replace HO182:=A_ (Kd.R_elder' (zz12 HO182) (Kd.R_base ho0) hb);replace BK172:=A_ (bB (zz2 BK172) hb);replace BK173:=A_ (bB (zz2 BK173) hb);replace HB:=A_ (bS (zz3 HB GE172 GE173) hb);(try clear hb ho0)))
  go_loopg [8,10] k (fun kq v8 v10 w'=>∃ (x8_1:List ByteArray) (x10_1:Int) (x174000_1:ByteArray) (x174002_1:Bool) (x174003_1:ByteArray),v10=.int .i64 x10_1∧Aside0 (spec_l1Way.l0 kq t175 t176 x8_1 t183 x10_1 a0_0 l0_1 a0_2 a0_3=some (r1,r2,r3,r4,r5))∧Aside0 (kq≤k)∧Aside0 (Kd.R Kd.string 9 w' w.heap.size (fun k_=>some k_≠(v184:Value).ownBlock) v8 x8_1)∧Aside0 (Kd.R Kd.string 9 w' w.heap.size (fun k_=>some k_≠(v8:Value).ownBlock) v184 t183)∧Aside0 (w'.heap[gb172]?=some (.cells #[.string a0_0,(.slice A0_1 l0_1.length c0_1),.bool a0_2,.string a0_3] 48 (0,0)))∧Aside0 (w'.heap[gb173]?=some (.cells #[.string x174000_1,(.slice none 0 0),.bool x174002_1,.string x174003_1] 48 (0,0)))∧Aside0 (Below w.heap.size w w'))
  case atStart=>exact ⟨(y180),(0),((⟨#[]⟩:ByteArray)),(false),((⟨#[]⟩:ByteArray)),zz7,H',⟨Nat.le_refl _⟩,⟨(zz127 HO182)⟩,⟨(zz127 HO185)⟩,⟨(zz2 BK172)⟩,⟨(zz2 BK173)⟩,⟨(zz3 HB GE172 GE173)⟩⟩
  case round=>
   clear H';obtain ⟨x8_1,x10_1,x174000_1,x174002_1,x174003_1,rfl,HA,HK1,HO_8,HO_9,BK172,BK173,HB⟩:=hrel;cases gk with
   | zero=>exact absurd HA.out (by simp [spec_l1Way.l0])
   | succ k1=>
    obtain ⟨H⟩:=HA;simp only [spec_l1Way.l0] at H
    replace H:=iteEd H;rcases H with ⟨c14b0,H⟩|⟨c14b0,H⟩
    ·replace H:=iteNd H
     obtain ⟨c15b0,H⟩:=H;replace H:=bindA H;obtain ⟨⟨t187,t188⟩,A16,H⟩:=H;try dsimp only at H
     have HF17:=A_ H;clear H;obtain ⟨Ao18,co18,eo18⟩:=Kd.R_slice HO_9.out;subst eo18;obtain ⟨⟨ad186,e186,hx186_0⟩,p186,q186⟩:=atB (Kd.at_string (Kd.R_reads' HO_9.out).2.2 x10_1);cases e186
     go_upto_if 43 with (first|(refine gR 90 (some 39) Tryz.func90 (spec_EscNorm.calls k1 (rdOf ByteArray.empty t183 x10_1) t187 t188 _ A16.out) ?_;rintro w19 hb;replace HO_8:=A_ (rB (zz12 HO_8) hb);replace HO_9:=A_ (rB (zz12 HO_9) hb);replace BK172:=A_ (bB (zz2 BK172) hb);replace BK173:=A_ (bB (zz2 BK173) hb);replace HB:=A_ (bS (zz3 HB GE172 GE173) hb);(try clear hb)))
     obtain ⟨H⟩:=HF17;replace H:=iteB H;rcases H with ⟨rfl,H⟩|⟨rfl,H⟩
     ·replace H:=iteN H
      obtain ⟨c21,H⟩:=H;have LMc21:=A_ c21;clear c21;obtain ⟨y189,Ny189⟩:=toY (x8_1++[t187]);(first|with_reducible replace H:=bindZ Ny189 H|rw [← Ny189.out] at H|skip)
      have H':=A_ H;clear H;go_wp2_with (first|((with_reducible refine gate_builtin (b:=.append) (xs:=#[.tmp 45,.tmp 47]) rfl ?_);at_builtin;refine Kd.R_append Kd.string (w0:=w) w.heap.size rfl (.tmp 45) (.tmp 47) 23 9 (.string ⟨#[]⟩) 16 rfl Tryz.underlying23 info9 rfl (by decide) (by omega) u8 x8_1 t187 [.string t187] (fun k_=>some k_≠(.slice (some ad186) t183.length co18:Value).ownBlock) (fun _=>False) rfl rfl ?aP (fun _ hk=>hk.elim) ?aF ?aO ?aB ?aS ?aL ?_;(case aP=>exact rfl);(case aB=>exact (zz3 HB GE172 GE173));(case aF=>exact (fun k_ hk=>Kd.fresh' (Kd.R_lt (zz12 HO_9)) k_ hk));(case aO=>exact (zz12 HO_8));(case aS=>exact (below_size (zz3 HB GE172 GE173)));(case aL=>exact (zz17 LMc21));intro v190 w22 ho hb hg hat;rw [← Ny189.out] at ho;replace HO_9:=A_ (Kd.R_after (ok:=(fun _=>True)) (zz129 HO_9) hg hat);replace BK172:=A_ (blk_grown (zz2 BK172) hg (Kd.R_ne HO_8.out BK172.out (by decide)));replace BK173:=A_ (blk_grown (zz2 BK173) hg (Kd.R_ne HO_8.out BK173.out (by decide)));replace HB:=A_ (hb);have HO191:=A_ (ho);clear HO_8;clear ho hb hg hat))
      go_roundg k1
      case measure=>have:=HK1.out;omega
      case rel=>exact ⟨(y189),(wrap64 (x10_1+1)),(x174000_1),(x174002_1),(x174003_1),zz7,H',⟨(zz17 HK1)⟩,⟨(zz12 HO191)⟩,⟨(zz127 HO_9)⟩,⟨(zz2 BK172)⟩,⟨(zz2 BK173)⟩,⟨(zz3 HB GE172 GE173)⟩⟩
     ·simp only [Option.some.injEq,Prod.mk.injEq] at H
      obtain ⟨rfl,rfl,rfl,rfl,rfl⟩:=H;have hnb23:=NB173_172.out;have hnc23:=NB172_173.out;obtain ⟨_,_,_,_,_,_,_,_⟩:=cf4 BK173;go_wp2
      refine pR (results_ct rfl _ _ gb173 48 #[.string (⟨#[]⟩:ByteArray),.slice none 0 0,.bool false,.string (⟨#[]⟩:ByteArray)] (0,0) _ rfl (zz130 BK173) Tryz.underlying48 rfl (by kernel_rfl)) rfl ?_;exact ⟨_,zz5,zz85,(zz3 HB GE172 GE173)⟩
    ·replace H:=bindA H
     obtain ⟨⟨t192,t193⟩,A25,H⟩:=H;try dsimp only at H
     replace H:=bindA H;obtain ⟨t194,A26,H⟩:=H;have HF27:=A_ H;clear H;obtain ⟨Ao28,co28,eo28⟩:=Kd.R_slice HO_9.out;subst eo28;try go_wp2_with (first|(refine gR 90 (some 51) Tryz.func90 (spec_EscNorm.calls k1 t175 t192 t193 _ A25.out) ?_;rintro w29 hb;replace HO_8:=A_ (rB (zz12 HO_8) hb);replace HO_9:=A_ (rB (zz12 HO_9) hb);replace BK172:=A_ (bB (zz2 BK172) hb);replace BK173:=A_ (bB (zz2 BK173) hb);replace HB:=A_ (bS (zz3 HB GE172 GE173) hb);(try clear hb);obtain ⟨Ao30,co30,eo30⟩:=Kd.R_slice HO_8.out;subst eo30))
     replace HO_8:=A_ (Kd.R_drew HO_8.out);replace HO_9:=A_ (Kd.R_drew HO_9.out);replace BK172:=A_ (blk_drew BK172.out);replace BK173:=A_ (blk_drew BK173.out);replace HB:=A_ (below_drew1 HB.out);refine start_ (n:=9) (S:=fun w'=>w'.cell? ⟨gb172,0,none⟩=some (.string a0_0)∧w'.cell? ⟨gb172,1,none⟩=some (.slice A0_1 l0_1.length c0_1)∧w'.cell? ⟨gb172,2,none⟩=some (.bool a0_2)∧w'.cell? ⟨gb172,3,none⟩=some (.string a0_3)) (ds:=[]) #[yF,yF,yF,yF,yF,yF,yF,yF,yF] (by kernel_rfl) rfl rfl ⟨(blk_cell BK172.out 0).trans rfl,(blk_cell BK172.out 1).trans rfl,(blk_cell BK172.out 2).trans rfl,(blk_cell BK172.out 3).trans rfl⟩ (fun hHeld=>?_);refine with_tabW spec_l1Way.tab12 spec_l1Way.bits12 (fun HT_ HW_=>?_);generalize w29.drew=w31 at HO_8 HO_9 BK172 BK173 HB hHeld ⊢;refine pureZ 0 (some 54) (yA 1 8) ?_;refine pureZ 2 (some 56) #[yT,yF,yT,yF,yF,yF,yF,yF,yF] ?_;refine pureZ 4 (some 58) #[yT,yF,yT,yF,yT,yF,yF,yF,yF] ?_;refine pureZ 5 (some 59) #[yT,yF,yT,yF,yT,yT,yF,yF,yF] ?_;refine takeZ4 1 (some 55) #[yT,yT,yT,yF,yT,yT,yF,yF,yF] hHeld ?_;refine join_ (σ:=Value×Nat) 1 (yA 8 1) (fun s_=>[(57,s_.1),(15,.pointer (some ⟨s_.2,0,none⟩)),(60,.agg #[.string a0_0,s_.1,.bool t176,.string t192])]) (fun s_ w'=>(w'.cell? ⟨gb172,0,none⟩=some (.string a0_0)∧w'.cell? ⟨gb172,1,none⟩=some (.slice A0_1 l0_1.length c0_1)∧w'.cell? ⟨gb172,2,none⟩=some (.bool a0_2)∧w'.cell? ⟨gb172,3,none⟩=some (.string a0_3))∧(Kd.R Kd.string 9 w' w.heap.size (fun k_=>some k_≠(.slice Ao30 x8_1.length co30:Value).ownBlock∧some k_≠(.slice Ao28 t183.length co28:Value).ownBlock) s_.1 t194)∧(Kd.R Kd.string 9 w' w.heap.size (fun k_=>some k_≠(s_.1:Value).ownBlock∧some k_≠(.slice Ao28 t183.length co28:Value).ownBlock) (.slice Ao30 x8_1.length co30) x8_1)∧(Kd.R Kd.string 9 w' w.heap.size (fun k_=>some k_≠(s_.1:Value).ownBlock∧some k_≠(.slice Ao30 x8_1.length co30:Value).ownBlock) (.slice Ao28 t183.length co28) t183)∧(w'.heap[gb172]?=some (.cells #[.string a0_0,.slice A0_1 l0_1.length c0_1,.bool a0_2,.string a0_3] 48 (0,0)))∧(w'.heap[gb173]?=some (.cells #[.string x174000_1,.slice none 0 0,.bool x174002_1,.string x174003_1] 48 (0,0)))∧(w'.heap[s_.2]?=some (.cells #[.string (⟨#[]⟩:ByteArray),.slice none 0 0,.bool false,.string (⟨#[]⟩:ByteArray)] 48 (0,0)))∧(w.heap.size≤s_.2)∧(w.heap.size≤s_.2)∧(gb172≠s_.2)∧(s_.2≠gb172)∧(gb173≠s_.2)∧(s_.2≠gb173)∧(Below w.heap.size w w')) ?_ ?_;rotate_left
     ·intro hCont
      refine twoZ 3 7 (some 57) (some 15) (yA 6 3) #[yT,yT,yT,yF,yT,yT,yF,yT,yF] (fun K hK=>?_) (fun K hK=>?_)
      ·skip
       refine goes_ Tryz.func91 (by kernel_rfl) rfl #[.slice Ao30 x8_1.length co30] (by rfl) rfl rfl zz39 ?_;with_reducible refine (spec_PathClean.calls k1 _ _ x8_1 t194 _ ?side1 ?side2 A26.out).mono ?_
       (case side1=>exact (zz131 HO_8))
       (case side2=>exact (Kd.R_reads' HO_8.out).2.1)
       rintro e w32 ⟨v195,rfl,ho0,hb⟩;refine ⟨_,rfl,?_⟩;have HO196:=A_ (Kd.R_lower (Kd.R_new' (Kd.R_new' ho0 (Kd.R_lt (zz12 HO_8))) (Kd.R_lt (zz12 HO_9))) (below_size (zz3 HB GE172 GE173)));replace HO_8:=A_ (Kd.R_elder' (zz12 HO_8) (Kd.R_base ho0) hb);replace HO_9:=A_ (Kd.R_elder' (zz12 HO_9) (Kd.R_base ho0) hb);replace BK172:=A_ (bB (zz2 BK172) hb);replace BK173:=A_ (bB (zz2 BK173) hb);replace HB:=A_ (bS (zz3 HB GE172 GE173) hb);(try clear hb)
       (try clear hb2)
       (try clear hk)
       (try clear hi)
       (try clear ho0)
       obtain ⟨Ao33,co33,eo33⟩:=Kd.R_slice HO196.out;(first|subst eo33|(injection eo33 with f1_ f2_ f3_;have f4_:=f1_.symm;have f5_:=f3_.symm;clear f1_ f2_ f3_;subst f4_;subst f5_))
       refine hK.out _ _ ⟨(blk_cell BK172.out 0).trans rfl,(blk_cell BK172.out 1).trans rfl,(blk_cell BK172.out 2).trans rfl,(blk_cell BK172.out 3).trans rfl⟩ (fun hHeld=>?_);clear hK K;refine nZ 57 ?_;refine pureZ 6 (some 60) (yA 7 2) ?_;refine oneZ 7 (some 15) (yA 8 1) (fun K hK=>?_);refine box_step ?hg (N:=15) ?hd (cs:=#[.string (⟨#[]⟩:ByteArray),.slice none 0 0,.bool false,.string (⟨#[]⟩:ByteArray)]) (t:=48) ?hr ?_;(case hd=>rfl);(case hg=>rfl);(case hr=>exact zz14);intro gb197 hg w34 hbox hb;replace HO_8:=A_ (rB (zz12 HO_8) hb);replace HO_9:=A_ (rB (zz12 HO_9) hb);replace HO196:=A_ (rB (zz12 HO196) hb);have BK197:=A_ (hbox);have GW197:=A_ ((by rw [hg];exact (below_size (zz3 HB GE172 GE173)):w.heap.size≤gb197));have GE197:=A_ ((by rw [hg];exact (below_size (zz3 HB GE172 GE173)):w.heap.size≤gb197));replace HB:=A_ (bS (zz3 HB GE172 GE173) hb);have NB172_197:=A_ ((by rw [hg];exact Nat.ne_of_lt (blk_lt (zz2 BK172)):gb172≠gb197));have NB197_172:=A_ ((by rw [hg];exact Nat.ne_of_gt (blk_lt (zz2 BK172)):gb197≠gb172));replace BK172:=A_ (bB (zz2 BK172) hb);have NB173_197:=A_ ((by rw [hg];exact Nat.ne_of_lt (blk_lt (zz2 BK173)):gb173≠gb197));have NB197_173:=A_ ((by rw [hg];exact Nat.ne_of_gt (blk_lt (zz2 BK173)):gb197≠gb173));replace BK173:=A_ (bB (zz2 BK173) hb);clear hb hbox hg;refine hK.out _ _ ⟨(blk_cell BK172.out 0).trans rfl,(blk_cell BK172.out 1).trans rfl,(blk_cell BK172.out 2).trans rfl,(blk_cell BK172.out 3).trans rfl⟩ (fun hHeld=>?_);clear hK K;refine nZ 15 ?_;exact norm_ viaP (hCont (.slice Ao33 t194.length co33,gb197) _ ⟨hHeld,(zz132 HO196),(zz133 HO_8),(zz133 HO_9),(zz2 BK172),(zz2 BK173),(zz2 BK197),GW197.out,GE197.out,NB172_197.out,NB197_172.out,NB173_197.out,NB197_173.out,(zz6 HB GE172 GE173 GE197)⟩)
      ·skip
       refine box_step ?hg (N:=15) ?hd (cs:=#[.string (⟨#[]⟩:ByteArray),.slice none 0 0,.bool false,.string (⟨#[]⟩:ByteArray)]) (t:=48) ?hr ?_;(case hd=>rfl);(case hg=>rfl);(case hr=>exact zz14);intro gb197 hg w32 hbox hb;replace HO_8:=A_ (rB (zz12 HO_8) hb);replace HO_9:=A_ (rB (zz12 HO_9) hb);have BK197:=A_ (hbox);have GW197:=A_ ((by rw [hg];exact (below_size (zz3 HB GE172 GE173)):w.heap.size≤gb197));have GE197:=A_ ((by rw [hg];exact (below_size (zz3 HB GE172 GE173)):w.heap.size≤gb197));replace HB:=A_ (bS (zz3 HB GE172 GE173) hb);have NB172_197:=A_ ((by rw [hg];exact Nat.ne_of_lt (blk_lt (zz2 BK172)):gb172≠gb197));have NB197_172:=A_ ((by rw [hg];exact Nat.ne_of_gt (blk_lt (zz2 BK172)):gb197≠gb172));replace BK172:=A_ (bB (zz2 BK172) hb);have NB173_197:=A_ ((by rw [hg];exact Nat.ne_of_lt (blk_lt (zz2 BK173)):gb173≠gb197));have NB197_173:=A_ ((by rw [hg];exact Nat.ne_of_gt (blk_lt (zz2 BK173)):gb197≠gb173));replace BK173:=A_ (bB (zz2 BK173) hb);clear hb hbox hg;refine hK.out _ _ ⟨(blk_cell BK172.out 0).trans rfl,(blk_cell BK172.out 1).trans rfl,(blk_cell BK172.out 2).trans rfl,(blk_cell BK172.out 3).trans rfl⟩ (fun hHeld=>?_);clear hK K;refine nZ 15 ?_;refine oneZ 3 (some 57) #[yT,yT,yT,yT,yT,yT,yF,yT,yF] (fun K hK=>?_);refine goes_ Tryz.func91 (by kernel_rfl) rfl #[.slice Ao30 x8_1.length co30] (by rfl) rfl rfl zz39 ?_;with_reducible refine (spec_PathClean.calls k1 _ _ x8_1 t194 _ ?side1 ?side2 A26.out).mono ?_
       (case side1=>exact (zz131 HO_8))
       (case side2=>exact (Kd.R_reads' HO_8.out).2.1)
       rintro e w33 ⟨v195,rfl,ho0,hb⟩;refine ⟨_,rfl,?_⟩;have HO196:=A_ (Kd.R_lower (Kd.R_new' (Kd.R_new' ho0 (Kd.R_lt (zz12 HO_8))) (Kd.R_lt (zz12 HO_9))) (below_size (zz6 HB GE172 GE173 GE197)));replace HO_8:=A_ (Kd.R_elder' (zz12 HO_8) (Kd.R_base ho0) hb);replace HO_9:=A_ (Kd.R_elder' (zz12 HO_9) (Kd.R_base ho0) hb);replace BK172:=A_ (bB (zz2 BK172) hb);replace BK173:=A_ (bB (zz2 BK173) hb);replace BK197:=A_ (bB (zz2 BK197) hb);replace HB:=A_ (bS (zz6 HB GE172 GE173 GE197) hb);(try clear hb)
       (try clear hb2)
       (try clear hk)
       (try clear hi)
       (try clear ho0)
       obtain ⟨Ao34,co34,eo34⟩:=Kd.R_slice HO196.out;(first|subst eo34|(injection eo34 with f1_ f2_ f3_;have f4_:=f1_.symm;have f5_:=f3_.symm;clear f1_ f2_ f3_;subst f4_;subst f5_))
       refine hK.out _ _ ⟨(blk_cell BK172.out 0).trans rfl,(blk_cell BK172.out 1).trans rfl,(blk_cell BK172.out 2).trans rfl,(blk_cell BK172.out 3).trans rfl⟩ (fun hHeld=>?_);clear hK K;refine nZ 57 ?_;refine pureZ 6 (some 60) (yA 8 1) ?_;exact norm_ viaP (hCont (.slice Ao34 t194.length co34,gb197) _ ⟨hHeld,(zz132 HO196),(zz133 HO_8),(zz133 HO_9),(zz2 BK172),(zz2 BK173),(zz2 BK197),GW197.out,GE197.out,NB172_197.out,NB197_172.out,NB173_197.out,NB197_173.out,(zz6 HB GE172 GE173 GE197)⟩)
     rintro ⟨v195,gb197⟩ w35 ⟨hS_,h0_,h1_,h2_,h3_,h4_,h5_,h6_,h7_,h8_,h9_,h10_,h11_,h12_⟩;have n0_:=A_ h0_;have n1_:=A_ h1_;have n2_:=A_ h2_;have n3_:=A_ h3_;have n4_:=A_ h4_;have n5_:=A_ h5_;have n6_:=A_ h6_;have n7_:=A_ h7_;have n8_:=A_ h8_;have n9_:=A_ h9_;have n10_:=A_ h10_;have n11_:=A_ h11_;have n12_:=A_ h12_;(try dsimp only at n0_ n1_ n2_ n3_ n4_ n5_ n6_ n7_ n8_ n9_ n10_ n11_ n12_)
     clear HO_8;clear HO_9;clear BK172;clear BK173;clear HB;clear h0_ h1_ h2_ h3_ h4_ h5_ h6_ h7_ h8_ h9_ h10_ h11_ h12_;have HO196:=n0_;have HO_8:=n1_;have HO_9:=n2_;have BK172:=n3_;have BK173:=n4_;have BK197:=n5_;have GW197:=n6_;have GE197:=n7_;have NB172_197:=n8_;have NB197_172:=n9_;have NB173_197:=n10_;have NB197_173:=n11_;have HB:=n12_;clear n0_ n1_ n2_ n3_ n4_ n5_ n6_ n7_ n8_ n9_ n10_ n11_ n12_;have hHeld:w35.cell? ⟨gb172,0,none⟩=some (.string a0_0)∧w35.cell? ⟨gb172,1,none⟩=some (.slice A0_1 l0_1.length c0_1)∧w35.cell? ⟨gb172,2,none⟩=some (.bool a0_2)∧w35.cell? ⟨gb172,3,none⟩=some (.string a0_3):=hS_;obtain ⟨Ao36,co36,eo36⟩:=Kd.R_slice HO196.out;(first|subst eo36|(injection eo36 with f1_ f2_ f3_;have f4_:=f1_.symm;have f5_:=f3_.symm;clear f1_ f2_ f3_;subst f4_;subst f5_))
     refine norm_ (a':=?_) ?_ ?_;rotate_left
     ·simp only [putAll,Act.put,List.setIfInBounds_toArray,List.set_cons_zero,List.set_cons_succ]
      rfl
     refine oneZ 8 (none) (yA 9 0) (fun K hK=>?_);have hs37:w35.cell? ⟨gb197,0,none⟩=some (.string (⟨#[]⟩:ByteArray)):=(blk_cell BK197.out 0).trans rfl;have hfs37:=blk_frozen BK197.out 0;have hns37_0:=NB172_197.out;have hns37_1:=NB173_197.out;have hms37_0:=NB197_172.out;have hms37_1:=NB197_173.out;have hs38:w35.cell? ⟨gb197,1,none⟩=some (.slice none 0 0):=(blk_cell BK197.out 1).trans rfl;have hfs38:=blk_frozen BK197.out 1;have hns38_0:=NB172_197.out;have hns38_1:=NB173_197.out;have hms38_0:=NB197_172.out;have hms38_1:=NB197_173.out;have hs39:w35.cell? ⟨gb197,2,none⟩=some (.bool false):=(blk_cell BK197.out 2).trans rfl;have hfs39:=blk_frozen BK197.out 2;have hns39_0:=NB172_197.out;have hns39_1:=NB173_197.out;have hms39_0:=NB197_172.out;have hms39_1:=NB197_173.out;have hs40:w35.cell? ⟨gb197,3,none⟩=some (.string (⟨#[]⟩:ByteArray)):=(blk_cell BK197.out 3).trans rfl;have hfs40:=blk_frozen BK197.out 3;have hns40_0:=NB172_197.out;have hns40_1:=NB173_197.out;have hms40_0:=NB197_172.out;have hms40_1:=NB197_173.out;refine skip_ (w1:=?_) (by rfl) rfl ?_ ?_;rotate_left
     ·go_simp
      rfl
     refine hK.out _ _ ⟨((cell_far (p:=⟨gb197,_,none⟩) NB172_197.out _).trans (((cell_far (p:=⟨gb197,_,none⟩) NB172_197.out _).trans (((cell_far (p:=⟨gb197,_,none⟩) NB172_197.out _).trans (((cell_far (p:=⟨gb197,_,none⟩) NB172_197.out _).trans (hHeld.1)))))))),((cell_far (p:=⟨gb197,_,none⟩) NB172_197.out _).trans (((cell_far (p:=⟨gb197,_,none⟩) NB172_197.out _).trans (((cell_far (p:=⟨gb197,_,none⟩) NB172_197.out _).trans (((cell_far (p:=⟨gb197,_,none⟩) NB172_197.out _).trans (hHeld.2.1)))))))),((cell_far (p:=⟨gb197,_,none⟩) NB172_197.out _).trans (((cell_far (p:=⟨gb197,_,none⟩) NB172_197.out _).trans (((cell_far (p:=⟨gb197,_,none⟩) NB172_197.out _).trans (((cell_far (p:=⟨gb197,_,none⟩) NB172_197.out _).trans (hHeld.2.2.1)))))))),((cell_far (p:=⟨gb197,_,none⟩) NB172_197.out _).trans (((cell_far (p:=⟨gb197,_,none⟩) NB172_197.out _).trans (((cell_far (p:=⟨gb197,_,none⟩) NB172_197.out _).trans (((cell_far (p:=⟨gb197,_,none⟩) NB172_197.out _).trans (hHeld.2.2.2))))))))⟩ (fun hHeld=>?_);clear hK K;refine done_ (done_of HT_.out (by kernel_rfl)) ?_;have n0_:Aside0 (Kd.R Kd.string 9 ((((w35.setCell ⟨gb197,0,none⟩ (.string a0_0)).setCell ⟨gb197,1,none⟩ (.slice Ao36 t194.length co36)).setCell ⟨gb197,2,none⟩ (.bool t176)).setCell ⟨gb197,3,none⟩ (.string t192)) w.heap.size (fun k_=>some k_≠(.slice Ao28 t183.length co28:Value).ownBlock∧some k_≠(.slice Ao36 t194.length co36:Value).ownBlock) (.slice Ao30 x8_1.length co30) x8_1):=⟨(zz24 (rt HO_8 BK197))⟩;have n1_:Aside0 (Kd.R Kd.string 9 ((((w35.setCell ⟨gb197,0,none⟩ (.string a0_0)).setCell ⟨gb197,1,none⟩ (.slice Ao36 t194.length co36)).setCell ⟨gb197,2,none⟩ (.bool t176)).setCell ⟨gb197,3,none⟩ (.string t192)) w.heap.size (fun k_=>some k_≠(.slice Ao30 x8_1.length co30:Value).ownBlock∧some k_≠(.slice Ao36 t194.length co36:Value).ownBlock) (.slice Ao28 t183.length co28) t183):=⟨(zz24 (rt HO_9 BK197))⟩;have n2_:Aside0 (Kd.R Kd.string 9 ((((w35.setCell ⟨gb197,0,none⟩ (.string a0_0)).setCell ⟨gb197,1,none⟩ (.slice Ao36 t194.length co36)).setCell ⟨gb197,2,none⟩ (.bool t176)).setCell ⟨gb197,3,none⟩ (.string t192)) w.heap.size (fun k_=>some k_≠(.slice Ao30 x8_1.length co30:Value).ownBlock∧some k_≠(.slice Ao28 t183.length co28:Value).ownBlock) (.slice Ao36 t194.length co36) t194):=⟨(zz24 (rt HO196 BK197))⟩;have n3_:Aside0 (((((w35.setCell ⟨gb197,0,none⟩ (.string a0_0)).setCell ⟨gb197,1,none⟩ (.slice Ao36 t194.length co36)).setCell ⟨gb197,2,none⟩ (.bool t176)).setCell ⟨gb197,3,none⟩ (.string t192)).heap[gb172]?=some (.cells #[.string a0_0,.slice A0_1 l0_1.length c0_1,.bool a0_2,.string a0_3] 48 (0,0))):=⟨(zz4 BK172 NB172_197)⟩;have n4_:Aside0 (((((w35.setCell ⟨gb197,0,none⟩ (.string a0_0)).setCell ⟨gb197,1,none⟩ (.slice Ao36 t194.length co36)).setCell ⟨gb197,2,none⟩ (.bool t176)).setCell ⟨gb197,3,none⟩ (.string t192)).heap[gb173]?=some (.cells #[.string x174000_1,.slice none 0 0,.bool x174002_1,.string x174003_1] 48 (0,0))):=⟨(zz4 BK173 NB173_197)⟩;have n5_:Aside0 (((((w35.setCell ⟨gb197,0,none⟩ (.string a0_0)).setCell ⟨gb197,1,none⟩ (.slice Ao36 t194.length co36)).setCell ⟨gb197,2,none⟩ (.bool t176)).setCell ⟨gb197,3,none⟩ (.string t192)).heap[gb197]?=some (.cells #[.string a0_0,.slice Ao36 t194.length co36,.bool t176,.string t192] 48 (0,0))):=⟨(zz130 BK197)⟩;have n6_:Aside0 (Below w.heap.size w ((((w35.setCell ⟨gb197,0,none⟩ (.string a0_0)).setCell ⟨gb197,1,none⟩ (.slice Ao36 t194.length co36)).setCell ⟨gb197,2,none⟩ (.bool t176)).setCell ⟨gb197,3,none⟩ (.string t192))):=⟨(zz6 HB GE172 GE173 GE197)⟩;(try clear HO_8)
     (try clear HO_9)
     (try clear HO196)
     (try clear BK172)
     (try clear BK173)
     (try clear BK197)
     (try clear HB)
     generalize ((((w35.setCell ⟨gb197,0,none⟩ (.string a0_0)).setCell ⟨gb197,1,none⟩ (.slice Ao36 t194.length co36)).setCell ⟨gb197,2,none⟩ (.bool t176)).setCell ⟨gb197,3,none⟩ (.string t192))=w41 at n0_ n1_ n2_ n3_ n4_ n5_ n6_ ⊢;have HO_8:=n0_;have HO_9:=n1_;have HO196:=n2_;have BK172:=n3_;have BK173:=n4_;have BK197:=n5_;have HB:=n6_;clear n0_ n1_ n2_ n3_ n4_ n5_ n6_;go_wp2_with (first|((with_reducible refine atG ?_ ?_ fun K_ hK_=>?_);rfl;exact undecG)|((with_reducible refine atI ?_ fun K_ hK_=>?_);exact undecI))
     refine unG hK_ ?_;clear hK_ K_;obtain ⟨H⟩:=HF27;replace H:=iteB H;rcases H with ⟨rfl,H⟩|⟨rfl,H⟩
     ·(first|refine iteT ?_|refine iteF ?_|skip)
      replace H:=bindA H;obtain ⟨t198,A43,H⟩:=H;have HF44:=A_ H;clear H;have hnb45:=NB197_172.out;have hnc45:=NB172_197.out;have hnb46:=NB197_173.out;have hnc46:=NB173_197.out;obtain ⟨_,_,_,_,_,_,_,_⟩:=cf4 BK197;(try ((with_reducible refine upS ?_);go_simp))
      go_upto_if 67 with (first|(go_at_call 86;(with_reducible refine (spec_AddrOk.calls k1 a0_0 _ _ t194 t176 t192 t198 _ ?side1 ?side2 A43.out).mono ?_);(case side1=>exact (zz131 HO196));(case side2=>exact (Kd.R_reads' HO196.out).2.1);rintro e w48 ⟨rfl,hb⟩;replace HO_8:=A_ (rB (zz12 HO_8) hb);replace HO_9:=A_ (rB (zz12 HO_9) hb);replace HO196:=A_ (rB (zz12 HO196) hb);replace BK172:=A_ (bB (zz2 BK172) hb);replace BK173:=A_ (bB (zz2 BK173) hb);replace BK197:=A_ (bB (zz2 BK197) hb);replace HB:=A_ (bS (zz6 HB GE172 GE173 GE197) hb);(try clear hb)))
      obtain ⟨H⟩:=HF44;replace H:=iteB H;rcases H with ⟨rfl,H⟩|⟨rfl,H⟩
      ·simp only [Option.some.injEq,Prod.mk.injEq] at H
       obtain ⟨rfl,rfl,rfl,rfl,rfl⟩:=H;have hnb50:=NB197_172.out;have hnc50:=NB172_197.out;have hnb51:=NB197_173.out;have hnc51:=NB173_197.out;obtain ⟨_,_,_,_,_,_,_,_⟩:=cf4 BK197;have hnb53:=NB173_172.out;have hnc53:=NB172_173.out;obtain ⟨_,_,_,_,_,_,_,_⟩:=cf4 BK173;go_wp2
       refine pR (results_ct rfl _ _ gb173 48 #[.string a0_0,.slice Ao36 t194.length co36,.bool t176,.string t192] (0,0) _ rfl (zz130 BK173) Tryz.underlying48 rfl (by kernel_rfl)) rfl ?_;exact ⟨_,zz5,(zz24 (rt HO196 BK173)),(zz6 HB GE172 GE173 GE197)⟩
      ·simp only [Option.some.injEq,Prod.mk.injEq] at H
       obtain ⟨rfl,rfl,rfl,rfl,rfl⟩:=H;have hnb55:=NB173_172.out;have hnc55:=NB172_173.out;have hnb56:=NB173_197.out;have hnc56:=NB197_173.out;obtain ⟨_,_,_,_,_,_,_,_⟩:=cf4 BK173;go_wp2
       refine pR (results_ct rfl _ _ gb173 48 #[.string (⟨#[]⟩:ByteArray),.slice none 0 0,.bool false,.string (⟨#[]⟩:ByteArray)] (0,0) _ rfl (zz130 BK173) Tryz.underlying48 rfl (by kernel_rfl)) rfl ?_;exact ⟨_,zz5,zz85,(zz6 HB GE172 GE173 GE197)⟩
     ·(first|refine iteT ?_|refine iteF ?_|skip)
      simp only [Option.some.injEq,Prod.mk.injEq] at H
      obtain ⟨rfl,rfl,rfl,rfl,rfl⟩:=H;have hnb58:=NB173_172.out;have hnc58:=NB172_173.out;have hnb59:=NB173_197.out;have hnc59:=NB197_173.out;obtain ⟨_,_,_,_,_,_,_,_⟩:=cf4 BK173;(try ((with_reducible refine upS ?_);go_simp))
      go_wp2
      refine pR (results_ct rfl _ _ gb173 48 #[.string (⟨#[]⟩:ByteArray),.slice none 0 0,.bool false,.string (⟨#[]⟩:ByteArray)] (0,0) _ rfl (zz130 BK173) Tryz.underlying48 rfl (by kernel_rfl)) rfl ?_;exact ⟨_,zz5,zz85,(zz6 HB GE172 GE173 GE197)⟩
 ·exact absurd H (by simp)
def spec_AddrText.f (k:Nat) (a0_0:ByteArray) (l0_1:List ByteArray) (a0_2:Bool) (a0_3:ByteArray):Option (ByteArray):=(spec_AddrOk.f k a0_0 l0_1 a0_2 a0_3).bind fun t236=>(if t236=true then ((spec_l1Text.f k a0_0 l0_1 a0_2 a0_3).bind fun t237=>(some t237)) else (some (⟨#[]⟩:ByteArray)))
theorem spec_AddrText.calls (k:Nat) (a0_0:ByteArray) (A0_1:Option Addr) (c0_1:Nat) (l0_1:List ByteArray) (a0_2:Bool) (a0_3:ByteArray) (r:ByteArray) (w:World) (hr0_1:Kd.C Kd.string w A0_1 l0_1.length l0_1) (hc0_1:l0_1.length≤c0_1) (h:spec_AddrText.f k a0_0 l0_1 a0_2 a0_3=some r) :
  Calls Tryz.prog 65 #[.agg #[.string a0_0,.slice A0_1 l0_1.length c0_1,.bool a0_2,.string a0_3]] w fun e w'=>e=.returned (.string r)∧Below w.heap.size w w':=by
 have hu48:=Tryz.underlying48;have HR0_1:=A_ hr0_1;have HC0_1:=A_ hc0_1;clear hr0_1 hc0_1;have HB:=A_ (Below.refl w.heap.size w);unfold spec_AddrText.f at h
 have H:=h;clear h;replace H:=bindA H;obtain ⟨t236,A2,H⟩:=H;have HF3:=A_ H;clear H;go_enter Tryz.func65,Tryz.ntmps65;go_upto_if 5 with (first|(refine boxF 1 #[.string a0_0,.slice A0_1 l0_1.length c0_1,.bool a0_2,.string a0_3] 48 ?_;intro gb235 hg w4 BK235 hb;have GE235:=geB hg (zz0 HB);replace HB:=A_ (bS (zz0 HB) hb);clear hb hg;obtain ⟨_,_,_,_,_,_,_,_⟩:=cf4 BK235)|(refine gR 86 (some 4) Tryz.func86 (spec_AddrOk.calls k a0_0 _ _ l0_1 a0_2 a0_3 t236 _ ?side1 ?side2 A2.out) ?_;(case side1=>exact (zz21 HR0_1 HB));(case side2=>exact HC0_1.out);rintro w6 hb;replace BK235:=A_ (bB (zz2 BK235) hb);replace HB:=A_ (bS (zz1 HB GE235) hb);(try clear hb)))
 obtain ⟨H⟩:=HF3;replace H:=iteB H;rcases H with ⟨rfl,H⟩|⟨rfl,H⟩
 ·replace H:=bindA H
  obtain ⟨t237,A8,H⟩:=H;obtain rfl:=sI H;obtain ⟨_,_,_,_,_,_,_,_⟩:=cf4 BK235;go_wp2_with (first|(refine gR 87 (some 7) Tryz.func87 (spec_l1Text.calls k a0_0 _ _ l0_1 a0_2 a0_3 t237 _ ?side1 ?side2 A8.out) ?_;(case side1=>exact (zz21 HR0_1 HB));(case side2=>exact HC0_1.out);rintro w10 hb;replace BK235:=A_ (bB (zz2 BK235) hb);replace HB:=A_ (bS (zz1 HB GE235) hb);(try clear hb)))
  go_ret
  exact ⟨zz5,(zz1 HB GE235)⟩
 ·obtain rfl:=sI H
  go_wp2
  go_ret
  exact ⟨zz5,(zz1 HB GE235)⟩
def impl_EscNorm.l0:Nat→ByteArray→List Int→Int→Option (ByteArray×Bool)
 | 0,_,_,_=>none
 | k+1,x0,x4,x5=>if x5 < (x0.size:Int) then (if 0≤x5 then (if (bt x0 x5)=37 then ((impl_signByte.f x0 x5).bind fun bt415=>(if bt415.2=true then ((impl_standsForItself.f bt415.1).bind fun t417=>(if t417=true then (if x4.length < 140737488355328 then (impl_EscNorm.l0 k x0 (x4++[bt415.1]) (wrap64 ((wrap64 (x5+2))+1))) else (none)) else (if 0≤(bt415.1 / 16) then (if (bt415.1 / 16) < 16 then (if 0≤(Go.bits .and .u8 bt415.1 15) then (if (Go.bits .and .u8 bt415.1 15) < 16 then ((some (([37,bt (⟨#[48,49,50,51,52,53,54,55,56,57,65,66,67,68,69,70]⟩:ByteArray) (bt415.1 / 16),bt (⟨#[48,49,50,51,52,53,54,55,56,57,65,66,67,68,69,70]⟩:ByteArray) (Go.bits .and .u8 bt415.1 15)]:List Int):List Int)).bind fun y421=>(if x4.length+y421.length < 140737488355328 then (impl_EscNorm.l0 k x0 (x4++y421) (wrap64 ((wrap64 (x5+2))+1))) else (none))) else (none)) else (none)) else (none)) else (none)))) else (some ((⟨#[]⟩:ByteArray),false)))) else ((impl_standsForItself.f (bt x0 x5)).bind fun t427=>(if t427=true then (if x4.length < 140737488355328 then (impl_EscNorm.l0 k x0 (x4++[bt x0 x5]) (wrap64 (x5+1))) else (none)) else (if 0≤((bt x0 x5) / 16) then (if ((bt x0 x5) / 16) < 16 then (if 0≤(Go.bits .and .u8 (bt x0 x5) 15) then (if (Go.bits .and .u8 (bt x0 x5) 15) < 16 then ((some (([37,bt (⟨#[48,49,50,51,52,53,54,55,56,57,65,66,67,68,69,70]⟩:ByteArray) ((bt x0 x5) / 16),bt (⟨#[48,49,50,51,52,53,54,55,56,57,65,66,67,68,69,70]⟩:ByteArray) (Go.bits .and .u8 (bt x0 x5) 15)]:List Int):List Int)).bind fun y431=>(if x4.length+y431.length < 140737488355328 then (impl_EscNorm.l0 k x0 (x4++y431) (wrap64 (x5+1))) else (none))) else (none)) else (none)) else (none)) else (none))))) else (none)) else (some (strOfNums x4,true))
def impl_EscNorm.f (k:Nat) (a0:ByteArray):Option (ByteArray×Bool):=if (a0.size:Int) > 60 then (some ((⟨#[]⟩:ByteArray),false)) else (impl_EscNorm.l0 k a0 ([]:List Int) 0)
theorem impl_EscNorm.mono_l:∀ k,(∀ y0 y1 y2,LeO (impl_EscNorm.l0 k y0 y1 y2) (impl_EscNorm.l0 (k+1) y0 y1 y2))
 | 0=>by intros;intro r h;simp [impl_EscNorm.l0] at h
 | k+1=>by
  have ih0:=impl_EscNorm.mono_l k;intros;unfold impl_EscNorm.l0;repeat' first|(with_reducible first|exact ih0 _ _ _|exact LeO.refl _|exact LeO.none _|refine LeO.ite ?_ ?_|refine LeO.bind ?_ (fun _=>?_))|exact LeO.none _|refine LeO.ite ?_ ?_|refine LeO.bind ?_ (fun _=>?_)
def impl_EscNorm.T16:Bool×List (List Nat×List Nat):=(true,[([],[]),([],[]),([1],[1]),([2],[2]),([],[]),([4],[4]),([5],[5]),([3,6],[3,6]),([0,7],[0,7]),([8,8,0,1,2,3,4,5,6,7,8],[0,8])])
def impl_EscNorm.B16:List Nat:=[0,0,2,6,0,16,48,126,255,511]
theorem impl_EscNorm.tab16:rtab .any (opsOf Tryz.f117 16)=impl_EscNorm.T16:=by kernel_rfl
theorem impl_EscNorm.bits16:waitsOk impl_EscNorm.T16.2 impl_EscNorm.B16=true:=by kernel_rfl
theorem impl_EscNorm.calls (k:Nat) (a0:ByteArray) (r1:ByteArray) (r2:Bool) (w:World) (h:impl_EscNorm.f k a0=some (r1,r2)) :
  Calls Tryz.prog 117 #[.string a0] w fun e w'=>e=.returned (.tuple #[.string r1,.bool r2])∧Below w.heap.size w w':=by
 have HB:=A_ (Below.refl w.heap.size w);unfold impl_EscNorm.f at h
 have H:=h;clear h;replace H:=iteE H;rcases H with ⟨c2,H⟩|⟨c2,H⟩
 ·have c2b0:=gtT c2
  have c2b1:decide (60 < a0.size)=true:=dT (by omega);clear c2;simp only [Option.some.injEq,Prod.mk.injEq] at H
  obtain ⟨rfl,rfl⟩:=H;go_enter Tryz.func117,Tryz.ntmps117;go_wp2
  go_ret2
  exact ⟨zz5,(zz0 HB)⟩
 ·have c2b0:=gtF c2
  have c2b1:decide (60 < a0.size)=false:=dF (by omega);clear c2;have H':=A_ H;clear H;go_enter Tryz.func117,Tryz.ntmps117;go_wp2
  go_loopg [4,5] k (fun kq v4 v5 w'=>∃ (x4_1:List Int) (x5_1:Int),v5=.int .i64 x5_1∧Aside0 (impl_EscNorm.l0 kq a0 x4_1 x5_1=some (r1,r2))∧Aside0 (kq≤k)∧Aside0 (Kd.R (Kd.int .u8) 5 w' w.heap.size (fun _=>True) v4 x4_1)∧Aside0 (Below w.heap.size w w'))
  case atStart=>exact ⟨(([]:List Int)),(0),zz7,H',⟨Nat.le_refl _⟩,⟨zz85⟩,⟨(zz0 HB)⟩⟩
  case round=>
   clear H';obtain ⟨x4_1,x5_1,rfl,HA,HK1,HO_4,HB⟩:=hrel;cases gk with
   | zero=>exact absurd HA.out (by simp [impl_EscNorm.l0])
   | succ k1=>
    obtain ⟨H⟩:=HA;simp only [impl_EscNorm.l0] at H
    replace H:=iteEd H;rcases H with ⟨c3b0,H⟩|⟨c3b0,H⟩
    ·replace H:=iteNd H
     obtain ⟨c4b0,H⟩:=H;replace H:=iteEq H;rcases H with ⟨c6b0,c6b1,H⟩|⟨c6b0,c6b1,c6,H⟩
     ·replace H:=bindA H
      obtain ⟨⟨t415,t416⟩,A7,H⟩:=H;try dsimp only at H
      replace H:=iteB H;rcases H with ⟨rfl,H⟩|⟨rfl,H⟩
      ·replace H:=bindA H
       obtain ⟨t417,A9,H⟩:=H;replace H:=iteB H;rcases H with ⟨rfl,H⟩|⟨rfl,H⟩
       ·replace H:=iteN H
        obtain ⟨c11,H⟩:=H;have LMc11:=A_ c11;clear c11;obtain ⟨y418,Ny418⟩:=toY (x4_1++[t415]);(first|with_reducible replace H:=bindZ Ny418 H|rw [← Ny418.out] at H|skip)
        have H':=A_ H;clear H;have p5:0≤(x5_1:Int):=ofD;have q5:x5_1 < (a0.size:Int):=ofD;have hx5:=bt_at a0 x5_1;replace p5:=eq_true p5;replace q5:=eq_true q5;go_wp2_with (first|(refine gR 135 (some 26) Tryz.func135 (impl_signByte.calls a0 x5_1 t415 true _ A7.out) ?_;rintro w12 hb;replace HO_4:=A_ (rB (zz12 HO_4) hb);replace HB:=A_ (bS (zz0 HB) hb);(try clear hb))|(refine gR 127 (some 35) Tryz.func127 (impl_standsForItself.calls t415 true _ A9.out) ?_;rintro w' ⟨nd,rfl⟩)|((with_reducible refine gate_builtin (b:=.append) (xs:=#[.tmp 36,.tmp 38]) rfl ?_);at_builtin;refine Kd.R_append (Kd.int .u8) (w0:=w) w.heap.size rfl (.tmp 36) (.tmp 38) 99 5 (.int .u8 0) 1 rfl Tryz.underlying99 info5 rfl (by decide) (by omega) u4 x4_1 t415 [.int .u8 t415] (fun _=>True) (fun _=>False) rfl rfl ?aP (fun _ hk=>hk.elim) ?aF ?aO ?aB ?aS ?aL ?_;(case aP=>exact rfl);(case aB=>exact (zz0 HB));(case aF=>exact (fun _ _=>trivial));(case aO=>exact (zz12 HO_4));(case aS=>exact (below_size (zz0 HB)));(case aL=>exact (zz17 LMc11));intro v419 w13 ho hb hg hat;rw [← Ny418.out] at ho;replace HB:=A_ (hb);have HO420:=A_ (ho);clear HO_4;clear ho hb hg hat))
        go_roundg k1
        case measure=>have:=HK1.out;omega
        case rel=>exact ⟨(y418),(wrap64 ((wrap64 (x5_1+2))+1)),zz7,H',⟨(zz17 HK1)⟩,⟨(zz12 HO420)⟩,⟨(zz0 HB)⟩⟩
       ·obtain ⟨ji14,hji14⟩:∃ j_:Int,(t415 / 16)=j_:=⟨_,rfl⟩
        (first|rw [hji14] at H|simp only [hji14] at H)
        (try rw [hji14] at A7)
        (try rw [hji14] at A9)
        replace H:=iteNd H;obtain ⟨c15b0,H⟩:=H;replace H:=iteNd H;obtain ⟨c16b0,H⟩:=H;replace H:=iteNd H;obtain ⟨c18b0,H⟩:=H;replace H:=iteNd H;obtain ⟨c19b0,H⟩:=H;obtain ⟨y421,Ny421⟩:=toY (([37,bt (⟨#[48,49,50,51,52,53,54,55,56,57,65,66,67,68,69,70]⟩:ByteArray) (ji14),bt (⟨#[48,49,50,51,52,53,54,55,56,57,65,66,67,68,69,70]⟩:ByteArray) (Go.bits .and .u8 t415 15)]:List Int));(first|with_reducible replace H:=bindZ Ny421 H|rw [← Ny421.out] at H|skip)
        replace H:=iteN H;obtain ⟨c21,H⟩:=H;have LMc21:=A_ c21;clear c21;obtain ⟨y424,Ny424⟩:=toY (x4_1++y421);(first|with_reducible replace H:=bindZ Ny424 H|rw [← Ny424.out] at H|skip)
        have H':=A_ H;clear H;have p5:0≤(x5_1:Int):=ofD;have q5:x5_1 < (a0.size:Int):=ofD;have hx5:=bt_at a0 x5_1;replace p5:=eq_true p5;replace q5:=eq_true q5;try go_wp2_with (first|(refine gR 135 (some 26) Tryz.func135 (impl_signByte.calls a0 x5_1 t415 true _ A7.out) ?_;rintro w22 hb;replace HO_4:=A_ (rB (zz12 HO_4) hb);replace HB:=A_ (bS (zz0 HB) hb);(try clear hb))|(refine gR 127 (some 35) Tryz.func127 (impl_standsForItself.calls t415 false _ A9.out) ?_;rintro w' ⟨nd,rfl⟩))
        (try (rw [drewN_self w22];generalize hq_:World.drewN w22 _=w22;have n0_:Aside0 (Kd.R (Kd.int .u8) 5 w22 w.heap.size (fun _=>True) u4 x4_1):=⟨(by rw [← hq_];exact (zz12 HO_4))⟩;have n1_:Aside0 (Below w.heap.size w w22):=⟨(by rw [← hq_];exact (zz0 HB))⟩;clear HO_4 HB hq_;have HO_4:=n0_;have HB:=n1_;clear n0_ n1_))
        replace HO_4:=A_ (Kd.R_drew HO_4.out);replace HB:=A_ (below_drew1 HB.out);have p17:0≤((ji14):Int):=ofD;have q17:(ji14) < (16:Int):=ofD;have hx17:=bt_at (⟨#[48,49,50,51,52,53,54,55,56,57,65,66,67,68,69,70]⟩:ByteArray) (ji14);replace p17:=eq_true p17;replace q17:=eq_true q17;have p20:0≤((Go.bits .and .u8 t415 15):Int):=ofD;have q20:(Go.bits .and .u8 t415 15) < (16:Int):=ofD;have hx20:=bt_at (⟨#[48,49,50,51,52,53,54,55,56,57,65,66,67,68,69,70]⟩:ByteArray) (Go.bits .and .u8 t415 15);replace p20:=eq_true p20;replace q20:=eq_true q20;refine start_ (n:=10) (S:=fun w'=>True) (ds:=[]) #[yF,yF,yF,yF,yF,yF,yF,yF,yF,yF] (by kernel_rfl) rfl rfl trivial (fun hHeld=>?_);refine with_tabW impl_EscNorm.tab16 impl_EscNorm.bits16 (fun HT_ HW_=>?_);generalize w22.drew=w23 at HO_4 HB hHeld ⊢;refine pureZ 0 (some 40) (yA 1 9) ?_;refine pureZ 1 (some 41) (yA 2 8) ?_;refine pureZ 2 (some 42) (yA 3 7) ?_;refine pureZ 4 (some 44) #[yT,yT,yT,yF,yT,yF,yF,yF,yF,yF] ?_;refine pureZ 5 (some 45) #[yT,yT,yT,yF,yT,yT,yF,yF,yF,yF] ?_;refine take_ (i:=3) (N:=some 43) (v:=?_) (a':=?_) (yA 6 4) rfl rfl (take_ofW HT_.out HW_.out (by kernel_rfl)) (fun _ _ _ h=>h) (Or.inl ⟨by rfl,?_⟩) hHeld ?_ ?_;rotate_left
        ·intro w' _
         go_simp
         with_reducible rfl
        rotate_left
        ·simp only [Act.put,List.setIfInBounds_toArray,List.set_cons_zero,List.set_cons_succ,i64_w,i32_w]
         rfl
        refine take_ (i:=6) (N:=some 46) (v:=?_) (a':=?_) (yA 7 3) rfl rfl (take_ofW HT_.out HW_.out (by kernel_rfl)) (fun _ _ _ h=>h) (Or.inl ⟨by rfl,?_⟩) hHeld ?_ ?_;rotate_left
        ·intro w' _
         go_simp
         with_reducible rfl
        rotate_left
        ·simp only [Act.put,List.setIfInBounds_toArray,List.set_cons_zero,List.set_cons_succ,i64_w,i32_w]
         rfl
        refine oneZ 7 (some 47) (yA 8 2) (fun K hK=>?_);refine Kd.R_lit_step (Kd.int .u8) _ 5 ?hg (N:=47) ?hd (xs:=([37,bt (⟨#[48,49,50,51,52,53,54,55,56,57,65,66,67,68,69,70]⟩:ByteArray) (ji14),bt (⟨#[48,49,50,51,52,53,54,55,56,57,65,66,67,68,69,70]⟩:ByteArray) (Go.bits .and .u8 t415 15)]:List Int)) (inner:=[.int .u8 37,.int .u8 (bt (⟨#[48,49,50,51,52,53,54,55,56,57,65,66,67,68,69,70]⟩:ByteArray) (ji14)),.int .u8 (bt (⟨#[48,49,50,51,52,53,54,55,56,57,65,66,67,68,69,70]⟩:ByteArray) (Go.bits .and .u8 t415 15))]) (ok:=fun _=>True) (okp:=fun _=>True) ?hr ?hp (fun _ hk=>hk) trivial (Below.refl _ _) (Nat.le_refl _) (by simp) ?_;(case hd=>rfl);(case hg=>rfl);(case hr=>exact zz14);(case hp=>exact (Reps.one (show Kd.M (Kd.int .u8) _ _ _ 37 [.int .u8 37] from rfl) (Reps.one (show Kd.M (Kd.int .u8) _ _ _ (bt (⟨#[48,49,50,51,52,53,54,55,56,57,65,66,67,68,69,70]⟩:ByteArray) (ji14)) [.int .u8 (bt (⟨#[48,49,50,51,52,53,54,55,56,57,65,66,67,68,69,70]⟩:ByteArray) (ji14))] from rfl) (Reps.one (show Kd.M (Kd.int .u8) _ _ _ (bt (⟨#[48,49,50,51,52,53,54,55,56,57,65,66,67,68,69,70]⟩:ByteArray) (Go.bits .and .u8 t415 15)) [.int .u8 (bt (⟨#[48,49,50,51,52,53,54,55,56,57,65,66,67,68,69,70]⟩:ByteArray) (Go.bits .and .u8 t415 15))] from rfl) (Reps.none _ _)))));intro v422 w24 ho25 hb hg_ hnew_;clear hg_ hnew_;(first|rw [← Ny421.out] at ho25|(simp only [Int.reduceToNat] at ho25;rw [← Ny421.out] at ho25))
        have HO423:=A_ (Kd.R_lower (Kd.R_new' ho25 (Kd.R_lt (zz12 HO_4))) (below_size (zz0 HB)));replace HO_4:=A_ (Kd.R_elder' (zz12 HO_4) (Kd.R_base ho25) hb);replace HB:=A_ (bS (zz0 HB) hb);clear hb ho25;obtain ⟨Ao27,co27,eo27⟩:=Kd.R_slice HO423.out;(first|subst eo27|(injection eo27 with f1_ f2_ f3_;have f4_:=f1_.symm;have f5_:=f3_.symm;clear f1_ f2_ f3_;subst f4_;subst f5_))
        refine hK.out _ _ trivial (fun hHeld=>?_);clear hK K;refine nZ 47 ?_;refine oneZ 8 (some 48) (yA 9 1) (fun K hK=>?_);refine Kd.R_append_rows_step (Kd.int .u8) (w0:=w) w.heap.size (by rfl) (.tmp 40) (.tmp 47) 99 5 (.int .u8 0) 1 rfl Tryz.underlying99 info5 rfl (by decide) (by omega) u4 x4_1 y421 _ _ _ (fun k_=>some k_≠(.slice Ao27 y421.length co27:Value).ownBlock) (fun _=>False) rfl rfl ?aO ?aR (fun _ _ h=>h) (fun _ h=>h.elim) ?aF ?aB ?aS ?aL ?_;(case aR=>exact (zz131 HO423))
        (case aB=>exact (zz0 HB))
        (case aF=>exact (fun k_ hk=>Kd.fresh' (Kd.R_lt (zz12 HO423)) k_ hk))
        (case aO=>exact (zz127 HO_4))
        (case aS=>exact (below_size (zz0 HB)))
        (case aL=>exact (zz17 LMc21))
        intro v425 w26 ho hb hg hat;rw [← Ny424.out] at ho;replace HO423:=A_ (Kd.R_after (ok:=(fun _=>True)) (zz12 HO423) hg hat);replace HB:=A_ (hb);have HO426:=A_ (ho);clear HO_4;clear ho hb hg hat;refine hK.out _ _ trivial (fun hHeld=>?_);clear hK K;refine nZ 48 ?_;refine pureZ 9 (some 4) (yA 10 0) ?_;refine done_ (done_of HT_.out (by kernel_rfl)) ?_;try go_wp2
        go_roundg k1
        case measure=>have:=HK1.out;omega
        case rel=>exact ⟨(y424),(wrap64 ((wrap64 (x5_1+2))+1)),zz7,H',⟨(zz17 HK1)⟩,⟨(zz137 HO426)⟩,⟨(zz0 HB)⟩⟩
      ·simp only [Option.some.injEq,Prod.mk.injEq] at H
       obtain ⟨rfl,rfl⟩:=H;have p5:0≤(x5_1:Int):=ofD;have q5:x5_1 < (a0.size:Int):=ofD;have hx5:=bt_at a0 x5_1;replace p5:=eq_true p5;replace q5:=eq_true q5;go_wp2_with (first|(refine gR 135 (some 26) Tryz.func135 (impl_signByte.calls a0 x5_1 t415 false _ A7.out) ?_;rintro w28 hb;replace HO_4:=A_ (rB (zz12 HO_4) hb);replace HB:=A_ (bS (zz0 HB) hb);(try clear hb)))
       go_ret2
       exact ⟨zz5,(zz0 HB)⟩
     ·replace H:=bindA H
      obtain ⟨t427,A29,H⟩:=H;replace H:=iteB H;rcases H with ⟨rfl,H⟩|⟨rfl,H⟩
      ·replace H:=iteN H
       obtain ⟨c31,H⟩:=H;have LMc31:=A_ c31;clear c31;obtain ⟨y428,Ny428⟩:=toY (x4_1++[bt a0 x5_1]);(first|with_reducible replace H:=bindZ Ny428 H|rw [← Ny428.out] at H|skip)
       have H':=A_ H;clear H;have p5:0≤(x5_1:Int):=ofD;have q5:x5_1 < (a0.size:Int):=ofD;have hx5:=bt_at a0 x5_1;replace p5:=eq_true p5;replace q5:=eq_true q5;go_wp2_with (first|(refine gR 127 (some 35) Tryz.func127 (impl_standsForItself.calls (bt a0 x5_1) true _ A29.out) ?_;rintro w' ⟨nd,rfl⟩)|((with_reducible refine gate_builtin (b:=.append) (xs:=#[.tmp 36,.tmp 38]) rfl ?_);at_builtin;refine Kd.R_append (Kd.int .u8) (w0:=w) w.heap.size rfl (.tmp 36) (.tmp 38) 99 5 (.int .u8 0) 1 rfl Tryz.underlying99 info5 rfl (by decide) (by omega) u4 x4_1 (bt a0 x5_1) [.int .u8 (bt a0 x5_1)] (fun _=>True) (fun _=>False) rfl rfl ?aP (fun _ hk=>hk.elim) ?aF ?aO ?aB ?aS ?aL ?_;(case aP=>exact rfl);(case aB=>exact (zz0 HB));(case aF=>exact (fun _ _=>trivial));(case aO=>exact (zz12 HO_4));(case aS=>exact (below_size (zz0 HB)));(case aL=>exact (zz17 LMc31));intro v429 w32 ho hb hg hat;rw [← Ny428.out] at ho;replace HB:=A_ (hb);have HO430:=A_ (ho);clear HO_4;clear ho hb hg hat))
       go_roundg k1
       case measure=>have:=HK1.out;omega
       case rel=>exact ⟨(y428),(wrap64 (x5_1+1)),zz7,H',⟨(zz17 HK1)⟩,⟨(zz12 HO430)⟩,⟨(zz0 HB)⟩⟩
      ·obtain ⟨ji33,hji33⟩:∃ j_:Int,((bt a0 x5_1) / 16)=j_:=⟨_,rfl⟩
       (first|rw [hji33] at H|simp only [hji33] at H)
       (try rw [hji33] at A29)
       replace H:=iteNd H;obtain ⟨c34b0,H⟩:=H;replace H:=iteNd H;obtain ⟨c35b0,H⟩:=H;replace H:=iteNd H;obtain ⟨c37b0,H⟩:=H;replace H:=iteNd H;obtain ⟨c38b0,H⟩:=H;obtain ⟨y431,Ny431⟩:=toY (([37,bt (⟨#[48,49,50,51,52,53,54,55,56,57,65,66,67,68,69,70]⟩:ByteArray) (ji33),bt (⟨#[48,49,50,51,52,53,54,55,56,57,65,66,67,68,69,70]⟩:ByteArray) (Go.bits .and .u8 (bt a0 x5_1) 15)]:List Int));(first|with_reducible replace H:=bindZ Ny431 H|rw [← Ny431.out] at H|skip)
       replace H:=iteN H;obtain ⟨c40,H⟩:=H;have LMc40:=A_ c40;clear c40;obtain ⟨y434,Ny434⟩:=toY (x4_1++y431);(first|with_reducible replace H:=bindZ Ny434 H|rw [← Ny434.out] at H|skip)
       have H':=A_ H;clear H;have p5:0≤(x5_1:Int):=ofD;have q5:x5_1 < (a0.size:Int):=ofD;have hx5:=bt_at a0 x5_1;replace p5:=eq_true p5;replace q5:=eq_true q5;try go_wp2_with (first|(refine gR 127 (some 35) Tryz.func127 (impl_standsForItself.calls (bt a0 x5_1) false _ A29.out) ?_;rintro w' ⟨nd,rfl⟩))
       (try (rw [drewN_self wr];generalize hq_:World.drewN wr _=wr;have n0_:Aside0 (Kd.R (Kd.int .u8) 5 wr w.heap.size (fun _=>True) u4 x4_1):=⟨(by rw [← hq_];exact (zz12 HO_4))⟩;have n1_:Aside0 (Below w.heap.size w wr):=⟨(by rw [← hq_];exact (zz0 HB))⟩;clear HO_4 HB hq_;have HO_4:=n0_;have HB:=n1_;clear n0_ n1_))
       replace HO_4:=A_ (Kd.R_drew HO_4.out);replace HB:=A_ (below_drew1 HB.out);have p36:0≤((ji33):Int):=ofD;have q36:(ji33) < (16:Int):=ofD;have hx36:=bt_at (⟨#[48,49,50,51,52,53,54,55,56,57,65,66,67,68,69,70]⟩:ByteArray) (ji33);replace p36:=eq_true p36;replace q36:=eq_true q36;have p39:0≤((Go.bits .and .u8 (bt a0 x5_1) 15):Int):=ofD;have q39:(Go.bits .and .u8 (bt a0 x5_1) 15) < (16:Int):=ofD;have hx39:=bt_at (⟨#[48,49,50,51,52,53,54,55,56,57,65,66,67,68,69,70]⟩:ByteArray) (Go.bits .and .u8 (bt a0 x5_1) 15);replace p39:=eq_true p39;replace q39:=eq_true q39;refine start_ (n:=10) (S:=fun w'=>True) (ds:=[]) #[yF,yF,yF,yF,yF,yF,yF,yF,yF,yF] (by kernel_rfl) rfl rfl trivial (fun hHeld=>?_);refine with_tabW impl_EscNorm.tab16 impl_EscNorm.bits16 (fun HT_ HW_=>?_);generalize wr.drew=w41 at HO_4 HB hHeld ⊢;refine pureZ 0 (some 40) (yA 1 9) ?_;refine pureZ 1 (some 41) (yA 2 8) ?_;refine pureZ 2 (some 42) (yA 3 7) ?_;refine pureZ 4 (some 44) #[yT,yT,yT,yF,yT,yF,yF,yF,yF,yF] ?_;refine pureZ 5 (some 45) #[yT,yT,yT,yF,yT,yT,yF,yF,yF,yF] ?_;refine take_ (i:=3) (N:=some 43) (v:=?_) (a':=?_) (yA 6 4) rfl rfl (take_ofW HT_.out HW_.out (by kernel_rfl)) (fun _ _ _ h=>h) (Or.inl ⟨by rfl,?_⟩) hHeld ?_ ?_;rotate_left
       ·intro w' _
        go_simp
        with_reducible rfl
       rotate_left
       ·simp only [Act.put,List.setIfInBounds_toArray,List.set_cons_zero,List.set_cons_succ,i64_w,i32_w]
        rfl
       refine take_ (i:=6) (N:=some 46) (v:=?_) (a':=?_) (yA 7 3) rfl rfl (take_ofW HT_.out HW_.out (by kernel_rfl)) (fun _ _ _ h=>h) (Or.inl ⟨by rfl,?_⟩) hHeld ?_ ?_;rotate_left
       ·intro w' _
        go_simp
        with_reducible rfl
       rotate_left
       ·simp only [Act.put,List.setIfInBounds_toArray,List.set_cons_zero,List.set_cons_succ,i64_w,i32_w]
        rfl
       refine oneZ 7 (some 47) (yA 8 2) (fun K hK=>?_);refine Kd.R_lit_step (Kd.int .u8) _ 5 ?hg (N:=47) ?hd (xs:=([37,bt (⟨#[48,49,50,51,52,53,54,55,56,57,65,66,67,68,69,70]⟩:ByteArray) (ji33),bt (⟨#[48,49,50,51,52,53,54,55,56,57,65,66,67,68,69,70]⟩:ByteArray) (Go.bits .and .u8 (bt a0 x5_1) 15)]:List Int)) (inner:=[.int .u8 37,.int .u8 (bt (⟨#[48,49,50,51,52,53,54,55,56,57,65,66,67,68,69,70]⟩:ByteArray) (ji33)),.int .u8 (bt (⟨#[48,49,50,51,52,53,54,55,56,57,65,66,67,68,69,70]⟩:ByteArray) (Go.bits .and .u8 (bt a0 x5_1) 15))]) (ok:=fun _=>True) (okp:=fun _=>True) ?hr ?hp (fun _ hk=>hk) trivial (Below.refl _ _) (Nat.le_refl _) (by simp) ?_;(case hd=>rfl);(case hg=>rfl);(case hr=>exact zz14);(case hp=>exact (Reps.one (show Kd.M (Kd.int .u8) _ _ _ 37 [.int .u8 37] from rfl) (Reps.one (show Kd.M (Kd.int .u8) _ _ _ (bt (⟨#[48,49,50,51,52,53,54,55,56,57,65,66,67,68,69,70]⟩:ByteArray) (ji33)) [.int .u8 (bt (⟨#[48,49,50,51,52,53,54,55,56,57,65,66,67,68,69,70]⟩:ByteArray) (ji33))] from rfl) (Reps.one (show Kd.M (Kd.int .u8) _ _ _ (bt (⟨#[48,49,50,51,52,53,54,55,56,57,65,66,67,68,69,70]⟩:ByteArray) (Go.bits .and .u8 (bt a0 x5_1) 15)) [.int .u8 (bt (⟨#[48,49,50,51,52,53,54,55,56,57,65,66,67,68,69,70]⟩:ByteArray) (Go.bits .and .u8 (bt a0 x5_1) 15))] from rfl) (Reps.none _ _)))));intro v432 w42 ho43 hb hg_ hnew_;clear hg_ hnew_;(first|rw [← Ny431.out] at ho43|(simp only [Int.reduceToNat] at ho43;rw [← Ny431.out] at ho43))
       have HO433:=A_ (Kd.R_lower (Kd.R_new' ho43 (Kd.R_lt (zz12 HO_4))) (below_size (zz0 HB)));replace HO_4:=A_ (Kd.R_elder' (zz12 HO_4) (Kd.R_base ho43) hb);replace HB:=A_ (bS (zz0 HB) hb);clear hb ho43;obtain ⟨Ao45,co45,eo45⟩:=Kd.R_slice HO433.out;(first|subst eo45|(injection eo45 with f1_ f2_ f3_;have f4_:=f1_.symm;have f5_:=f3_.symm;clear f1_ f2_ f3_;subst f4_;subst f5_))
       refine hK.out _ _ trivial (fun hHeld=>?_);clear hK K;refine nZ 47 ?_;refine oneZ 8 (some 48) (yA 9 1) (fun K hK=>?_);refine Kd.R_append_rows_step (Kd.int .u8) (w0:=w) w.heap.size (by rfl) (.tmp 40) (.tmp 47) 99 5 (.int .u8 0) 1 rfl Tryz.underlying99 info5 rfl (by decide) (by omega) u4 x4_1 y431 _ _ _ (fun k_=>some k_≠(.slice Ao45 y431.length co45:Value).ownBlock) (fun _=>False) rfl rfl ?aO ?aR (fun _ _ h=>h) (fun _ h=>h.elim) ?aF ?aB ?aS ?aL ?_;(case aR=>exact (zz131 HO433))
       (case aB=>exact (zz0 HB))
       (case aF=>exact (fun k_ hk=>Kd.fresh' (Kd.R_lt (zz12 HO433)) k_ hk))
       (case aO=>exact (zz127 HO_4))
       (case aS=>exact (below_size (zz0 HB)))
       (case aL=>exact (zz17 LMc40))
       intro v435 w44 ho hb hg hat;rw [← Ny434.out] at ho;replace HO433:=A_ (Kd.R_after (ok:=(fun _=>True)) (zz12 HO433) hg hat);replace HB:=A_ (hb);have HO436:=A_ (ho);clear HO_4;clear ho hb hg hat;refine hK.out _ _ trivial (fun hHeld=>?_);clear hK K;refine nZ 48 ?_;refine pureZ 9 (some 4) (yA 10 0) ?_;refine done_ (done_of HT_.out (by kernel_rfl)) ?_;try go_wp2
       go_roundg k1
       case measure=>have:=HK1.out;omega
       case rel=>exact ⟨(y434),(wrap64 (x5_1+1)),zz7,H',⟨(zz17 HK1)⟩,⟨(zz137 HO436)⟩,⟨(zz0 HB)⟩⟩
    ·simp only [Option.some.injEq,Prod.mk.injEq] at H
     obtain ⟨rfl,rfl⟩:=H;have hcv46:=own_string (P:=Tryz.prog) Tryz.underlying99 Tryz.underlying5 Tryz.underlying9 (Kd.own_of_R HO_4.out);go_wp2
     go_ret2
     exact ⟨zz5,(zz0 HB)⟩
mutual
def strings_genSplit.j0:Nat→ByteArray→ByteArray→Int→Int→Option (List ByteArray)
 | 0,_,_,_,_=>none
 | k+1,x0,x1,x2,x3=>if 0≤(mn x3 (wrap64 ((x0.size:Int)+1))) then (if (mn x3 (wrap64 ((x0.size:Int)+1)):Int).toNat≤17592186044416 then (strings_genSplit.l0 k x0 x1 x2 (wrap64 ((mn x3 (wrap64 ((x0.size:Int)+1))) - 1)) (List.replicate (mn x3 (wrap64 ((x0.size:Int)+1)):Int).toNat (⟨#[]⟩:ByteArray)) 0) else (none)) else (none)
def strings_genSplit.l0:Nat→ByteArray→ByteArray→Int→Int→List ByteArray→Int→Option (List ByteArray)
 | 0,_,_,_,_,_,_=>none
 | k+1,x0,x1,x2,x3,x9,x10=>if x10 < x3 then ((strings_Index.f x0 x1).bind fun t445=>(if t445 < 0 then (if 0≤x10 then (if x10 < (x9.length:Int) then (if 0≤(wrap64 (x10+1)) then (if (wrap64 (x10+1))≤(x9.length:Int) then (some ((x9.set (x10:Int).toNat x0).take ((wrap64 (x10+1)):Int).toNat)) else (none)) else (none)) else (none)) else (none)) else (if 0≤(wrap64 (t445+x2)) then (if (wrap64 (t445+x2))≤(x0.size:Int) then (if 0≤x10 then (if x10 < (x9.length:Int) then (if 0≤(wrap64 (t445+(x1.size:Int))) then (if (wrap64 (t445+(x1.size:Int)))≤(x0.size:Int) then (strings_genSplit.l0 k (x0.extract ((wrap64 (t445+(x1.size:Int))):Int).toNat x0.size) x1 x2 x3 (x9.set (x10:Int).toNat (x0.extract 0 ((wrap64 (t445+x2)):Int).toNat)) (wrap64 (x10+1))) else (none)) else (none)) else (none)) else (none)) else (none)) else (none)))) else (if 0≤x10 then (if x10 < (x9.length:Int) then (if 0≤(wrap64 (x10+1)) then (if (wrap64 (x10+1))≤(x9.length:Int) then (some ((x9.set (x10:Int).toNat x0).take ((wrap64 (x10+1)):Int).toNat)) else (none)) else (none)) else (none)) else (none))
end
def strings_genSplit.f (k:Nat) (a0:ByteArray) (a1:ByteArray) (a2:Int) (a3:Int):Option (List ByteArray):=if a3=0 then (some ([]:List ByteArray)) else (if a1.toList=([]:List UInt8) then ((strings_explode.f a0 a3).bind fun t438=>(some t438)) else (if a3 < 0 then ((strings_Count.f a0 a1).bind fun t441=>(strings_genSplit.j0 k a0 a1 a2 (wrap64 (t441+1)))) else (strings_genSplit.j0 k a0 a1 a2 a3)))
theorem strings_genSplit.calls (k:Nat) (a0:ByteArray) (a1:ByteArray) (a2:Int) (a3:Int) (r:List ByteArray) (w:World) (h:strings_genSplit.f k a0 a1 a2 a3=some r) :
  Calls Tryz.prog 136 #[.string a0,.string a1,.int .i64 a2,.int .i64 a3] w fun e w'=>∃ v0_:Value,e=.returned (v0_)∧Kd.R Kd.string 9 w' w.heap.size (fun _=>True) v0_ r∧Below w.heap.size w w':=by
 have HB:=A_ (Below.refl w.heap.size w);unfold strings_genSplit.f at h
 have H:=h;clear h;replace H:=iteEq H;rcases H with ⟨c5b0,c5b1,H⟩|⟨c5b0,c5b1,c5,H⟩
 ·obtain rfl:=sI H
  go_enter Tryz.func136,Tryz.ntmps136;go_wp2
  go_ret
  exact ⟨_,zz5,zz85,(zz0 HB)⟩
 ·replace H:=iteEq H
  rcases H with ⟨c6b0,c6b1,H⟩|⟨c6b0,c6b1,c6,H⟩
  ·replace H:=bindA H
   obtain ⟨t438,A7,H⟩:=H;obtain rfl:=sI H;go_enter Tryz.func136,Tryz.ntmps136;go_wp2_with (first|(refine gV 144 (some 18) Tryz.func144 (strings_explode.calls a0 a3 t438 _ A7.out) ?_;rintro v439 w8 ⟨ho0,hb⟩;have HO440:=A_ (Kd.R_lower ho0 (below_size (zz0 HB)));replace HB:=A_ (bS (zz0 HB) hb);(try clear hb ho0)))
   go_ret
   exact ⟨_,zz5,(zz12 HO440),(zz0 HB)⟩
  ·have HC9:=A_ H
   clear H;go_enter Tryz.func136,Tryz.ntmps136;go_upto_if 20 with (fail)
   go_cut [3] (fun v3 wc=>∃ (kq:Nat) (x3_8:Int),v3=.int .i64 x3_8∧Aside0 (strings_genSplit.j0 kq a0 a1 a2 x3_8=some r)∧Aside0 (kq≤k)∧Aside0 (Below w.heap.size w wc))
   case first=>
    obtain ⟨H⟩:=HC9;replace H:=iteEd H;rcases H with ⟨c10b0,H⟩|⟨c10b0,H⟩
    ·(first|rw [c10b0]|(simp only [i64_w,i32_w];rw [c10b0])|skip)
     replace H:=bindA H;obtain ⟨t441,A11,H⟩:=H;have H':=A_ H;clear H;go_wp2_with (first|(refine gR 145 (some 23) Tryz.func145 (strings_Count.calls a0 a1 t441 _ A11.out) ?_;rintro w12 hb;replace HB:=A_ (bS (zz0 HB) hb);(try clear hb)))
     go_meet
     case rel=>exact ⟨_,(wrap64 (t441+1)),zz7,H',⟨zz63⟩,⟨(zz0 HB)⟩⟩
    ·(first|rw [c10b0]|(simp only [i64_w,i32_w];rw [c10b0])|skip)
     have H':=A_ H;clear H;go_wp2
     go_meet
     case rel=>exact ⟨_,(a3),zz7,H',⟨zz63⟩,⟨(zz0 HB)⟩⟩
   case rest=>
    clear HC9;obtain ⟨kq,x3_8,rfl,HA,HJ8,HB⟩:=hcut;cases kq with
    | zero=>exact absurd HA.out (by simp [strings_genSplit.j0])
    | succ kj8=>
     obtain ⟨H⟩:=HA;simp only [strings_genSplit.j0] at H
     obtain ⟨ji13,hji13⟩:∃ j_:Int,(mn x3_8 (wrap64 ((a0.size:Int)+1)))=j_:=⟨_,rfl⟩;(first|rw [hji13] at H|simp only [hji13] at H)
     have hji13_:(if (wrap64 ((a0.size:Int)+1)) < x3_8 then (wrap64 ((a0.size:Int)+1)) else x3_8)=ji13:=hji13;replace H:=iteE H;rcases H with ⟨c14,H⟩|⟨c14,H⟩
     ·have c14b0:=eq_true c14
      have c14b1:=dT c14;clear c14;replace H:=iteN H;obtain ⟨c15,H⟩:=H;have c15b0:=eq_true c15;have c15b1:=dT c15;clear c15;obtain ⟨y442,Ny442⟩:=toY (List.replicate (ji13:Int).toNat (⟨#[]⟩:ByteArray));(first|with_reducible replace H:=bindZ Ny442 H|rw [← Ny442.out] at H|skip)
      have H':=A_ H;clear H;go_wp2_with (first|((with_reducible refine gD (N:=31) rfl ?_);refine Kd.R_make Kd.string _ 9 rfl (N:=31) rfl 23 _ _ rfl ji13 rfl rfl Tryz.underlying23 (.string ⟨#[]⟩) 16 info9 rfl (by decide) (by omega) (⟨#[]⟩:ByteArray) (ok:=fun _=>True) (okp:=fun _=>True) rfl (fun _ hk=>hk) trivial ofD (Nat.le_trans (Nat.mul_le_mul_right _ (ofD:ji13.toNat≤17592186044416)) (by omega)) (Below.refl _ _) (Nat.le_refl _) ?_;intro v443 w16 ho17 hb hg_ hnew_;clear hg_ hnew_;(first|rw [← Ny442.out] at ho17|(simp only [Int.reduceToNat] at ho17;rw [← Ny442.out] at ho17));have HO444:=A_ (Kd.R_lower ho17 (below_size (zz0 HB)));replace HB:=A_ (bS (zz0 HB) hb);clear hb ho17))
      go_loopg [0,10] kj8 (fun kq v0 v10 w'=>∃ (x0_2:ByteArray) (x9_2:List ByteArray) (x10_2:Int),v0=.string x0_2∧v10=.int .i64 x10_2∧Aside0 (strings_genSplit.l0 kq x0_2 a1 a2 (wrap64 ((ji13) - 1)) x9_2 x10_2=some r)∧Aside0 (kq≤kj8)∧Aside0 (Kd.R Kd.string 9 w' w.heap.size (fun _=>True) v443 x9_2)∧Aside0 (Below w.heap.size w w'))
      case atStart=>exact ⟨(a0),(y442),(0),zz7,zz7,H',⟨Nat.le_refl _⟩,⟨(zz12 HO444)⟩,⟨(zz0 HB)⟩⟩
      case round=>
       clear H';obtain ⟨x0_2,x9_2,x10_2,rfl,rfl,HA,HK2,HO_9,HB⟩:=hrel;cases gk with
       | zero=>exact absurd HA.out (by simp [strings_genSplit.l0])
       | succ k2=>
        obtain ⟨H⟩:=HA;simp only [strings_genSplit.l0] at H
        replace H:=iteEd H;rcases H with ⟨c18b0,H⟩|⟨c18b0,H⟩
        ·replace H:=bindA H
         obtain ⟨t445,A19,H⟩:=H;have HF20:=A_ H;clear H;go_upto_if 41 with (first|(refine gR 146 (some 39) Tryz.func146 (strings_Index.calls x0_2 a1 t445 _ A19.out) ?_;rintro w21 hb;replace HO_9:=A_ (rB (zz12 HO_9) hb);replace HB:=A_ (bS (zz0 HB) hb);(try clear hb)))
         obtain ⟨H⟩:=HF20;replace H:=iteEd H;rcases H with ⟨c22b0,H⟩|⟨c22b0,H⟩
         ·(first|rw [c22b0]|(simp only [i64_w,i32_w];rw [c22b0])|skip)
          replace H:=iteNd H;obtain ⟨c23b0,H⟩:=H;replace H:=iteNd H;obtain ⟨c24b0,H⟩:=H;obtain ⟨y446,hy446⟩:∃ y_:List ByteArray,y_=(x9_2.set (x10_2:Int).toNat x0_2):=⟨_,rfl⟩;replace H:(if 0≤(wrap64 (x10_2+1)) then (if (wrap64 (x10_2+1))≤(x9_2.length:Int) then (some (y446.take ((wrap64 (x10_2+1)):Int).toNat)) else (none)) else (none))=some r:=by first|(rw [hy446];with_reducible exact H)|(have H2_:=(Option.bind_some _ _).symm.trans H;rw [hy446];with_reducible exact H2_)|(have H2_:=(Option.bind_some _ _).symm.trans H;with_reducible exact H2_)|with_reducible exact H|(rw [hy446];exact H)|exact H
          have Ny446:=A_ hy446;have Ly446:y446.length≤x9_2.length∧x9_2.length≤y446.length:=by rw [hy446,List.length_set];exact ⟨Nat.le_refl _,Nat.le_refl _⟩
          have My446:=Ly446.1;replace Ly446:=Ly446.2;clear hy446;obtain ⟨ji26,hji26⟩:∃ j_:Int,(wrap64 (x10_2+1))=j_:=⟨_,rfl⟩;(first|rw [hji26] at H|simp only [hji26] at H)
          have hji26w:(IntKind.i64.wrap (x10_2+1))=ji26:=(i64_w _).trans hji26;replace H:=iteN H;obtain ⟨c27,H⟩:=H;have c27b0:=eq_true c27;have c27b1:=dT c27;clear c27;replace H:=iteN H;obtain ⟨c28,H⟩:=H;have c28b0:=eq_true c28;have c28b1:=dT c28;clear c28;obtain ⟨y447,Ny447⟩:=toY (y446.take ((ji26):Int).toNat);(first|with_reducible replace H:=bindZ Ny447 H|rw [← Ny447.out] at H|skip)
          obtain rfl:=sI H;have p25:0≤(x10_2:Int):=ofD;have q25:(x10_2:Int) < ((x9_2.length:Int):Int):=ofD;obtain ⟨go25,co25,eo25,gb25,gl25,cl25,HG25⟩:=Kd.R_form HO_9.out (by omega);(first|cases eo25|(injection eo25 with ea_ en_ ec_;(first|subst ea_|(injection ea_ with ea_;subst ea_));subst ec_;clear en_))
          have GB25:=A_ gb25;have GG25:=A_ HG25;clear gb25 gl25 HG25;obtain ⟨hx25_0,hf25_0⟩:=Kd.R_celln (⟨#[]⟩:ByteArray) HO_9.out (x10_2:Int) p25 q25;replace p25:=eq_true p25;replace q25:=eq_true q25;have HP29:=Kd.R_putg HO_9.out (x10_2:Int) x0_2;go_wp2_with (first|((with_reducible refine gate_store (t:=9) (p:=61) rfl ?_);refine store_event (t:=9) (p:=61) (v:=?vo_w30) (w1:=(w21.setCell ⟨go25,(x10_2:Int).toNat,none⟩ (.string x0_2))) ?hg ?ho ?hn ?hr ?_;(case ho=>rfl);(case hg=>rfl);(case hn=>rfl);(case hr=>exact zz14);intro w30 hw;have hg:w21.grownBy w30 (some go25):=(by rw [hw];exact HP29.2);have hp_:Kd.R Kd.string 9 w30 w.heap.size (fun _=>True) (.slice (some ⟨go25,0,none⟩) x9_2.length co25) y446:=(by rw [hw,Ny446.out];exact HP29.1);clear HP29;replace HO_9:=A_ (hp_);replace HB:=A_ ((by rw [hw];exact below_set (HB.out) GB25.out:Below w.heap.size w w30));clear hg hw hp_;have q31:((ji26):Int)≤((x9_2.length:Int):Int):=ofD;obtain ⟨i031,hi031,_,hsz31,_⟩:=info_parts info9;have hcut31:=cut_to (P:=Tryz.prog) 23 9 .i64 Tryz.underlying23 hi031 (some ⟨go25,0,none⟩) x9_2.length co25 (ji26) ofD q31 (Kd.R_reads' HO_9.out).2.1;have hr31:=Kd.R_take (m:=((ji26):Int).toNat) HO_9.out (by omega);have hy31:y447.length=((ji26):Int).toNat:=(by rw [Ny447.out,List.length_take];omega);rw [← Ny447.out] at hr31;rw [← hy31] at hr31 hcut31;clear hy31 hi031 hsz31 HO_9;have HO449:=A_ hr31;clear hr31;replace q31:=eq_true q31))
          go_ret
          exact ⟨_,(by first|rfl|(simp [errW_none,errW_some] <;> rfl)|(simp only [← hji13,← hji26];first|rfl|(simp [errW_none,errW_some] <;> rfl))|(simp [*,errW_none,errW_some] <;> rfl)),(zz12 HO449),(zz0 HB)⟩
         ·(first|rw [c22b0]|(simp only [i64_w,i32_w];rw [c22b0])|skip)
          obtain ⟨ji32,hji32⟩:∃ j_:Int,(wrap64 (t445+a2))=j_:=⟨_,rfl⟩;(first|rw [hji32] at H|simp only [hji32] at H)
          have hji32w:(IntKind.i64.wrap (t445+a2))=ji32:=(i64_w _).trans hji32;replace H:=iteN H;obtain ⟨c33,H⟩:=H;have c33b0:=eq_true c33;have c33b1:=dT c33;clear c33;replace H:=iteN H;obtain ⟨c34,H⟩:=H;have c34b0:=eq_true c34;have c34b1:=dT c34;clear c34;replace H:=iteNd H;obtain ⟨c35b0,H⟩:=H;replace H:=iteNd H;obtain ⟨c36b0,H⟩:=H;obtain ⟨y450,hy450⟩:∃ y_:List ByteArray,y_=(x9_2.set (x10_2:Int).toNat (x0_2.extract 0 ((ji32):Int).toNat)):=⟨_,rfl⟩;replace H:(if 0≤(wrap64 (t445+(a1.size:Int))) then (if (wrap64 (t445+(a1.size:Int)))≤(x0_2.size:Int) then (strings_genSplit.l0 k2 (x0_2.extract ((wrap64 (t445+(a1.size:Int))):Int).toNat x0_2.size) a1 a2 (wrap64 ((ji13) - 1)) y450 (wrap64 (x10_2+1))) else (none)) else (none))=some r:=by first|(rw [hy450];with_reducible exact H)|(have H2_:=(Option.bind_some _ _).symm.trans H;rw [hy450];with_reducible exact H2_)|(have H2_:=(Option.bind_some _ _).symm.trans H;with_reducible exact H2_)|with_reducible exact H|(rw [hy450];exact H)|exact H
          have Ny450:=A_ hy450;have Ly450:y450.length≤x9_2.length∧x9_2.length≤y450.length:=by rw [hy450,List.length_set];exact ⟨Nat.le_refl _,Nat.le_refl _⟩
          have My450:=Ly450.1;replace Ly450:=Ly450.2;clear hy450;obtain ⟨ji38,hji38⟩:∃ j_:Int,(wrap64 (t445+(a1.size:Int)))=j_:=⟨_,rfl⟩;(first|rw [hji38] at H|simp only [hji38] at H)
          have hji38w:(IntKind.i64.wrap (t445+(a1.size:Int)))=ji38:=(i64_w _).trans hji38;replace H:=iteN H;obtain ⟨c39,H⟩:=H;have c39b0:=eq_true c39;have c39b1:=dT c39;clear c39;replace H:=iteN H;obtain ⟨c40,H⟩:=H;have c40b0:=eq_true c40;have c40b1:=dT c40;clear c40;have H':=A_ H;clear H;have p37:0≤(x10_2:Int):=ofD;have q37:(x10_2:Int) < ((x9_2.length:Int):Int):=ofD;obtain ⟨go37,co37,eo37,gb37,gl37,cl37,HG37⟩:=Kd.R_form HO_9.out (by omega);(first|cases eo37|(injection eo37 with ea_ en_ ec_;(first|subst ea_|(injection ea_ with ea_;subst ea_));subst ec_;clear en_))
          have GB37:=A_ gb37;have GG37:=A_ HG37;clear gb37 gl37 HG37;obtain ⟨hx37_0,hf37_0⟩:=Kd.R_celln (⟨#[]⟩:ByteArray) HO_9.out (x10_2:Int) p37 q37;replace p37:=eq_true p37;replace q37:=eq_true q37;have HP41:=Kd.R_putg HO_9.out (x10_2:Int) (x0_2.extract 0 ((ji32):Int).toNat);go_wp2_with (first|((with_reducible refine gate_store (t:=9) (p:=49) rfl ?_);refine store_event (t:=9) (p:=49) (v:=?vo_w42) (w1:=(w21.setCell ⟨go37,(x10_2:Int).toNat,none⟩ (.string (x0_2.extract 0 ((ji32):Int).toNat)))) ?hg ?ho ?hn ?hr ?_;(case ho=>rfl);(case hg=>rfl);(case hn=>rfl);(case hr=>exact zz14);intro w42 hw;have hg:w21.grownBy w42 (some go37):=(by rw [hw];exact HP41.2);have hp_:Kd.R Kd.string 9 w42 w.heap.size (fun _=>True) (.slice (some ⟨go37,0,none⟩) x9_2.length co37) y450:=(by rw [hw,Ny450.out];exact HP41.1);clear HP41;replace HO_9:=A_ (hp_);replace HB:=A_ ((by rw [hw];exact below_set (HB.out) GB37.out:Below w.heap.size w w42));clear hg hw hp_))
          go_roundg k2
          case measure=>have:=HJ8.out;have:=HK2.out;omega
          case rel=>exact ⟨(x0_2.extract ((ji38):Int).toNat x0_2.size),(y450),(wrap64 (x10_2+1)),(by first|rfl|(simp only [i64_w,i32_w];done)|(simp only [aid_isEmpty,aid_isEmpty2];done)|(simp;done)|((simp only [← hji38] <;> (first|rfl|simp));done)|(simp [*];done)),zz7,H',⟨(zz72 HJ8 HK2)⟩,⟨(zz12 HO_9)⟩,⟨(zz0 HB)⟩⟩
        ·replace H:=iteNd H
         obtain ⟨c43b0,H⟩:=H;replace H:=iteNd H;obtain ⟨c44b0,H⟩:=H;obtain ⟨y451,hy451⟩:∃ y_:List ByteArray,y_=(x9_2.set (x10_2:Int).toNat x0_2):=⟨_,rfl⟩;replace H:(if 0≤(wrap64 (x10_2+1)) then (if (wrap64 (x10_2+1))≤(x9_2.length:Int) then (some (y451.take ((wrap64 (x10_2+1)):Int).toNat)) else (none)) else (none))=some r:=by first|(rw [hy451];with_reducible exact H)|(have H2_:=(Option.bind_some _ _).symm.trans H;rw [hy451];with_reducible exact H2_)|(have H2_:=(Option.bind_some _ _).symm.trans H;with_reducible exact H2_)|with_reducible exact H|(rw [hy451];exact H)|exact H
         have Ny451:=A_ hy451;have Ly451:y451.length≤x9_2.length∧x9_2.length≤y451.length:=by rw [hy451,List.length_set];exact ⟨Nat.le_refl _,Nat.le_refl _⟩
         have My451:=Ly451.1;replace Ly451:=Ly451.2;clear hy451;obtain ⟨ji46,hji46⟩:∃ j_:Int,(wrap64 (x10_2+1))=j_:=⟨_,rfl⟩;(first|rw [hji46] at H|simp only [hji46] at H)
         have hji46w:(IntKind.i64.wrap (x10_2+1))=ji46:=(i64_w _).trans hji46;replace H:=iteN H;obtain ⟨c47,H⟩:=H;have c47b0:=eq_true c47;have c47b1:=dT c47;clear c47;replace H:=iteN H;obtain ⟨c48,H⟩:=H;have c48b0:=eq_true c48;have c48b1:=dT c48;clear c48;obtain ⟨y452,Ny452⟩:=toY (y451.take ((ji46):Int).toNat);(first|with_reducible replace H:=bindZ Ny452 H|rw [← Ny452.out] at H|skip)
         obtain rfl:=sI H;have p45:0≤(x10_2:Int):=ofD;have q45:(x10_2:Int) < ((x9_2.length:Int):Int):=ofD;obtain ⟨go45,co45,eo45,gb45,gl45,cl45,HG45⟩:=Kd.R_form HO_9.out (by omega);(first|cases eo45|(injection eo45 with ea_ en_ ec_;(first|subst ea_|(injection ea_ with ea_;subst ea_));subst ec_;clear en_))
         have GB45:=A_ gb45;have GG45:=A_ HG45;clear gb45 gl45 HG45;obtain ⟨hx45_0,hf45_0⟩:=Kd.R_celln (⟨#[]⟩:ByteArray) HO_9.out (x10_2:Int) p45 q45;replace p45:=eq_true p45;replace q45:=eq_true q45;have HP49:=Kd.R_putg HO_9.out (x10_2:Int) x0_2;go_wp2_with (first|((with_reducible refine gate_store (t:=9) (p:=61) rfl ?_);refine store_event (t:=9) (p:=61) (v:=?vo_w50) (w1:=(wr.setCell ⟨go45,(x10_2:Int).toNat,none⟩ (.string x0_2))) ?hg ?ho ?hn ?hr ?_;(case ho=>rfl);(case hg=>rfl);(case hn=>rfl);(case hr=>exact zz14);intro w50 hw;have hg:wr.grownBy w50 (some go45):=(by rw [hw];exact HP49.2);have hp_:Kd.R Kd.string 9 w50 w.heap.size (fun _=>True) (.slice (some ⟨go45,0,none⟩) x9_2.length co45) y451:=(by rw [hw,Ny451.out];exact HP49.1);clear HP49;replace HO_9:=A_ (hp_);replace HB:=A_ ((by rw [hw];exact below_set (HB.out) GB45.out:Below w.heap.size w w50));clear hg hw hp_;have q51:((ji46):Int)≤((x9_2.length:Int):Int):=ofD;obtain ⟨i051,hi051,_,hsz51,_⟩:=info_parts info9;have hcut51:=cut_to (P:=Tryz.prog) 23 9 .i64 Tryz.underlying23 hi051 (some ⟨go45,0,none⟩) x9_2.length co45 (ji46) ofD q51 (Kd.R_reads' HO_9.out).2.1;have hr51:=Kd.R_take (m:=((ji46):Int).toNat) HO_9.out (by omega);have hy51:y452.length=((ji46):Int).toNat:=(by rw [Ny452.out,List.length_take];omega);rw [← Ny452.out] at hr51;rw [← hy51] at hr51 hcut51;clear hy51 hi051 hsz51 HO_9;have HO454:=A_ hr51;clear hr51;replace q51:=eq_true q51))
         go_ret
         exact ⟨_,(by first|rfl|(simp [errW_none,errW_some] <;> rfl)|(simp only [← hji13,← hji46];first|rfl|(simp [errW_none,errW_some] <;> rfl))|(simp [*,errW_none,errW_some] <;> rfl)),(zz12 HO454),(zz0 HB)⟩
     ·exact absurd H (by simp)
mutual
def impl_houseOk.j0:Nat→ByteArray→Bool→ByteArray→Int→Bool→List ByteArray→List (S104)→Int→Int→List (S111)→Option (Bool)
 | 0,_,_,_,_,_,_,_,_,_,_=>none
 | k+1,x1,x21,x568000,x568001,x568002,x568003,x568004,x568005,x568006,x568007=>if x21=true then (some false) else (if (x568003.length:Int)=1 then (if 0 < (x568003.length:Int) then (impl_houseOk.j1 k ((rdOf ByteArray.empty x568003 0).toList != x1.toList) x568000 x568001 x568002 x568003 x568004 x568005 x568006 x568007 x568003 x568004 x568005) else (none)) else (impl_houseOk.j1 k true x568000 x568001 x568002 x568003 x568004 x568005 x568006 x568007 x568003 x568004 x568005))
def impl_houseOk.j1:Nat→Bool→ByteArray→Int→Bool→List ByteArray→List (S104)→Int→Int→List (S111)→List ByteArray→List (S104)→Int→Option (Bool)
 | 0,_,_,_,_,_,_,_,_,_,_,_,_=>none
 | k+1,x35,x568000,x568001,x568002,x568003,x568004,x568005,x568006,x568007,x572000,x572001,x572002=>if x35=true then (some false) else (if x568002=true then (if (x572001.length:Int)≤40 then ((impl_rulesOk.f k x572001).bind fun t573=>(if t573=true then ((impl_between.f 0 x572002 20).bind fun t574=>(some t574)) else (some false))) else (some false)) else (if (x572001.length:Int)=0 then (some (x572002 == 0)) else (some false)))
end
def impl_houseOk.f (k:Nat) (a0_0:ByteArray) (a0_1:Int) (a0_2:Bool) (l0_3:List ByteArray) (l0_4:List (S104)) (a0_5:Int) (a0_6:Int) (l0_7:List (S111)) (a1:ByteArray):Option (Bool):=(impl_isHouse.f k a0_0).bind fun t568=>(if t568=true then ((impl_between.f 0 a0_1 5100).bind fun t569=>(if t569=true then ((impl_between.f 0 a0_6 2).bind fun t570=>(impl_houseOk.j0 k a1 (!t570) a0_0 a0_1 a0_2 l0_3 l0_4 a0_5 a0_6 l0_7)) else (impl_houseOk.j0 k a1 true a0_0 a0_1 a0_2 l0_3 l0_4 a0_5 a0_6 l0_7))) else (impl_houseOk.j0 k a1 true a0_0 a0_1 a0_2 l0_3 l0_4 a0_5 a0_6 l0_7))
theorem impl_houseOk.calls (k:Nat) (a0_0:ByteArray) (a0_1:Int) (a0_2:Bool) (A0_3:Option Addr) (c0_3:Nat) (l0_3:List ByteArray) (A0_4:Option Addr) (c0_4:Nat) (l0_4:List (S104)) (a0_5:Int) (a0_6:Int) (A0_7:Option Addr) (c0_7:Nat) (l0_7:List (S111)) (a1:ByteArray) (r:Bool) (w:World) (hr0_3:Kd.C Kd.string w A0_3 l0_3.length l0_3) (hc0_3:l0_3.length≤c0_3) (hr0_4:Kd.C k104 w A0_4 l0_4.length l0_4) (hc0_4:l0_4.length≤c0_4) (hr0_7:Kd.C k111 w A0_7 l0_7.length l0_7) (hc0_7:l0_7.length≤c0_7) (h:impl_houseOk.f k a0_0 a0_1 a0_2 l0_3 l0_4 a0_5 a0_6 l0_7 a1=some r) :
  Calls Tryz.prog 51 #[.agg #[.string a0_0,.int .i64 a0_1,.bool a0_2,.slice A0_3 l0_3.length c0_3,.slice A0_4 l0_4.length c0_4,.int .i64 a0_5,.int .i64 a0_6,.slice A0_7 l0_7.length c0_7],.string a1] w fun e w'=>e=.returned (.bool r)∧Below w.heap.size w w':=by
 have hu82:=Tryz.underlying82;have hu79:=Tryz.underlying79;have HR0_3:=A_ hr0_3;have HC0_3:=A_ hc0_3;clear hr0_3 hc0_3;have HR0_4:=A_ hr0_4;have HC0_4:=A_ hc0_4;clear hr0_4 hc0_4;have HR0_7:=A_ hr0_7;have HC0_7:=A_ hc0_7;clear hr0_7 hc0_7;have HB:=A_ (Below.refl w.heap.size w);unfold impl_houseOk.f at h
 have H:=h;clear h;have HC3:=A_ H;clear H;go_enter Tryz.func51,Tryz.ntmps51;go_upto_region 1 with (first|(refine boxF 2 #[.string a0_0,.int .i64 a0_1,.bool a0_2,.slice A0_3 l0_3.length c0_3,.slice A0_4 l0_4.length c0_4,.int .i64 a0_5,.int .i64 a0_6,.slice A0_7 l0_7.length c0_7] 82 ?_;intro gb567 hg w4 BK567 hb;have GE567:=geB hg (zz0 HB);replace HB:=A_ (bS (zz0 HB) hb);clear hb hg))
 (try simp only [Act.put,List.setIfInBounds_toArray,List.set_cons_zero,List.set_cons_succ])
 go_cut [21] (fun v21 wc=>∃ (kq:Nat) (x21_2:Bool),v21=.bool x21_2∧Aside0 (impl_houseOk.j0 kq a1 x21_2 a0_0 a0_1 a0_2 l0_3 l0_4 a0_5 a0_6 l0_7=some r)∧Aside0 (kq≤k)∧Aside0 (wc.heap[gb567]?=some (.cells #[.string a0_0,.int .i64 a0_1,.bool a0_2,(.slice A0_3 l0_3.length c0_3),(.slice A0_4 l0_4.length c0_4),.int .i64 a0_5,.int .i64 a0_6,(.slice A0_7 l0_7.length c0_7)] 82 (0,0)))∧Aside0 (Below w.heap.size w wc))
 case first=>
  obtain ⟨H⟩:=HC3;replace H:=bindA H;obtain ⟨t568,A5,H⟩:=H;have HF6:=A_ H;clear H;have hcz7_0:w4.cell? ⟨gb567,0,none⟩=some (.string a0_0):=(blk_cell BK567.out 0).trans rfl;have hcz7_1:w4.cell? ⟨gb567,1,none⟩=some (.int .i64 a0_1):=(blk_cell BK567.out 1).trans rfl;have hcz7_2:w4.cell? ⟨gb567,2,none⟩=some (.bool a0_2):=(blk_cell BK567.out 2).trans rfl;have hcz7_3:w4.cell? ⟨gb567,3,none⟩=some (.slice A0_3 l0_3.length c0_3):=(blk_cell BK567.out 3).trans rfl;have hcz7_4:w4.cell? ⟨gb567,4,none⟩=some (.slice A0_4 l0_4.length c0_4):=(blk_cell BK567.out 4).trans rfl;have hcz7_5:w4.cell? ⟨gb567,5,none⟩=some (.int .i64 a0_5):=(blk_cell BK567.out 5).trans rfl;have hcz7_6:w4.cell? ⟨gb567,6,none⟩=some (.int .i64 a0_6):=(blk_cell BK567.out 6).trans rfl;have hcz7_7:w4.cell? ⟨gb567,7,none⟩=some (.slice A0_7 l0_7.length c0_7):=(blk_cell BK567.out 7).trans rfl;have hfz7_0:=blk_frozen BK567.out 0;have hfz7_1:=blk_frozen BK567.out 1;have hfz7_2:=blk_frozen BK567.out 2;have hfz7_3:=blk_frozen BK567.out 3;have hfz7_4:=blk_frozen BK567.out 4;have hfz7_5:=blk_frozen BK567.out 5;have hfz7_6:=blk_frozen BK567.out 6;have hfz7_7:=blk_frozen BK567.out 7;go_wp2_with (first|(refine gR 76 (some 8) Tryz.func76 (impl_isHouse.calls k a0_0 t568 _ A5.out) ?_;rintro w' ⟨nd,rfl⟩)|((with_reducible refine atG ?_ ?_ fun K_ hK_=>?_);rfl;exact undecG)|((with_reducible refine atI ?_ fun K_ hK_=>?_);exact undecI))
  refine unG hK_ ?_;clear hK_ K_;obtain ⟨H⟩:=HF6;replace H:=iteB H;rcases H with ⟨rfl,H⟩|⟨rfl,H⟩
  ·(first|refine iteT ?_|refine iteF ?_|skip)
   replace H:=bindA H;obtain ⟨t569,A9,H⟩:=H;have HF10:=A_ H;clear H;have hcz11_0:w4.cell? ⟨gb567,0,none⟩=some (.string a0_0):=(blk_cell BK567.out 0).trans rfl;have hcz11_1:w4.cell? ⟨gb567,1,none⟩=some (.int .i64 a0_1):=(blk_cell BK567.out 1).trans rfl;have hcz11_2:w4.cell? ⟨gb567,2,none⟩=some (.bool a0_2):=(blk_cell BK567.out 2).trans rfl;have hcz11_3:w4.cell? ⟨gb567,3,none⟩=some (.slice A0_3 l0_3.length c0_3):=(blk_cell BK567.out 3).trans rfl;have hcz11_4:w4.cell? ⟨gb567,4,none⟩=some (.slice A0_4 l0_4.length c0_4):=(blk_cell BK567.out 4).trans rfl;have hcz11_5:w4.cell? ⟨gb567,5,none⟩=some (.int .i64 a0_5):=(blk_cell BK567.out 5).trans rfl;have hcz11_6:w4.cell? ⟨gb567,6,none⟩=some (.int .i64 a0_6):=(blk_cell BK567.out 6).trans rfl;have hcz11_7:w4.cell? ⟨gb567,7,none⟩=some (.slice A0_7 l0_7.length c0_7):=(blk_cell BK567.out 7).trans rfl;have hfz11_0:=blk_frozen BK567.out 0;have hfz11_1:=blk_frozen BK567.out 1;have hfz11_2:=blk_frozen BK567.out 2;have hfz11_3:=blk_frozen BK567.out 3;have hfz11_4:=blk_frozen BK567.out 4;have hfz11_5:=blk_frozen BK567.out 5;have hfz11_6:=blk_frozen BK567.out 6;have hfz11_7:=blk_frozen BK567.out 7;(try ((with_reducible refine upS ?_);go_simp))
   go_wp2_with (first|(go_at_call 48;(with_reducible refine (impl_between.calls 0 a0_1 5100 t569 _ A9.out).mono ?_);rintro e w' ⟨rfl,⟨nd,rfl⟩⟩)|((with_reducible refine atG ?_ ?_ fun K_ hK_=>?_);rfl;exact undecG)|((with_reducible refine atI ?_ fun K_ hK_=>?_);exact undecI))
   refine unG hK_ ?_;clear hK_ K_;obtain ⟨H⟩:=HF10;replace H:=iteB H;rcases H with ⟨rfl,H⟩|⟨rfl,H⟩
   ·(first|refine iteT ?_|refine iteF ?_|skip)
    replace H:=bindA H;obtain ⟨t570,A13,H⟩:=H;have H':=A_ H;clear H;have hcz14_0:w4.cell? ⟨gb567,0,none⟩=some (.string a0_0):=(blk_cell BK567.out 0).trans rfl;have hcz14_1:w4.cell? ⟨gb567,1,none⟩=some (.int .i64 a0_1):=(blk_cell BK567.out 1).trans rfl;have hcz14_2:w4.cell? ⟨gb567,2,none⟩=some (.bool a0_2):=(blk_cell BK567.out 2).trans rfl;have hcz14_3:w4.cell? ⟨gb567,3,none⟩=some (.slice A0_3 l0_3.length c0_3):=(blk_cell BK567.out 3).trans rfl;have hcz14_4:w4.cell? ⟨gb567,4,none⟩=some (.slice A0_4 l0_4.length c0_4):=(blk_cell BK567.out 4).trans rfl;have hcz14_5:w4.cell? ⟨gb567,5,none⟩=some (.int .i64 a0_5):=(blk_cell BK567.out 5).trans rfl;have hcz14_6:w4.cell? ⟨gb567,6,none⟩=some (.int .i64 a0_6):=(blk_cell BK567.out 6).trans rfl;have hcz14_7:w4.cell? ⟨gb567,7,none⟩=some (.slice A0_7 l0_7.length c0_7):=(blk_cell BK567.out 7).trans rfl;have hfz14_0:=blk_frozen BK567.out 0;have hfz14_1:=blk_frozen BK567.out 1;have hfz14_2:=blk_frozen BK567.out 2;have hfz14_3:=blk_frozen BK567.out 3;have hfz14_4:=blk_frozen BK567.out 4;have hfz14_5:=blk_frozen BK567.out 5;have hfz14_6:=blk_frozen BK567.out 6;have hfz14_7:=blk_frozen BK567.out 7;(try ((with_reducible refine upS ?_);go_simp))
    go_wp2_with (first|(go_at_call 48;(with_reducible refine (impl_between.calls 0 a0_6 2 t570 _ A13.out).mono ?_);rintro e w' ⟨rfl,⟨nd,rfl⟩⟩))
    go_meet
    case rel=>exact ⟨_,(!t570),zz7,H',⟨zz63⟩,⟨(zz2 BK567)⟩,⟨(zz1 HB GE567)⟩⟩
   ·(first|refine iteT ?_|refine iteF ?_|skip)
    have H':=A_ H;clear H;(try ((with_reducible refine upS ?_);go_simp))
    go_wp2
    go_meet
    case rel=>exact ⟨_,(true),zz7,H',⟨zz63⟩,⟨(zz2 BK567)⟩,⟨(zz1 HB GE567)⟩⟩
  ·(first|refine iteT ?_|refine iteF ?_|skip)
   have H':=A_ H;clear H;(try ((with_reducible refine upS ?_);go_simp))
   go_wp2
   go_meet
   case rel=>exact ⟨_,(true),zz7,H',⟨zz63⟩,⟨(zz2 BK567)⟩,⟨(zz1 HB GE567)⟩⟩
 case rest=>
  clear HC3;obtain ⟨kq,x21_2,rfl,HA,HJ2,BK567,HB⟩:=hcut;cases kq with
  | zero=>exact absurd HA.out (by simp [impl_houseOk.j0])
  | succ kj2=>
   obtain ⟨H⟩:=HA;simp only [impl_houseOk.j0] at H
   replace H:=iteB H;rcases H with ⟨rfl,H⟩|⟨rfl,H⟩
   ·obtain rfl:=sI H
    go_wp2
    go_ret
    exact ⟨zz5,(zz1 HB GE567)⟩
   ·have HC16:=A_ H
    clear H;have hcz17_0:wc.cell? ⟨gb567,0,none⟩=some (.string a0_0):=(blk_cell BK567.out 0).trans rfl;have hcz17_1:wc.cell? ⟨gb567,1,none⟩=some (.int .i64 a0_1):=(blk_cell BK567.out 1).trans rfl;have hcz17_2:wc.cell? ⟨gb567,2,none⟩=some (.bool a0_2):=(blk_cell BK567.out 2).trans rfl;have hcz17_3:wc.cell? ⟨gb567,3,none⟩=some (.slice A0_3 l0_3.length c0_3):=(blk_cell BK567.out 3).trans rfl;have hcz17_4:wc.cell? ⟨gb567,4,none⟩=some (.slice A0_4 l0_4.length c0_4):=(blk_cell BK567.out 4).trans rfl;have hcz17_5:wc.cell? ⟨gb567,5,none⟩=some (.int .i64 a0_5):=(blk_cell BK567.out 5).trans rfl;have hcz17_6:wc.cell? ⟨gb567,6,none⟩=some (.int .i64 a0_6):=(blk_cell BK567.out 6).trans rfl;have hcz17_7:wc.cell? ⟨gb567,7,none⟩=some (.slice A0_7 l0_7.length c0_7):=(blk_cell BK567.out 7).trans rfl;have hfz17_0:=blk_frozen BK567.out 0;have hfz17_1:=blk_frozen BK567.out 1;have hfz17_2:=blk_frozen BK567.out 2;have hfz17_3:=blk_frozen BK567.out 3;have hfz17_4:=blk_frozen BK567.out 4;have hfz17_5:=blk_frozen BK567.out 5;have hfz17_6:=blk_frozen BK567.out 6;have hfz17_7:=blk_frozen BK567.out 7;go_upto_region 4 with (first|(refine boxF 5 #[.slice none 0 0,.slice none 0 0,.int .i64 0] 79 ?_;intro gb571 hg w18 BK571 hb;have GE571:=geB hg (zz1 HB GE567);have GW571:=GE571;replace HB:=A_ (bS (zz1 HB GE567) hb);have NB567_571:=A_ ((by rw [hg];exact Nat.ne_of_lt (blk_lt (zz2 BK567)):gb567≠gb571));have NB571_567:=A_ ((by rw [hg];exact Nat.ne_of_gt (blk_lt (zz2 BK567)):gb571≠gb567));replace BK567:=A_ (bB (zz2 BK567) hb);clear hb hg;have hnb19:=NB571_567.out;have hnc19:=NB567_571.out;obtain ⟨_,_,_,_,_,_⟩:=cf3 BK571))
    (try simp only [Act.put,List.setIfInBounds_toArray,List.set_cons_zero,List.set_cons_succ])
    go_cut [35] (fun v35 wc=>∃ (kq:Nat) (x35_15:Bool),v35=.bool x35_15∧Aside0 (impl_houseOk.j1 kq x35_15 a0_0 a0_1 a0_2 l0_3 l0_4 a0_5 a0_6 l0_7 l0_3 l0_4 a0_5=some r)∧Aside0 (kq≤kj2)∧Aside0 (wc.heap[gb567]?=some (.cells #[.string a0_0,.int .i64 a0_1,.bool a0_2,(.slice A0_3 l0_3.length c0_3),(.slice A0_4 l0_4.length c0_4),.int .i64 a0_5,.int .i64 a0_6,(.slice A0_7 l0_7.length c0_7)] 82 (0,0)))∧Aside0 (wc.heap[gb571]?=some (.cells #[(.slice A0_3 l0_3.length c0_3),(.slice A0_4 l0_4.length c0_4),.int .i64 a0_5] 79 (0,0)))∧Aside0 (Below w.heap.size w wc))
    case first=>
     obtain ⟨H⟩:=HC16;replace H:=iteEq H;rcases H with ⟨c21b0,c21b1,H⟩|⟨c21b0,c21b1,c21,H⟩
     ·(first|rw [c21b0]|(simp only [i64_w,i32_w];rw [c21b0])|skip)
      replace H:=iteN H;obtain ⟨c22,H⟩:=H;have c22b0:=dT c22;have c22b1:decide (0 < l0_3.length)=true:=dT (by omega);clear c22;have H':=A_ H;clear H;have hnb23:=NB571_567.out;have hnc23:=NB567_571.out;obtain ⟨_,_,_,_,_,_⟩:=cf3 BK571;have p572:0≤(0:Int):=(by omega);have q572:0 < (l0_3.length:Int):=ofD;obtain ⟨ad572,e572,hx572_0⟩:=Kd.at_string HR0_3.out 0 p572 q572;cases e572
      have qi572:(0 < l0_3.length)=True:=eq_true (by omega);(try rw [show ((0:Int)).toNat=0 from rfl] at hx572_0)
      (try rw [Addr.add_zero'] at hx572_0)
      have hn572_0:ad572.block≠gb571:=Nat.ne_of_lt (Nat.lt_of_lt_of_le zz150 GW571.out);have hn572_1:ad572.block≠gb571:=Nat.ne_of_lt (Nat.lt_of_lt_of_le zz150 GW571.out);have hn572_2:ad572.block≠gb571:=Nat.ne_of_lt (Nat.lt_of_lt_of_le zz150 GW571.out);replace hx572_0:=cbl HB hx572_0;replace hx572_0:=(cell_far (p:=⟨gb571,0,none⟩) (by first|(rw [add_block];exact hn572_0)|(show (Addr.add _ _).block≠_;rw [add_block];exact hn572_0)|exact hn572_0) (.slice (some ad572) l0_3.length c0_3)).trans hx572_0;replace hx572_0:=(cell_far (p:=⟨gb571,1,none⟩) (by first|(rw [add_block];exact hn572_1)|(show (Addr.add _ _).block≠_;rw [add_block];exact hn572_1)|exact hn572_1) (.slice A0_4 l0_4.length c0_4)).trans hx572_0;replace hx572_0:=(cell_far (p:=⟨gb571,2,none⟩) (by first|(rw [add_block];exact hn572_2)|(show (Addr.add _ _).block≠_;rw [add_block];exact hn572_2)|exact hn572_2) (.int .i64 a0_5)).trans hx572_0;clear hn572_0;clear hn572_1;clear hn572_2;replace p572:=eq_true p572;replace q572:=eq_true q572;go_wp2
      go_meet
      case rel=>exact ⟨_,(((rdOf ByteArray.empty l0_3 0).toList != a1.toList)),zz7,H',⟨(zz65 HJ2)⟩,⟨(zz4 BK567 NB567_571)⟩,⟨(zz26 BK571)⟩,⟨(zz3 HB GE567 GE571)⟩⟩
     ·(first|rw [c21b0]|(simp only [i64_w,i32_w];rw [c21b0])|skip)
      have H':=A_ H;clear H;have hnb25:=NB571_567.out;have hnc25:=NB567_571.out;obtain ⟨_,_,_,_,_,_⟩:=cf3 BK571;go_wp2
      go_meet
      case rel=>exact ⟨_,(true),zz7,H',⟨(zz65 HJ2)⟩,⟨(zz4 BK567 NB567_571)⟩,⟨(zz26 BK571)⟩,⟨(zz3 HB GE567 GE571)⟩⟩
    case rest=>
     clear HC16;obtain ⟨kq,x35_15,rfl,HA,HJ15,BK567,BK571,HB⟩:=hcut;cases kq with
     | zero=>exact absurd HA.out (by simp [impl_houseOk.j1])
     | succ kj15=>
      obtain ⟨H⟩:=HA;simp only [impl_houseOk.j1] at H
      replace H:=iteB H;rcases H with ⟨rfl,H⟩|⟨rfl,H⟩
      ·obtain rfl:=sI H
       go_wp2
       go_ret
       exact ⟨zz5,(zz3 HB GE567 GE571)⟩
      ·replace H:=iteB H
       rcases H with ⟨rfl,H⟩|⟨rfl,H⟩
       ·replace H:=iteE H
        rcases H with ⟨c29,H⟩|⟨c29,H⟩
        ·have c29b0:=dT c29
         have c29b1:decide (l0_4.length≤40)=true:=dT (by omega);clear c29;replace H:=bindA H;obtain ⟨t573,A30,H⟩:=H;have HF31:=A_ H;clear H;have hnb32:=NB567_571.out;have hnc32:=NB571_567.out;have hcz33_0:wc.cell? ⟨gb567,0,none⟩=some (.string a0_0):=(blk_cell BK567.out 0).trans rfl;have hcz33_1:wc.cell? ⟨gb567,1,none⟩=some (.int .i64 a0_1):=(blk_cell BK567.out 1).trans rfl;have hcz33_2:wc.cell? ⟨gb567,2,none⟩=some (.bool true):=(blk_cell BK567.out 2).trans rfl;have hcz33_3:wc.cell? ⟨gb567,3,none⟩=some (.slice A0_3 l0_3.length c0_3):=(blk_cell BK567.out 3).trans rfl;have hcz33_4:wc.cell? ⟨gb567,4,none⟩=some (.slice A0_4 l0_4.length c0_4):=(blk_cell BK567.out 4).trans rfl;have hcz33_5:wc.cell? ⟨gb567,5,none⟩=some (.int .i64 a0_5):=(blk_cell BK567.out 5).trans rfl;have hcz33_6:wc.cell? ⟨gb567,6,none⟩=some (.int .i64 a0_6):=(blk_cell BK567.out 6).trans rfl;have hcz33_7:wc.cell? ⟨gb567,7,none⟩=some (.slice A0_7 l0_7.length c0_7):=(blk_cell BK567.out 7).trans rfl;have hfz33_0:=blk_frozen BK567.out 0;have hfz33_1:=blk_frozen BK567.out 1;have hfz33_2:=blk_frozen BK567.out 2;have hfz33_3:=blk_frozen BK567.out 3;have hfz33_4:=blk_frozen BK567.out 4;have hfz33_5:=blk_frozen BK567.out 5;have hfz33_6:=blk_frozen BK567.out 6;have hfz33_7:=blk_frozen BK567.out 7;obtain ⟨_,_,_,_,_,_⟩:=cf3 BK571;go_wp2_with (first|(go_at_call 77;(with_reducible refine (impl_rulesOk.calls kj15 _ _ l0_4 t573 _ ?side1 ?side2 A30.out).mono ?_);(case side1=>exact (zz21 HR0_4 HB));(case side2=>exact HC0_4.out);rintro e w35 ⟨rfl,hb⟩;replace BK567:=A_ (bB (zz2 BK567) hb);replace BK571:=A_ (bB (zz2 BK571) hb);replace HB:=A_ (bS (zz3 HB GE567 GE571) hb);(try clear hb))|((with_reducible refine atG ?_ ?_ fun K_ hK_=>?_);rfl;exact undecG)|((with_reducible refine atI ?_ fun K_ hK_=>?_);exact undecI))
         refine unG hK_ ?_;clear hK_ K_;obtain ⟨H⟩:=HF31;replace H:=iteB H;rcases H with ⟨rfl,H⟩|⟨rfl,H⟩
         ·(first|refine iteT ?_|refine iteF ?_|skip)
          replace H:=bindA H;obtain ⟨t574,A37,H⟩:=H;obtain rfl:=sI H;have hnb38:=NB571_567.out;have hnc38:=NB567_571.out;obtain ⟨_,_,_,_,_,_⟩:=cf3 BK571;(try ((with_reducible refine upS ?_);go_simp))
          go_wp2_with (first|(go_at_call 48;(with_reducible refine (impl_between.calls 0 a0_5 20 t574 _ A37.out).mono ?_);rintro e w' ⟨rfl,⟨nd,rfl⟩⟩))
          go_ret
          exact ⟨zz5,(zz3 HB GE567 GE571)⟩
         ·(first|refine iteT ?_|refine iteF ?_|skip)
          obtain rfl:=sI H;(try ((with_reducible refine upS ?_);go_simp))
          go_wp2
          go_ret
          exact ⟨zz5,(zz3 HB GE567 GE571)⟩
        ·have c29b0:=dF c29
         have c29b1:decide (l0_4.length≤40)=false:=dF (by omega);clear c29;obtain rfl:=sI H;have hnb40:=NB567_571.out;have hnc40:=NB571_567.out;have hcz41_0:wc.cell? ⟨gb567,0,none⟩=some (.string a0_0):=(blk_cell BK567.out 0).trans rfl;have hcz41_1:wc.cell? ⟨gb567,1,none⟩=some (.int .i64 a0_1):=(blk_cell BK567.out 1).trans rfl;have hcz41_2:wc.cell? ⟨gb567,2,none⟩=some (.bool true):=(blk_cell BK567.out 2).trans rfl;have hcz41_3:wc.cell? ⟨gb567,3,none⟩=some (.slice A0_3 l0_3.length c0_3):=(blk_cell BK567.out 3).trans rfl;have hcz41_4:wc.cell? ⟨gb567,4,none⟩=some (.slice A0_4 l0_4.length c0_4):=(blk_cell BK567.out 4).trans rfl;have hcz41_5:wc.cell? ⟨gb567,5,none⟩=some (.int .i64 a0_5):=(blk_cell BK567.out 5).trans rfl;have hcz41_6:wc.cell? ⟨gb567,6,none⟩=some (.int .i64 a0_6):=(blk_cell BK567.out 6).trans rfl;have hcz41_7:wc.cell? ⟨gb567,7,none⟩=some (.slice A0_7 l0_7.length c0_7):=(blk_cell BK567.out 7).trans rfl;have hfz41_0:=blk_frozen BK567.out 0;have hfz41_1:=blk_frozen BK567.out 1;have hfz41_2:=blk_frozen BK567.out 2;have hfz41_3:=blk_frozen BK567.out 3;have hfz41_4:=blk_frozen BK567.out 4;have hfz41_5:=blk_frozen BK567.out 5;have hfz41_6:=blk_frozen BK567.out 6;have hfz41_7:=blk_frozen BK567.out 7;obtain ⟨_,_,_,_,_,_⟩:=cf3 BK571;go_wp2
         go_ret
         exact ⟨zz5,(zz3 HB GE567 GE571)⟩
       ·replace H:=iteE H
        rcases H with ⟨c43,H⟩|⟨c43,H⟩
        ·obtain ⟨c43b0,c43b1⟩:=eqT c43
         clear c43;obtain rfl:=sI H;have hnb44:=NB567_571.out;have hnc44:=NB571_567.out;have hcz45_0:wc.cell? ⟨gb567,0,none⟩=some (.string a0_0):=(blk_cell BK567.out 0).trans rfl;have hcz45_1:wc.cell? ⟨gb567,1,none⟩=some (.int .i64 a0_1):=(blk_cell BK567.out 1).trans rfl;have hcz45_2:wc.cell? ⟨gb567,2,none⟩=some (.bool false):=(blk_cell BK567.out 2).trans rfl;have hcz45_3:wc.cell? ⟨gb567,3,none⟩=some (.slice A0_3 l0_3.length c0_3):=(blk_cell BK567.out 3).trans rfl;have hcz45_4:wc.cell? ⟨gb567,4,none⟩=some (.slice A0_4 l0_4.length c0_4):=(blk_cell BK567.out 4).trans rfl;have hcz45_5:wc.cell? ⟨gb567,5,none⟩=some (.int .i64 a0_5):=(blk_cell BK567.out 5).trans rfl;have hcz45_6:wc.cell? ⟨gb567,6,none⟩=some (.int .i64 a0_6):=(blk_cell BK567.out 6).trans rfl;have hcz45_7:wc.cell? ⟨gb567,7,none⟩=some (.slice A0_7 l0_7.length c0_7):=(blk_cell BK567.out 7).trans rfl;have hfz45_0:=blk_frozen BK567.out 0;have hfz45_1:=blk_frozen BK567.out 1;have hfz45_2:=blk_frozen BK567.out 2;have hfz45_3:=blk_frozen BK567.out 3;have hfz45_4:=blk_frozen BK567.out 4;have hfz45_5:=blk_frozen BK567.out 5;have hfz45_6:=blk_frozen BK567.out 6;have hfz45_7:=blk_frozen BK567.out 7;obtain ⟨_,_,_,_,_,_⟩:=cf3 BK571;go_wp2
         go_ret
         exact ⟨zz5,(zz3 HB GE567 GE571)⟩
        ·obtain ⟨c43b0,c43b1⟩:=eqF c43
         have c43b2:¬ (l0_4=[]):=fun h_=>c43 (by rw [h_];rfl)
         obtain rfl:=sI H;have hnb47:=NB567_571.out;have hnc47:=NB571_567.out;have hcz48_0:wc.cell? ⟨gb567,0,none⟩=some (.string a0_0):=(blk_cell BK567.out 0).trans rfl;have hcz48_1:wc.cell? ⟨gb567,1,none⟩=some (.int .i64 a0_1):=(blk_cell BK567.out 1).trans rfl;have hcz48_2:wc.cell? ⟨gb567,2,none⟩=some (.bool false):=(blk_cell BK567.out 2).trans rfl;have hcz48_3:wc.cell? ⟨gb567,3,none⟩=some (.slice A0_3 l0_3.length c0_3):=(blk_cell BK567.out 3).trans rfl;have hcz48_4:wc.cell? ⟨gb567,4,none⟩=some (.slice A0_4 l0_4.length c0_4):=(blk_cell BK567.out 4).trans rfl;have hcz48_5:wc.cell? ⟨gb567,5,none⟩=some (.int .i64 a0_5):=(blk_cell BK567.out 5).trans rfl;have hcz48_6:wc.cell? ⟨gb567,6,none⟩=some (.int .i64 a0_6):=(blk_cell BK567.out 6).trans rfl;have hcz48_7:wc.cell? ⟨gb567,7,none⟩=some (.slice A0_7 l0_7.length c0_7):=(blk_cell BK567.out 7).trans rfl;have hfz48_0:=blk_frozen BK567.out 0;have hfz48_1:=blk_frozen BK567.out 1;have hfz48_2:=blk_frozen BK567.out 2;have hfz48_3:=blk_frozen BK567.out 3;have hfz48_4:=blk_frozen BK567.out 4;have hfz48_5:=blk_frozen BK567.out 5;have hfz48_6:=blk_frozen BK567.out 6;have hfz48_7:=blk_frozen BK567.out 7;obtain ⟨_,_,_,_,_,_⟩:=cf3 BK571;go_wp2
         go_ret
         exact ⟨zz5,(zz3 HB GE567 GE571)⟩
end Go.Proofs.YtnnciiiackinpaaGreatDoor.P
end
section
namespace Go.Proofs.YtnnciiiackinpaaGreatDoor.P
open Go.RowKit Go.Proofs.YtnnciiiackinpaaGreatDoorW.PrintWords Go.Proofs.YtnnciiiackinpaaGreatDoorW.PrintLast Go.Proofs.YtnnciiiackinpaaGreatDoorW.PrintMore Go.Proofs.YtnnciiiackinpaaGreatDoor.B Go.Proofs.YtnnciiiackinpaaGreatDoor.Ad
set_option linter.unusedVariables false
set_option linter.unusedSimpArgs false
set_option maxHeartbeats 8000000
set_option maxRecDepth 100000
def spec_l1Small.f (a0:ByteArray):Option (ByteArray):=if a0.size≤140737488351232 then some (smallB a0) else none
theorem spec_l1Small.calls (a0 r:ByteArray) (w:World) (h:spec_l1Small.f a0=some r) :
  Calls Tryz.prog 71 #[.string a0] w fun e w'=>e=.returned (.string r)∧Below w.heap.size w w':=by
 unfold spec_l1Small.f at h
 by_cases hs:a0.size≤140737488351232
 ·rw [if_pos hs] at h
  obtain rfl:=sI h;clear h;have hcv:=Lib.run_convert_string_bytes (P:=Tryz.prog) w 9 99 5 a0 Tryz.underlying9 Tryz.underlying99 Tryz.underlying5;go_enter Tryz.func71,Tryz.ntmps71;go_wp2_with fail
  clear hcv;go_loopw [4] (fun i wr=>∃ k:Nat,k≤a0.size∧i=.int .i64 k∧Aside0 (SmRow w.heap.size a0 k wr)∧Aside0 (Below w.heap.size w wr))
   (fun i _=>a0.size - (intOf i).toNat)
  case atStart=>
   refine ⟨0,Nat.zero_le _,rfl,⟨sm_start w 5 a0⟩,⟨?_⟩⟩;exact sm_below w 5 a0
  case round=>
   obtain ⟨k,hk,rfl,hI,hB⟩:=hrel;by_cases hlt:k < a0.size
   ·have hc:=(hI.out.2 k hlt).1
    have hf:=(hI.out.2 k hlt).2;rw [if_neg (by omega)] at hc;have hset:=A_ (sm_set hI.out hlt);have hskip:=A_ (sm_skip hI.out hlt);clear hI;generalize (L a0).getD k 0=b at hc hset hskip;have hb:=b.toNat_lt;by_cases h1:65≤b.toNat
    ·by_cases h2:b.toNat≤90
     ·have e1:(sm b).toNat=b.toNat+32:=by
       unfold sm
       rw [if_pos ⟨h1,h2⟩,UInt8.toNat_add];have:(32:UInt8).toNat=32:=rfl;omega
      rw [e1,show ((b.toNat+32:Nat):Int)=(b.toNat:Int)+32 from by omega] at hset;clear hskip e1;go_wp2
      exact ⟨⟨k+1,by omega,by go_num,hset,⟨hB.out.setCell (Nat.le_refl _) _⟩⟩,zz155⟩
     ·have e1:sm b=b:=by unfold sm;rw [if_neg (by omega)]
      have hS:Aside0 (SmRow w.heap.size a0 (k+1) wr):=⟨hskip.out e1⟩;clear e1 hset hskip;go_wp2
      exact ⟨⟨k+1,by omega,by go_num,hS,hB⟩,zz155⟩
    ·have e1:sm b=b:=by unfold sm;rw [if_neg (by omega)]
     have hS:Aside0 (SmRow w.heap.size a0 (k+1) wr):=⟨hskip.out e1⟩;clear e1 hset hskip;go_wp2
     exact ⟨⟨k+1,by omega,by go_num,hS,hB⟩,zz155⟩
   ·have ek:k=a0.size:=by omega
    have hcells:∀ j (hj:j < (L (smallB a0)).length),wr.cell? ((⟨w.heap.size,0,none⟩:Addr).add j)=some (.int .u8 ((L (smallB a0))[j].toNat:Int)):=by
     intro j hj;have hj':j < a0.size:=by rw [L_size,smallB,ofL_size,List.length_map,L_size] at hj;exact hj
     rw [add_plain,(hI.out.2 j hj').1,if_pos (by omega)];simp [smallB,L_of,List.getD_eq_getElem?_getD,List.getElem?_eq_getElem (show j < (L a0).length by rw [L_size];exact hj')]
    have hcv:=run_convert_bytes_back (P:=Tryz.prog) wr 99 9 5 ⟨w.heap.size,0,none⟩ (grownCap w a0.size 0 5) (L (smallB a0)) Tryz.underlying99 Tryz.underlying5 Tryz.underlying9 hcells;have hl:(L (smallB a0)).length=a0.size:=by rw [L_size,smallB,ofL_size,List.length_map,L_size]
    rw [hl,show (⟨(L (smallB a0)).toArray⟩:ByteArray)=smallB a0 from of_L _] at hcv;have Hk:=A_ ek;clear ek hcells hl;go_wp2
    go_ret
    exact ⟨rfl,hB.out⟩
 ·rw [if_neg hs] at h;cases h
def impl_smallLetters.f (a0:ByteArray):Option (ByteArray):=if a0.size≤140737488351232 then some (smallB a0) else none
theorem impl_smallLetters.calls (a0 r:ByteArray) (w:World) (h:impl_smallLetters.f a0=some r) :
  Calls Tryz.prog 99 #[.string a0] w fun e w'=>e=.returned (.string r)∧Below w.heap.size w w':=by
 unfold impl_smallLetters.f at h
 by_cases hs:a0.size≤140737488351232
 ·rw [if_pos hs] at h
  obtain rfl:=sI h;clear h;have hcv:=Lib.run_convert_string_bytes (P:=Tryz.prog) w 9 99 5 a0 Tryz.underlying9 Tryz.underlying99 Tryz.underlying5;go_enter Tryz.func99,Tryz.ntmps99;go_wp2_with fail
  clear hcv;go_loopw [10] (fun i wr=>∃ k:Nat,k≤a0.size∧i=.int .i64 k∧Aside0 (SmRow w.heap.size a0 k wr)∧Aside0 (Below w.heap.size w wr))
   (fun i _=>a0.size - (intOf i).toNat)
  case atStart=>
   refine ⟨0,Nat.zero_le _,rfl,⟨sm_start w 5 a0⟩,⟨?_⟩⟩;exact sm_below w 5 a0
  case round=>
   obtain ⟨k,hk,rfl,hI,hB⟩:=hrel;by_cases hlt:k < a0.size
   ·have hc:=(hI.out.2 k hlt).1
    have hf:=(hI.out.2 k hlt).2;rw [if_neg (by omega)] at hc;have hset:=A_ (sm_set hI.out hlt);have hskip:=A_ (sm_skip hI.out hlt);clear hI;generalize (L a0).getD k 0=b at hc hset hskip;have hb:=b.toNat_lt;by_cases h1:65≤b.toNat
    ·by_cases h2:b.toNat≤90
     ·have e1:(sm b).toNat=b.toNat+32:=by
       unfold sm
       rw [if_pos ⟨h1,h2⟩,UInt8.toNat_add];have:(32:UInt8).toNat=32:=rfl;omega
      rw [e1,show ((b.toNat+32:Nat):Int)=(b.toNat:Int)+32 from by omega] at hset;clear hskip e1;go_wp2
      exact ⟨⟨k+1,by omega,by go_num,hset,⟨hB.out.setCell (Nat.le_refl _) _⟩⟩,zz155⟩
     ·have e1:sm b=b:=by unfold sm;rw [if_neg (by omega)]
      have hS:Aside0 (SmRow w.heap.size a0 (k+1) wr):=⟨hskip.out e1⟩;clear e1 hset hskip;go_wp2
      exact ⟨⟨k+1,by omega,by go_num,hS,hB⟩,zz155⟩
    ·have e1:sm b=b:=by unfold sm;rw [if_neg (by omega)]
     have hS:Aside0 (SmRow w.heap.size a0 (k+1) wr):=⟨hskip.out e1⟩;clear e1 hset hskip;go_wp2
     exact ⟨⟨k+1,by omega,by go_num,hS,hB⟩,zz155⟩
   ·have ek:k=a0.size:=by omega
    have hcells:∀ j (hj:j < (L (smallB a0)).length),wr.cell? ((⟨w.heap.size,0,none⟩:Addr).add j)=some (.int .u8 ((L (smallB a0))[j].toNat:Int)):=by
     intro j hj;have hj':j < a0.size:=by rw [L_size,smallB,ofL_size,List.length_map,L_size] at hj;exact hj
     rw [add_plain,(hI.out.2 j hj').1,if_pos (by omega)];simp [smallB,L_of,List.getD_eq_getElem?_getD,List.getElem?_eq_getElem (show j < (L a0).length by rw [L_size];exact hj')]
    have hcv:=run_convert_bytes_back (P:=Tryz.prog) wr 99 9 5 ⟨w.heap.size,0,none⟩ (grownCap w a0.size 0 5) (L (smallB a0)) Tryz.underlying99 Tryz.underlying5 Tryz.underlying9 hcells;have hl:(L (smallB a0)).length=a0.size:=by rw [L_size,smallB,ofL_size,List.length_map,L_size]
    rw [hl,show (⟨(L (smallB a0)).toArray⟩:ByteArray)=smallB a0 from of_L _] at hcv;have Hk:=A_ ek;clear ek hcells hl;go_wp2
    go_ret
    exact ⟨rfl,hB.out⟩
 ·rw [if_neg hs] at h;cases h
end Go.Proofs.YtnnciiiackinpaaGreatDoor.P
end
section
namespace Go.Proofs.YtnnciiiackinpaaGreatDoor.P
open Go.RowKit Go.Proofs.YtnnciiiackinpaaGreatDoorW.PrintWords Go.Proofs.YtnnciiiackinpaaGreatDoorW.PrintLast Go.Proofs.YtnnciiiackinpaaGreatDoorW.PrintMore
attribute [local go_sem] max2_int min2_int max_two min_two max_three min_three max_four min_four
set_option linter.unusedVariables false
set_option linter.unusedSimpArgs false
set_option maxHeartbeats 8000000
set_option maxRecDepth 100000
def strings_Split.f (k:Nat) (a0:ByteArray) (a1:ByteArray):Option (List ByteArray):=(strings_genSplit.f k a0 a1 0 (-1)).bind fun t455=>(some t455)
theorem strings_Split.calls (k:Nat) (a0:ByteArray) (a1:ByteArray) (r:List ByteArray) (w:World) (h:strings_Split.f k a0 a1=some r) :
  Calls Tryz.prog 119 #[.string a0,.string a1] w fun e w'=>∃ v0_:Value,e=.returned (v0_)∧Kd.R Kd.string 9 w' w.heap.size (fun _=>True) v0_ r∧Below w.heap.size w w':=by
 have HB:=A_ (Below.refl w.heap.size w);unfold strings_Split.f at h
 have H:=h;clear h;replace H:=bindA H;obtain ⟨t455,A3,H⟩:=H;obtain rfl:=sI H;go_enter Tryz.func119,Tryz.ntmps119;go_wp2_with (first|(refine gV 136 (some 7) Tryz.func136 (strings_genSplit.calls k a0 a1 0 (-1) t455 _ A3.out) ?_;rintro v456 w4 ⟨ho0,hb⟩;have HO457:=A_ (Kd.R_lower ho0 (below_size (zz0 HB)));replace HB:=A_ (bS (zz0 HB) hb);(try clear hb ho0)))
 go_ret
 exact ⟨_,zz5,(zz12 HO457),(zz0 HB)⟩
def impl_isNormal.f (k:Nat) (a0:ByteArray):Option (Bool):=(impl_EscNorm.f k a0).bind fun bt470=>(if bt470.2=true then (some (bt470.1.toList == a0.toList)) else (some false))
theorem impl_isNormal.calls (k:Nat) (a0:ByteArray) (r:Bool) (w:World) (h:impl_isNormal.f k a0=some r) :
  Calls Tryz.prog 137 #[.string a0] w fun e w'=>e=.returned (.bool r)∧Below w.heap.size w w':=by
 have HB:=A_ (Below.refl w.heap.size w);unfold impl_isNormal.f at h
 have H:=h;clear h;replace H:=bindA H;obtain ⟨⟨t470,t471⟩,A2,H⟩:=H;try dsimp only at H
 have HF3:=A_ H;clear H;go_enter Tryz.func137,Tryz.ntmps137;go_wp2_with (first|(refine gR 117 (some 7) Tryz.func117 (impl_EscNorm.calls k a0 t470 t471 _ A2.out) ?_;rintro w4 hb;replace HB:=A_ (bS (zz0 HB) hb);(try clear hb))|((with_reducible refine atG ?_ ?_ fun K_ hK_=>?_);rfl;exact undecG)|((with_reducible refine atI ?_ fun K_ hK_=>?_);exact undecI))
 refine unG hK_ ?_;clear hK_ K_;obtain ⟨H⟩:=HF3;replace H:=iteB H;rcases H with ⟨rfl,H⟩|⟨rfl,H⟩
 ·(first|refine iteT ?_|refine iteF ?_|skip)
  obtain rfl:=sI H;(try ((with_reducible refine upS ?_);go_simp))
  go_wp2
  go_ret
  exact ⟨zz5,(zz0 HB)⟩
 ·(first|refine iteT ?_|refine iteF ?_|skip)
  obtain rfl:=sI H;(try ((with_reducible refine upS ?_);go_simp))
  go_wp2
  go_ret
  exact ⟨zz5,(zz0 HB)⟩
def spec_l1Whole.l0:Nat→ByteArray→ByteArray→ByteArray→Int→Option (ByteArray×List ByteArray×Bool×ByteArray×Bool)
 | 0,_,_,_,_=>none
 | k+1,x0,x4,x5,x6=>if x6 < (x0.size:Int) then (if 0≤x6 then (if (bt x0 x6)=47 then (if x6≤(x0.size:Int) then ((spec_l1Small.f (x0.extract 0 (x6:Int).toNat)).bind fun t200=>((spec_l1Way.f k t200 ([]:List ByteArray) false (⟨#[]⟩:ByteArray) (x0.extract (x6:Int).toNat x0.size)).bind fun bt201=>(some (bt201.1,bt201.2.1,bt201.2.2.1,bt201.2.2.2.1,bt201.2.2.2.2)))) else (none)) else (if (bt x0 x6)=63 then (if x6≤(x0.size:Int) then ((spec_l1Small.f (x0.extract 0 (x6:Int).toNat)).bind fun t208=>((spec_l1Way.f k t208 ([]:List ByteArray) false (⟨#[]⟩:ByteArray) (x0.extract (x6:Int).toNat x0.size)).bind fun bt209=>(some (bt209.1,bt209.2.1,bt209.2.2.1,bt209.2.2.2.1,bt209.2.2.2.2)))) else (none)) else (spec_l1Whole.l0 k x0 x4 x5 (wrap64 (x6+1))))) else (none)) else ((spec_l1Small.f x4).bind fun t216=>((spec_l1Way.f k t216 ([]:List ByteArray) false (⟨#[]⟩:ByteArray) x5).bind fun bt217=>(some (bt217.1,bt217.2.1,bt217.2.2.1,bt217.2.2.2.1,bt217.2.2.2.2))))
def spec_l1Whole.f (k:Nat) (a0:ByteArray):Option (ByteArray×List ByteArray×Bool×ByteArray×Bool):=spec_l1Whole.l0 k a0 a0 (⟨#[]⟩:ByteArray) 0
theorem spec_l1Whole.calls (k:Nat) (a0:ByteArray) (r1:ByteArray) (r2:List ByteArray) (r3:Bool) (r4:ByteArray) (r5:Bool) (w:World) (h:spec_l1Whole.f k a0=some (r1,r2,r3,r4,r5)) :
  Calls Tryz.prog 44 #[.string a0] w fun e w'=>∃ v1_:Value,e=.returned (.tuple #[.agg #[.string r1,v1_,.bool r3,.string r4],.bool r5])∧Kd.R Kd.string 9 w' w.heap.size (fun _=>True) v1_ r2∧Below w.heap.size w w':=by
 have hu48:=Tryz.underlying48;have HB:=A_ (Below.refl w.heap.size w);unfold spec_l1Whole.f at h
 have H:=h;clear h;have H':=A_ H;clear H;go_enter Tryz.func44,Tryz.ntmps44;go_wp2_with (first|(refine boxF 2 #[.string (⟨#[]⟩:ByteArray),.slice none 0 0,.bool false,.string (⟨#[]⟩:ByteArray)] 48 ?_;intro gb199 hg w2 BK199 hb;have GE199:=geB hg (zz0 HB);replace HB:=A_ (bS (zz0 HB) hb);clear hb hg))
 go_loopg [4,5,6] k (fun kq v4 v5 v6 w'=>∃ (x4_1:ByteArray) (x5_1:ByteArray) (x6_1:Int),v4=.string x4_1∧v5=.string x5_1∧v6=.int .i64 x6_1∧Aside0 (spec_l1Whole.l0 kq a0 x4_1 x5_1 x6_1=some (r1,r2,r3,r4,r5))∧Aside0 (kq≤k)∧Aside0 (w'.heap[gb199]?=some (.cells #[.string (⟨#[]⟩:ByteArray),(.slice none 0 0),.bool false,.string (⟨#[]⟩:ByteArray)] 48 (0,0)))∧Aside0 (Below w.heap.size w w'))
 case atStart=>exact ⟨(a0),((⟨#[]⟩:ByteArray)),(0),zz7,zz7,zz7,H',⟨Nat.le_refl _⟩,⟨(zz2 BK199)⟩,⟨(zz1 HB GE199)⟩⟩
 case round=>
  clear H';obtain ⟨x4_1,x5_1,x6_1,rfl,rfl,rfl,HA,HK1,BK199,HB⟩:=hrel;cases gk with
  | zero=>exact absurd HA.out (by simp [spec_l1Whole.l0])
  | succ k1=>
   obtain ⟨H⟩:=HA;simp only [spec_l1Whole.l0] at H
   replace H:=iteEd H;rcases H with ⟨c3b0,H⟩|⟨c3b0,H⟩
   ·replace H:=iteNd H
    obtain ⟨c4b0,H⟩:=H;replace H:=iteEq H;rcases H with ⟨c6b0,c6b1,H⟩|⟨c6b0,c6b1,c6,H⟩
    ·have c7b0:=eq_true (ofD:0≤x6_1)
     replace H:=iteN H;obtain ⟨c8,H⟩:=H;have c8b0:=eq_true c8;have c8b1:=dT c8;clear c8;have c9b0:=eq_true (ofD:0≤x6_1);have c10b0:=eq_true (ofD:x6_1≤(a0.size:Int));replace H:=bindA H;obtain ⟨t200,A11,H⟩:=H;replace H:=bindA H;obtain ⟨⟨t201,t202,t205,t206,t207⟩,A12,H⟩:=H;try dsimp only at H
     simp only [Option.some.injEq,Prod.mk.injEq] at H
     obtain ⟨rfl,rfl,rfl,rfl,rfl⟩:=H;have p5:0≤(x6_1:Int):=ofD;have q5:x6_1 < (a0.size:Int):=ofD;have hx5:=bt_at a0 x6_1;replace p5:=eq_true p5;replace q5:=eq_true q5;go_wp2_with (first|(refine gR 71 (some 31) Tryz.func71 (spec_l1Small.calls (a0.extract 0 (x6_1:Int).toNat) t200 _ A11.out) ?_;rintro w13 hb;replace BK199:=A_ (bB (zz2 BK199) hb);replace HB:=A_ (bS (zz1 HB GE199) hb);(try clear hb))|((with_reducible refine gC (f:=70) rfl ?_);refine gsL (some 34) Tryz.func70 #[.agg #[.string t200,.slice none 0 0,.bool false,.string (⟨#[]⟩:ByteArray)],.string (a0.extract (x6_1:Int).toNat a0.size)] ?_;(refine (spec_l1Way.calls k1 t200 _ _ ([]:List ByteArray) false (⟨#[]⟩:ByteArray) (a0.extract (x6_1:Int).toNat a0.size) t201 t202 t205 t206 t207 _ ?side1 ?side2 A12.out).mono ?_);(case side1=>exact Kd.C_nil _ _);(case side2=>exact Nat.le_refl _);rintro e w14 ⟨v203,rfl,ho0,hb⟩;refine ⟨_,rfl,?_⟩;have HO204:=A_ (Kd.R_lower ho0 (below_size (zz1 HB GE199)));replace BK199:=A_ (bB (zz2 BK199) hb);replace HB:=A_ (bS (zz1 HB GE199) hb);(try clear hb ho0);obtain ⟨_,_,_,_,_,_,_,_⟩:=cf4 BK199;obtain ⟨Ao16,co16,eo16⟩:=Kd.R_slice HO204.out;subst eo16))
     refine pR (results_ct rfl _ _ gb199 48 #[.string t201,.slice Ao16 t202.length co16,.bool t205,.string t206] (0,0) _ rfl (zz130 BK199) Tryz.underlying48 rfl (by kernel_rfl)) rfl ?_;exact ⟨_,zz5,(zz24 (rt HO204 BK199)),(zz1 HB GE199)⟩
    ·replace H:=iteEq H
     rcases H with ⟨c18b0,c18b1,H⟩|⟨c18b0,c18b1,c18,H⟩
     ·have c19b0:=eq_true (ofD:0≤x6_1)
      replace H:=iteN H;obtain ⟨c20,H⟩:=H;have c20b0:=eq_true c20;have c20b1:=dT c20;clear c20;have c21b0:=eq_true (ofD:0≤x6_1);have c22b0:=eq_true (ofD:x6_1≤(a0.size:Int));replace H:=bindA H;obtain ⟨t208,A23,H⟩:=H;replace H:=bindA H;obtain ⟨⟨t209,t210,t213,t214,t215⟩,A24,H⟩:=H;try dsimp only at H
      simp only [Option.some.injEq,Prod.mk.injEq] at H
      obtain ⟨rfl,rfl,rfl,rfl,rfl⟩:=H;have p5:0≤(x6_1:Int):=ofD;have q5:x6_1 < (a0.size:Int):=ofD;have hx5:=bt_at a0 x6_1;replace p5:=eq_true p5;replace q5:=eq_true q5;have p17:0≤(x6_1:Int):=ofD;have q17:x6_1 < (a0.size:Int):=ofD;have hx17:=bt_at a0 x6_1;replace p17:=eq_true p17;replace q17:=eq_true q17;go_wp2_with (first|(refine gR 71 (some 31) Tryz.func71 (spec_l1Small.calls (a0.extract 0 (x6_1:Int).toNat) t208 _ A23.out) ?_;rintro w25 hb;replace BK199:=A_ (bB (zz2 BK199) hb);replace HB:=A_ (bS (zz1 HB GE199) hb);(try clear hb))|((with_reducible refine gC (f:=70) rfl ?_);refine gsL (some 34) Tryz.func70 #[.agg #[.string t208,.slice none 0 0,.bool false,.string (⟨#[]⟩:ByteArray)],.string (a0.extract (x6_1:Int).toNat a0.size)] ?_;(refine (spec_l1Way.calls k1 t208 _ _ ([]:List ByteArray) false (⟨#[]⟩:ByteArray) (a0.extract (x6_1:Int).toNat a0.size) t209 t210 t213 t214 t215 _ ?side1 ?side2 A24.out).mono ?_);(case side1=>exact Kd.C_nil _ _);(case side2=>exact Nat.le_refl _);rintro e w26 ⟨v211,rfl,ho0,hb⟩;refine ⟨_,rfl,?_⟩;have HO212:=A_ (Kd.R_lower ho0 (below_size (zz1 HB GE199)));replace BK199:=A_ (bB (zz2 BK199) hb);replace HB:=A_ (bS (zz1 HB GE199) hb);(try clear hb ho0);obtain ⟨_,_,_,_,_,_,_,_⟩:=cf4 BK199;obtain ⟨Ao28,co28,eo28⟩:=Kd.R_slice HO212.out;subst eo28))
      refine pR (results_ct rfl _ _ gb199 48 #[.string t209,.slice Ao28 t210.length co28,.bool t213,.string t214] (0,0) _ rfl (zz130 BK199) Tryz.underlying48 rfl (by kernel_rfl)) rfl ?_;exact ⟨_,zz5,(zz24 (rt HO212 BK199)),(zz1 HB GE199)⟩
     ·have H':=A_ H
      clear H;have p5:0≤(x6_1:Int):=ofD;have q5:x6_1 < (a0.size:Int):=ofD;have hx5:=bt_at a0 x6_1;replace p5:=eq_true p5;replace q5:=eq_true q5;have p17:0≤(x6_1:Int):=ofD;have q17:x6_1 < (a0.size:Int):=ofD;have hx17:=bt_at a0 x6_1;replace p17:=eq_true p17;replace q17:=eq_true q17;go_wp2
      go_roundg k1
      case measure=>have:=HK1.out;omega
      case rel=>exact ⟨(x4_1),(x5_1),(wrap64 (x6_1+1)),zz7,zz7,zz7,H',⟨(zz17 HK1)⟩,⟨(zz2 BK199)⟩,⟨(zz1 HB GE199)⟩⟩
   ·replace H:=bindA H
    obtain ⟨t216,A29,H⟩:=H;replace H:=bindA H;obtain ⟨⟨t217,t218,t221,t222,t223⟩,A30,H⟩:=H;try dsimp only at H
    simp only [Option.some.injEq,Prod.mk.injEq] at H
    obtain ⟨rfl,rfl,rfl,rfl,rfl⟩:=H;go_wp2_with (first|(refine gR 71 (some 31) Tryz.func71 (spec_l1Small.calls x4_1 t216 _ A29.out) ?_;rintro w31 hb;replace BK199:=A_ (bB (zz2 BK199) hb);replace HB:=A_ (bS (zz1 HB GE199) hb);(try clear hb))|((with_reducible refine gC (f:=70) rfl ?_);refine gsL (some 34) Tryz.func70 #[.agg #[.string t216,.slice none 0 0,.bool false,.string (⟨#[]⟩:ByteArray)],.string x5_1] ?_;(refine (spec_l1Way.calls k1 t216 _ _ ([]:List ByteArray) false (⟨#[]⟩:ByteArray) x5_1 t217 t218 t221 t222 t223 _ ?side1 ?side2 A30.out).mono ?_);(case side1=>exact Kd.C_nil _ _);(case side2=>exact Nat.le_refl _);rintro e w32 ⟨v219,rfl,ho0,hb⟩;refine ⟨_,rfl,?_⟩;have HO220:=A_ (Kd.R_lower ho0 (below_size (zz1 HB GE199)));replace BK199:=A_ (bB (zz2 BK199) hb);replace HB:=A_ (bS (zz1 HB GE199) hb);(try clear hb ho0);obtain ⟨_,_,_,_,_,_,_,_⟩:=cf4 BK199;obtain ⟨Ao34,co34,eo34⟩:=Kd.R_slice HO220.out;subst eo34))
    refine pR (results_ct rfl _ _ gb199 48 #[.string t217,.slice Ao34 t218.length co34,.bool t221,.string t222] (0,0) _ rfl (zz130 BK199) Tryz.underlying48 rfl (by kernel_rfl)) rfl ?_;exact ⟨_,zz5,(zz24 (rt HO220 BK199)),(zz1 HB GE199)⟩
def spec_AddrRead.f (k:Nat) (a0:ByteArray):Option (ByteArray×List ByteArray×Bool×ByteArray×Bool):=(spec_l1Cut.f k a0 35).bind fun bt225=>(if (a0.size:Int) > 60 then (some ((⟨#[]⟩:ByteArray),([]:List ByteArray),false,(⟨#[]⟩:ByteArray),false)) else (if (bt225.1.size:Int) < 2 then (some ((⟨#[]⟩:ByteArray),([]:List ByteArray),false,(⟨#[]⟩:ByteArray),false)) else (if 0≤2 then (if 2≤(bt225.1.size:Int) then (if (bt225.1.extract 0 2).toList=([47,47]:List UInt8) then ((spec_l1Whole.f k (bt225.1.extract 2 bt225.1.size)).bind fun bt228=>(some (bt228.1,bt228.2.1,bt228.2.2.1,bt228.2.2.2.1,bt228.2.2.2.2))) else (some ((⟨#[]⟩:ByteArray),([]:List ByteArray),false,(⟨#[]⟩:ByteArray),false))) else (none)) else (none))))
theorem spec_AddrRead.calls (k:Nat) (a0:ByteArray) (r1:ByteArray) (r2:List ByteArray) (r3:Bool) (r4:ByteArray) (r5:Bool) (w:World) (h:spec_AddrRead.f k a0=some (r1,r2,r3,r4,r5)) :
  Calls Tryz.prog 23 #[.string a0] w fun e w'=>∃ v1_:Value,e=.returned (.tuple #[.agg #[.string r1,v1_,.bool r3,.string r4],.bool r5])∧Kd.R Kd.string 9 w' w.heap.size (fun _=>True) v1_ r2∧Below w.heap.size w w':=by
 have hu48:=Tryz.underlying48;have HB:=A_ (Below.refl w.heap.size w);unfold spec_AddrRead.f at h
 have H:=h;clear h;replace H:=bindA H;obtain ⟨⟨t225,t226,t227⟩,A2,H⟩:=H;try dsimp only at H
 have HF3:=A_ H;clear H;go_enter Tryz.func23,Tryz.ntmps23;go_wp2_with (first|((with_reducible refine gD (N:=2) rfl ?_);(try (refine gate_guard (by rfl) ?_;dsimp only));refine boxE 2 #[.string (⟨#[]⟩:ByteArray),.slice none 0 0,.bool false,.string (⟨#[]⟩:ByteArray)] 48 ?_;intro gb224 hg w4 hbox hb;have BK224:=A_ (hbox);have GE224:=geB hg (zz0 HB);replace HB:=A_ (bS (zz0 HB) hb);clear hb hbox hg)|(refine gR 43 (some 9) Tryz.func43 (spec_l1Cut.calls k a0 35 t225 t226 t227 _ A2.out) ?_;rintro w' ⟨nd,rfl⟩)|((with_reducible refine atG ?_ ?_ fun K_ hK_=>?_);rfl;exact undecG)|((with_reducible refine atI ?_ fun K_ hK_=>?_);exact undecI))
 refine unG hK_ ?_;clear hK_ K_;obtain ⟨H⟩:=HF3;replace H:=iteE H;rcases H with ⟨c5,H⟩|⟨c5,H⟩
 ·have c5b0:=gtT c5
  have c5b1:decide (60 < a0.size)=true:=dT (by omega);(first|refine iteT ?_|refine iteF ?_|skip)
  clear c5;(first|rw [c5b0]|(simp only [i64_w,i32_w];rw [c5b0])|skip)
  simp only [Option.some.injEq,Prod.mk.injEq] at H
  obtain ⟨rfl,rfl,rfl,rfl,rfl⟩:=H;obtain ⟨_,_,_,_,_,_,_,_⟩:=cf4 BK224;(try ((with_reducible refine upS ?_);go_simp))
  go_wp2
  refine pR (results_ct rfl _ _ gb224 48 #[.string (⟨#[]⟩:ByteArray),.slice none 0 0,.bool false,.string (⟨#[]⟩:ByteArray)] (0,0) _ rfl (zz130 BK224) Tryz.underlying48 rfl (by kernel_rfl)) rfl ?_;exact ⟨_,zz5,zz85,(zz1 HB GE224)⟩
 ·have c5b0:=gtF c5
  have c5b1:decide (60 < a0.size)=false:=dF (by omega);(first|refine iteT ?_|refine iteF ?_|skip)
  clear c5;(first|rw [c5b0]|(simp only [i64_w,i32_w];rw [c5b0])|skip)
  replace H:=iteE H;rcases H with ⟨c7,H⟩|⟨c7,H⟩
  ·have c7b0:=dT c7
   have c7b1:decide (t225.size < 2)=true:=dT (by omega);clear c7;simp only [Option.some.injEq,Prod.mk.injEq] at H
   obtain ⟨rfl,rfl,rfl,rfl,rfl⟩:=H;obtain ⟨_,_,_,_,_,_,_,_⟩:=cf4 BK224;go_wp2
   refine pR (results_ct rfl _ _ gb224 48 #[.string (⟨#[]⟩:ByteArray),.slice none 0 0,.bool false,.string (⟨#[]⟩:ByteArray)] (0,0) _ rfl (zz130 BK224) Tryz.underlying48 rfl (by kernel_rfl)) rfl ?_;exact ⟨_,zz5,zz85,(zz1 HB GE224)⟩
  ·have c7b0:=dF c7
   have c7b1:decide (t225.size < 2)=false:=dF (by omega);clear c7;replace H:=iteE H;rcases H with ⟨c9,H⟩|⟨c9,H⟩
   ·have c9b0:=eq_true c9
    have c9b1:=dT c9;clear c9;replace H:=iteN H;obtain ⟨c10,H⟩:=H;have c10b0:=eq_true c10;have c10b1:=dT c10;clear c10;replace H:=iteEq H;rcases H with ⟨c11b0,c11b1,H⟩|⟨c11b0,c11b1,c11,H⟩
    ·have c12b0:=eq_true (ofD:2≤(t225.size:Int))
     replace H:=bindA H;obtain ⟨⟨t228,t229,t232,t233,t234⟩,A13,H⟩:=H;try dsimp only at H
     simp only [Option.some.injEq,Prod.mk.injEq] at H
     obtain ⟨rfl,rfl,rfl,rfl,rfl⟩:=H;go_wp2_with (first|(refine gV 44 (some 29) Tryz.func44 (spec_l1Whole.calls k (t225.extract 2 t225.size) t228 t229 t232 t233 t234 _ A13.out) ?_;rintro v230 w14 ⟨ho0,hb⟩;have HO231:=A_ (Kd.R_lower ho0 (below_size (zz1 HB GE224)));replace BK224:=A_ (bB (zz2 BK224) hb);replace HB:=A_ (bS (zz1 HB GE224) hb);(try clear hb ho0);obtain ⟨_,_,_,_,_,_,_,_⟩:=cf4 BK224;obtain ⟨Ao16,co16,eo16⟩:=Kd.R_slice HO231.out;subst eo16))
     refine pR (results_ct rfl _ _ gb224 48 #[.string t228,.slice Ao16 t229.length co16,.bool t232,.string t233] (0,0) _ rfl (zz130 BK224) Tryz.underlying48 rfl (by kernel_rfl)) rfl ?_;exact ⟨_,zz5,(zz24 (rt HO231 BK224)),(zz1 HB GE224)⟩
    ·simp only [Option.some.injEq,Prod.mk.injEq] at H
     obtain ⟨rfl,rfl,rfl,rfl,rfl⟩:=H;obtain ⟨_,_,_,_,_,_,_,_⟩:=cf4 BK224;go_wp2
     refine pR (results_ct rfl _ _ gb224 48 #[.string (⟨#[]⟩:ByteArray),.slice none 0 0,.bool false,.string (⟨#[]⟩:ByteArray)] (0,0) _ rfl (zz130 BK224) Tryz.underlying48 rfl (by kernel_rfl)) rfl ?_;exact ⟨_,zz5,zz85,(zz1 HB GE224)⟩
   ·exact absurd H (by simp)
def spec_l11Norm.f (k:Nat) (a0:ByteArray):Option (Bool):=(spec_AddrRead.f k a0).bind fun bt238=>(if bt238.2.2.2.2=true then ((spec_AddrText.f k bt238.1 bt238.2.1 bt238.2.2.1 bt238.2.2.2.1).bind fun t246=>(some (t246.toList == a0.toList))) else (some false))
theorem spec_l11Norm.calls (k:Nat) (a0:ByteArray) (r:Bool) (w:World) (h:spec_l11Norm.f k a0=some r) :
  Calls Tryz.prog 41 #[.string a0] w fun e w'=>e=.returned (.bool r)∧Below w.heap.size w w':=by
 have hu48:=Tryz.underlying48;have HB:=A_ (Below.refl w.heap.size w);unfold spec_l11Norm.f at h
 have H:=h;clear h;replace H:=bindA H;obtain ⟨⟨t238,t239,t242,t243,t244⟩,A2,H⟩:=H;try dsimp only at H
 have HF3:=A_ H;clear H;go_enter Tryz.func41,Tryz.ntmps41;go_wp2_with (first|(refine gV 23 (some 7) Tryz.func23 (spec_AddrRead.calls k a0 t238 t239 t242 t243 t244 _ A2.out) ?_;rintro v240 w4 ⟨ho0,hb⟩;have HO241:=A_ (Kd.R_lower ho0 (below_size (zz0 HB)));replace HB:=A_ (bS (zz0 HB) hb);(try clear hb ho0))|(refine boxF 3 #[.string (⟨#[]⟩:ByteArray),.slice none 0 0,.bool false,.string (⟨#[]⟩:ByteArray)] 48 ?_;intro gb245 hg w5 BK245 hb;replace HO241:=A_ (rB (zz12 HO241) hb);have GE245:=geB hg (zz0 HB);replace HB:=A_ (bS (zz0 HB) hb);clear hb hg;obtain ⟨_,_,_,_,_,_,_,_⟩:=cf4 BK245;obtain ⟨Ao7,co7,eo7⟩:=Kd.R_slice HO241.out;subst eo7)|((with_reducible refine gate_store (t:=48) (p:=3) rfl ?_);refine store_event (t:=48) (p:=3) (v:=?vo_w8) (w1:=((((w5.setCell ⟨gb245,0,none⟩ (.string t238)).setCell ⟨gb245,1,none⟩ (.slice Ao7 t239.length co7)).setCell ⟨gb245,2,none⟩ (.bool t242)).setCell ⟨gb245,3,none⟩ (.string t243))) ?hg ?ho ?hn ?hr ?_;(case ho=>rfl);(case hg=>rfl);(case hn=>rfl);(case hr=>exact zz14);intro w8 hw;have n0_:Aside0 (Kd.R Kd.string 9 w8 w.heap.size (fun _=>True) (.slice Ao7 t239.length co7) t239):=⟨(by rw [hw];exact (zz24 (rt HO241 BK245)))⟩;have n1_:Aside0 (w8.heap[gb245]?=some (.cells #[.string t238,.slice Ao7 t239.length co7,.bool t242,.string t243] 48 (0,0))):=⟨(by rw [hw];exact (zz130 BK245))⟩;have n2_:Aside0 (Below w.heap.size w w8):=⟨(by rw [hw];exact (zz1 HB GE245))⟩;clear hw;clear HO241;clear BK245;clear HB;have HO241:=n0_;have BK245:=n1_;have HB:=n2_;clear n0_ n1_ n2_)|((with_reducible refine atG ?_ ?_ fun K_ hK_=>?_);rfl;exact undecG)|((with_reducible refine atI ?_ fun K_ hK_=>?_);exact undecI))
 refine unG hK_ ?_;clear hK_ K_;obtain ⟨H⟩:=HF3;replace H:=iteB H;rcases H with ⟨rfl,H⟩|⟨rfl,H⟩
 ·(first|refine iteT ?_|refine iteF ?_|skip)
  replace H:=bindA H;obtain ⟨t246,A10,H⟩:=H;obtain rfl:=sI H;obtain ⟨_,_,_,_,_,_,_,_⟩:=cf4 BK245;(try ((with_reducible refine upS ?_);go_simp))
  go_wp2_with (first|(go_at_call 65;(with_reducible refine (spec_AddrText.calls k t238 _ _ t239 t242 t243 t246 _ ?side1 ?side2 A10.out).mono ?_);(case side1=>exact (zz131 HO241));(case side2=>exact (Kd.R_reads' HO241.out).2.1);rintro e w12 ⟨rfl,hb⟩;replace HO241:=A_ (rB (zz12 HO241) hb);replace BK245:=A_ (bB (zz2 BK245) hb);replace HB:=A_ (bS (zz1 HB GE245) hb);(try clear hb)))
  go_ret
  exact ⟨zz5,(zz1 HB GE245)⟩
 ·(first|refine iteT ?_|refine iteF ?_|skip)
  obtain rfl:=sI H;(try ((with_reducible refine upS ?_);go_simp))
  go_wp2
  go_ret
  exact ⟨zz5,(zz1 HB GE245)⟩
mutual
def spec_l12Items.l0:Nat→Int→ByteArray→Int→List (S82)→List ByteArray→List (S52)→ByteArray→Int→Bool→List ByteArray→List (S104)→Int→Int→List (S111)→Option (Bool)
 | 0,_,_,_,_,_,_,_,_,_,_,_,_,_,_=>none
 | k+1,x5,x251000,x251001,x251002,x251003,x251004,x252000,x252001,x252002,x252003,x252004,x252005,x252006,x252007=>if x5 < (x252007.length:Int) then (if 0≤x5 then ((spec_AddrRead.f k ((rd_T111 x252007 x5).f0)).bind fun bt253=>(if bt253.2.2.2.2=true then (if bt253.1.toList=x252000.toList then ((spec_l6In.f ((rd_T111 x252007 x5).f1) 0 2).bind fun t262=>(spec_l12Items.j1 k x5 (!t262) x251000 x251001 x251002 x251003 x251004 x252000 x252001 x252002 x252003 x252004 x252005 x252006 x252007)) else (spec_l12Items.j1 k x5 true x251000 x251001 x251002 x251003 x251004 x252000 x252001 x252002 x252003 x252004 x252005 x252006 x252007)) else (spec_l12Items.j1 k x5 true x251000 x251001 x251002 x251003 x251004 x252000 x252001 x252002 x252003 x252004 x252005 x252006 x252007))) else (none)) else (some true)
def spec_l12Items.j1:Nat→Int→Bool→ByteArray→Int→List (S82)→List ByteArray→List (S52)→ByteArray→Int→Bool→List ByteArray→List (S104)→Int→Int→List (S111)→Option (Bool)
 | 0,_,_,_,_,_,_,_,_,_,_,_,_,_,_,_=>none
 | k+1,x5,x46,x251000,x251001,x251002,x251003,x251004,x252000,x252001,x252002,x252003,x252004,x252005,x252006,x252007=>if x46=true then (some false) else (spec_l12Items.l1 k x5 false 0 x251000 x251001 x251002 x251003 x251004 x252000 x252001 x252002 x252003 x252004 x252005 x252006 x252007)
def spec_l12Items.l1:Nat→Int→Bool→Int→ByteArray→Int→List (S82)→List ByteArray→List (S52)→ByteArray→Int→Bool→List ByteArray→List (S104)→Int→Int→List (S111)→Option (Bool)
 | 0,_,_,_,_,_,_,_,_,_,_,_,_,_,_,_,_=>none
 | k+1,x5,x8,x9,x251000,x251001,x251002,x251003,x251004,x252000,x252001,x252002,x252003,x252004,x252005,x252006,x252007=>if x9 < (x251003.length:Int) then (if x8=true then (spec_l12Items.l1 k x5 true (wrap64 (x9+1)) x251000 x251001 x251002 x251003 x251004 x252000 x252001 x252002 x252003 x252004 x252005 x252006 x252007) else (if 0≤x9 then (if 0≤x5 then (if x5 < (x252007.length:Int) then (spec_l12Items.l1 k x5 ((rdOf ByteArray.empty x251003 x9).toList == ((rd_T111 x252007 x5).f0).toList) (wrap64 (x9+1)) x251000 x251001 x251002 x251003 x251004 x252000 x252001 x252002 x252003 x252004 x252005 x252006 x252007) else (none)) else (none)) else (none))) else (spec_l12Items.l2 k x5 x8 0 x251000 x251001 x251002 x251003 x251004 x252000 x252001 x252002 x252003 x252004 x252005 x252006 x252007)
def spec_l12Items.l2:Nat→Int→Bool→Int→ByteArray→Int→List (S82)→List ByteArray→List (S52)→ByteArray→Int→Bool→List ByteArray→List (S104)→Int→Int→List (S111)→Option (Bool)
 | 0,_,_,_,_,_,_,_,_,_,_,_,_,_,_,_,_=>none
 | k+1,x5,x8,x10,x251000,x251001,x251002,x251003,x251004,x252000,x252001,x252002,x252003,x252004,x252005,x252006,x252007=>if x10 < x5 then (if x8=true then (if 0≤x10 then (if x10 < (x252007.length:Int) then (if 0≤x5 then (if x5 < (x252007.length:Int) then (spec_l12Items.l2 k x5 (((rd_T111 x252007 x10).f0).toList != ((rd_T111 x252007 x5).f0).toList) (wrap64 (x10+1)) x251000 x251001 x251002 x251003 x251004 x252000 x252001 x252002 x252003 x252004 x252005 x252006 x252007) else (none)) else (none)) else (none)) else (none)) else (spec_l12Items.l2 k x5 false (wrap64 (x10+1)) x251000 x251001 x251002 x251003 x251004 x252000 x252001 x252002 x252003 x252004 x252005 x252006 x252007)) else (if x8=true then (spec_l12Items.l0 k (wrap64 (x5+1)) x251000 x251001 x251002 x251003 x251004 x252000 x252001 x252002 x252003 x252004 x252005 x252006 x252007) else (some false))
end
def spec_l12Items.f (k:Nat) (a0_0:ByteArray) (a0_1:Int) (l0_2:List (S82)) (l0_3:List ByteArray) (l0_4:List (S52)) (a1_0:ByteArray) (a1_1:Int) (a1_2:Bool) (l1_3:List ByteArray) (l1_4:List (S104)) (a1_5:Int) (a1_6:Int) (l1_7:List (S111)):Option (Bool):=spec_l12Items.l0 k 0 a0_0 a0_1 l0_2 l0_3 l0_4 a1_0 a1_1 a1_2 l1_3 l1_4 a1_5 a1_6 l1_7
theorem spec_l12Items.calls (k:Nat) (a0_0:ByteArray) (a0_1:Int) (A0_2:Option Addr) (c0_2:Nat) (l0_2:List (S82)) (A0_3:Option Addr) (c0_3:Nat) (l0_3:List ByteArray) (A0_4:Option Addr) (c0_4:Nat) (l0_4:List (S52)) (a1_0:ByteArray) (a1_1:Int) (a1_2:Bool) (A1_3:Option Addr) (c1_3:Nat) (l1_3:List ByteArray) (A1_4:Option Addr) (c1_4:Nat) (l1_4:List (S104)) (a1_5:Int) (a1_6:Int) (A1_7:Option Addr) (c1_7:Nat) (l1_7:List (S111)) (r:Bool) (w:World) (hr0_2:Kd.C k82 w A0_2 l0_2.length l0_2) (hc0_2:l0_2.length≤c0_2) (hr0_3:Kd.C Kd.string w A0_3 l0_3.length l0_3) (hc0_3:l0_3.length≤c0_3) (hr0_4:Kd.C k52 w A0_4 l0_4.length l0_4) (hc0_4:l0_4.length≤c0_4) (hr1_3:Kd.C Kd.string w A1_3 l1_3.length l1_3) (hc1_3:l1_3.length≤c1_3) (hr1_4:Kd.C k104 w A1_4 l1_4.length l1_4) (hc1_4:l1_4.length≤c1_4) (hr1_7:Kd.C k111 w A1_7 l1_7.length l1_7) (hc1_7:l1_7.length≤c1_7) (h:spec_l12Items.f k a0_0 a0_1 l0_2 l0_3 l0_4 a1_0 a1_1 a1_2 l1_3 l1_4 a1_5 a1_6 l1_7=some r) :
  Calls Tryz.prog 69 #[.agg #[.string a0_0,.int .i64 a0_1,.slice A0_2 l0_2.length c0_2,.slice A0_3 l0_3.length c0_3,.slice A0_4 l0_4.length c0_4],.agg #[.string a1_0,.int .i64 a1_1,.bool a1_2,.slice A1_3 l1_3.length c1_3,.slice A1_4 l1_4.length c1_4,.int .i64 a1_5,.int .i64 a1_6,.slice A1_7 l1_7.length c1_7]] w fun e w'=>e=.returned (.bool r)∧Below w.heap.size w w':=by
 have hu33:=Tryz.underlying33;have hu82:=Tryz.underlying82;have hu48:=Tryz.underlying48;have HR0_2:=A_ hr0_2;have HC0_2:=A_ hc0_2;clear hr0_2 hc0_2;have HR0_3:=A_ hr0_3;have HC0_3:=A_ hc0_3;clear hr0_3 hc0_3;have HR0_4:=A_ hr0_4;have HC0_4:=A_ hc0_4;clear hr0_4 hc0_4;have HR1_3:=A_ hr1_3;have HC1_3:=A_ hc1_3;clear hr1_3 hc1_3;have HR1_4:=A_ hr1_4;have HC1_4:=A_ hc1_4;clear hr1_4 hc1_4;have HR1_7:=A_ hr1_7;have HC1_7:=A_ hc1_7;clear hr1_7 hc1_7;have HB:=A_ (Below.refl w.heap.size w);unfold spec_l12Items.f at h
 have H:=h;clear h;have H':=A_ H;clear H;go_enter Tryz.func69,Tryz.ntmps69;go_wp2_with (first|(refine boxF 2 #[.string a0_0,.int .i64 a0_1,.slice A0_2 l0_2.length c0_2,.slice A0_3 l0_3.length c0_3,.slice A0_4 l0_4.length c0_4] 33 ?_;intro gb250 hg w3 BK250 hb;have GE250:=geB hg (zz0 HB);replace HB:=A_ (bS (zz0 HB) hb);clear hb hg)|(refine boxF 3 #[.string a1_0,.int .i64 a1_1,.bool a1_2,.slice A1_3 l1_3.length c1_3,.slice A1_4 l1_4.length c1_4,.int .i64 a1_5,.int .i64 a1_6,.slice A1_7 l1_7.length c1_7] 82 ?_;intro gb251 hg w4 BK251 hb;have GE251:=geB hg (zz1 HB GE250);replace HB:=A_ (bS (zz1 HB GE250) hb);have NB250_251:=A_ ((by rw [hg];exact Nat.ne_of_lt (blk_lt (zz2 BK250)):gb250≠gb251));have NB251_250:=A_ ((by rw [hg];exact Nat.ne_of_gt (blk_lt (zz2 BK250)):gb251≠gb250));replace BK250:=A_ (bB (zz2 BK250) hb);clear hb hg))
 repeat (go_quiet (first|(refine boxF 2 #[.string a0_0,.int .i64 a0_1,.slice A0_2 l0_2.length c0_2,.slice A0_3 l0_3.length c0_3,.slice A0_4 l0_4.length c0_4] 33 ?_;intro gb250 hg w3 BK250 hb;have GE250:=geB hg (zz0 HB);replace HB:=A_ (bS (zz0 HB) hb);clear hb hg)|(refine boxF 3 #[.string a1_0,.int .i64 a1_1,.bool a1_2,.slice A1_3 l1_3.length c1_3,.slice A1_4 l1_4.length c1_4,.int .i64 a1_5,.int .i64 a1_6,.slice A1_7 l1_7.length c1_7] 82 ?_;intro gb251 hg w4 BK251 hb;have GE251:=geB hg (zz1 HB GE250);replace HB:=A_ (bS (zz1 HB GE250) hb);have NB250_251:=A_ ((by rw [hg];exact Nat.ne_of_lt (blk_lt (zz2 BK250)):gb250≠gb251));have NB251_250:=A_ ((by rw [hg];exact Nat.ne_of_gt (blk_lt (zz2 BK250)):gb251≠gb250));replace BK250:=A_ (bB (zz2 BK250) hb);clear hb hg));try go_wp2_with (first|(refine boxF 2 #[.string a0_0,.int .i64 a0_1,.slice A0_2 l0_2.length c0_2,.slice A0_3 l0_3.length c0_3,.slice A0_4 l0_4.length c0_4] 33 ?_;intro gb250 hg w3 BK250 hb;have GE250:=geB hg (zz0 HB);replace HB:=A_ (bS (zz0 HB) hb);clear hb hg)|(refine boxF 3 #[.string a1_0,.int .i64 a1_1,.bool a1_2,.slice A1_3 l1_3.length c1_3,.slice A1_4 l1_4.length c1_4,.int .i64 a1_5,.int .i64 a1_6,.slice A1_7 l1_7.length c1_7] 82 ?_;intro gb251 hg w4 BK251 hb;have GE251:=geB hg (zz1 HB GE250);replace HB:=A_ (bS (zz1 HB GE250) hb);have NB250_251:=A_ ((by rw [hg];exact Nat.ne_of_lt (blk_lt (zz2 BK250)):gb250≠gb251));have NB251_250:=A_ ((by rw [hg];exact Nat.ne_of_gt (blk_lt (zz2 BK250)):gb251≠gb250));replace BK250:=A_ (bB (zz2 BK250) hb);clear hb hg)))
 go_loopg [5] k (fun kq v5 w'=>∃ (x5_1:Int),v5=.int .i64 x5_1∧Aside0 (spec_l12Items.l0 kq x5_1 a0_0 a0_1 l0_2 l0_3 l0_4 a1_0 a1_1 a1_2 l1_3 l1_4 a1_5 a1_6 l1_7=some r)∧Aside0 (kq≤k)∧Aside0 (w'.heap[gb250]?=some (.cells #[.string a0_0,.int .i64 a0_1,(.slice A0_2 l0_2.length c0_2),(.slice A0_3 l0_3.length c0_3),(.slice A0_4 l0_4.length c0_4)] 33 (0,0)))∧Aside0 (w'.heap[gb251]?=some (.cells #[.string a1_0,.int .i64 a1_1,.bool a1_2,(.slice A1_3 l1_3.length c1_3),(.slice A1_4 l1_4.length c1_4),.int .i64 a1_5,.int .i64 a1_6,(.slice A1_7 l1_7.length c1_7)] 82 (0,0)))∧Aside0 (Below w.heap.size w w'))
 case atStart=>exact ⟨(0),zz7,H',⟨Nat.le_refl _⟩,⟨(zz2 BK250)⟩,⟨(zz2 BK251)⟩,⟨(zz3 HB GE250 GE251)⟩⟩
 case round=>
  clear H';obtain ⟨x5_1,rfl,HA,HK1,BK250,BK251,HB⟩:=hrel;cases gk with
  | zero=>exact absurd HA.out (by simp [spec_l12Items.l0])
  | succ k1=>
   obtain ⟨H⟩:=HA;simp only [spec_l12Items.l0] at H
   replace H:=iteEd H;rcases H with ⟨c5b0,H⟩|⟨c5b0,H⟩
   ·replace H:=iteNd H
    obtain ⟨c6b0,H⟩:=H;replace H:=bindA H;obtain ⟨⟨t253,t254,t257,t258,t259⟩,A7,H⟩:=H;try dsimp only at H
    have HC8:=A_ H;clear H;have hnb9:=NB251_250.out;have hnc9:=NB250_251.out;have hcz10_0:wr.cell? ⟨gb251,0,none⟩=some (.string a1_0):=(blk_cell BK251.out 0).trans rfl;have hcz10_1:wr.cell? ⟨gb251,1,none⟩=some (.int .i64 a1_1):=(blk_cell BK251.out 1).trans rfl;have hcz10_2:wr.cell? ⟨gb251,2,none⟩=some (.bool a1_2):=(blk_cell BK251.out 2).trans rfl;have hcz10_3:wr.cell? ⟨gb251,3,none⟩=some (.slice A1_3 l1_3.length c1_3):=(blk_cell BK251.out 3).trans rfl;have hcz10_4:wr.cell? ⟨gb251,4,none⟩=some (.slice A1_4 l1_4.length c1_4):=(blk_cell BK251.out 4).trans rfl;have hcz10_5:wr.cell? ⟨gb251,5,none⟩=some (.int .i64 a1_5):=(blk_cell BK251.out 5).trans rfl;have hcz10_6:wr.cell? ⟨gb251,6,none⟩=some (.int .i64 a1_6):=(blk_cell BK251.out 6).trans rfl;have hcz10_7:wr.cell? ⟨gb251,7,none⟩=some (.slice A1_7 l1_7.length c1_7):=(blk_cell BK251.out 7).trans rfl;have hfz10_0:=blk_frozen BK251.out 0;have hfz10_1:=blk_frozen BK251.out 1;have hfz10_2:=blk_frozen BK251.out 2;have hfz10_3:=blk_frozen BK251.out 3;have hfz10_4:=blk_frozen BK251.out 4;have hfz10_5:=blk_frozen BK251.out 5;have hfz10_6:=blk_frozen BK251.out 6;have hfz10_7:=blk_frozen BK251.out 7;obtain ⟨⟨ad252,e252,hx252_0,hx252_1⟩,p252,q252⟩:=atB (at_T111 HR1_7.out x5_1);cases e252
    obtain ⟨hx252_0,hx252_1⟩:=cb2 HB hx252_0 hx252_1;go_upto_region 5 with (first|(go_at_call 23;(with_reducible refine (spec_AddrRead.calls k1 ((rd_T111 l1_7 x5_1).f0) t253 t254 t257 t258 t259 _ A7.out).mono ?_);rintro e w11 ⟨v255,rfl,ho0,hb⟩;have HO256:=A_ (Kd.R_lower ho0 (below_size (zz3 HB GE250 GE251)));replace BK250:=A_ (bB (zz2 BK250) hb);replace BK251:=A_ (bB (zz2 BK251) hb);replace HB:=A_ (bS (zz3 HB GE250 GE251) hb);(try clear hb ho0))|(refine boxF 6 #[.string (⟨#[]⟩:ByteArray),.slice none 0 0,.bool false,.string (⟨#[]⟩:ByteArray)] 48 ?_;intro gb260 hg w12 BK260 hb;replace HO256:=A_ (rB (zz12 HO256) hb);have GE260:=geB hg (zz3 HB GE250 GE251);have GW260:=GE260;replace HB:=A_ (bS (zz3 HB GE250 GE251) hb);have NB250_260:=A_ ((by rw [hg];exact Nat.ne_of_lt (blk_lt (zz2 BK250)):gb250≠gb260));have NB260_250:=A_ ((by rw [hg];exact Nat.ne_of_gt (blk_lt (zz2 BK250)):gb260≠gb250));replace BK250:=A_ (bB (zz2 BK250) hb);have NB251_260:=A_ ((by rw [hg];exact Nat.ne_of_lt (blk_lt (zz2 BK251)):gb251≠gb260));have NB260_251:=A_ ((by rw [hg];exact Nat.ne_of_gt (blk_lt (zz2 BK251)):gb260≠gb251));replace BK251:=A_ (bB (zz2 BK251) hb);clear hb hg;have hnb13:=NB260_250.out;have hnc13:=NB250_260.out;have hnb14:=NB260_251.out;have hnc14:=NB251_260.out;obtain ⟨_,_,_,_,_,_,_,_⟩:=cf4 BK260;obtain ⟨Ao16,co16,eo16⟩:=Kd.R_slice HO256.out;subst eo16))
    repeat (go_quiet (first|(go_at_call 23;(with_reducible refine (spec_AddrRead.calls k1 ((rd_T111 l1_7 x5_1).f0) t253 t254 t257 t258 t259 _ A7.out).mono ?_);rintro e w11 ⟨v255,rfl,ho0,hb⟩;have HO256:=A_ (Kd.R_lower ho0 (below_size (zz3 HB GE250 GE251)));replace BK250:=A_ (bB (zz2 BK250) hb);replace BK251:=A_ (bB (zz2 BK251) hb);replace HB:=A_ (bS (zz3 HB GE250 GE251) hb);(try clear hb ho0))|(refine boxF 6 #[.string (⟨#[]⟩:ByteArray),.slice none 0 0,.bool false,.string (⟨#[]⟩:ByteArray)] 48 ?_;intro gb260 hg w12 BK260 hb;replace HO256:=A_ (rB (zz12 HO256) hb);have GE260:=geB hg (zz3 HB GE250 GE251);have GW260:=GE260;replace HB:=A_ (bS (zz3 HB GE250 GE251) hb);have NB250_260:=A_ ((by rw [hg];exact Nat.ne_of_lt (blk_lt (zz2 BK250)):gb250≠gb260));have NB260_250:=A_ ((by rw [hg];exact Nat.ne_of_gt (blk_lt (zz2 BK250)):gb260≠gb250));replace BK250:=A_ (bB (zz2 BK250) hb);have NB251_260:=A_ ((by rw [hg];exact Nat.ne_of_lt (blk_lt (zz2 BK251)):gb251≠gb260));have NB260_251:=A_ ((by rw [hg];exact Nat.ne_of_gt (blk_lt (zz2 BK251)):gb260≠gb251));replace BK251:=A_ (bB (zz2 BK251) hb);clear hb hg;have hnb13:=NB260_250.out;have hnc13:=NB250_260.out;have hnb14:=NB260_251.out;have hnc14:=NB251_260.out;obtain ⟨_,_,_,_,_,_,_,_⟩:=cf4 BK260;obtain ⟨Ao16,co16,eo16⟩:=Kd.R_slice HO256.out;subst eo16));go_upto_region 5 with (first|(go_at_call 23;(with_reducible refine (spec_AddrRead.calls k1 ((rd_T111 l1_7 x5_1).f0) t253 t254 t257 t258 t259 _ A7.out).mono ?_);rintro e w11 ⟨v255,rfl,ho0,hb⟩;have HO256:=A_ (Kd.R_lower ho0 (below_size (zz3 HB GE250 GE251)));replace BK250:=A_ (bB (zz2 BK250) hb);replace BK251:=A_ (bB (zz2 BK251) hb);replace HB:=A_ (bS (zz3 HB GE250 GE251) hb);(try clear hb ho0))|(refine boxF 6 #[.string (⟨#[]⟩:ByteArray),.slice none 0 0,.bool false,.string (⟨#[]⟩:ByteArray)] 48 ?_;intro gb260 hg w12 BK260 hb;replace HO256:=A_ (rB (zz12 HO256) hb);have GE260:=geB hg (zz3 HB GE250 GE251);have GW260:=GE260;replace HB:=A_ (bS (zz3 HB GE250 GE251) hb);have NB250_260:=A_ ((by rw [hg];exact Nat.ne_of_lt (blk_lt (zz2 BK250)):gb250≠gb260));have NB260_250:=A_ ((by rw [hg];exact Nat.ne_of_gt (blk_lt (zz2 BK250)):gb260≠gb250));replace BK250:=A_ (bB (zz2 BK250) hb);have NB251_260:=A_ ((by rw [hg];exact Nat.ne_of_lt (blk_lt (zz2 BK251)):gb251≠gb260));have NB260_251:=A_ ((by rw [hg];exact Nat.ne_of_gt (blk_lt (zz2 BK251)):gb260≠gb251));replace BK251:=A_ (bB (zz2 BK251) hb);clear hb hg;have hnb13:=NB260_250.out;have hnc13:=NB250_260.out;have hnb14:=NB260_251.out;have hnc14:=NB251_260.out;obtain ⟨_,_,_,_,_,_,_,_⟩:=cf4 BK260;obtain ⟨Ao16,co16,eo16⟩:=Kd.R_slice HO256.out;subst eo16)))
    (try simp only [Act.put,List.setIfInBounds_toArray,List.set_cons_zero,List.set_cons_succ])
    go_cut [46] (fun v46 wc=>∃ (kq:Nat) (x46_7:Bool),v46=.bool x46_7∧Aside0 (spec_l12Items.j1 kq x5_1 x46_7 a0_0 a0_1 l0_2 l0_3 l0_4 a1_0 a1_1 a1_2 l1_3 l1_4 a1_5 a1_6 l1_7=some r)∧Aside0 (kq≤k1)∧Aside0 (Kd.R Kd.string 9 wc w.heap.size (fun _=>True) (.slice Ao16 t254.length co16) t254)∧Aside0 (wc.heap[gb250]?=some (.cells #[.string a0_0,.int .i64 a0_1,(.slice A0_2 l0_2.length c0_2),(.slice A0_3 l0_3.length c0_3),(.slice A0_4 l0_4.length c0_4)] 33 (0,0)))∧Aside0 (wc.heap[gb251]?=some (.cells #[.string a1_0,.int .i64 a1_1,.bool a1_2,(.slice A1_3 l1_3.length c1_3),(.slice A1_4 l1_4.length c1_4),.int .i64 a1_5,.int .i64 a1_6,(.slice (some ad252) l1_7.length c1_7)] 82 (0,0)))∧Aside0 (wc.heap[gb260]?=some (.cells #[.string t253,(.slice Ao16 t254.length co16),.bool t257,.string t258] 48 (0,0)))∧Aside0 (Below w.heap.size w wc))
    case first=>
     obtain ⟨H⟩:=HC8;replace H:=iteB H;rcases H with ⟨rfl,H⟩|⟨rfl,H⟩
     ·replace H:=iteE H
      rcases H with ⟨c18,H⟩|⟨c18,H⟩
      ·obtain ⟨c18b0,c18b1⟩:=eqT c18
       clear c18;(first|rw [c18b0]|(simp only [i64_w,i32_w];rw [c18b0])|skip)
       replace H:=bindA H;obtain ⟨t262,A19,H⟩:=H;have H':=A_ H;clear H;have hnb20:=NB260_250.out;have hnc20:=NB250_260.out;have hnb21:=NB260_251.out;have hnc21:=NB251_260.out;obtain ⟨_,_,_,_,_,_,_,_⟩:=cf4 BK260;have hnb23:=NB251_250.out;have hnc23:=NB250_251.out;have hcz24_0:w12.cell? ⟨gb251,0,none⟩=some (.string a1_0):=(blk_cell BK251.out 0).trans rfl;have hcz24_1:w12.cell? ⟨gb251,1,none⟩=some (.int .i64 a1_1):=(blk_cell BK251.out 1).trans rfl;have hcz24_2:w12.cell? ⟨gb251,2,none⟩=some (.bool a1_2):=(blk_cell BK251.out 2).trans rfl;have hcz24_3:w12.cell? ⟨gb251,3,none⟩=some (.slice A1_3 l1_3.length c1_3):=(blk_cell BK251.out 3).trans rfl;have hcz24_4:w12.cell? ⟨gb251,4,none⟩=some (.slice A1_4 l1_4.length c1_4):=(blk_cell BK251.out 4).trans rfl;have hcz24_5:w12.cell? ⟨gb251,5,none⟩=some (.int .i64 a1_5):=(blk_cell BK251.out 5).trans rfl;have hcz24_6:w12.cell? ⟨gb251,6,none⟩=some (.int .i64 a1_6):=(blk_cell BK251.out 6).trans rfl;have hcz24_7:w12.cell? ⟨gb251,7,none⟩=some (.slice (some ad252) l1_7.length c1_7):=(blk_cell BK251.out 7).trans rfl;have hfz24_0:=blk_frozen BK251.out 0;have hfz24_1:=blk_frozen BK251.out 1;have hfz24_2:=blk_frozen BK251.out 2;have hfz24_3:=blk_frozen BK251.out 3;have hfz24_4:=blk_frozen BK251.out 4;have hfz24_5:=blk_frozen BK251.out 5;have hfz24_6:=blk_frozen BK251.out 6;have hfz24_7:=blk_frozen BK251.out 7;obtain ⟨⟨ad261,e261,hx261_0,hx261_1⟩,p261,q261⟩:=atB (at_T111 HR1_7.out x5_1);obtain rfl:ad252=ad261:=(by injection e261);have hn261_0:ad252.block≠gb260:=Nat.ne_of_lt (Nat.lt_of_lt_of_le zz161 GW260.out);have hn261_1:ad252.block≠gb260:=Nat.ne_of_lt (Nat.lt_of_lt_of_le zz161 GW260.out);have hn261_2:ad252.block≠gb260:=Nat.ne_of_lt (Nat.lt_of_lt_of_le zz161 GW260.out);have hn261_3:ad252.block≠gb260:=Nat.ne_of_lt (Nat.lt_of_lt_of_le zz161 GW260.out);obtain ⟨hx261_0,hx261_1⟩:=cb2 HB hx261_0 hx261_1;replace hx261_0:=(cell_far (p:=⟨gb260,0,none⟩) zz162 (.string t253)).trans hx261_0;replace hx261_1:=(cell_far (p:=⟨gb260,0,none⟩) zz162 (.string t253)).trans hx261_1;replace hx261_0:=(cell_far (p:=⟨gb260,1,none⟩) zz163 (.slice Ao16 t254.length co16)).trans hx261_0;replace hx261_1:=(cell_far (p:=⟨gb260,1,none⟩) zz163 (.slice Ao16 t254.length co16)).trans hx261_1;replace hx261_0:=(cell_far (p:=⟨gb260,2,none⟩) zz164 (.bool t257)).trans hx261_0;replace hx261_1:=(cell_far (p:=⟨gb260,2,none⟩) zz164 (.bool t257)).trans hx261_1;replace hx261_0:=(cell_far (p:=⟨gb260,3,none⟩) zz165 (.string t258)).trans hx261_0;replace hx261_1:=(cell_far (p:=⟨gb260,3,none⟩) zz165 (.string t258)).trans hx261_1;(try have hy261_0:=fun (n_:Nat)=>(show ((((((w12.drewN n_).setCell ⟨gb260,0,none⟩ (.string t253)).setCell ⟨gb260,1,none⟩ (.slice Ao16 t254.length co16)).setCell ⟨gb260,2,none⟩ (.bool t257)).setCell ⟨gb260,3,none⟩ (.string t258))).cell? _=some _ from hx261_0))
       (try have hy261_1:=fun (n_:Nat)=>(show ((((((w12.drewN n_).setCell ⟨gb260,0,none⟩ (.string t253)).setCell ⟨gb260,1,none⟩ (.slice Ao16 t254.length co16)).setCell ⟨gb260,2,none⟩ (.bool t257)).setCell ⟨gb260,3,none⟩ (.string t258))).cell? _=some _ from hx261_1))
       clear hn261_0;clear hn261_1;clear hn261_2;clear hn261_3;go_wp2_with (first|(go_at_call 40;(with_reducible refine (spec_l6In.calls ((rd_T111 l1_7 x5_1).f1) 0 2 t262 _ A19.out).mono ?_);rintro e w' ⟨rfl,⟨nd,rfl⟩⟩;(try first|exact ⟨rfl,_,World.drewN_drewN _ _ _⟩|exact ⟨rfl,_,Eq.trans (World.drewN_drewN _ _ _) (congrArg (World.drewN _) (Nat.add_assoc _ _ _))⟩)))
       repeat (go_quiet (first|(go_at_call 40;(with_reducible refine (spec_l6In.calls ((rd_T111 l1_7 x5_1).f1) 0 2 t262 _ A19.out).mono ?_);rintro e w' ⟨rfl,⟨nd,rfl⟩⟩;(try first|exact ⟨rfl,_,World.drewN_drewN _ _ _⟩|exact ⟨rfl,_,Eq.trans (World.drewN_drewN _ _ _) (congrArg (World.drewN _) (Nat.add_assoc _ _ _))⟩)));try go_wp2_with (first|(go_at_call 40;(with_reducible refine (spec_l6In.calls ((rd_T111 l1_7 x5_1).f1) 0 2 t262 _ A19.out).mono ?_);rintro e w' ⟨rfl,⟨nd,rfl⟩⟩;(try first|exact ⟨rfl,_,World.drewN_drewN _ _ _⟩|exact ⟨rfl,_,Eq.trans (World.drewN_drewN _ _ _) (congrArg (World.drewN _) (Nat.add_assoc _ _ _))⟩))))
       go_meet
       case rel=>exact ⟨_,(!t262),zz7,H',⟨(zz65 HK1)⟩,⟨(zz24 (rt HO256 BK260))⟩,⟨(zz4 BK250 NB250_260)⟩,⟨(zz4 BK251 NB251_260)⟩,⟨(zz130 BK260)⟩,⟨(zz6 HB GE250 GE251 GE260)⟩⟩
      ·obtain ⟨c18b0,c18b1⟩:=eqF c18
       (first|rw [c18b0]|(simp only [i64_w,i32_w];rw [c18b0])|skip)
       have H':=A_ H;clear H;have hnb25:=NB260_250.out;have hnc25:=NB250_260.out;have hnb26:=NB260_251.out;have hnc26:=NB251_260.out;obtain ⟨_,_,_,_,_,_,_,_⟩:=cf4 BK260;have hnb28:=NB251_250.out;have hnc28:=NB250_251.out;have hcz29_0:w12.cell? ⟨gb251,0,none⟩=some (.string a1_0):=(blk_cell BK251.out 0).trans rfl;have hcz29_1:w12.cell? ⟨gb251,1,none⟩=some (.int .i64 a1_1):=(blk_cell BK251.out 1).trans rfl;have hcz29_2:w12.cell? ⟨gb251,2,none⟩=some (.bool a1_2):=(blk_cell BK251.out 2).trans rfl;have hcz29_3:w12.cell? ⟨gb251,3,none⟩=some (.slice A1_3 l1_3.length c1_3):=(blk_cell BK251.out 3).trans rfl;have hcz29_4:w12.cell? ⟨gb251,4,none⟩=some (.slice A1_4 l1_4.length c1_4):=(blk_cell BK251.out 4).trans rfl;have hcz29_5:w12.cell? ⟨gb251,5,none⟩=some (.int .i64 a1_5):=(blk_cell BK251.out 5).trans rfl;have hcz29_6:w12.cell? ⟨gb251,6,none⟩=some (.int .i64 a1_6):=(blk_cell BK251.out 6).trans rfl;have hcz29_7:w12.cell? ⟨gb251,7,none⟩=some (.slice (some ad252) l1_7.length c1_7):=(blk_cell BK251.out 7).trans rfl;have hfz29_0:=blk_frozen BK251.out 0;have hfz29_1:=blk_frozen BK251.out 1;have hfz29_2:=blk_frozen BK251.out 2;have hfz29_3:=blk_frozen BK251.out 3;have hfz29_4:=blk_frozen BK251.out 4;have hfz29_5:=blk_frozen BK251.out 5;have hfz29_6:=blk_frozen BK251.out 6;have hfz29_7:=blk_frozen BK251.out 7;go_wp2
       repeat (go_quiet (fail);try go_wp2)
       go_meet
       case rel=>exact ⟨_,(true),zz7,H',⟨(zz65 HK1)⟩,⟨(zz24 (rt HO256 BK260))⟩,⟨(zz4 BK250 NB250_260)⟩,⟨(zz4 BK251 NB251_260)⟩,⟨(zz130 BK260)⟩,⟨(zz6 HB GE250 GE251 GE260)⟩⟩
     ·have H':=A_ H
      clear H;go_wp2
      repeat (go_quiet (fail);try go_wp2)
      go_meet
      case rel=>exact ⟨_,(true),zz7,H',⟨(zz65 HK1)⟩,⟨(zz24 (rt HO256 BK260))⟩,⟨(zz4 BK250 NB250_260)⟩,⟨(zz4 BK251 NB251_260)⟩,⟨(zz130 BK260)⟩,⟨(zz6 HB GE250 GE251 GE260)⟩⟩
    case rest=>
     clear HC8;obtain ⟨kq,x46_7,rfl,HA,HJ7,HO_261001,BK250,BK251,BK260,HB⟩:=hcut;cases kq with
     | zero=>exact absurd HA.out (by simp [spec_l12Items.j1])
     | succ kj7=>
      obtain ⟨H⟩:=HA;simp only [spec_l12Items.j1] at H
      replace H:=iteB H;rcases H with ⟨rfl,H⟩|⟨rfl,H⟩
      ·obtain rfl:=sI H
       go_wp2
       repeat (go_quiet (fail);try go_wp2)
       go_ret
       exact ⟨zz5,(zz6 HB GE250 GE251 GE260)⟩
      ·have H':=A_ H
       clear H;go_wp2
       repeat (go_quiet (fail);try go_wp2)
       go_loopg [8,9] kj7 (fun kq v8 v9 w'=>∃ (x8_3:Bool) (x9_3:Int),v8=.bool x8_3∧v9=.int .i64 x9_3∧Aside0 (spec_l12Items.l1 kq x5_1 x8_3 x9_3 a0_0 a0_1 l0_2 l0_3 l0_4 a1_0 a1_1 a1_2 l1_3 l1_4 a1_5 a1_6 l1_7=some r)∧Aside0 (kq≤kj7)∧Aside0 (Kd.R Kd.string 9 w' w.heap.size (fun _=>True) (.slice Ao16 t254.length co16) t254)∧Aside0 (w'.heap[gb250]?=some (.cells #[.string a0_0,.int .i64 a0_1,(.slice A0_2 l0_2.length c0_2),(.slice A0_3 l0_3.length c0_3),(.slice A0_4 l0_4.length c0_4)] 33 (0,0)))∧Aside0 (w'.heap[gb251]?=some (.cells #[.string a1_0,.int .i64 a1_1,.bool a1_2,(.slice A1_3 l1_3.length c1_3),(.slice A1_4 l1_4.length c1_4),.int .i64 a1_5,.int .i64 a1_6,(.slice (some ad252) l1_7.length c1_7)] 82 (0,0)))∧Aside0 (w'.heap[gb260]?=some (.cells #[.string t253,(.slice Ao16 t254.length co16),.bool t257,.string t258] 48 (0,0)))∧Aside0 (Below w.heap.size w w'))
       case atStart=>exact ⟨(false),(0),zz7,zz7,H',⟨Nat.le_refl _⟩,⟨(zz12 HO_261001)⟩,⟨(zz2 BK250)⟩,⟨(zz2 BK251)⟩,⟨(zz2 BK260)⟩,⟨(zz6 HB GE250 GE251 GE260)⟩⟩
       case round=>
        clear H';obtain ⟨x8_3,x9_3,rfl,rfl,HA,HK3,HO_261001,BK250,BK251,BK260,HB⟩:=hrel;cases gk with
        | zero=>exact absurd HA.out (by simp [spec_l12Items.l1])
        | succ k3=>
         obtain ⟨H⟩:=HA;simp only [spec_l12Items.l1] at H
         replace H:=iteEd H;rcases H with ⟨c31b0,H⟩|⟨c31b0,H⟩
         ·replace H:=iteB H
          rcases H with ⟨rfl,H⟩|⟨rfl,H⟩
          ·have H':=A_ H
           clear H;have hnb33:=NB250_251.out;have hnc33:=NB251_250.out;have hnb34:=NB250_260.out;have hnc34:=NB260_250.out;obtain ⟨_,_,_,_,_,_,_,_,_,_⟩:=cf5 BK250;go_wp2
           repeat (go_quiet (fail);try go_wp2)
           go_roundg k3
           case measure=>have:=HK1.out;have:=HJ7.out;have:=HK3.out;omega
           case rel=>exact ⟨(true),(wrap64 (x9_3+1)),zz7,zz7,H',⟨(by have:=HK1.out;have:=HJ7.out;have:=HK3.out;omega)⟩,⟨(zz12 HO_261001)⟩,⟨(zz2 BK250)⟩,⟨(zz2 BK251)⟩,⟨(zz2 BK260)⟩,⟨(zz6 HB GE250 GE251 GE260)⟩⟩
          ·replace H:=iteN H
           obtain ⟨c36,H⟩:=H;have c36b0:=dT c36;clear c36;replace H:=iteNd H;obtain ⟨c37b0,H⟩:=H;replace H:=iteNd H;obtain ⟨c38b0,H⟩:=H;have H':=A_ H;clear H;have hnb39:=NB250_251.out;have hnc39:=NB251_250.out;have hnb40:=NB250_260.out;have hnc40:=NB260_250.out;obtain ⟨_,_,_,_,_,_,_,_,_,_⟩:=cf5 BK250;obtain ⟨⟨ad263,e263,hx263_0⟩,p263,q263⟩:=atB (Kd.at_string HR0_3.out x9_3);cases e263
           replace hx263_0:=cbl HB hx263_0;have hnb42:=NB251_260.out;have hnc42:=NB260_251.out;have hcz43_0:wr.cell? ⟨gb251,0,none⟩=some (.string a1_0):=(blk_cell BK251.out 0).trans rfl;have hcz43_1:wr.cell? ⟨gb251,1,none⟩=some (.int .i64 a1_1):=(blk_cell BK251.out 1).trans rfl;have hcz43_2:wr.cell? ⟨gb251,2,none⟩=some (.bool a1_2):=(blk_cell BK251.out 2).trans rfl;have hcz43_3:wr.cell? ⟨gb251,3,none⟩=some (.slice A1_3 l1_3.length c1_3):=(blk_cell BK251.out 3).trans rfl;have hcz43_4:wr.cell? ⟨gb251,4,none⟩=some (.slice A1_4 l1_4.length c1_4):=(blk_cell BK251.out 4).trans rfl;have hcz43_5:wr.cell? ⟨gb251,5,none⟩=some (.int .i64 a1_5):=(blk_cell BK251.out 5).trans rfl;have hcz43_6:wr.cell? ⟨gb251,6,none⟩=some (.int .i64 a1_6):=(blk_cell BK251.out 6).trans rfl;have hcz43_7:wr.cell? ⟨gb251,7,none⟩=some (.slice (some ad252) l1_7.length c1_7):=(blk_cell BK251.out 7).trans rfl;have hfz43_0:=blk_frozen BK251.out 0;have hfz43_1:=blk_frozen BK251.out 1;have hfz43_2:=blk_frozen BK251.out 2;have hfz43_3:=blk_frozen BK251.out 3;have hfz43_4:=blk_frozen BK251.out 4;have hfz43_5:=blk_frozen BK251.out 5;have hfz43_6:=blk_frozen BK251.out 6;have hfz43_7:=blk_frozen BK251.out 7;obtain ⟨⟨ad264,e264,hx264_0,hx264_1⟩,p264,q264⟩:=atB (at_T111 HR1_7.out x5_1);obtain rfl:ad252=ad264:=(by injection e264);obtain ⟨hx264_0,hx264_1⟩:=cb2 HB hx264_0 hx264_1;go_wp2
           repeat (go_quiet (fail);try go_wp2)
           go_roundg k3
           case measure=>have:=HK1.out;have:=HJ7.out;have:=HK3.out;omega
           case rel=>exact ⟨(((rdOf ByteArray.empty l0_3 x9_3).toList == ((rd_T111 l1_7 x5_1).f0).toList)),(wrap64 (x9_3+1)),zz7,zz7,H',⟨(by have:=HK1.out;have:=HJ7.out;have:=HK3.out;omega)⟩,⟨(zz12 HO_261001)⟩,⟨(zz2 BK250)⟩,⟨(zz2 BK251)⟩,⟨(zz2 BK260)⟩,⟨(zz6 HB GE250 GE251 GE260)⟩⟩
         ·have H':=A_ H
          clear H;have hnb44:=NB250_251.out;have hnc44:=NB251_250.out;have hnb45:=NB250_260.out;have hnc45:=NB260_250.out;obtain ⟨_,_,_,_,_,_,_,_,_,_⟩:=cf5 BK250;go_wp2
          repeat (go_quiet (fail);try go_wp2)
          go_loopg [8,10] k3 (fun kq v8 v10 w'=>∃ (x8_4:Bool) (x10_4:Int),v8=.bool x8_4∧v10=.int .i64 x10_4∧Aside0 (spec_l12Items.l2 kq x5_1 x8_4 x10_4 a0_0 a0_1 l0_2 l0_3 l0_4 a1_0 a1_1 a1_2 l1_3 l1_4 a1_5 a1_6 l1_7=some r)∧Aside0 (kq≤k3)∧Aside0 (Kd.R Kd.string 9 w' w.heap.size (fun _=>True) (.slice Ao16 t254.length co16) t254)∧Aside0 (w'.heap[gb250]?=some (.cells #[.string a0_0,.int .i64 a0_1,(.slice A0_2 l0_2.length c0_2),(.slice A0_3 l0_3.length c0_3),(.slice A0_4 l0_4.length c0_4)] 33 (0,0)))∧Aside0 (w'.heap[gb251]?=some (.cells #[.string a1_0,.int .i64 a1_1,.bool a1_2,(.slice A1_3 l1_3.length c1_3),(.slice A1_4 l1_4.length c1_4),.int .i64 a1_5,.int .i64 a1_6,(.slice (some ad252) l1_7.length c1_7)] 82 (0,0)))∧Aside0 (w'.heap[gb260]?=some (.cells #[.string t253,(.slice Ao16 t254.length co16),.bool t257,.string t258] 48 (0,0)))∧Aside0 (Below w.heap.size w w'))
          case atStart=>exact ⟨(x8_3),(0),zz7,zz7,H',⟨Nat.le_refl _⟩,⟨(zz12 HO_261001)⟩,⟨(zz2 BK250)⟩,⟨(zz2 BK251)⟩,⟨(zz2 BK260)⟩,⟨(zz6 HB GE250 GE251 GE260)⟩⟩
          case round=>
           clear H';obtain ⟨x8_4,x10_4,rfl,rfl,HA,HK4,HO_261001,BK250,BK251,BK260,HB⟩:=hrel;cases gk with
           | zero=>exact absurd HA.out (by simp [spec_l12Items.l2])
           | succ k4=>
            obtain ⟨H⟩:=HA;simp only [spec_l12Items.l2] at H
            replace H:=iteEd H;rcases H with ⟨c47b0,H⟩|⟨c47b0,H⟩
            ·replace H:=iteB H
             rcases H with ⟨rfl,H⟩|⟨rfl,H⟩
             ·replace H:=iteN H
              obtain ⟨c49,H⟩:=H;have c49b0:=dT c49;clear c49;replace H:=iteNd H;obtain ⟨c50b0,H⟩:=H;replace H:=iteNd H;obtain ⟨c51b0,H⟩:=H;replace H:=iteNd H;obtain ⟨c52b0,H⟩:=H;have H':=A_ H;clear H;have hnb53:=NB251_250.out;have hnc53:=NB250_251.out;have hnb54:=NB251_260.out;have hnc54:=NB260_251.out;have hcz55_0:wr.cell? ⟨gb251,0,none⟩=some (.string a1_0):=(blk_cell BK251.out 0).trans rfl;have hcz55_1:wr.cell? ⟨gb251,1,none⟩=some (.int .i64 a1_1):=(blk_cell BK251.out 1).trans rfl;have hcz55_2:wr.cell? ⟨gb251,2,none⟩=some (.bool a1_2):=(blk_cell BK251.out 2).trans rfl;have hcz55_3:wr.cell? ⟨gb251,3,none⟩=some (.slice A1_3 l1_3.length c1_3):=(blk_cell BK251.out 3).trans rfl;have hcz55_4:wr.cell? ⟨gb251,4,none⟩=some (.slice A1_4 l1_4.length c1_4):=(blk_cell BK251.out 4).trans rfl;have hcz55_5:wr.cell? ⟨gb251,5,none⟩=some (.int .i64 a1_5):=(blk_cell BK251.out 5).trans rfl;have hcz55_6:wr.cell? ⟨gb251,6,none⟩=some (.int .i64 a1_6):=(blk_cell BK251.out 6).trans rfl;have hcz55_7:wr.cell? ⟨gb251,7,none⟩=some (.slice (some ad252) l1_7.length c1_7):=(blk_cell BK251.out 7).trans rfl;have hfz55_0:=blk_frozen BK251.out 0;have hfz55_1:=blk_frozen BK251.out 1;have hfz55_2:=blk_frozen BK251.out 2;have hfz55_3:=blk_frozen BK251.out 3;have hfz55_4:=blk_frozen BK251.out 4;have hfz55_5:=blk_frozen BK251.out 5;have hfz55_6:=blk_frozen BK251.out 6;have hfz55_7:=blk_frozen BK251.out 7;obtain ⟨⟨ad265,e265,hx265_0,hx265_1⟩,p265,q265⟩:=atB (at_T111 HR1_7.out x10_4);obtain rfl:ad252=ad265:=(by injection e265);obtain ⟨hx265_0,hx265_1⟩:=cb2 HB hx265_0 hx265_1;obtain ⟨⟨ad266,e266,hx266_0,hx266_1⟩,p266,q266⟩:=atB (at_T111 HR1_7.out x5_1);obtain rfl:ad252=ad266:=(by injection e266);obtain ⟨hx266_0,hx266_1⟩:=cb2 HB hx266_0 hx266_1;go_wp2
              repeat (go_quiet (fail);try go_wp2)
              go_roundg k4
              case measure=>have:=HK1.out;have:=HJ7.out;have:=HK3.out;have:=HK4.out;omega
              case rel=>exact ⟨((((rd_T111 l1_7 x10_4).f0).toList != ((rd_T111 l1_7 x5_1).f0).toList)),(wrap64 (x10_4+1)),zz7,zz7,H',⟨(by have:=HK1.out;have:=HJ7.out;have:=HK3.out;have:=HK4.out;omega)⟩,⟨(zz12 HO_261001)⟩,⟨(zz2 BK250)⟩,⟨(zz2 BK251)⟩,⟨(zz2 BK260)⟩,⟨(zz6 HB GE250 GE251 GE260)⟩⟩
             ·have H':=A_ H
              clear H;go_wp2
              repeat (go_quiet (fail);try go_wp2)
              go_roundg k4
              case measure=>have:=HK1.out;have:=HJ7.out;have:=HK3.out;have:=HK4.out;omega
              case rel=>exact ⟨(false),(wrap64 (x10_4+1)),zz7,zz7,H',⟨(by have:=HK1.out;have:=HJ7.out;have:=HK3.out;have:=HK4.out;omega)⟩,⟨(zz12 HO_261001)⟩,⟨(zz2 BK250)⟩,⟨(zz2 BK251)⟩,⟨(zz2 BK260)⟩,⟨(zz6 HB GE250 GE251 GE260)⟩⟩
            ·replace H:=iteB H
             rcases H with ⟨rfl,H⟩|⟨rfl,H⟩
             ·have H':=A_ H
              clear H;go_wp2
              repeat (go_quiet (fail);try go_wp2)
              go_roundg k4
              case measure=>have:=HK1.out;have:=HJ7.out;have:=HK3.out;have:=HK4.out;omega
              case rel=>exact ⟨(wrap64 (x5_1+1)),zz7,H',⟨(by have:=HK1.out;have:=HJ7.out;have:=HK3.out;have:=HK4.out;omega)⟩,⟨(zz2 BK250)⟩,⟨(zz2 BK251)⟩,⟨(zz6 HB GE250 GE251 GE260)⟩⟩
             ·obtain rfl:=sI H
              go_wp2
              repeat (go_quiet (fail);try go_wp2)
              go_ret
              exact ⟨zz5,(zz6 HB GE250 GE251 GE260)⟩
   ·obtain rfl:=sI H
    have hnb57:=NB251_250.out;have hnc57:=NB250_251.out;have hcz58_0:wr.cell? ⟨gb251,0,none⟩=some (.string a1_0):=(blk_cell BK251.out 0).trans rfl;have hcz58_1:wr.cell? ⟨gb251,1,none⟩=some (.int .i64 a1_1):=(blk_cell BK251.out 1).trans rfl;have hcz58_2:wr.cell? ⟨gb251,2,none⟩=some (.bool a1_2):=(blk_cell BK251.out 2).trans rfl;have hcz58_3:wr.cell? ⟨gb251,3,none⟩=some (.slice A1_3 l1_3.length c1_3):=(blk_cell BK251.out 3).trans rfl;have hcz58_4:wr.cell? ⟨gb251,4,none⟩=some (.slice A1_4 l1_4.length c1_4):=(blk_cell BK251.out 4).trans rfl;have hcz58_5:wr.cell? ⟨gb251,5,none⟩=some (.int .i64 a1_5):=(blk_cell BK251.out 5).trans rfl;have hcz58_6:wr.cell? ⟨gb251,6,none⟩=some (.int .i64 a1_6):=(blk_cell BK251.out 6).trans rfl;have hcz58_7:wr.cell? ⟨gb251,7,none⟩=some (.slice A1_7 l1_7.length c1_7):=(blk_cell BK251.out 7).trans rfl;have hfz58_0:=blk_frozen BK251.out 0;have hfz58_1:=blk_frozen BK251.out 1;have hfz58_2:=blk_frozen BK251.out 2;have hfz58_3:=blk_frozen BK251.out 3;have hfz58_4:=blk_frozen BK251.out 4;have hfz58_5:=blk_frozen BK251.out 5;have hfz58_6:=blk_frozen BK251.out 6;have hfz58_7:=blk_frozen BK251.out 7;go_wp2
    repeat (go_quiet (fail);try go_wp2)
    go_ret
    exact ⟨zz5,(zz3 HB GE250 GE251)⟩
end Go.Proofs.YtnnciiiackinpaaGreatDoor.P
end
