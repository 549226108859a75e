/- Part 4 of the proof of FnExactWorldNotice: the plain functions of what it reaches, that Go comes to just their answers, what they answer, and the words that the walks use; conditions: each theorem's own. -/
import Derived.Test.YtloijngehifbmaaGreatDoorZFnExactWorldNoticeb
import Derived.Test.YtloijngehifbmaaGreatDoorZFnExactWorldNoticec
import Derived.Maps.Own
import Derived.Maps.OwnSet
import Derived.Carry
import Derived.Deep.RegionHeld3

section
namespace Go.Proofs.YtloijngehifbmaaGreatDoor.P
open Go.RowKit Go.Proofs.YtloijngehifbmaaGreatDoorW.PrintWords Go.Proofs.YtloijngehifbmaaGreatDoorW.PrintLast Go.Proofs.YtloijngehifbmaaGreatDoorW.PrintMore
attribute [local go_sem] max2_int min2_int max_two min_two max_three min_three max_four min_four
set_option linter.unusedVariables false
set_option linter.unusedSimpArgs false
set_option maxHeartbeats 8000000
set_option maxRecDepth 100000
mutual
def spec_WorldOk.l0:Nat→List (S57)→Int→Option (Bool)
 | 0,_,_=>none
 | k+1,x0,x3=>if x3 < (x0.length:Int) then (if 0≤x3 then ((spec_l11Norm.f k ((rd_T57 x0 x3).f0)).bind fun t228=>(if t228=true then (if (((rd_T57 x0 x3).f1).size:Int) > 300 then (spec_WorldOk.j1 k x0 x3 true) else ((spec_l6In.f ((rd_T57 x0 x3).f3) 0 9).bind fun t231=>(if t231=true then (if ((rd_T57 x0 x3).f2).toList=([]:List UInt8) then (spec_WorldOk.j1 k x0 x3 false) else (if ((rd_T57 x0 x3).f1).toList=([]:List UInt8) then ((spec_l11Norm.f k ((rd_T57 x0 x3).f2)).bind fun t235=>(spec_WorldOk.j1 k x0 x3 (!t235))) else (spec_WorldOk.j1 k x0 x3 true))) else (spec_WorldOk.j1 k x0 x3 true)))) else (spec_WorldOk.j1 k x0 x3 true))) else (none)) else (some (decide ((x0.length:Int)≤12)))
def spec_WorldOk.j1:Nat→List (S57)→Int→Bool→Option (Bool)
 | 0,_,_,_=>none
 | k+1,x0,x3,x60=>if x60=true then (some false) else (spec_WorldOk.l1 k x0 x3 0)
def spec_WorldOk.l1:Nat→List (S57)→Int→Int→Option (Bool)
 | 0,_,_,_=>none
 | k+1,x0,x3,x4=>if x4 < x3 then (if 0≤x4 then (if x4 < (x0.length:Int) then (if 0≤x3 then (if x3 < (x0.length:Int) then (if ((rd_T57 x0 x4).f0).toList=((rd_T57 x0 x3).f0).toList then (some false) else (spec_WorldOk.l1 k x0 x3 (wrap64 (x4+1)))) else (none)) else (none)) else (none)) else (none)) else (spec_WorldOk.l0 k x0 (wrap64 (x3+1)))
end
def spec_WorldOk.f (k:Nat) (l0:List (S57)):Option (Bool):=spec_WorldOk.l0 k l0 0
theorem spec_WorldOk.calls (k:Nat) (A0:Option Addr) (c0:Nat) (l0:List (S57)) (r:Bool) (w:World) (hr0:Kd.C k57 w A0 l0.length l0) (hc0:l0.length≤c0) (h:spec_WorldOk.f k l0=some r) :
  Calls Tryz.prog 25 #[.slice A0 l0.length c0] w fun e w'=>e=.returned (.bool r)∧Below w.heap.size w w':=by
 have HR0:=A_ hr0;have HC0:=A_ hc0;clear hr0 hc0;have HB:=A_ (Below.refl w.heap.size w);unfold spec_WorldOk.f at h
 have H:=h;clear h;have H':=A_ H;clear H;go_enter Tryz.func25,Tryz.ntmps25;go_wp2
 repeat (go_quiet (fail);try go_wp2)
 go_loopg [3] k (fun kq v3 w'=>∃ (x3_1:Int),v3=.int .i64 x3_1∧Aside0 (spec_WorldOk.l0 kq l0 x3_1=some r)∧Aside0 (kq≤k)∧Aside0 (Below w.heap.size w w'))
 case atStart=>exact ⟨(0),zz3,H',⟨Nat.le_refl _⟩,⟨(zz0 HB)⟩⟩
 case round=>
  clear H';obtain ⟨x3_1,rfl,HA,HK1,HB⟩:=hrel;cases gk with
  | zero=>exact absurd HA.out (by simp [spec_WorldOk.l0])
  | succ k1=>
   obtain ⟨H⟩:=HA;simp only [spec_WorldOk.l0] at H
   replace H:=iteEd H;rcases H with ⟨c2b0,H⟩|⟨c2b0,H⟩
   ·have HC3:=A_ H
    clear H;go_upto_region 4 with (fail)
    repeat (go_quiet (fail);go_upto_region 4 with (fail))
    go_cut [60] (fun v60 wc=>∃ (kq:Nat) (x60_2:Bool),v60=.bool x60_2∧Aside0 (spec_WorldOk.j1 kq l0 x3_1 x60_2=some r)∧Aside0 (kq≤k1)∧Aside0 (Below w.heap.size w wc))
    case first=>
     obtain ⟨H⟩:=HC3;replace H:=iteNd H;obtain ⟨c4b0,H⟩:=H;(first|rw [c4b0]|(simp only [i64_w,i32_w];rw [c4b0])|skip)
     replace H:=bindA H;obtain ⟨t228,A5,H⟩:=H;have HF6:=A_ H;clear H;obtain ⟨⟨ad227,e227,hx227_0,hx227_1,hx227_2,hx227_3⟩,p227,q227⟩:=atB (at_T57 HR0.out x3_1);cases e227
     obtain ⟨hx227_0,hx227_1,hx227_2,hx227_3⟩:=cb4 HB hx227_0 hx227_1 hx227_2 hx227_3;go_wp2_with (first|(go_at_call 64;(with_reducible refine (spec_l11Norm.calls k1 ((rd_T57 l0 x3_1).f0) t228 _ A5.out).mono ?_);rintro e w7 ⟨rfl,hb⟩;replace HB:=A_ (bS (zz0 HB) hb);(try clear hb))|((with_reducible refine atG ?_ ?_ fun K_ hK_=>?_);rfl;exact undecG)|((with_reducible refine atI ?_ fun K_ hK_=>?_);exact undecI))
     repeat (go_quiet (first|(go_at_call 64;(with_reducible refine (spec_l11Norm.calls k1 ((rd_T57 l0 x3_1).f0) t228 _ A5.out).mono ?_);rintro e w7 ⟨rfl,hb⟩;replace HB:=A_ (bS (zz0 HB) hb);(try clear hb))|((with_reducible refine atG ?_ ?_ fun K_ hK_=>?_);rfl;exact undecG)|((with_reducible refine atI ?_ fun K_ hK_=>?_);exact undecI));go_wp2_with (first|(go_at_call 64;(with_reducible refine (spec_l11Norm.calls k1 ((rd_T57 l0 x3_1).f0) t228 _ A5.out).mono ?_);rintro e w7 ⟨rfl,hb⟩;replace HB:=A_ (bS (zz0 HB) hb);(try clear hb))|((with_reducible refine atG ?_ ?_ fun K_ hK_=>?_);rfl;exact undecG)|((with_reducible refine atI ?_ fun K_ hK_=>?_);exact undecI)))
     refine unG hK_ ?_;clear hK_ K_;obtain ⟨H⟩:=HF6;replace H:=iteB H;rcases H with ⟨rfl,H⟩|⟨rfl,H⟩
     ·(first|refine iteT ?_|refine iteF ?_|skip)
      replace H:=iteE H;rcases H with ⟨c9,H⟩|⟨c9,H⟩
      ·have c9b0:=gtT c9
       have c9b1:decide (300 < ((rd_T57 l0 x3_1).f1).size)=true:=dT (by omega);clear c9;have H':=A_ H;clear H;obtain ⟨⟨ad229,e229,hx229_0,hx229_1,hx229_2,hx229_3⟩,p229,q229⟩:=atB (at_T57 HR0.out x3_1);obtain rfl:ad227=ad229:=(by injection e229);obtain ⟨hx229_0,hx229_1,hx229_2,hx229_3⟩:=cb4 HB hx229_0 hx229_1 hx229_2 hx229_3;go_wp2
       repeat (go_quiet (fail);try go_wp2)
       go_meet
       case rel=>exact ⟨_,(true),zz3,H',⟨(zz24 HK1)⟩,⟨(zz0 HB)⟩⟩
      ·have c9b0:=gtF c9
       have c9b1:decide (300 < ((rd_T57 l0 x3_1).f1).size)=false:=dF (by omega);clear c9;replace H:=bindA H;obtain ⟨t231,A10,H⟩:=H;have HF11:=A_ H;clear H;obtain ⟨⟨ad229,e229,hx229_0,hx229_1,hx229_2,hx229_3⟩,p229,q229⟩:=atB (at_T57 HR0.out x3_1);obtain rfl:ad227=ad229:=(by injection e229);obtain ⟨hx229_0,hx229_1,hx229_2,hx229_3⟩:=cb4 HB hx229_0 hx229_1 hx229_2 hx229_3;obtain ⟨⟨ad230,e230,hx230_0,hx230_1,hx230_2,hx230_3⟩,p230,q230⟩:=atB (at_T57 HR0.out x3_1);obtain rfl:ad227=ad230:=(by injection e230);obtain ⟨hx230_0,hx230_1,hx230_2,hx230_3⟩:=cb4 HB hx230_0 hx230_1 hx230_2 hx230_3;go_wp2_with (first|(go_at_call 65;(with_reducible refine (spec_l6In.calls ((rd_T57 l0 x3_1).f3) 0 9 t231 _ A10.out).mono ?_);rintro e w' ⟨rfl,⟨nd,rfl⟩⟩;(try first|exact ⟨rfl,_,World.drewN_drewN _ _ _⟩|exact ⟨rfl,_,Eq.trans (World.drewN_drewN _ _ _) (congrArg (World.drewN _) (Nat.add_assoc _ _ _))⟩))|((with_reducible refine atG ?_ ?_ fun K_ hK_=>?_);rfl;exact undecG)|((with_reducible refine atI ?_ fun K_ hK_=>?_);exact undecI))
       repeat (go_quiet (first|(go_at_call 65;(with_reducible refine (spec_l6In.calls ((rd_T57 l0 x3_1).f3) 0 9 t231 _ A10.out).mono ?_);rintro e w' ⟨rfl,⟨nd,rfl⟩⟩;(try first|exact ⟨rfl,_,World.drewN_drewN _ _ _⟩|exact ⟨rfl,_,Eq.trans (World.drewN_drewN _ _ _) (congrArg (World.drewN _) (Nat.add_assoc _ _ _))⟩))|((with_reducible refine atG ?_ ?_ fun K_ hK_=>?_);rfl;exact undecG)|((with_reducible refine atI ?_ fun K_ hK_=>?_);exact undecI));go_wp2_with (first|(go_at_call 65;(with_reducible refine (spec_l6In.calls ((rd_T57 l0 x3_1).f3) 0 9 t231 _ A10.out).mono ?_);rintro e w' ⟨rfl,⟨nd,rfl⟩⟩;(try first|exact ⟨rfl,_,World.drewN_drewN _ _ _⟩|exact ⟨rfl,_,Eq.trans (World.drewN_drewN _ _ _) (congrArg (World.drewN _) (Nat.add_assoc _ _ _))⟩))|((with_reducible refine atG ?_ ?_ fun K_ hK_=>?_);rfl;exact undecG)|((with_reducible refine atI ?_ fun K_ hK_=>?_);exact undecI)))
       refine unG hK_ ?_;clear hK_ K_;obtain ⟨H⟩:=HF11;replace H:=iteB H;rcases H with ⟨rfl,H⟩|⟨rfl,H⟩
       ·(first|refine iteT ?_|refine iteF ?_|skip)
        replace H:=iteEq H;rcases H with ⟨c13b0,c13b1,H⟩|⟨c13b0,c13b1,c13,H⟩
        ·have H':=A_ H
         clear H;obtain ⟨⟨ad232,e232,hx232_0,hx232_1,hx232_2,hx232_3⟩,p232,q232⟩:=atB (at_T57 HR0.out x3_1);obtain rfl:ad227=ad232:=(by injection e232);obtain ⟨hx232_0,hx232_1,hx232_2,hx232_3⟩:=cb4 HB hx232_0 hx232_1 hx232_2 hx232_3;go_wp2
         repeat (go_quiet (fail);try go_wp2)
         go_meet
         case rel=>exact ⟨_,(false),zz3,H',⟨(zz24 HK1)⟩,⟨(zz0 HB)⟩⟩
        ·replace H:=iteEq H
         rcases H with ⟨c14b0,c14b1,H⟩|⟨c14b0,c14b1,c14,H⟩
         ·replace H:=bindA H
          obtain ⟨t235,A15,H⟩:=H;have H':=A_ H;clear H;obtain ⟨⟨ad232,e232,hx232_0,hx232_1,hx232_2,hx232_3⟩,p232,q232⟩:=atB (at_T57 HR0.out x3_1);obtain rfl:ad227=ad232:=(by injection e232);obtain ⟨hx232_0,hx232_1,hx232_2,hx232_3⟩:=cb4 HB hx232_0 hx232_1 hx232_2 hx232_3;obtain ⟨⟨ad233,e233,hx233_0,hx233_1,hx233_2,hx233_3⟩,p233,q233⟩:=atB (at_T57 HR0.out x3_1);obtain rfl:ad227=ad233:=(by injection e233);obtain ⟨hx233_0,hx233_1,hx233_2,hx233_3⟩:=cb4 HB hx233_0 hx233_1 hx233_2 hx233_3;obtain ⟨⟨ad234,e234,hx234_0,hx234_1,hx234_2,hx234_3⟩,p234,q234⟩:=atB (at_T57 HR0.out x3_1);obtain rfl:ad227=ad234:=(by injection e234);obtain ⟨hx234_0,hx234_1,hx234_2,hx234_3⟩:=cb4 HB hx234_0 hx234_1 hx234_2 hx234_3;go_wp2_with (first|(go_at_call 64;(with_reducible refine (spec_l11Norm.calls k1 ((rd_T57 l0 x3_1).f2) t235 _ A15.out).mono ?_);rintro e w16 ⟨rfl,hb⟩;replace HB:=A_ (bS (zz0 HB) hb);(try clear hb)))
          repeat (go_quiet (first|(go_at_call 64;(with_reducible refine (spec_l11Norm.calls k1 ((rd_T57 l0 x3_1).f2) t235 _ A15.out).mono ?_);rintro e w16 ⟨rfl,hb⟩;replace HB:=A_ (bS (zz0 HB) hb);(try clear hb)));try go_wp2_with (first|(go_at_call 64;(with_reducible refine (spec_l11Norm.calls k1 ((rd_T57 l0 x3_1).f2) t235 _ A15.out).mono ?_);rintro e w16 ⟨rfl,hb⟩;replace HB:=A_ (bS (zz0 HB) hb);(try clear hb))))
          go_meet
          case rel=>exact ⟨_,(!t235),zz3,H',⟨(zz24 HK1)⟩,⟨(zz0 HB)⟩⟩
         ·have H':=A_ H
          clear H;obtain ⟨⟨ad232,e232,hx232_0,hx232_1,hx232_2,hx232_3⟩,p232,q232⟩:=atB (at_T57 HR0.out x3_1);obtain rfl:ad227=ad232:=(by injection e232);obtain ⟨hx232_0,hx232_1,hx232_2,hx232_3⟩:=cb4 HB hx232_0 hx232_1 hx232_2 hx232_3;obtain ⟨⟨ad233,e233,hx233_0,hx233_1,hx233_2,hx233_3⟩,p233,q233⟩:=atB (at_T57 HR0.out x3_1);obtain rfl:ad227=ad233:=(by injection e233);obtain ⟨hx233_0,hx233_1,hx233_2,hx233_3⟩:=cb4 HB hx233_0 hx233_1 hx233_2 hx233_3;go_wp2
          repeat (go_quiet (fail);try go_wp2)
          go_meet
          case rel=>exact ⟨_,(true),zz3,H',⟨(zz24 HK1)⟩,⟨(zz0 HB)⟩⟩
       ·(first|refine iteT ?_|refine iteF ?_|skip)
        have H':=A_ H;clear H;(try ((with_reducible refine upS ?_);go_simp))
        go_wp2
        repeat (go_quiet (fail);try go_wp2)
        go_meet
        case rel=>exact ⟨_,(true),zz3,H',⟨(zz24 HK1)⟩,⟨(zz0 HB)⟩⟩
     ·(first|refine iteT ?_|refine iteF ?_|skip)
      have H':=A_ H;clear H;(try ((with_reducible refine upS ?_);go_simp))
      go_wp2
      repeat (go_quiet (fail);try go_wp2)
      go_meet
      case rel=>exact ⟨_,(true),zz3,H',⟨(zz24 HK1)⟩,⟨(zz0 HB)⟩⟩
    case rest=>
     clear HC3;obtain ⟨kq,x60_2,rfl,HA,HJ2,HB⟩:=hcut;cases kq with
     | zero=>exact absurd HA.out (by simp [spec_WorldOk.j1])
     | succ kj2=>
      obtain ⟨H⟩:=HA;simp only [spec_WorldOk.j1] at H
      replace H:=iteB H;rcases H with ⟨rfl,H⟩|⟨rfl,H⟩
      ·obtain rfl:=sI H
       go_wp2
       repeat (go_quiet (fail);try go_wp2)
       go_ret
       exact ⟨zz1,(zz0 HB)⟩
      ·have H':=A_ H
       clear H;go_wp2
       repeat (go_quiet (fail);try go_wp2)
       go_loopg [4] kj2 (fun kq v4 w'=>∃ (x4_3:Int),v4=.int .i64 x4_3∧Aside0 (spec_WorldOk.l1 kq l0 x3_1 x4_3=some r)∧Aside0 (kq≤kj2)∧Aside0 (Below w.heap.size w w'))
       case atStart=>exact ⟨(0),zz3,H',⟨Nat.le_refl _⟩,⟨(zz0 HB)⟩⟩
       case round=>
        clear H';obtain ⟨x4_3,rfl,HA,HK3,HB⟩:=hrel;cases gk with
        | zero=>exact absurd HA.out (by simp [spec_WorldOk.l1])
        | succ k3=>
         obtain ⟨H⟩:=HA;simp only [spec_WorldOk.l1] at H
         replace H:=iteEd H;rcases H with ⟨c18b0,H⟩|⟨c18b0,H⟩
         ·replace H:=iteNd H
          obtain ⟨c19b0,H⟩:=H;replace H:=iteNd H;obtain ⟨c20b0,H⟩:=H;replace H:=iteNd H;obtain ⟨c21b0,H⟩:=H;replace H:=iteNd H;obtain ⟨c22b0,H⟩:=H;replace H:=iteEq H;rcases H with ⟨c23b0,c23b1,H⟩|⟨c23b0,c23b1,c23,H⟩
          ·obtain rfl:=sI H
           obtain ⟨⟨ad236,e236,hx236_0,hx236_1,hx236_2,hx236_3⟩,p236,q236⟩:=atB (at_T57 HR0.out x4_3);cases e236
           obtain ⟨hx236_0,hx236_1,hx236_2,hx236_3⟩:=cb4 HB hx236_0 hx236_1 hx236_2 hx236_3;obtain ⟨⟨ad237,e237,hx237_0,hx237_1,hx237_2,hx237_3⟩,p237,q237⟩:=atB (at_T57 HR0.out x3_1);obtain rfl:ad236=ad237:=(by injection e237);obtain ⟨hx237_0,hx237_1,hx237_2,hx237_3⟩:=cb4 HB hx237_0 hx237_1 hx237_2 hx237_3;go_wp2
           repeat (go_quiet (fail);try go_wp2)
           go_ret
           exact ⟨zz1,(zz0 HB)⟩
          ·have H':=A_ H
           clear H;obtain ⟨⟨ad236,e236,hx236_0,hx236_1,hx236_2,hx236_3⟩,p236,q236⟩:=atB (at_T57 HR0.out x4_3);cases e236
           obtain ⟨hx236_0,hx236_1,hx236_2,hx236_3⟩:=cb4 HB hx236_0 hx236_1 hx236_2 hx236_3;obtain ⟨⟨ad237,e237,hx237_0,hx237_1,hx237_2,hx237_3⟩,p237,q237⟩:=atB (at_T57 HR0.out x3_1);obtain rfl:ad236=ad237:=(by injection e237);obtain ⟨hx237_0,hx237_1,hx237_2,hx237_3⟩:=cb4 HB hx237_0 hx237_1 hx237_2 hx237_3;go_wp2
           repeat (go_quiet (fail);try go_wp2)
           go_roundg k3
           case measure=>have:=HK1.out;have:=HJ2.out;have:=HK3.out;omega
           case rel=>exact ⟨(wrap64 (x4_3+1)),zz3,H',⟨(by have:=HK1.out;have:=HJ2.out;have:=HK3.out;omega)⟩,⟨(zz0 HB)⟩⟩
         ·have H':=A_ H
          clear H;go_wp2
          repeat (go_quiet (fail);try go_wp2)
          go_roundg k3
          case measure=>have:=HK1.out;have:=HJ2.out;have:=HK3.out;omega
          case rel=>exact ⟨(wrap64 (x3_1+1)),zz3,H',⟨(by have:=HK1.out;have:=HJ2.out;have:=HK3.out;omega)⟩,⟨(zz0 HB)⟩⟩
   ·obtain rfl:=sI H
    go_wp2
    repeat (go_quiet (fail);try go_wp2)
    go_ret
    exact ⟨zz1,(zz0 HB)⟩
def spec_WorldNotice.j0:Nat→List (S57)→ByteArray→ByteArray→Bool→Option (List ByteArray×(List (S93))×Int)
 | 0,_,_,_,_=>none
 | k+1,x0,x1,x2,x21=>if x21=true then (some (([]:List ByteArray),([]:List (S93)),0)) else ((spec_l11Door.f x1).bind fun t330=>((spec_l11Last.f k x0 t330).bind fun bt331=>((spec_l11Said.f k bt331.1 bt331.2 x2).bind fun bt333=>(some (bt333.1,bt333.2.1,bt333.2.2)))))
def spec_WorldNotice.f (k:Nat) (l0:List (S57)) (a1:ByteArray) (a2:ByteArray):Option (List ByteArray×(List (S93))×Int):=(spec_WorldOk.f k l0).bind fun t327=>(if t327=true then ((spec_l1House.f k a1).bind fun t328=>(if t328=true then ((spec_l2Name.f k a2).bind fun t329=>(spec_WorldNotice.j0 k l0 a1 a2 (!t329))) else (spec_WorldNotice.j0 k l0 a1 a2 true))) else (spec_WorldNotice.j0 k l0 a1 a2 true))
theorem spec_WorldNotice.calls (k:Nat) (A0:Option Addr) (c0:Nat) (l0:List (S57)) (a1:ByteArray) (a2:ByteArray) (r1:List ByteArray) (r2:List (S93)) (r3:Int) (w:World) (hr0:Kd.C k57 w A0 l0.length l0) (hc0:l0.length≤c0) (h:spec_WorldNotice.f k l0 a1 a2=some (r1,r2,r3)) :
  Calls Tryz.prog 11 #[.slice A0 l0.length c0,.string a1,.string a2] w fun e w'=>∃ v0_ v1_:Value,e=.returned (.agg #[v0_,v1_,.int .i64 r3])∧Kd.R Kd.string 9 w' w.heap.size (fun _=>True) v0_ r1∧Kd.R k93 93 w' w.heap.size (fun _=>True) v1_ r2∧Below w.heap.size w w':=by
 have hu32:=Tryz.underlying32;have HR0:=A_ hr0;have HC0:=A_ hc0;clear hr0 hc0;have HB:=A_ (Below.refl w.heap.size w);unfold spec_WorldNotice.f at h
 have H:=h;clear h;have HC4:=A_ H;clear H;go_enter Tryz.func11,Tryz.ntmps11;go_upto_region 1 with (first|(refine boxF 6 #[.slice none 0 0,.slice none 0 0,.int .i64 0] 32 ?_;intro gb326 hg w5 BK326 hb;have GE326:=geB hg (zz0 HB);replace HB:=A_ (bS (zz0 HB) hb);clear hb hg))
 (try simp only [Act.put,List.setIfInBounds_toArray,List.set_cons_zero,List.set_cons_succ])
 go_cut [21] (fun v21 wc=>∃ (kq:Nat) (x21_3:Bool),v21=.bool x21_3∧Aside0 (spec_WorldNotice.j0 kq l0 a1 a2 x21_3=some (r1,r2,r3))∧Aside0 (kq≤k)∧Aside0 (wc.heap[gb326]?=some (.cells #[(.slice none 0 0),(.slice none 0 0),.int .i64 0] 32 (0,0)))∧Aside0 (Below w.heap.size w wc))
 case first=>
  obtain ⟨H⟩:=HC4;replace H:=bindA H;obtain ⟨t327,A6,H⟩:=H;have HF7:=A_ H;clear H;go_wp2_with (first|(refine gR 25 (some 10) Tryz.func25 (spec_WorldOk.calls k _ _ l0 t327 _ ?side1 ?side2 A6.out) ?_;(case side1=>exact (zz41 HR0 HB));(case side2=>exact HC0.out);rintro w8 hb;replace BK326:=A_ (bB (zz7 BK326) hb);replace HB:=A_ (bS (zz2 HB GE326) hb);(try clear hb))|((with_reducible refine atG ?_ ?_ fun K_ hK_=>?_);rfl;exact undecG)|((with_reducible refine atI ?_ fun K_ hK_=>?_);exact undecI))
  refine unG hK_ ?_;clear hK_ K_;obtain ⟨H⟩:=HF7;replace H:=iteB H;rcases H with ⟨rfl,H⟩|⟨rfl,H⟩
  ·(first|refine iteT ?_|refine iteF ?_|skip)
   replace H:=bindA H;obtain ⟨t328,A10,H⟩:=H;have HF11:=A_ H;clear H;(try ((with_reducible refine upS ?_);go_simp))
   go_wp2_with (first|(go_at_call 34;(with_reducible refine (spec_l1House.calls k a1 t328 _ A10.out).mono ?_);rintro e w' ⟨rfl,⟨nd,rfl⟩⟩)|((with_reducible refine atG ?_ ?_ fun K_ hK_=>?_);rfl;exact undecG)|((with_reducible refine atI ?_ fun K_ hK_=>?_);exact undecI))
   refine unG hK_ ?_;clear hK_ K_;obtain ⟨H⟩:=HF11;replace H:=iteB H;rcases H with ⟨rfl,H⟩|⟨rfl,H⟩
   ·(first|refine iteT ?_|refine iteF ?_|skip)
    replace H:=bindA H;obtain ⟨t329,A13,H⟩:=H;have H':=A_ H;clear H;(try ((with_reducible refine upS ?_);go_simp))
    go_wp2_with (first|(go_at_call 26;(with_reducible refine (spec_l2Name.calls k a2 t329 _ A13.out).mono ?_);rintro e w' ⟨rfl,⟨nd,rfl⟩⟩))
    go_meet
    case rel=>exact ⟨_,(!t329),zz3,H',⟨zz22⟩,⟨(zz7 BK326)⟩,⟨(zz2 HB GE326)⟩⟩
   ·(first|refine iteT ?_|refine iteF ?_|skip)
    have H':=A_ H;clear H;(try ((with_reducible refine upS ?_);go_simp))
    go_wp2
    go_meet
    case rel=>exact ⟨_,(true),zz3,H',⟨zz22⟩,⟨(zz7 BK326)⟩,⟨(zz2 HB GE326)⟩⟩
  ·(first|refine iteT ?_|refine iteF ?_|skip)
   have H':=A_ H;clear H;(try ((with_reducible refine upS ?_);go_simp))
   go_wp2
   go_meet
   case rel=>exact ⟨_,(true),zz3,H',⟨zz22⟩,⟨(zz7 BK326)⟩,⟨(zz2 HB GE326)⟩⟩
 case rest=>
  clear HC4;obtain ⟨kq,x21_3,rfl,HA,HJ3,BK326,HB⟩:=hcut;cases kq with
  | zero=>exact absurd HA.out (by simp [spec_WorldNotice.j0])
  | succ kj3=>
   obtain ⟨H⟩:=HA;simp only [spec_WorldNotice.j0] at H
   replace H:=iteB H;rcases H with ⟨rfl,H⟩|⟨rfl,H⟩
   ·simp only [Option.some.injEq,Prod.mk.injEq] at H
    obtain ⟨rfl,rfl,rfl⟩:=H;obtain ⟨_,_,_,_,_,_⟩:=cf3 BK326;go_wp2
    refine pR (results_cell_row rfl _ _ gb326 32 #[.slice none 0 0,.slice none 0 0,.int .i64 0] (0,0) _ rfl (zz9 BK326) Tryz.underlying32 rfl (by kernel_rfl)) rfl ?_;exact ⟨_,_,zz1,zz75,zz75,(zz2 HB GE326)⟩
   ·replace H:=bindA H
    obtain ⟨t330,A16,H⟩:=H;replace H:=bindA H;obtain ⟨⟨t331,t332⟩,A17,H⟩:=H;try dsimp only at H
    replace H:=bindA H;obtain ⟨⟨t333,t336,t339⟩,A18,H⟩:=H;try dsimp only at H
    simp only [Option.some.injEq,Prod.mk.injEq] at H
    obtain ⟨rfl,rfl,rfl⟩:=H;go_wp2_with (first|(refine gR 36 (some 26) Tryz.func36 (spec_l11Door.calls a1 t330 _ A16.out) ?_;rintro w' ⟨nd,rfl⟩;(try (rw [drewN_self wc];generalize hq_:World.drewN wc _=wc;have n0_:Aside0 (wc.heap[gb326]?=some (.cells #[.slice none 0 0,.slice none 0 0,.int .i64 0] 32 (0,0))):=⟨(by rw [← hq_];exact (zz7 BK326))⟩;have n1_:Aside0 (Below w.heap.size w wc):=⟨(by rw [← hq_];exact (zz2 HB GE326))⟩;clear BK326 HB hq_;have BK326:=n0_;have HB:=n1_;clear n0_ n1_)))|(refine gR 35 (some 27) Tryz.func35 (spec_l11Last.calls kj3 _ _ l0 t330 t331 t332 _ ?side1 ?side2 A17.out) ?_;(case side1=>exact (zz41 HR0 HB));(case side2=>exact HC0.out);rintro w19 hb;replace BK326:=A_ (bB (zz7 BK326) hb);replace HB:=A_ (bS (zz2 HB GE326) hb);(try clear hb))|((with_reducible refine gC (f:=37) rfl ?_);refine gsL (some 33) Tryz.func37 #[.int .i64 t331,.string t332,.string a2] ?_;(with_reducible refine (spec_l11Said.calls kj3 t331 t332 a2 t333 t336 t339 _ A18.out).mono ?_);rintro e w20 ⟨v334,v337,rfl,ho0,ho1,hb⟩;refine ⟨_,rfl,?_⟩;have HO335:=A_ (Kd.R_lower ho0 (below_size (zz2 HB GE326)));have HO338:=A_ (Kd.R_lower ho1 (below_size (zz2 HB GE326)));replace BK326:=A_ (bB (zz7 BK326) hb);replace HB:=A_ (bS (zz2 HB GE326) hb);(try clear hb ho0 ho1);obtain ⟨Ao21,co21,eo21⟩:=Kd.R_slice HO335.out;subst eo21;obtain ⟨_,_,_,_,_,_⟩:=cf3 BK326;obtain ⟨Ao23,co23,eo23⟩:=Kd.R_slice HO338.out;subst eo23))
    refine pR (results_cell_row rfl _ _ gb326 32 #[.slice Ao21 t333.length co21,.slice Ao23 t336.length co23,.int .i64 t339] (0,0) _ rfl (zz9 BK326) Tryz.underlying32 rfl (by kernel_rfl)) rfl ?_;exact ⟨_,_,zz1,(zz10 (rt HO335 BK326)),(zz10 (rt HO338 BK326)),(zz2 HB GE326)⟩
mutual
def strings_genSplit.j0:Nat→ByteArray→ByteArray→Int→Int→Option (List ByteArray)
 | 0,_,_,_,_=>none
 | k+1,x0,x1,x2,x3=>if 0≤(mn x3 (wrap64 ((x0.size:Int)+1))) then (if (mn x3 (wrap64 ((x0.size:Int)+1)):Int).toNat≤17592186044416 then (strings_genSplit.l0 k x0 x1 x2 (wrap64 ((mn x3 (wrap64 ((x0.size:Int)+1))) - 1)) (List.replicate (mn x3 (wrap64 ((x0.size:Int)+1)):Int).toNat (⟨#[]⟩:ByteArray)) 0) else (none)) else (none)
def strings_genSplit.l0:Nat→ByteArray→ByteArray→Int→Int→List ByteArray→Int→Option (List ByteArray)
 | 0,_,_,_,_,_,_=>none
 | k+1,x0,x1,x2,x3,x9,x10=>if x10 < x3 then ((strings_Index.f x0 x1).bind fun t440=>(if t440 < 0 then (if 0≤x10 then (if x10 < (x9.length:Int) then (if 0≤(wrap64 (x10+1)) then (if (wrap64 (x10+1))≤(x9.length:Int) then (some ((x9.set (x10:Int).toNat x0).take ((wrap64 (x10+1)):Int).toNat)) else (none)) else (none)) else (none)) else (none)) else (if 0≤(wrap64 (t440+x2)) then (if (wrap64 (t440+x2))≤(x0.size:Int) then (if 0≤x10 then (if x10 < (x9.length:Int) then (if 0≤(wrap64 (t440+(x1.size:Int))) then (if (wrap64 (t440+(x1.size:Int)))≤(x0.size:Int) then (strings_genSplit.l0 k (x0.extract ((wrap64 (t440+(x1.size:Int))):Int).toNat x0.size) x1 x2 x3 (x9.set (x10:Int).toNat (x0.extract 0 ((wrap64 (t440+x2)):Int).toNat)) (wrap64 (x10+1))) else (none)) else (none)) else (none)) else (none)) else (none)) else (none)))) else (if 0≤x10 then (if x10 < (x9.length:Int) then (if 0≤(wrap64 (x10+1)) then (if (wrap64 (x10+1))≤(x9.length:Int) then (some ((x9.set (x10:Int).toNat x0).take ((wrap64 (x10+1)):Int).toNat)) else (none)) else (none)) else (none)) else (none))
end
def strings_genSplit.f (k:Nat) (a0:ByteArray) (a1:ByteArray) (a2:Int) (a3:Int):Option (List ByteArray):=if a3=0 then (some ([]:List ByteArray)) else (if a1.toList=([]:List UInt8) then ((strings_explode.f a0 a3).bind fun t433=>(some t433)) else (if a3 < 0 then ((strings_Count.f a0 a1).bind fun t436=>(strings_genSplit.j0 k a0 a1 a2 (wrap64 (t436+1)))) else (strings_genSplit.j0 k a0 a1 a2 a3)))
theorem strings_genSplit.mono_l:∀ k,(∀ y0 y1 y2 y3,LeO (strings_genSplit.j0 k y0 y1 y2 y3) (strings_genSplit.j0 (k+1) y0 y1 y2 y3))∧(∀ y0 y1 y2 y3 y4 y5,LeO (strings_genSplit.l0 k y0 y1 y2 y3 y4 y5) (strings_genSplit.l0 (k+1) y0 y1 y2 y3 y4 y5))
 | 0=>by refine ⟨?_,?_⟩ <;> (intros;intro r h;simp [strings_genSplit.j0,strings_genSplit.l0] at h)
 | k+1=>by
  obtain ⟨ih0,ih1⟩:=strings_genSplit.mono_l k;refine ⟨?_,?_⟩ <;> intros <;> (first|unfold strings_genSplit.j0|unfold strings_genSplit.l0) <;>
  repeat' first|(with_reducible first|exact ih0 _ _ _ _|exact ih1 _ _ _ _ _ _|exact LeO.refl _|exact LeO.none _|refine LeO.ite ?_ ?_|refine LeO.bind ?_ (fun _=>?_))|exact LeO.none _|refine LeO.ite ?_ ?_|refine LeO.bind ?_ (fun _=>?_)
theorem strings_genSplit.mono:∀ a0 a1 a2 a3 k,LeO (strings_genSplit.f k a0 a1 a2 a3) (strings_genSplit.f (k+1) a0 a1 a2 a3):=by
 intro a0 a1 a2 a3 k;obtain ⟨ih0,ih1⟩:=strings_genSplit.mono_l k;unfold strings_genSplit.f
 repeat' first|(with_reducible first|exact ih0 _ _ _ _|exact ih1 _ _ _ _ _ _|exact LeO.refl _|exact LeO.none _|refine LeO.ite ?_ ?_|refine LeO.bind ?_ (fun _=>?_))|exact LeO.none _|refine LeO.ite ?_ ?_|refine LeO.bind ?_ (fun _=>?_)
theorem strings_genSplit.calls (k:Nat) (a0:ByteArray) (a1:ByteArray) (a2:Int) (a3:Int) (r:List ByteArray) (w:World) (h:strings_genSplit.f k a0 a1 a2 a3=some r) :
  Calls Tryz.prog 85 #[.string a0,.string a1,.int .i64 a2,.int .i64 a3] w fun e w'=>∃ v0_:Value,e=.returned (v0_)∧Kd.R Kd.string 9 w' w.heap.size (fun _=>True) v0_ r∧Below w.heap.size w w':=by
 have HB:=A_ (Below.refl w.heap.size w);unfold strings_genSplit.f at h
 have H:=h;clear h;replace H:=iteEq H;rcases H with ⟨c5b0,c5b1,H⟩|⟨c5b0,c5b1,c5,H⟩
 ·obtain rfl:=sI H
  go_enter Tryz.func85,Tryz.ntmps85;go_wp2
  go_ret
  exact ⟨_,zz1,zz75,(zz0 HB)⟩
 ·replace H:=iteEq H
  rcases H with ⟨c6b0,c6b1,H⟩|⟨c6b0,c6b1,c6,H⟩
  ·replace H:=bindA H
   obtain ⟨t433,A7,H⟩:=H;obtain rfl:=sI H;go_enter Tryz.func85,Tryz.ntmps85;go_wp2_with (first|(refine gV 112 (some 18) Tryz.func112 (strings_explode.calls a0 a3 t433 _ A7.out) ?_;rintro v434 w8 ⟨ho0,hb⟩;have HO435:=A_ (Kd.R_lower ho0 (below_size (zz0 HB)));replace HB:=A_ (bS (zz0 HB) hb);(try clear hb ho0)))
   go_ret
   exact ⟨_,zz1,(zz8 HO435),(zz0 HB)⟩
  ·have HC9:=A_ H
   clear H;go_enter Tryz.func85,Tryz.ntmps85;go_upto_if 20 with (fail)
   go_cut [3] (fun v3 wc=>∃ (kq:Nat) (x3_8:Int),v3=.int .i64 x3_8∧Aside0 (strings_genSplit.j0 kq a0 a1 a2 x3_8=some r)∧Aside0 (kq≤k)∧Aside0 (Below w.heap.size w wc))
   case first=>
    obtain ⟨H⟩:=HC9;replace H:=iteEd H;rcases H with ⟨c10b0,H⟩|⟨c10b0,H⟩
    ·(first|rw [c10b0]|(simp only [i64_w,i32_w];rw [c10b0])|skip)
     replace H:=bindA H;obtain ⟨t436,A11,H⟩:=H;have H':=A_ H;clear H;go_wp2_with (first|(refine gR 113 (some 23) Tryz.func113 (strings_Count.calls a0 a1 t436 _ A11.out) ?_;rintro w12 hb;replace HB:=A_ (bS (zz0 HB) hb);(try clear hb)))
     go_meet
     case rel=>exact ⟨_,(wrap64 (t436+1)),zz3,H',⟨zz22⟩,⟨(zz0 HB)⟩⟩
    ·(first|rw [c10b0]|(simp only [i64_w,i32_w];rw [c10b0])|skip)
     have H':=A_ H;clear H;go_wp2
     go_meet
     case rel=>exact ⟨_,(a3),zz3,H',⟨zz22⟩,⟨(zz0 HB)⟩⟩
   case rest=>
    clear HC9;obtain ⟨kq,x3_8,rfl,HA,HJ8,HB⟩:=hcut;cases kq with
    | zero=>exact absurd HA.out (by simp [strings_genSplit.j0])
    | succ kj8=>
     obtain ⟨H⟩:=HA;simp only [strings_genSplit.j0] at H
     obtain ⟨ji13,hji13⟩:∃ j_:Int,(mn x3_8 (wrap64 ((a0.size:Int)+1)))=j_:=⟨_,rfl⟩;(first|rw [hji13] at H|simp only [hji13] at H)
     have hji13_:(if (wrap64 ((a0.size:Int)+1)) < x3_8 then (wrap64 ((a0.size:Int)+1)) else x3_8)=ji13:=hji13;replace H:=iteE H;rcases H with ⟨c14,H⟩|⟨c14,H⟩
     ·have c14b0:=eq_true c14
      have c14b1:=dT c14;clear c14;replace H:=iteN H;obtain ⟨c15,H⟩:=H;have c15b0:=eq_true c15;have c15b1:=dT c15;clear c15;obtain ⟨y437,Ny437⟩:=toY (List.replicate (ji13:Int).toNat (⟨#[]⟩:ByteArray));(first|with_reducible replace H:=bindZ Ny437 H|rw [← Ny437.out] at H|skip)
      have H':=A_ H;clear H;go_wp2_with (first|((with_reducible refine gD (N:=31) rfl ?_);refine Kd.R_make Kd.string _ 9 rfl (N:=31) rfl 29 _ _ rfl ji13 rfl rfl Tryz.underlying29 (.string ⟨#[]⟩) 16 info9 rfl (by decide) (by omega) (⟨#[]⟩:ByteArray) (ok:=fun _=>True) (okp:=fun _=>True) rfl (fun _ hk=>hk) trivial ofD (Nat.le_trans (Nat.mul_le_mul_right _ (ofD:ji13.toNat≤17592186044416)) (by omega)) (Below.refl _ _) (Nat.le_refl _) ?_;intro v438 w16 ho17 hb hg_ hnew_;clear hg_ hnew_;(first|rw [← Ny437.out] at ho17|(simp only [Int.reduceToNat] at ho17;rw [← Ny437.out] at ho17));have HO439:=A_ (Kd.R_lower ho17 (below_size (zz0 HB)));replace HB:=A_ (bS (zz0 HB) hb);clear hb ho17))
      go_loopg [0,10] kj8 (fun kq v0 v10 w'=>∃ (x0_2:ByteArray) (x9_2:List ByteArray) (x10_2:Int),v0=.string x0_2∧v10=.int .i64 x10_2∧Aside0 (strings_genSplit.l0 kq x0_2 a1 a2 (wrap64 ((ji13) - 1)) x9_2 x10_2=some r)∧Aside0 (kq≤kj8)∧Aside0 (Kd.R Kd.string 9 w' w.heap.size (fun _=>True) v438 x9_2)∧Aside0 (Below w.heap.size w w'))
      case atStart=>exact ⟨(a0),(y437),(0),zz3,zz3,H',⟨Nat.le_refl _⟩,⟨(zz8 HO439)⟩,⟨(zz0 HB)⟩⟩
      case round=>
       clear H';obtain ⟨x0_2,x9_2,x10_2,rfl,rfl,HA,HK2,HO_9,HB⟩:=hrel;cases gk with
       | zero=>exact absurd HA.out (by simp [strings_genSplit.l0])
       | succ k2=>
        obtain ⟨H⟩:=HA;simp only [strings_genSplit.l0] at H
        replace H:=iteEd H;rcases H with ⟨c18b0,H⟩|⟨c18b0,H⟩
        ·replace H:=bindA H
         obtain ⟨t440,A19,H⟩:=H;have HF20:=A_ H;clear H;go_upto_if 41 with (first|(refine gR 114 (some 39) Tryz.func114 (strings_Index.calls x0_2 a1 t440 _ A19.out) ?_;rintro w21 hb;replace HO_9:=A_ (rB (zz8 HO_9) hb);replace HB:=A_ (bS (zz0 HB) hb);(try clear hb)))
         obtain ⟨H⟩:=HF20;replace H:=iteEd H;rcases H with ⟨c22b0,H⟩|⟨c22b0,H⟩
         ·(first|rw [c22b0]|(simp only [i64_w,i32_w];rw [c22b0])|skip)
          replace H:=iteNd H;obtain ⟨c23b0,H⟩:=H;replace H:=iteNd H;obtain ⟨c24b0,H⟩:=H;obtain ⟨y441,hy441⟩:∃ y_:List ByteArray,y_=(x9_2.set (x10_2:Int).toNat x0_2):=⟨_,rfl⟩;replace H:(if 0≤(wrap64 (x10_2+1)) then (if (wrap64 (x10_2+1))≤(x9_2.length:Int) then (some (y441.take ((wrap64 (x10_2+1)):Int).toNat)) else (none)) else (none))=some r:=by first|(rw [hy441];with_reducible exact H)|(have H2_:=(Option.bind_some _ _).symm.trans H;rw [hy441];with_reducible exact H2_)|(have H2_:=(Option.bind_some _ _).symm.trans H;with_reducible exact H2_)|with_reducible exact H|(rw [hy441];exact H)|exact H
          have Ny441:=A_ hy441;have Ly441:y441.length≤x9_2.length∧x9_2.length≤y441.length:=by rw [hy441,List.length_set];exact ⟨Nat.le_refl _,Nat.le_refl _⟩
          have My441:=Ly441.1;replace Ly441:=Ly441.2;clear hy441;obtain ⟨ji26,hji26⟩:∃ j_:Int,(wrap64 (x10_2+1))=j_:=⟨_,rfl⟩;(first|rw [hji26] at H|simp only [hji26] at H)
          have hji26w:(IntKind.i64.wrap (x10_2+1))=ji26:=(i64_w _).trans hji26;replace H:=iteN H;obtain ⟨c27,H⟩:=H;have c27b0:=eq_true c27;have c27b1:=dT c27;clear c27;replace H:=iteN H;obtain ⟨c28,H⟩:=H;have c28b0:=eq_true c28;have c28b1:=dT c28;clear c28;obtain ⟨y442,Ny442⟩:=toY (y441.take ((ji26):Int).toNat);(first|with_reducible replace H:=bindZ Ny442 H|rw [← Ny442.out] at H|skip)
          obtain rfl:=sI H;have p25:0≤(x10_2:Int):=ofD;have q25:(x10_2:Int) < ((x9_2.length:Int):Int):=ofD;obtain ⟨go25,co25,eo25,gb25,gl25,cl25,HG25⟩:=Kd.R_form HO_9.out (by omega);(first|cases eo25|(injection eo25 with ea_ en_ ec_;(first|subst ea_|(injection ea_ with ea_;subst ea_));subst ec_;clear en_))
          have GB25:=A_ gb25;have GG25:=A_ HG25;clear gb25 gl25 HG25;obtain ⟨hx25_0,hf25_0⟩:=Kd.R_celln (⟨#[]⟩:ByteArray) HO_9.out (x10_2:Int) p25 q25;replace p25:=eq_true p25;replace q25:=eq_true q25;have HP29:=Kd.R_putg HO_9.out (x10_2:Int) x0_2;go_wp2_with (first|((with_reducible refine gate_store (t:=9) (p:=61) rfl ?_);refine store_event (t:=9) (p:=61) (v:=?vo_w30) (w1:=(w21.setCell ⟨go25,(x10_2:Int).toNat,none⟩ (.string x0_2))) ?hg ?ho ?hn ?hr ?_;(case ho=>rfl);(case hg=>rfl);(case hn=>rfl);(case hr=>exact zz6);intro w30 hw;have hg:w21.grownBy w30 (some go25):=(by rw [hw];exact HP29.2);have hp_:Kd.R Kd.string 9 w30 w.heap.size (fun _=>True) (.slice (some ⟨go25,0,none⟩) x9_2.length co25) y441:=(by rw [hw,Ny441.out];exact HP29.1);clear HP29;replace HO_9:=A_ (hp_);replace HB:=A_ ((by rw [hw];exact below_set (HB.out) GB25.out:Below w.heap.size w w30));clear hg hw hp_;have q31:((ji26):Int)≤((x9_2.length:Int):Int):=ofD;obtain ⟨i031,hi031,_,hsz31,_⟩:=info_parts info9;have hcut31:=cut_to (P:=Tryz.prog) 29 9 .i64 Tryz.underlying29 hi031 (some ⟨go25,0,none⟩) x9_2.length co25 (ji26) ofD q31 (Kd.R_reads' HO_9.out).2.1;have hr31:=Kd.R_take (m:=((ji26):Int).toNat) HO_9.out (by omega);have hy31:y442.length=((ji26):Int).toNat:=(by rw [Ny442.out,List.length_take];omega);rw [← Ny442.out] at hr31;rw [← hy31] at hr31 hcut31;clear hy31 hi031 hsz31 HO_9;have HO444:=A_ hr31;clear hr31;replace q31:=eq_true q31))
          go_ret
          exact ⟨_,(by first|rfl|(simp [errW_none,errW_some] <;> rfl)|(simp only [← hji13,← hji26];first|rfl|(simp [errW_none,errW_some] <;> rfl))|(simp [*,errW_none,errW_some] <;> rfl)),(zz8 HO444),(zz0 HB)⟩
         ·(first|rw [c22b0]|(simp only [i64_w,i32_w];rw [c22b0])|skip)
          obtain ⟨ji32,hji32⟩:∃ j_:Int,(wrap64 (t440+a2))=j_:=⟨_,rfl⟩;(first|rw [hji32] at H|simp only [hji32] at H)
          have hji32w:(IntKind.i64.wrap (t440+a2))=ji32:=(i64_w _).trans hji32;replace H:=iteN H;obtain ⟨c33,H⟩:=H;have c33b0:=eq_true c33;have c33b1:=dT c33;clear c33;replace H:=iteN H;obtain ⟨c34,H⟩:=H;have c34b0:=eq_true c34;have c34b1:=dT c34;clear c34;replace H:=iteNd H;obtain ⟨c35b0,H⟩:=H;replace H:=iteNd H;obtain ⟨c36b0,H⟩:=H;obtain ⟨y445,hy445⟩:∃ y_:List ByteArray,y_=(x9_2.set (x10_2:Int).toNat (x0_2.extract 0 ((ji32):Int).toNat)):=⟨_,rfl⟩;replace H:(if 0≤(wrap64 (t440+(a1.size:Int))) then (if (wrap64 (t440+(a1.size:Int)))≤(x0_2.size:Int) then (strings_genSplit.l0 k2 (x0_2.extract ((wrap64 (t440+(a1.size:Int))):Int).toNat x0_2.size) a1 a2 (wrap64 ((ji13) - 1)) y445 (wrap64 (x10_2+1))) else (none)) else (none))=some r:=by first|(rw [hy445];with_reducible exact H)|(have H2_:=(Option.bind_some _ _).symm.trans H;rw [hy445];with_reducible exact H2_)|(have H2_:=(Option.bind_some _ _).symm.trans H;with_reducible exact H2_)|with_reducible exact H|(rw [hy445];exact H)|exact H
          have Ny445:=A_ hy445;have Ly445:y445.length≤x9_2.length∧x9_2.length≤y445.length:=by rw [hy445,List.length_set];exact ⟨Nat.le_refl _,Nat.le_refl _⟩
          have My445:=Ly445.1;replace Ly445:=Ly445.2;clear hy445;obtain ⟨ji38,hji38⟩:∃ j_:Int,(wrap64 (t440+(a1.size:Int)))=j_:=⟨_,rfl⟩;(first|rw [hji38] at H|simp only [hji38] at H)
          have hji38w:(IntKind.i64.wrap (t440+(a1.size:Int)))=ji38:=(i64_w _).trans hji38;replace H:=iteN H;obtain ⟨c39,H⟩:=H;have c39b0:=eq_true c39;have c39b1:=dT c39;clear c39;replace H:=iteN H;obtain ⟨c40,H⟩:=H;have c40b0:=eq_true c40;have c40b1:=dT c40;clear c40;have H':=A_ H;clear H;have p37:0≤(x10_2:Int):=ofD;have q37:(x10_2:Int) < ((x9_2.length:Int):Int):=ofD;obtain ⟨go37,co37,eo37,gb37,gl37,cl37,HG37⟩:=Kd.R_form HO_9.out (by omega);(first|cases eo37|(injection eo37 with ea_ en_ ec_;(first|subst ea_|(injection ea_ with ea_;subst ea_));subst ec_;clear en_))
          have GB37:=A_ gb37;have GG37:=A_ HG37;clear gb37 gl37 HG37;obtain ⟨hx37_0,hf37_0⟩:=Kd.R_celln (⟨#[]⟩:ByteArray) HO_9.out (x10_2:Int) p37 q37;replace p37:=eq_true p37;replace q37:=eq_true q37;have HP41:=Kd.R_putg HO_9.out (x10_2:Int) (x0_2.extract 0 ((ji32):Int).toNat);go_wp2_with (first|((with_reducible refine gate_store (t:=9) (p:=49) rfl ?_);refine store_event (t:=9) (p:=49) (v:=?vo_w42) (w1:=(w21.setCell ⟨go37,(x10_2:Int).toNat,none⟩ (.string (x0_2.extract 0 ((ji32):Int).toNat)))) ?hg ?ho ?hn ?hr ?_;(case ho=>rfl);(case hg=>rfl);(case hn=>rfl);(case hr=>exact zz6);intro w42 hw;have hg:w21.grownBy w42 (some go37):=(by rw [hw];exact HP41.2);have hp_:Kd.R Kd.string 9 w42 w.heap.size (fun _=>True) (.slice (some ⟨go37,0,none⟩) x9_2.length co37) y445:=(by rw [hw,Ny445.out];exact HP41.1);clear HP41;replace HO_9:=A_ (hp_);replace HB:=A_ ((by rw [hw];exact below_set (HB.out) GB37.out:Below w.heap.size w w42));clear hg hw hp_))
          go_roundg k2
          case measure=>have:=HJ8.out;have:=HK2.out;omega
          case rel=>exact ⟨(x0_2.extract ((ji38):Int).toNat x0_2.size),(y445),(wrap64 (x10_2+1)),(by first|rfl|(simp only [i64_w,i32_w];done)|(simp only [aid_isEmpty,aid_isEmpty2];done)|(simp;done)|((simp only [← hji38] <;> (first|rfl|simp));done)|(simp [*];done)),zz3,H',⟨(zz31 HJ8 HK2)⟩,⟨(zz8 HO_9)⟩,⟨(zz0 HB)⟩⟩
        ·replace H:=iteNd H
         obtain ⟨c43b0,H⟩:=H;replace H:=iteNd H;obtain ⟨c44b0,H⟩:=H;obtain ⟨y446,hy446⟩:∃ y_:List ByteArray,y_=(x9_2.set (x10_2:Int).toNat x0_2):=⟨_,rfl⟩;replace H:(if 0≤(wrap64 (x10_2+1)) then (if (wrap64 (x10_2+1))≤(x9_2.length:Int) then (some (y446.take ((wrap64 (x10_2+1)):Int).toNat)) else (none)) else (none))=some r:=by first|(rw [hy446];with_reducible exact H)|(have H2_:=(Option.bind_some _ _).symm.trans H;rw [hy446];with_reducible exact H2_)|(have H2_:=(Option.bind_some _ _).symm.trans H;with_reducible exact H2_)|with_reducible exact H|(rw [hy446];exact H)|exact H
         have Ny446:=A_ hy446;have Ly446:y446.length≤x9_2.length∧x9_2.length≤y446.length:=by rw [hy446,List.length_set];exact ⟨Nat.le_refl _,Nat.le_refl _⟩
         have My446:=Ly446.1;replace Ly446:=Ly446.2;clear hy446;obtain ⟨ji46,hji46⟩:∃ j_:Int,(wrap64 (x10_2+1))=j_:=⟨_,rfl⟩;(first|rw [hji46] at H|simp only [hji46] at H)
         have hji46w:(IntKind.i64.wrap (x10_2+1))=ji46:=(i64_w _).trans hji46;replace H:=iteN H;obtain ⟨c47,H⟩:=H;have c47b0:=eq_true c47;have c47b1:=dT c47;clear c47;replace H:=iteN H;obtain ⟨c48,H⟩:=H;have c48b0:=eq_true c48;have c48b1:=dT c48;clear c48;obtain ⟨y447,Ny447⟩:=toY (y446.take ((ji46):Int).toNat);(first|with_reducible replace H:=bindZ Ny447 H|rw [← Ny447.out] at H|skip)
         obtain rfl:=sI H;have p45:0≤(x10_2:Int):=ofD;have q45:(x10_2:Int) < ((x9_2.length:Int):Int):=ofD;obtain ⟨go45,co45,eo45,gb45,gl45,cl45,HG45⟩:=Kd.R_form HO_9.out (by omega);(first|cases eo45|(injection eo45 with ea_ en_ ec_;(first|subst ea_|(injection ea_ with ea_;subst ea_));subst ec_;clear en_))
         have GB45:=A_ gb45;have GG45:=A_ HG45;clear gb45 gl45 HG45;obtain ⟨hx45_0,hf45_0⟩:=Kd.R_celln (⟨#[]⟩:ByteArray) HO_9.out (x10_2:Int) p45 q45;replace p45:=eq_true p45;replace q45:=eq_true q45;have HP49:=Kd.R_putg HO_9.out (x10_2:Int) x0_2;go_wp2_with (first|((with_reducible refine gate_store (t:=9) (p:=61) rfl ?_);refine store_event (t:=9) (p:=61) (v:=?vo_w50) (w1:=(wr.setCell ⟨go45,(x10_2:Int).toNat,none⟩ (.string x0_2))) ?hg ?ho ?hn ?hr ?_;(case ho=>rfl);(case hg=>rfl);(case hn=>rfl);(case hr=>exact zz6);intro w50 hw;have hg:wr.grownBy w50 (some go45):=(by rw [hw];exact HP49.2);have hp_:Kd.R Kd.string 9 w50 w.heap.size (fun _=>True) (.slice (some ⟨go45,0,none⟩) x9_2.length co45) y446:=(by rw [hw,Ny446.out];exact HP49.1);clear HP49;replace HO_9:=A_ (hp_);replace HB:=A_ ((by rw [hw];exact below_set (HB.out) GB45.out:Below w.heap.size w w50));clear hg hw hp_;have q51:((ji46):Int)≤((x9_2.length:Int):Int):=ofD;obtain ⟨i051,hi051,_,hsz51,_⟩:=info_parts info9;have hcut51:=cut_to (P:=Tryz.prog) 29 9 .i64 Tryz.underlying29 hi051 (some ⟨go45,0,none⟩) x9_2.length co45 (ji46) ofD q51 (Kd.R_reads' HO_9.out).2.1;have hr51:=Kd.R_take (m:=((ji46):Int).toNat) HO_9.out (by omega);have hy51:y447.length=((ji46):Int).toNat:=(by rw [Ny447.out,List.length_take];omega);rw [← Ny447.out] at hr51;rw [← hy51] at hr51 hcut51;clear hy51 hi051 hsz51 HO_9;have HO449:=A_ hr51;clear hr51;replace q51:=eq_true q51))
         go_ret
         exact ⟨_,(by first|rfl|(simp [errW_none,errW_some] <;> rfl)|(simp only [← hji13,← hji46];first|rfl|(simp [errW_none,errW_some] <;> rfl))|(simp [*,errW_none,errW_some] <;> rfl)),(zz8 HO449),(zz0 HB)⟩
     ·exact absurd H (by simp)
def impl_EscNorm.l0:Nat→ByteArray→List Int→Int→Option (ByteArray×Bool)
 | 0,_,_,_=>none
 | k+1,x0,x4,x5=>if x5 < (x0.size:Int) then (if 0≤x5 then (if (bt x0 x5)=37 then ((impl_signByte.f x0 x5).bind fun bt458=>(if bt458.2=true then ((impl_standsForItself.f bt458.1).bind fun t460=>(if t460=true then (if x4.length < 140737488355328 then (impl_EscNorm.l0 k x0 (x4++[bt458.1]) (wrap64 ((wrap64 (x5+2))+1))) else (none)) else (if 0≤(bt458.1 / 16) then (if (bt458.1 / 16) < 16 then (if 0≤(Go.bits .and .u8 bt458.1 15) then (if (Go.bits .and .u8 bt458.1 15) < 16 then ((some (([37,bt (⟨#[48,49,50,51,52,53,54,55,56,57,65,66,67,68,69,70]⟩:ByteArray) (bt458.1 / 16),bt (⟨#[48,49,50,51,52,53,54,55,56,57,65,66,67,68,69,70]⟩:ByteArray) (Go.bits .and .u8 bt458.1 15)]:List Int):List Int)).bind fun y464=>(if x4.length+y464.length < 140737488355328 then (impl_EscNorm.l0 k x0 (x4++y464) (wrap64 ((wrap64 (x5+2))+1))) else (none))) else (none)) else (none)) else (none)) else (none)))) else (some ((⟨#[]⟩:ByteArray),false)))) else ((impl_standsForItself.f (bt x0 x5)).bind fun t470=>(if t470=true then (if x4.length < 140737488355328 then (impl_EscNorm.l0 k x0 (x4++[bt x0 x5]) (wrap64 (x5+1))) else (none)) else (if 0≤((bt x0 x5) / 16) then (if ((bt x0 x5) / 16) < 16 then (if 0≤(Go.bits .and .u8 (bt x0 x5) 15) then (if (Go.bits .and .u8 (bt x0 x5) 15) < 16 then ((some (([37,bt (⟨#[48,49,50,51,52,53,54,55,56,57,65,66,67,68,69,70]⟩:ByteArray) ((bt x0 x5) / 16),bt (⟨#[48,49,50,51,52,53,54,55,56,57,65,66,67,68,69,70]⟩:ByteArray) (Go.bits .and .u8 (bt x0 x5) 15)]:List Int):List Int)).bind fun y474=>(if x4.length+y474.length < 140737488355328 then (impl_EscNorm.l0 k x0 (x4++y474) (wrap64 (x5+1))) else (none))) else (none)) else (none)) else (none)) else (none))))) else (none)) else (some (strOfNums x4,true))
def impl_EscNorm.f (k:Nat) (a0:ByteArray):Option (ByteArray×Bool):=if (a0.size:Int) > 60 then (some ((⟨#[]⟩:ByteArray),false)) else (impl_EscNorm.l0 k a0 ([]:List Int) 0)
theorem impl_EscNorm.mono_l:∀ k,(∀ y0 y1 y2,LeO (impl_EscNorm.l0 k y0 y1 y2) (impl_EscNorm.l0 (k+1) y0 y1 y2))
 | 0=>by intros;intro r h;simp [impl_EscNorm.l0] at h
 | k+1=>by
  have ih0:=impl_EscNorm.mono_l k;intros;unfold impl_EscNorm.l0;repeat' first|(with_reducible first|exact ih0 _ _ _|exact LeO.refl _|exact LeO.none _|refine LeO.ite ?_ ?_|refine LeO.bind ?_ (fun _=>?_))|exact LeO.none _|refine LeO.ite ?_ ?_|refine LeO.bind ?_ (fun _=>?_)
theorem impl_EscNorm.mono:∀ a0 k,LeO (impl_EscNorm.f k a0) (impl_EscNorm.f (k+1) a0):=by
 intro a0 k;have ih0:=impl_EscNorm.mono_l k;unfold impl_EscNorm.f
 repeat' first|(with_reducible first|exact ih0 _ _ _|exact LeO.refl _|exact LeO.none _|refine LeO.ite ?_ ?_|refine LeO.bind ?_ (fun _=>?_))|exact LeO.none _|refine LeO.ite ?_ ?_|refine LeO.bind ?_ (fun _=>?_)
def impl_EscNorm.T16:Bool×List (List Nat×List Nat):=(true,[([],[]),([],[]),([1],[1]),([2],[2]),([],[]),([4],[4]),([5],[5]),([3,6],[3,6]),([0,7],[0,7]),([8,8,0,1,2,3,4,5,6,7,8],[0,8])])
def impl_EscNorm.B16:List Nat:=[0,0,2,6,0,16,48,126,255,511]
theorem impl_EscNorm.tab16:rtab .any (opsOf Tryz.f132 16)=impl_EscNorm.T16:=by kernel_rfl
theorem impl_EscNorm.bits16:waitsOk impl_EscNorm.T16.2 impl_EscNorm.B16=true:=by kernel_rfl
theorem impl_EscNorm.calls (k:Nat) (a0:ByteArray) (r1:ByteArray) (r2:Bool) (w:World) (h:impl_EscNorm.f k a0=some (r1,r2)) :
  Calls Tryz.prog 132 #[.string a0] w fun e w'=>e=.returned (.tuple #[.string r1,.bool r2])∧Below w.heap.size w w':=by
 have HB:=A_ (Below.refl w.heap.size w);unfold impl_EscNorm.f at h
 have H:=h;clear h;replace H:=iteE H;rcases H with ⟨c2,H⟩|⟨c2,H⟩
 ·have c2b0:=gtT c2
  have c2b1:decide (60 < a0.size)=true:=dT (by omega);clear c2;simp only [Option.some.injEq,Prod.mk.injEq] at H
  obtain ⟨rfl,rfl⟩:=H;go_enter Tryz.func132,Tryz.ntmps132;go_wp2
  go_ret2
  exact ⟨zz1,(zz0 HB)⟩
 ·have c2b0:=gtF c2
  have c2b1:decide (60 < a0.size)=false:=dF (by omega);clear c2;have H':=A_ H;clear H;go_enter Tryz.func132,Tryz.ntmps132;go_wp2
  go_loopg [4,5] k (fun kq v4 v5 w'=>∃ (x4_1:List Int) (x5_1:Int),v5=.int .i64 x5_1∧Aside0 (impl_EscNorm.l0 kq a0 x4_1 x5_1=some (r1,r2))∧Aside0 (kq≤k)∧Aside0 (Kd.R (Kd.int .u8) 5 w' w.heap.size (fun _=>True) v4 x4_1)∧Aside0 (Below w.heap.size w w'))
  case atStart=>exact ⟨(([]:List Int)),(0),zz3,H',⟨Nat.le_refl _⟩,⟨zz75⟩,⟨(zz0 HB)⟩⟩
  case round=>
   clear H';obtain ⟨x4_1,x5_1,rfl,HA,HK1,HO_4,HB⟩:=hrel;cases gk with
   | zero=>exact absurd HA.out (by simp [impl_EscNorm.l0])
   | succ k1=>
    obtain ⟨H⟩:=HA;simp only [impl_EscNorm.l0] at H
    replace H:=iteEd H;rcases H with ⟨c3b0,H⟩|⟨c3b0,H⟩
    ·replace H:=iteNd H
     obtain ⟨c4b0,H⟩:=H;replace H:=iteEq H;rcases H with ⟨c6b0,c6b1,H⟩|⟨c6b0,c6b1,c6,H⟩
     ·replace H:=bindA H
      obtain ⟨⟨t458,t459⟩,A7,H⟩:=H;try dsimp only at H
      replace H:=iteB H;rcases H with ⟨rfl,H⟩|⟨rfl,H⟩
      ·replace H:=bindA H
       obtain ⟨t460,A9,H⟩:=H;replace H:=iteB H;rcases H with ⟨rfl,H⟩|⟨rfl,H⟩
       ·replace H:=iteN H
        obtain ⟨c11,H⟩:=H;have LMc11:=A_ c11;clear c11;obtain ⟨y461,Ny461⟩:=toY (x4_1++[t458]);(first|with_reducible replace H:=bindZ Ny461 H|rw [← Ny461.out] at H|skip)
        have H':=A_ H;clear H;have p5:0≤(x5_1:Int):=ofD;have q5:x5_1 < (a0.size:Int):=ofD;have hx5:=bt_at a0 x5_1;replace p5:=eq_true p5;replace q5:=eq_true q5;go_wp2_with (first|(refine gR 160 (some 26) Tryz.func160 (impl_signByte.calls a0 x5_1 t458 true _ A7.out) ?_;rintro w12 hb;replace HO_4:=A_ (rB (zz8 HO_4) hb);replace HB:=A_ (bS (zz0 HB) hb);(try clear hb))|(refine gR 146 (some 35) Tryz.func146 (impl_standsForItself.calls t458 true _ A9.out) ?_;rintro w' ⟨nd,rfl⟩)|((with_reducible refine gate_builtin (b:=.append) (xs:=#[.tmp 36,.tmp 38]) rfl ?_);at_builtin;refine Kd.R_append (Kd.int .u8) (w0:=w) w.heap.size rfl (.tmp 36) (.tmp 38) 37 5 (.int .u8 0) 1 rfl Tryz.underlying37 info5 rfl (by decide) (by omega) u4 x4_1 t458 [.int .u8 t458] (fun _=>True) (fun _=>False) rfl rfl ?aP (fun _ hk=>hk.elim) ?aF ?aO ?aB ?aS ?aL ?_;(case aP=>exact rfl);(case aB=>exact (zz0 HB));(case aF=>exact (fun _ _=>trivial));(case aO=>exact (zz8 HO_4));(case aS=>exact (below_size (zz0 HB)));(case aL=>exact (zz17 LMc11));intro v462 w13 ho hb hg hat;rw [← Ny461.out] at ho;replace HB:=A_ (hb);have HO463:=A_ (ho);clear HO_4;clear ho hb hg hat))
        go_roundg k1
        case measure=>have:=HK1.out;omega
        case rel=>exact ⟨(y461),(wrap64 ((wrap64 (x5_1+2))+1)),zz3,H',⟨(zz17 HK1)⟩,⟨(zz8 HO463)⟩,⟨(zz0 HB)⟩⟩
       ·obtain ⟨ji14,hji14⟩:∃ j_:Int,(t458 / 16)=j_:=⟨_,rfl⟩
        (first|rw [hji14] at H|simp only [hji14] at H)
        (try rw [hji14] at A7)
        (try rw [hji14] at A9)
        replace H:=iteNd H;obtain ⟨c15b0,H⟩:=H;replace H:=iteNd H;obtain ⟨c16b0,H⟩:=H;replace H:=iteNd H;obtain ⟨c18b0,H⟩:=H;replace H:=iteNd H;obtain ⟨c19b0,H⟩:=H;obtain ⟨y464,Ny464⟩:=toY (([37,bt (⟨#[48,49,50,51,52,53,54,55,56,57,65,66,67,68,69,70]⟩:ByteArray) (ji14),bt (⟨#[48,49,50,51,52,53,54,55,56,57,65,66,67,68,69,70]⟩:ByteArray) (Go.bits .and .u8 t458 15)]:List Int));(first|with_reducible replace H:=bindZ Ny464 H|rw [← Ny464.out] at H|skip)
        replace H:=iteN H;obtain ⟨c21,H⟩:=H;have LMc21:=A_ c21;clear c21;obtain ⟨y467,Ny467⟩:=toY (x4_1++y464);(first|with_reducible replace H:=bindZ Ny467 H|rw [← Ny467.out] at H|skip)
        have H':=A_ H;clear H;have p5:0≤(x5_1:Int):=ofD;have q5:x5_1 < (a0.size:Int):=ofD;have hx5:=bt_at a0 x5_1;replace p5:=eq_true p5;replace q5:=eq_true q5;try go_wp2_with (first|(refine gR 160 (some 26) Tryz.func160 (impl_signByte.calls a0 x5_1 t458 true _ A7.out) ?_;rintro w22 hb;replace HO_4:=A_ (rB (zz8 HO_4) hb);replace HB:=A_ (bS (zz0 HB) hb);(try clear hb))|(refine gR 146 (some 35) Tryz.func146 (impl_standsForItself.calls t458 false _ A9.out) ?_;rintro w' ⟨nd,rfl⟩))
        (try (rw [drewN_self w22];generalize hq_:World.drewN w22 _=w22;have n0_:Aside0 (Kd.R (Kd.int .u8) 5 w22 w.heap.size (fun _=>True) u4 x4_1):=⟨(by rw [← hq_];exact (zz8 HO_4))⟩;have n1_:Aside0 (Below w.heap.size w w22):=⟨(by rw [← hq_];exact (zz0 HB))⟩;clear HO_4 HB hq_;have HO_4:=n0_;have HB:=n1_;clear n0_ n1_))
        replace HO_4:=A_ (Kd.R_drew HO_4.out);replace HB:=A_ (below_drew1 HB.out);have p17:0≤((ji14):Int):=ofD;have q17:(ji14) < (16:Int):=ofD;have hx17:=bt_at (⟨#[48,49,50,51,52,53,54,55,56,57,65,66,67,68,69,70]⟩:ByteArray) (ji14);replace p17:=eq_true p17;replace q17:=eq_true q17;have p20:0≤((Go.bits .and .u8 t458 15):Int):=ofD;have q20:(Go.bits .and .u8 t458 15) < (16:Int):=ofD;have hx20:=bt_at (⟨#[48,49,50,51,52,53,54,55,56,57,65,66,67,68,69,70]⟩:ByteArray) (Go.bits .and .u8 t458 15);replace p20:=eq_true p20;replace q20:=eq_true q20;refine start_ (n:=10) (S:=fun w'=>True) (ds:=[]) #[yF,yF,yF,yF,yF,yF,yF,yF,yF,yF] (by kernel_rfl) rfl rfl trivial (fun hHeld=>?_);refine with_tabW impl_EscNorm.tab16 impl_EscNorm.bits16 (fun HT_ HW_=>?_);generalize w22.drew=w23 at HO_4 HB hHeld ⊢;refine pureZ 0 (some 40) #[yT,yF,yF,yF,yF,yF,yF,yF,yF,yF] ?_;refine pureZ 1 (some 41) #[yT,yT,yF,yF,yF,yF,yF,yF,yF,yF] ?_;refine pureZ 2 (some 42) #[yT,yT,yT,yF,yF,yF,yF,yF,yF,yF] ?_;refine pureZ 4 (some 44) #[yT,yT,yT,yF,yT,yF,yF,yF,yF,yF] ?_;refine pureZ 5 (some 45) #[yT,yT,yT,yF,yT,yT,yF,yF,yF,yF] ?_;refine take_ (i:=3) (N:=some 43) (v:=?_) (a':=?_) #[yT,yT,yT,yT,yT,yT,yF,yF,yF,yF] rfl rfl (take_ofW HT_.out HW_.out (by kernel_rfl)) (fun _ _ _ h=>h) (Or.inl ⟨by rfl,?_⟩) hHeld ?_ ?_;rotate_left
        ·intro w' _
         go_simp
         with_reducible rfl
        rotate_left
        ·simp only [Act.put,List.setIfInBounds_toArray,List.set_cons_zero,List.set_cons_succ,i64_w,i32_w]
         rfl
        refine take_ (i:=6) (N:=some 46) (v:=?_) (a':=?_) #[yT,yT,yT,yT,yT,yT,yT,yF,yF,yF] rfl rfl (take_ofW HT_.out HW_.out (by kernel_rfl)) (fun _ _ _ h=>h) (Or.inl ⟨by rfl,?_⟩) hHeld ?_ ?_;rotate_left
        ·intro w' _
         go_simp
         with_reducible rfl
        rotate_left
        ·simp only [Act.put,List.setIfInBounds_toArray,List.set_cons_zero,List.set_cons_succ,i64_w,i32_w]
         rfl
        refine oneZ 7 (some 47) #[yT,yT,yT,yT,yT,yT,yT,yT,yF,yF] (fun K hK=>?_);refine Kd.R_lit_step (Kd.int .u8) _ 5 ?hg (N:=47) ?hd (xs:=([37,bt (⟨#[48,49,50,51,52,53,54,55,56,57,65,66,67,68,69,70]⟩:ByteArray) (ji14),bt (⟨#[48,49,50,51,52,53,54,55,56,57,65,66,67,68,69,70]⟩:ByteArray) (Go.bits .and .u8 t458 15)]:List Int)) (inner:=[.int .u8 37,.int .u8 (bt (⟨#[48,49,50,51,52,53,54,55,56,57,65,66,67,68,69,70]⟩:ByteArray) (ji14)),.int .u8 (bt (⟨#[48,49,50,51,52,53,54,55,56,57,65,66,67,68,69,70]⟩:ByteArray) (Go.bits .and .u8 t458 15))]) (ok:=fun _=>True) (okp:=fun _=>True) ?hr ?hp (fun _ hk=>hk) trivial (Below.refl _ _) (Nat.le_refl _) (by simp) ?_;(case hd=>rfl);(case hg=>rfl);(case hr=>exact zz6);(case hp=>exact (Reps.one (show Kd.M (Kd.int .u8) _ _ _ 37 [.int .u8 37] from rfl) (Reps.one (show Kd.M (Kd.int .u8) _ _ _ (bt (⟨#[48,49,50,51,52,53,54,55,56,57,65,66,67,68,69,70]⟩:ByteArray) (ji14)) [.int .u8 (bt (⟨#[48,49,50,51,52,53,54,55,56,57,65,66,67,68,69,70]⟩:ByteArray) (ji14))] from rfl) (Reps.one (show Kd.M (Kd.int .u8) _ _ _ (bt (⟨#[48,49,50,51,52,53,54,55,56,57,65,66,67,68,69,70]⟩:ByteArray) (Go.bits .and .u8 t458 15)) [.int .u8 (bt (⟨#[48,49,50,51,52,53,54,55,56,57,65,66,67,68,69,70]⟩:ByteArray) (Go.bits .and .u8 t458 15))] from rfl) (Reps.none _ _)))));intro v465 w24 ho25 hb hg_ hnew_;clear hg_ hnew_;(first|rw [← Ny464.out] at ho25|(simp only [Int.reduceToNat] at ho25;rw [← Ny464.out] at ho25))
        have HO466:=A_ (Kd.R_lower (Kd.R_new' ho25 (Kd.R_lt (zz8 HO_4))) (below_size (zz0 HB)));replace HO_4:=A_ (Kd.R_elder' (zz8 HO_4) (Kd.R_base ho25) hb);replace HB:=A_ (bS (zz0 HB) hb);clear hb ho25;obtain ⟨Ao27,co27,eo27⟩:=Kd.R_slice HO466.out;(first|subst eo27|(injection eo27 with f1_ f2_ f3_;have f4_:=f1_.symm;have f5_:=f3_.symm;clear f1_ f2_ f3_;subst f4_;subst f5_))
        refine hK.out _ _ trivial (fun hHeld=>?_);clear hK K;refine nZ 47 ?_;refine oneZ 8 (some 48) #[yT,yT,yT,yT,yT,yT,yT,yT,yT,yF] (fun K hK=>?_);refine Kd.R_append_rows_step (Kd.int .u8) (w0:=w) w.heap.size (by rfl) (.tmp 40) (.tmp 47) 37 5 (.int .u8 0) 1 rfl Tryz.underlying37 info5 rfl (by decide) (by omega) u4 x4_1 y464 _ _ _ (fun k_=>some k_≠(.slice Ao27 y464.length co27:Value).ownBlock) (fun _=>False) rfl rfl ?aO ?aR (fun _ _ h=>h) (fun _ h=>h.elim) ?aF ?aB ?aS ?aL ?_;(case aR=>exact (zz110 HO466))
        (case aB=>exact (zz0 HB))
        (case aF=>exact (fun k_ hk=>Kd.fresh' (Kd.R_lt (zz8 HO466)) k_ hk))
        (case aO=>exact (zz107 HO_4))
        (case aS=>exact (below_size (zz0 HB)))
        (case aL=>exact (zz17 LMc21))
        intro v468 w26 ho hb hg hat;rw [← Ny467.out] at ho;replace HO466:=A_ (Kd.R_after (ok:=(fun _=>True)) (zz8 HO466) hg hat);replace HB:=A_ (hb);have HO469:=A_ (ho);clear HO_4;clear ho hb hg hat;refine hK.out _ _ trivial (fun hHeld=>?_);clear hK K;refine nZ 48 ?_;refine pureZ 9 (some 4) #[yT,yT,yT,yT,yT,yT,yT,yT,yT,yT] ?_;refine done_ (done_of HT_.out (by kernel_rfl)) ?_;try go_wp2
        go_roundg k1
        case measure=>have:=HK1.out;omega
        case rel=>exact ⟨(y467),(wrap64 ((wrap64 (x5_1+2))+1)),zz3,H',⟨(zz17 HK1)⟩,⟨(zz165 HO469)⟩,⟨(zz0 HB)⟩⟩
      ·simp only [Option.some.injEq,Prod.mk.injEq] at H
       obtain ⟨rfl,rfl⟩:=H;have p5:0≤(x5_1:Int):=ofD;have q5:x5_1 < (a0.size:Int):=ofD;have hx5:=bt_at a0 x5_1;replace p5:=eq_true p5;replace q5:=eq_true q5;go_wp2_with (first|(refine gR 160 (some 26) Tryz.func160 (impl_signByte.calls a0 x5_1 t458 false _ A7.out) ?_;rintro w28 hb;replace HO_4:=A_ (rB (zz8 HO_4) hb);replace HB:=A_ (bS (zz0 HB) hb);(try clear hb)))
       go_ret2
       exact ⟨zz1,(zz0 HB)⟩
     ·replace H:=bindA H
      obtain ⟨t470,A29,H⟩:=H;replace H:=iteB H;rcases H with ⟨rfl,H⟩|⟨rfl,H⟩
      ·replace H:=iteN H
       obtain ⟨c31,H⟩:=H;have LMc31:=A_ c31;clear c31;obtain ⟨y471,Ny471⟩:=toY (x4_1++[bt a0 x5_1]);(first|with_reducible replace H:=bindZ Ny471 H|rw [← Ny471.out] at H|skip)
       have H':=A_ H;clear H;have p5:0≤(x5_1:Int):=ofD;have q5:x5_1 < (a0.size:Int):=ofD;have hx5:=bt_at a0 x5_1;replace p5:=eq_true p5;replace q5:=eq_true q5;go_wp2_with (first|(refine gR 146 (some 35) Tryz.func146 (impl_standsForItself.calls (bt a0 x5_1) true _ A29.out) ?_;rintro w' ⟨nd,rfl⟩)|((with_reducible refine gate_builtin (b:=.append) (xs:=#[.tmp 36,.tmp 38]) rfl ?_);at_builtin;refine Kd.R_append (Kd.int .u8) (w0:=w) w.heap.size rfl (.tmp 36) (.tmp 38) 37 5 (.int .u8 0) 1 rfl Tryz.underlying37 info5 rfl (by decide) (by omega) u4 x4_1 (bt a0 x5_1) [.int .u8 (bt a0 x5_1)] (fun _=>True) (fun _=>False) rfl rfl ?aP (fun _ hk=>hk.elim) ?aF ?aO ?aB ?aS ?aL ?_;(case aP=>exact rfl);(case aB=>exact (zz0 HB));(case aF=>exact (fun _ _=>trivial));(case aO=>exact (zz8 HO_4));(case aS=>exact (below_size (zz0 HB)));(case aL=>exact (zz17 LMc31));intro v472 w32 ho hb hg hat;rw [← Ny471.out] at ho;replace HB:=A_ (hb);have HO473:=A_ (ho);clear HO_4;clear ho hb hg hat))
       go_roundg k1
       case measure=>have:=HK1.out;omega
       case rel=>exact ⟨(y471),(wrap64 (x5_1+1)),zz3,H',⟨(zz17 HK1)⟩,⟨(zz8 HO473)⟩,⟨(zz0 HB)⟩⟩
      ·obtain ⟨ji33,hji33⟩:∃ j_:Int,((bt a0 x5_1) / 16)=j_:=⟨_,rfl⟩
       (first|rw [hji33] at H|simp only [hji33] at H)
       (try rw [hji33] at A29)
       replace H:=iteNd H;obtain ⟨c34b0,H⟩:=H;replace H:=iteNd H;obtain ⟨c35b0,H⟩:=H;replace H:=iteNd H;obtain ⟨c37b0,H⟩:=H;replace H:=iteNd H;obtain ⟨c38b0,H⟩:=H;obtain ⟨y474,Ny474⟩:=toY (([37,bt (⟨#[48,49,50,51,52,53,54,55,56,57,65,66,67,68,69,70]⟩:ByteArray) (ji33),bt (⟨#[48,49,50,51,52,53,54,55,56,57,65,66,67,68,69,70]⟩:ByteArray) (Go.bits .and .u8 (bt a0 x5_1) 15)]:List Int));(first|with_reducible replace H:=bindZ Ny474 H|rw [← Ny474.out] at H|skip)
       replace H:=iteN H;obtain ⟨c40,H⟩:=H;have LMc40:=A_ c40;clear c40;obtain ⟨y477,Ny477⟩:=toY (x4_1++y474);(first|with_reducible replace H:=bindZ Ny477 H|rw [← Ny477.out] at H|skip)
       have H':=A_ H;clear H;have p5:0≤(x5_1:Int):=ofD;have q5:x5_1 < (a0.size:Int):=ofD;have hx5:=bt_at a0 x5_1;replace p5:=eq_true p5;replace q5:=eq_true q5;try go_wp2_with (first|(refine gR 146 (some 35) Tryz.func146 (impl_standsForItself.calls (bt a0 x5_1) false _ A29.out) ?_;rintro w' ⟨nd,rfl⟩))
       (try (rw [drewN_self wr];generalize hq_:World.drewN wr _=wr;have n0_:Aside0 (Kd.R (Kd.int .u8) 5 wr w.heap.size (fun _=>True) u4 x4_1):=⟨(by rw [← hq_];exact (zz8 HO_4))⟩;have n1_:Aside0 (Below w.heap.size w wr):=⟨(by rw [← hq_];exact (zz0 HB))⟩;clear HO_4 HB hq_;have HO_4:=n0_;have HB:=n1_;clear n0_ n1_))
       replace HO_4:=A_ (Kd.R_drew HO_4.out);replace HB:=A_ (below_drew1 HB.out);have p36:0≤((ji33):Int):=ofD;have q36:(ji33) < (16:Int):=ofD;have hx36:=bt_at (⟨#[48,49,50,51,52,53,54,55,56,57,65,66,67,68,69,70]⟩:ByteArray) (ji33);replace p36:=eq_true p36;replace q36:=eq_true q36;have p39:0≤((Go.bits .and .u8 (bt a0 x5_1) 15):Int):=ofD;have q39:(Go.bits .and .u8 (bt a0 x5_1) 15) < (16:Int):=ofD;have hx39:=bt_at (⟨#[48,49,50,51,52,53,54,55,56,57,65,66,67,68,69,70]⟩:ByteArray) (Go.bits .and .u8 (bt a0 x5_1) 15);replace p39:=eq_true p39;replace q39:=eq_true q39;refine start_ (n:=10) (S:=fun w'=>True) (ds:=[]) #[yF,yF,yF,yF,yF,yF,yF,yF,yF,yF] (by kernel_rfl) rfl rfl trivial (fun hHeld=>?_);refine with_tabW impl_EscNorm.tab16 impl_EscNorm.bits16 (fun HT_ HW_=>?_);generalize wr.drew=w41 at HO_4 HB hHeld ⊢;refine pureZ 0 (some 40) #[yT,yF,yF,yF,yF,yF,yF,yF,yF,yF] ?_;refine pureZ 1 (some 41) #[yT,yT,yF,yF,yF,yF,yF,yF,yF,yF] ?_;refine pureZ 2 (some 42) #[yT,yT,yT,yF,yF,yF,yF,yF,yF,yF] ?_;refine pureZ 4 (some 44) #[yT,yT,yT,yF,yT,yF,yF,yF,yF,yF] ?_;refine pureZ 5 (some 45) #[yT,yT,yT,yF,yT,yT,yF,yF,yF,yF] ?_;refine take_ (i:=3) (N:=some 43) (v:=?_) (a':=?_) #[yT,yT,yT,yT,yT,yT,yF,yF,yF,yF] rfl rfl (take_ofW HT_.out HW_.out (by kernel_rfl)) (fun _ _ _ h=>h) (Or.inl ⟨by rfl,?_⟩) hHeld ?_ ?_;rotate_left
       ·intro w' _
        go_simp
        with_reducible rfl
       rotate_left
       ·simp only [Act.put,List.setIfInBounds_toArray,List.set_cons_zero,List.set_cons_succ,i64_w,i32_w]
        rfl
       refine take_ (i:=6) (N:=some 46) (v:=?_) (a':=?_) #[yT,yT,yT,yT,yT,yT,yT,yF,yF,yF] rfl rfl (take_ofW HT_.out HW_.out (by kernel_rfl)) (fun _ _ _ h=>h) (Or.inl ⟨by rfl,?_⟩) hHeld ?_ ?_;rotate_left
       ·intro w' _
        go_simp
        with_reducible rfl
       rotate_left
       ·simp only [Act.put,List.setIfInBounds_toArray,List.set_cons_zero,List.set_cons_succ,i64_w,i32_w]
        rfl
       refine oneZ 7 (some 47) #[yT,yT,yT,yT,yT,yT,yT,yT,yF,yF] (fun K hK=>?_);refine Kd.R_lit_step (Kd.int .u8) _ 5 ?hg (N:=47) ?hd (xs:=([37,bt (⟨#[48,49,50,51,52,53,54,55,56,57,65,66,67,68,69,70]⟩:ByteArray) (ji33),bt (⟨#[48,49,50,51,52,53,54,55,56,57,65,66,67,68,69,70]⟩:ByteArray) (Go.bits .and .u8 (bt a0 x5_1) 15)]:List Int)) (inner:=[.int .u8 37,.int .u8 (bt (⟨#[48,49,50,51,52,53,54,55,56,57,65,66,67,68,69,70]⟩:ByteArray) (ji33)),.int .u8 (bt (⟨#[48,49,50,51,52,53,54,55,56,57,65,66,67,68,69,70]⟩:ByteArray) (Go.bits .and .u8 (bt a0 x5_1) 15))]) (ok:=fun _=>True) (okp:=fun _=>True) ?hr ?hp (fun _ hk=>hk) trivial (Below.refl _ _) (Nat.le_refl _) (by simp) ?_;(case hd=>rfl);(case hg=>rfl);(case hr=>exact zz6);(case hp=>exact (Reps.one (show Kd.M (Kd.int .u8) _ _ _ 37 [.int .u8 37] from rfl) (Reps.one (show Kd.M (Kd.int .u8) _ _ _ (bt (⟨#[48,49,50,51,52,53,54,55,56,57,65,66,67,68,69,70]⟩:ByteArray) (ji33)) [.int .u8 (bt (⟨#[48,49,50,51,52,53,54,55,56,57,65,66,67,68,69,70]⟩:ByteArray) (ji33))] from rfl) (Reps.one (show Kd.M (Kd.int .u8) _ _ _ (bt (⟨#[48,49,50,51,52,53,54,55,56,57,65,66,67,68,69,70]⟩:ByteArray) (Go.bits .and .u8 (bt a0 x5_1) 15)) [.int .u8 (bt (⟨#[48,49,50,51,52,53,54,55,56,57,65,66,67,68,69,70]⟩:ByteArray) (Go.bits .and .u8 (bt a0 x5_1) 15))] from rfl) (Reps.none _ _)))));intro v475 w42 ho43 hb hg_ hnew_;clear hg_ hnew_;(first|rw [← Ny474.out] at ho43|(simp only [Int.reduceToNat] at ho43;rw [← Ny474.out] at ho43))
       have HO476:=A_ (Kd.R_lower (Kd.R_new' ho43 (Kd.R_lt (zz8 HO_4))) (below_size (zz0 HB)));replace HO_4:=A_ (Kd.R_elder' (zz8 HO_4) (Kd.R_base ho43) hb);replace HB:=A_ (bS (zz0 HB) hb);clear hb ho43;obtain ⟨Ao45,co45,eo45⟩:=Kd.R_slice HO476.out;(first|subst eo45|(injection eo45 with f1_ f2_ f3_;have f4_:=f1_.symm;have f5_:=f3_.symm;clear f1_ f2_ f3_;subst f4_;subst f5_))
       refine hK.out _ _ trivial (fun hHeld=>?_);clear hK K;refine nZ 47 ?_;refine oneZ 8 (some 48) #[yT,yT,yT,yT,yT,yT,yT,yT,yT,yF] (fun K hK=>?_);refine Kd.R_append_rows_step (Kd.int .u8) (w0:=w) w.heap.size (by rfl) (.tmp 40) (.tmp 47) 37 5 (.int .u8 0) 1 rfl Tryz.underlying37 info5 rfl (by decide) (by omega) u4 x4_1 y474 _ _ _ (fun k_=>some k_≠(.slice Ao45 y474.length co45:Value).ownBlock) (fun _=>False) rfl rfl ?aO ?aR (fun _ _ h=>h) (fun _ h=>h.elim) ?aF ?aB ?aS ?aL ?_;(case aR=>exact (zz110 HO476))
       (case aB=>exact (zz0 HB))
       (case aF=>exact (fun k_ hk=>Kd.fresh' (Kd.R_lt (zz8 HO476)) k_ hk))
       (case aO=>exact (zz107 HO_4))
       (case aS=>exact (below_size (zz0 HB)))
       (case aL=>exact (zz17 LMc40))
       intro v478 w44 ho hb hg hat;rw [← Ny477.out] at ho;replace HO476:=A_ (Kd.R_after (ok:=(fun _=>True)) (zz8 HO476) hg hat);replace HB:=A_ (hb);have HO479:=A_ (ho);clear HO_4;clear ho hb hg hat;refine hK.out _ _ trivial (fun hHeld=>?_);clear hK K;refine nZ 48 ?_;refine pureZ 9 (some 4) #[yT,yT,yT,yT,yT,yT,yT,yT,yT,yT] ?_;refine done_ (done_of HT_.out (by kernel_rfl)) ?_;try go_wp2
       go_roundg k1
       case measure=>have:=HK1.out;omega
       case rel=>exact ⟨(y477),(wrap64 (x5_1+1)),zz3,H',⟨(zz17 HK1)⟩,⟨(zz165 HO479)⟩,⟨(zz0 HB)⟩⟩
    ·simp only [Option.some.injEq,Prod.mk.injEq] at H
     obtain ⟨rfl,rfl⟩:=H;have hcv46:=own_string (P:=Tryz.prog) Tryz.underlying37 Tryz.underlying5 Tryz.underlying9 (Kd.own_of_R HO_4.out);go_wp2
     go_ret2
     exact ⟨zz1,(zz0 HB)⟩
def strings_Split.f (k:Nat) (a0:ByteArray) (a1:ByteArray):Option (List ByteArray):=(strings_genSplit.f k a0 a1 0 (-1)).bind fun t450=>(some t450)
theorem strings_Split.mono:∀ a0 a1 k,LeO (strings_Split.f k a0 a1) (strings_Split.f (k+1) a0 a1):=by
 intro a0 a1 k;unfold strings_Split.f
 repeat' first|(with_reducible first|exact strings_genSplit.mono _ _ _ _ _|exact LeO.refl _|exact LeO.none _|refine LeO.ite ?_ ?_|refine LeO.bind ?_ (fun _=>?_))|exact LeO.none _|refine LeO.ite ?_ ?_|refine LeO.bind ?_ (fun _=>?_)
theorem strings_Split.calls (k:Nat) (a0:ByteArray) (a1:ByteArray) (r:List ByteArray) (w:World) (h:strings_Split.f k a0 a1=some r) :
  Calls Tryz.prog 58 #[.string a0,.string a1] w fun e w'=>∃ v0_:Value,e=.returned (v0_)∧Kd.R Kd.string 9 w' w.heap.size (fun _=>True) v0_ r∧Below w.heap.size w w':=by
 have HB:=A_ (Below.refl w.heap.size w);unfold strings_Split.f at h
 have H:=h;clear h;replace H:=bindA H;obtain ⟨t450,A3,H⟩:=H;obtain rfl:=sI H;go_enter Tryz.func58,Tryz.ntmps58;go_wp2_with (first|(refine gV 85 (some 7) Tryz.func85 (strings_genSplit.calls k a0 a1 0 (-1) t450 _ A3.out) ?_;rintro v451 w4 ⟨ho0,hb⟩;have HO452:=A_ (Kd.R_lower ho0 (below_size (zz0 HB)));replace HB:=A_ (bS (zz0 HB) hb);(try clear hb ho0)))
 go_ret
 exact ⟨_,zz1,(zz8 HO452),(zz0 HB)⟩
def impl_isNormal.f (k:Nat) (a0:ByteArray):Option (Bool):=(impl_EscNorm.f k a0).bind fun bt480=>(if bt480.2=true then (some (bt480.1.toList == a0.toList)) else (some false))
theorem impl_isNormal.mono:∀ a0 k,LeO (impl_isNormal.f k a0) (impl_isNormal.f (k+1) a0):=by
 intro a0 k;unfold impl_isNormal.f
 repeat' first|(with_reducible first|exact impl_EscNorm.mono _ _|exact LeO.refl _|exact LeO.none _|refine LeO.ite ?_ ?_|refine LeO.bind ?_ (fun _=>?_))|exact LeO.none _|refine LeO.ite ?_ ?_|refine LeO.bind ?_ (fun _=>?_)
theorem impl_isNormal.calls (k:Nat) (a0:ByteArray) (r:Bool) (w:World) (h:impl_isNormal.f k a0=some r) :
  Calls Tryz.prog 135 #[.string a0] w fun e w'=>e=.returned (.bool r)∧Below w.heap.size w w':=by
 have HB:=A_ (Below.refl w.heap.size w);unfold impl_isNormal.f at h
 have H:=h;clear h;replace H:=bindA H;obtain ⟨⟨t480,t481⟩,A2,H⟩:=H;try dsimp only at H
 have HF3:=A_ H;clear H;go_enter Tryz.func135,Tryz.ntmps135;go_wp2_with (first|(refine gR 132 (some 7) Tryz.func132 (impl_EscNorm.calls k a0 t480 t481 _ A2.out) ?_;rintro w4 hb;replace HB:=A_ (bS (zz0 HB) hb);(try clear hb))|((with_reducible refine atG ?_ ?_ fun K_ hK_=>?_);rfl;exact undecG)|((with_reducible refine atI ?_ fun K_ hK_=>?_);exact undecI))
 refine unG hK_ ?_;clear hK_ K_;obtain ⟨H⟩:=HF3;replace H:=iteB H;rcases H with ⟨rfl,H⟩|⟨rfl,H⟩
 ·(first|refine iteT ?_|refine iteF ?_|skip)
  obtain rfl:=sI H;(try ((with_reducible refine upS ?_);go_simp))
  go_wp2
  go_ret
  exact ⟨zz1,(zz0 HB)⟩
 ·(first|refine iteT ?_|refine iteF ?_|skip)
  obtain rfl:=sI H;(try ((with_reducible refine upS ?_);go_simp))
  go_wp2
  go_ret
  exact ⟨zz1,(zz0 HB)⟩
mutual
def impl_AddrOk.j0:Nat→Bool→ByteArray→List ByteArray→Bool→ByteArray→Option (Bool)
 | 0,_,_,_,_,_=>none
 | k+1,x14,x487000,x487001,x487002,x487003=>if x14=true then (some false) else (impl_AddrOk.l0 k x487001 (x487001.length:Int) 0 x487000 x487001 x487002 x487003)
def impl_AddrOk.l0:Nat→List ByteArray→Int→Int→ByteArray→List ByteArray→Bool→ByteArray→Option (Bool)
 | 0,_,_,_,_,_,_,_=>none
 | k+1,x16,x17,x18,x487000,x487001,x487002,x487003=>if x18 < x17 then (if 0≤x18 then (if x18 < (x16.length:Int) then (if (rdOf ByteArray.empty x16 x18).toList=([]:List UInt8) then (some false) else (if (rdOf ByteArray.empty x16 x18).toList=([46]:List UInt8) then (some false) else (if (rdOf ByteArray.empty x16 x18).toList=([46,46]:List UInt8) then (some false) else ((impl_isNormal.f k (rdOf ByteArray.empty x16 x18)).bind fun t489=>(if t489=true then (impl_AddrOk.l0 k x16 x17 (wrap64 (x18+1)) x487000 x487001 x487002 x487003) else (some false)))))) else (none)) else (none)) else ((impl_isNormal.f k x487003).bind fun t490=>(if t490=true then (if x487002=true then ((impl_writeAddr.f x487000 x487001 x487002 x487003).bind fun t491=>(some (decide ((t491.size:Int)≤60)))) else (if x487003.toList=([]:List UInt8) then ((impl_writeAddr.f x487000 x487001 x487002 x487003).bind fun t492=>(some (decide ((t492.size:Int)≤60)))) else (some false))) else (some false)))
end
def impl_AddrOk.f (k:Nat) (a0_0:ByteArray) (l0_1:List ByteArray) (a0_2:Bool) (a0_3:ByteArray):Option (Bool):=(impl_isHouse.f k a0_0).bind fun t487=>(if t487=true then (impl_AddrOk.j0 k (decide ((l0_1.length:Int) > 5)) a0_0 l0_1 a0_2 a0_3) else (impl_AddrOk.j0 k true a0_0 l0_1 a0_2 a0_3))
theorem impl_AddrOk.mono_l:∀ k,(∀ y0 y1 y2 y3 y4,LeO (impl_AddrOk.j0 k y0 y1 y2 y3 y4) (impl_AddrOk.j0 (k+1) y0 y1 y2 y3 y4))∧(∀ y0 y1 y2 y3 y4 y5 y6,LeO (impl_AddrOk.l0 k y0 y1 y2 y3 y4 y5 y6) (impl_AddrOk.l0 (k+1) y0 y1 y2 y3 y4 y5 y6))
 | 0=>by refine ⟨?_,?_⟩ <;> (intros;intro r h;simp [impl_AddrOk.j0,impl_AddrOk.l0] at h)
 | k+1=>by
  obtain ⟨ih0,ih1⟩:=impl_AddrOk.mono_l k;refine ⟨?_,?_⟩ <;> intros <;> (first|unfold impl_AddrOk.j0|unfold impl_AddrOk.l0) <;>
  repeat' first|(with_reducible first|exact ih0 _ _ _ _ _|exact ih1 _ _ _ _ _ _ _|exact impl_isHouse.mono _ _|exact impl_isNormal.mono _ _|exact LeO.refl _|exact LeO.none _|refine LeO.ite ?_ ?_|refine LeO.bind ?_ (fun _=>?_))|exact LeO.none _|refine LeO.ite ?_ ?_|refine LeO.bind ?_ (fun _=>?_)
theorem impl_AddrOk.mono:∀ a0 a1 a2 a3 k,LeO (impl_AddrOk.f k a0 a1 a2 a3) (impl_AddrOk.f (k+1) a0 a1 a2 a3):=by
 intro a0 a1 a2 a3 k;obtain ⟨ih0,ih1⟩:=impl_AddrOk.mono_l k;unfold impl_AddrOk.f
 repeat' first|(with_reducible first|exact ih0 _ _ _ _ _|exact ih1 _ _ _ _ _ _ _|exact impl_isHouse.mono _ _|exact impl_isNormal.mono _ _|exact LeO.refl _|exact LeO.none _|refine LeO.ite ?_ ?_|refine LeO.bind ?_ (fun _=>?_))|exact LeO.none _|refine LeO.ite ?_ ?_|refine LeO.bind ?_ (fun _=>?_)
theorem impl_AddrOk.calls (k:Nat) (a0_0:ByteArray) (A0_1:Option Addr) (c0_1:Nat) (l0_1:List ByteArray) (a0_2:Bool) (a0_3:ByteArray) (r:Bool) (w:World) (hr0_1:Kd.C Kd.string w A0_1 l0_1.length l0_1) (hc0_1:l0_1.length≤c0_1) (h:impl_AddrOk.f k a0_0 l0_1 a0_2 a0_3=some r) :
  Calls Tryz.prog 101 #[.agg #[.string a0_0,.slice A0_1 l0_1.length c0_1,.bool a0_2,.string a0_3]] w fun e w'=>e=.returned (.bool r)∧Below w.heap.size w w':=by
 have hu51:=Tryz.underlying51;have HR0_1:=A_ hr0_1;have HC0_1:=A_ hc0_1;clear hr0_1 hc0_1;have HB:=A_ (Below.refl w.heap.size w);unfold impl_AddrOk.f at h
 have H:=h;clear h;have HC2:=A_ H;clear H;go_enter Tryz.func101,Tryz.ntmps101;go_upto_region 1 with (first|((with_reducible refine gD (N:=1) rfl ?_);(try (refine gate_guard (by rfl) ?_;dsimp only));refine boxE 1 #[.string a0_0,.slice A0_1 l0_1.length c0_1,.bool a0_2,.string a0_3] 51 ?_;intro gb486 hg w3 hbox hb;have BK486:=A_ (hbox);have GE486:=geB hg (zz0 HB);replace HB:=A_ (bS (zz0 HB) hb);clear hb hbox hg))
 (try simp only [Act.put,List.setIfInBounds_toArray,List.set_cons_zero,List.set_cons_succ])
 go_cut [14] (fun v14 wc=>∃ (kq:Nat) (x14_1:Bool),v14=.bool x14_1∧Aside0 (impl_AddrOk.j0 kq x14_1 a0_0 l0_1 a0_2 a0_3=some r)∧Aside0 (kq≤k)∧Aside0 (wc.heap[gb486]?=some (.cells #[.string a0_0,(.slice A0_1 l0_1.length c0_1),.bool a0_2,.string a0_3] 51 (0,0)))∧Aside0 (Below w.heap.size w wc))
 case first=>
  obtain ⟨H⟩:=HC2;replace H:=bindA H;obtain ⟨t487,A4,H⟩:=H;have HF5:=A_ H;clear H;obtain ⟨_,_,_,_,_,_,_,_⟩:=cf4 BK486;go_wp2_with (first|(refine gR 38 (some 7) Tryz.func38 (impl_isHouse.calls k a0_0 t487 _ A4.out) ?_;rintro w' ⟨nd,rfl⟩)|((with_reducible refine atG ?_ ?_ fun K_ hK_=>?_);rfl;exact undecG)|((with_reducible refine atI ?_ fun K_ hK_=>?_);exact undecI))
  refine unG hK_ ?_;clear hK_ K_;obtain ⟨H⟩:=HF5;replace H:=iteB H;rcases H with ⟨rfl,H⟩|⟨rfl,H⟩
  ·(first|refine iteT ?_|refine iteF ?_|skip)
   have H':=A_ H;clear H;obtain ⟨_,_,_,_,_,_,_,_⟩:=cf4 BK486;(try ((with_reducible refine upS ?_);go_simp))
   go_wp2
   go_meet
   case rel=>exact ⟨_,(decide ((l0_1.length:Int) > 5)),zz3,H',⟨zz22⟩,⟨(zz7 BK486)⟩,⟨(zz2 HB GE486)⟩⟩
  ·(first|refine iteT ?_|refine iteF ?_|skip)
   have H':=A_ H;clear H;(try ((with_reducible refine upS ?_);go_simp))
   go_wp2
   go_meet
   case rel=>exact ⟨_,(true),zz3,H',⟨zz22⟩,⟨(zz7 BK486)⟩,⟨(zz2 HB GE486)⟩⟩
 case rest=>
  clear HC2;obtain ⟨kq,x14_1,rfl,HA,HJ1,BK486,HB⟩:=hcut;cases kq with
  | zero=>exact absurd HA.out (by simp [impl_AddrOk.j0])
  | succ kj1=>
   obtain ⟨H⟩:=HA;simp only [impl_AddrOk.j0] at H
   replace H:=iteB H;rcases H with ⟨rfl,H⟩|⟨rfl,H⟩
   ·obtain rfl:=sI H
    go_wp2
    go_ret
    exact ⟨zz1,(zz2 HB GE486)⟩
   ·have H':=A_ H
    clear H;obtain ⟨_,_,_,_,_,_,_,_⟩:=cf4 BK486;go_wp2
    go_loopg [18] kj1 (fun kq v18 w'=>∃ (x18_2:Int),v18=.int .i64 x18_2∧Aside0 (impl_AddrOk.l0 kq l0_1 (l0_1.length:Int) x18_2 a0_0 l0_1 a0_2 a0_3=some r)∧Aside0 (kq≤kj1)∧Aside0 (w'.heap[gb486]?=some (.cells #[.string a0_0,(.slice A0_1 l0_1.length c0_1),.bool a0_2,.string a0_3] 51 (0,0)))∧Aside0 (Below w.heap.size w w'))
    case atStart=>exact ⟨(0),zz3,H',⟨Nat.le_refl _⟩,⟨(zz7 BK486)⟩,⟨(zz2 HB GE486)⟩⟩
    case round=>
     clear H';obtain ⟨x18_2,rfl,HA,HK2,BK486,HB⟩:=hrel;cases gk with
     | zero=>exact absurd HA.out (by simp [impl_AddrOk.l0])
     | succ k2=>
      obtain ⟨H⟩:=HA;simp only [impl_AddrOk.l0] at H
      replace H:=iteEd H;rcases H with ⟨c11b0,H⟩|⟨c11b0,H⟩
      ·replace H:=iteNd H
       obtain ⟨c12b0,H⟩:=H;replace H:=iteNd H;obtain ⟨c13b0,H⟩:=H;replace H:=iteEq H;rcases H with ⟨c14b0,c14b1,H⟩|⟨c14b0,c14b1,c14,H⟩
       ·obtain rfl:=sI H
        obtain ⟨⟨ad488,e488,hx488_0⟩,p488,q488⟩:=atB (Kd.at_string HR0_1.out x18_2);cases e488
        replace hx488_0:=cbl HB hx488_0;go_wp2
        go_ret
        exact ⟨zz1,(zz2 HB GE486)⟩
       ·replace H:=iteEq H
        rcases H with ⟨c15b0,c15b1,H⟩|⟨c15b0,c15b1,c15,H⟩
        ·obtain rfl:=sI H
         obtain ⟨⟨ad488,e488,hx488_0⟩,p488,q488⟩:=atB (Kd.at_string HR0_1.out x18_2);cases e488
         replace hx488_0:=cbl HB hx488_0;go_wp2
         go_ret
         exact ⟨zz1,(zz2 HB GE486)⟩
        ·replace H:=iteEq H
         rcases H with ⟨c16b0,c16b1,H⟩|⟨c16b0,c16b1,c16,H⟩
         ·obtain rfl:=sI H
          obtain ⟨⟨ad488,e488,hx488_0⟩,p488,q488⟩:=atB (Kd.at_string HR0_1.out x18_2);cases e488
          replace hx488_0:=cbl HB hx488_0;go_wp2
          go_ret
          exact ⟨zz1,(zz2 HB GE486)⟩
         ·replace H:=bindA H
          obtain ⟨t489,A17,H⟩:=H;have HF18:=A_ H;clear H;obtain ⟨⟨ad488,e488,hx488_0⟩,p488,q488⟩:=atB (Kd.at_string HR0_1.out x18_2);cases e488
          replace hx488_0:=cbl HB hx488_0;go_upto_if 36 with (first|(go_at_call 135;(with_reducible refine (impl_isNormal.calls k2 (rdOf ByteArray.empty l0_1 x18_2) t489 _ A17.out).mono ?_);rintro e w19 ⟨rfl,hb⟩;replace BK486:=A_ (bB (zz7 BK486) hb);replace HB:=A_ (bS (zz2 HB GE486) hb);(try clear hb)))
          obtain ⟨H⟩:=HF18;replace H:=iteB H;rcases H with ⟨rfl,H⟩|⟨rfl,H⟩
          ·have H':=A_ H
           clear H;go_wp2
           go_roundg k2
           case measure=>have:=HJ1.out;have:=HK2.out;omega
           case rel=>exact ⟨(wrap64 (x18_2+1)),zz3,H',⟨(zz31 HJ1 HK2)⟩,⟨(zz7 BK486)⟩,⟨(zz2 HB GE486)⟩⟩
          ·obtain rfl:=sI H
           go_wp2
           go_ret
           exact ⟨zz1,(zz2 HB GE486)⟩
      ·replace H:=bindA H
       obtain ⟨t490,A21,H⟩:=H;have HF22:=A_ H;clear H;obtain ⟨_,_,_,_,_,_,_,_⟩:=cf4 BK486;go_wp2_with (first|(refine gR 135 (some 40) Tryz.func135 (impl_isNormal.calls k2 a0_3 t490 _ A21.out) ?_;rintro w24 hb;replace BK486:=A_ (bB (zz7 BK486) hb);replace HB:=A_ (bS (zz2 HB GE486) hb);(try clear hb))|((with_reducible refine atG ?_ ?_ fun K_ hK_=>?_);rfl;exact undecG)|((with_reducible refine atI ?_ fun K_ hK_=>?_);exact undecI))
       refine unG hK_ ?_;clear hK_ K_;obtain ⟨H⟩:=HF22;replace H:=iteB H;rcases H with ⟨rfl,H⟩|⟨rfl,H⟩
       ·(first|refine iteT ?_|refine iteF ?_|skip)
        replace H:=iteB H;rcases H with ⟨rfl,H⟩|⟨rfl,H⟩
        ·replace H:=bindA H
         obtain ⟨t491,A27,H⟩:=H;obtain rfl:=sI H;obtain ⟨_,_,_,_,_,_,_,_⟩:=cf4 BK486;go_wp2_with (first|(refine gR 136 (some 53) Tryz.func136 (impl_writeAddr.calls a0_0 _ _ l0_1 true a0_3 t491 _ ?side1 ?side2 A27.out) ?_;(case side1=>exact (zz41 HR0_1 HB));(case side2=>exact HC0_1.out);rintro w29 hb;replace BK486:=A_ (bB (zz7 BK486) hb);replace HB:=A_ (bS (zz2 HB GE486) hb);(try clear hb)))
         go_ret
         exact ⟨zz1,(zz2 HB GE486)⟩
        ·replace H:=iteE H
         rcases H with ⟨c30,H⟩|⟨c30,H⟩
         ·obtain ⟨c30b0,c30b1⟩:=eqT c30
          clear c30;replace H:=bindA H;obtain ⟨t492,A31,H⟩:=H;obtain rfl:=sI H;obtain ⟨_,_,_,_,_,_,_,_⟩:=cf4 BK486;go_wp2_with (first|(refine gR 136 (some 53) Tryz.func136 (impl_writeAddr.calls a0_0 _ _ l0_1 false a0_3 t492 _ ?side1 ?side2 A31.out) ?_;(case side1=>exact (zz41 HR0_1 HB));(case side2=>exact HC0_1.out);rintro w33 hb;replace BK486:=A_ (bB (zz7 BK486) hb);replace HB:=A_ (bS (zz2 HB GE486) hb);(try clear hb)))
          go_ret
          exact ⟨zz1,(zz2 HB GE486)⟩
         ·obtain ⟨c30b0,c30b1⟩:=eqF c30
          obtain rfl:=sI H;obtain ⟨_,_,_,_,_,_,_,_⟩:=cf4 BK486;go_wp2
          go_ret
          exact ⟨zz1,(zz2 HB GE486)⟩
       ·(first|refine iteT ?_|refine iteF ?_|skip)
        obtain rfl:=sI H;(try ((with_reducible refine upS ?_);go_simp))
        go_wp2
        go_ret
        exact ⟨zz1,(zz2 HB GE486)⟩
def impl_readWay.l0:Nat→ByteArray→ByteArray→Bool→List ByteArray→List ByteArray→Int→Int→Option (ByteArray×List ByteArray×Bool×ByteArray×Bool)
 | 0,_,_,_,_,_,_,_=>none
 | k+1,x0,x9,x10,x12,x35,x36,x37=>if x37 < x36 then (if 0≤x37 then (if x37 < (x35.length:Int) then ((impl_EscNorm.f k (rdOf ByteArray.empty x35 x37)).bind fun bt513=>(if bt513.2=true then (if x12.length < 8796093022208 then (impl_readWay.l0 k x0 x9 x10 (x12++[bt513.1]) x35 x36 (wrap64 (x37+1))) else (none)) else (some ((⟨#[]⟩:ByteArray),([]:List ByteArray),false,(⟨#[]⟩:ByteArray),false)))) else (none)) else (none)) else ((impl_PathClean.f k x12).bind fun t518=>((impl_AddrOk.f k x0 t518 x10 x9).bind fun t522=>(if t522=true then (some (x0,t518,x10,x9,true)) else (some ((⟨#[]⟩:ByteArray),([]:List ByteArray),false,(⟨#[]⟩:ByteArray),false)))))
def impl_readWay.f (k:Nat) (a0:ByteArray) (l1:List ByteArray) (a2:ByteArray):Option (ByteArray×List ByteArray×Bool×ByteArray×Bool):=(strings_Cut.f a2 (⟨#[63]⟩:ByteArray)).bind fun bt501=>((impl_EscNorm.f k bt501.2.1).bind fun bt504=>(if bt504.2=true then ((slices_Clone_string_string.f l1).bind fun t506=>((strings_Split.f k bt501.1 (⟨#[47]⟩:ByteArray)).bind fun t509=>(impl_readWay.l0 k a0 bt504.1 bt501.2.2 t506 t509 (t509.length:Int) 0))) else (some ((⟨#[]⟩:ByteArray),([]:List ByteArray),false,(⟨#[]⟩:ByteArray),false))))
theorem impl_readWay.mono_l:∀ k,(∀ y0 y1 y2 y3 y4 y5 y6,LeO (impl_readWay.l0 k y0 y1 y2 y3 y4 y5 y6) (impl_readWay.l0 (k+1) y0 y1 y2 y3 y4 y5 y6))
 | 0=>by intros;intro r h;simp [impl_readWay.l0] at h
 | k+1=>by
  have ih0:=impl_readWay.mono_l k;intros;unfold impl_readWay.l0;repeat' first|(with_reducible first|exact ih0 _ _ _ _ _ _ _|exact impl_AddrOk.mono _ _ _ _ _|exact impl_EscNorm.mono _ _|exact impl_PathClean.mono _ _|exact strings_Split.mono _ _ _|exact LeO.refl _|exact LeO.none _|refine LeO.ite ?_ ?_|refine LeO.bind ?_ (fun _=>?_))|exact LeO.none _|refine LeO.ite ?_ ?_|refine LeO.bind ?_ (fun _=>?_)
theorem impl_readWay.mono:∀ a0 a1 a2 k,LeO (impl_readWay.f k a0 a1 a2) (impl_readWay.f (k+1) a0 a1 a2):=by
 intro a0 a1 a2 k;have ih0:=impl_readWay.mono_l k;unfold impl_readWay.f
 repeat' first|(with_reducible first|exact ih0 _ _ _ _ _ _ _|exact impl_AddrOk.mono _ _ _ _ _|exact impl_EscNorm.mono _ _|exact impl_PathClean.mono _ _|exact strings_Split.mono _ _ _|exact LeO.refl _|exact LeO.none _|refine LeO.ite ?_ ?_|refine LeO.bind ?_ (fun _=>?_))|exact LeO.none _|refine LeO.ite ?_ ?_|refine LeO.bind ?_ (fun _=>?_)
theorem impl_readWay.calls (k:Nat) (a0:ByteArray) (A1:Option Addr) (c1:Nat) (l1:List ByteArray) (a2:ByteArray) (r1:ByteArray) (r2:List ByteArray) (r3:Bool) (r4:ByteArray) (r5:Bool) (w:World) (hr1:Kd.C Kd.string w A1 l1.length l1) (hc1:l1.length≤c1) (h:impl_readWay.f k a0 l1 a2=some (r1,r2,r3,r4,r5)) :
  Calls Tryz.prog 99 #[.string a0,.slice A1 l1.length c1,.string a2] w fun e w'=>∃ v1_:Value,e=.returned (.tuple #[.agg #[.string r1,v1_,.bool r3,.string r4],.bool r5])∧Kd.R Kd.string 9 w' w.heap.size (fun _=>True) v1_ r2∧Below w.heap.size w w':=by
 have hu51:=Tryz.underlying51;have HR1:=A_ hr1;have HC1:=A_ hc1;clear hr1 hc1;have HB:=A_ (Below.refl w.heap.size w);unfold impl_readWay.f at h
 have H:=h;clear h;replace H:=bindA H;obtain ⟨⟨t501,t502,t503⟩,A4,H⟩:=H;try dsimp only at H
 replace H:=bindA H;obtain ⟨⟨t504,t505⟩,A5,H⟩:=H;try dsimp only at H
 have HF6:=A_ H;clear H;go_enter Tryz.func99,Tryz.ntmps99;go_upto_if 30 with (first|(refine boxF 6 #[.string (⟨#[]⟩:ByteArray),.slice none 0 0,.bool false,.string (⟨#[]⟩:ByteArray)] 51 ?_;intro gb500 hg w7 BK500 hb;have GE500:=geB hg (zz0 HB);replace HB:=A_ (bS (zz0 HB) hb);clear hb hg)|(refine gR 70 (some 20) Tryz.func70 (strings_Cut.calls a2 (⟨#[63]⟩:ByteArray) t501 t502 t503 _ A4.out) ?_;rintro w8 hb;replace BK500:=A_ (bB (zz7 BK500) hb);replace HB:=A_ (bS (zz2 HB GE500) hb);(try clear hb))|(refine gR 132 (some 26) Tryz.func132 (impl_EscNorm.calls k t502 t504 t505 _ A5.out) ?_;rintro w9 hb;replace BK500:=A_ (bB (zz7 BK500) hb);replace HB:=A_ (bS (zz2 HB GE500) hb);(try clear hb)))
 obtain ⟨H⟩:=HF6;replace H:=iteB H;rcases H with ⟨rfl,H⟩|⟨rfl,H⟩
 ·replace H:=bindA H
  obtain ⟨t506,A11,H⟩:=H;replace H:=bindA H;obtain ⟨t509,A12,H⟩:=H;have H':=A_ H;clear H;go_wp2_with (first|(refine gV 133 (some 33) Tryz.func133 (slices_Clone_string_string.calls _ _ l1 t506 _ ?side1 ?side2 A11.out) ?_;(case side1=>exact (zz41 HR1 HB));(case side2=>exact HC1.out);rintro v507 w13 ⟨ho0,hb⟩;have HO508:=A_ (Kd.R_lower ho0 (below_size (zz2 HB GE500)));replace BK500:=A_ (bB (zz7 BK500) hb);replace HB:=A_ (bS (zz2 HB GE500) hb);(try clear hb ho0))|(refine gV 58 (some 35) Tryz.func58 (strings_Split.calls k t501 (⟨#[47]⟩:ByteArray) t509 _ A12.out) ?_;rintro v510 w14 ⟨ho0,hb⟩;have HO511:=A_ (Kd.R_lower (Kd.R_new' ho0 (Kd.R_lt (zz8 HO508))) (below_size (zz2 HB GE500)));replace HO508:=A_ (Kd.R_elder' (zz8 HO508) (Kd.R_base ho0) hb);replace BK500:=A_ (bB (zz7 BK500) hb);replace HB:=A_ (bS (zz2 HB GE500) hb);(try clear hb ho0);obtain ⟨Ao15,co15,eo15⟩:=Kd.R_slice HO511.out;subst eo15))
  go_loopg [12,37] k (fun kq v12 v37 w'=>∃ (x12_1:List ByteArray) (x37_1:Int) (x501000_1:ByteArray) (x501002_1:Bool) (x501003_1:ByteArray),v37=.int .i64 x37_1∧Aside0 (impl_readWay.l0 kq a0 t504 t503 x12_1 t509 (t509.length:Int) x37_1=some (r1,r2,r3,r4,r5))∧Aside0 (kq≤k)∧Aside0 (Kd.R Kd.string 9 w' w.heap.size (fun k_=>some k_≠((.slice Ao15 t509.length co15):Value).ownBlock) v12 x12_1)∧Aside0 (Kd.R Kd.string 9 w' w.heap.size (fun k_=>some k_≠(v12:Value).ownBlock) (.slice Ao15 t509.length co15) t509)∧Aside0 (w'.heap[gb500]?=some (.cells #[.string x501000_1,(.slice none 0 0),.bool x501002_1,.string x501003_1] 51 (0,0)))∧Aside0 (Below w.heap.size w w'))
  case atStart=>exact ⟨(t506),(0),((⟨#[]⟩:ByteArray)),(false),((⟨#[]⟩:ByteArray)),zz3,H',⟨Nat.le_refl _⟩,⟨(zz107 HO508)⟩,⟨(zz107 HO511)⟩,⟨(zz7 BK500)⟩,⟨(zz2 HB GE500)⟩⟩
  case round=>
   clear H';obtain ⟨x12_1,x37_1,x501000_1,x501002_1,x501003_1,rfl,HA,HK1,HO_12,HO_35,BK500,HB⟩:=hrel;cases gk with
   | zero=>exact absurd HA.out (by simp [impl_readWay.l0])
   | succ k1=>
    obtain ⟨H⟩:=HA;simp only [impl_readWay.l0] at H
    replace H:=iteEd H;rcases H with ⟨c16b0,H⟩|⟨c16b0,H⟩
    ·(first|rw [c16b0]|(simp only [i64_w,i32_w];rw [c16b0])|skip)
     replace H:=iteNd H;obtain ⟨c17b0,H⟩:=H;replace H:=iteNd H;obtain ⟨c18b0,H⟩:=H;replace H:=bindA H;obtain ⟨⟨t513,t514⟩,A19,H⟩:=H;try dsimp only at H
     have HF20:=A_ H;clear H;obtain ⟨⟨ad512,e512,hx512_0⟩,p512,q512⟩:=atB (Kd.at_string (Kd.R_reads' HO_35.out).2.2 x37_1);cases e512
     go_upto_if 47 with (first|(refine gR 132 (some 43) Tryz.func132 (impl_EscNorm.calls k1 (rdOf ByteArray.empty t509 x37_1) t513 t514 _ A19.out) ?_;rintro w21 hb;replace HO_12:=A_ (rB (zz8 HO_12) hb);replace HO_35:=A_ (rB (zz8 HO_35) hb);replace BK500:=A_ (bB (zz7 BK500) hb);replace HB:=A_ (bS (zz2 HB GE500) hb);(try clear hb)))
     obtain ⟨H⟩:=HF20;replace H:=iteB H;rcases H with ⟨rfl,H⟩|⟨rfl,H⟩
     ·replace H:=iteN H
      obtain ⟨c23,H⟩:=H;have LMc23:=A_ c23;clear c23;obtain ⟨y515,Ny515⟩:=toY (x12_1++[t513]);(first|with_reducible replace H:=bindZ Ny515 H|rw [← Ny515.out] at H|skip)
      have H':=A_ H;clear H;go_wp2_with (first|((with_reducible refine gate_builtin (b:=.append) (xs:=#[.tmp 49,.tmp 51]) rfl ?_);at_builtin;refine Kd.R_append Kd.string (w0:=w) w.heap.size rfl (.tmp 49) (.tmp 51) 29 9 (.string ⟨#[]⟩) 16 rfl Tryz.underlying29 info9 rfl (by decide) (by omega) u12 x12_1 t513 [.string t513] (fun k_=>some k_≠(.slice (some ad512) t509.length co15:Value).ownBlock) (fun _=>False) rfl rfl ?aP (fun _ hk=>hk.elim) ?aF ?aO ?aB ?aS ?aL ?_;(case aP=>exact rfl);(case aB=>exact (zz2 HB GE500));(case aF=>exact (fun k_ hk=>Kd.fresh' (Kd.R_lt (zz8 HO_35)) k_ hk));(case aO=>exact (zz8 HO_12));(case aS=>exact (below_size (zz2 HB GE500)));(case aL=>exact (zz17 LMc23));intro v516 w24 ho hb hg hat;rw [← Ny515.out] at ho;replace HO_35:=A_ (Kd.R_after (ok:=(fun _=>True)) (zz109 HO_35) hg hat);replace BK500:=A_ (blk_grown (zz7 BK500) hg (Kd.R_ne HO_12.out BK500.out (by decide)));replace HB:=A_ (hb);have HO517:=A_ (ho);clear HO_12;clear ho hb hg hat))
      go_roundg k1
      case measure=>have:=HK1.out;omega
      case rel=>exact ⟨(y515),(wrap64 (x37_1+1)),(x501000_1),(x501002_1),(x501003_1),zz3,H',⟨(zz17 HK1)⟩,⟨(zz8 HO517)⟩,⟨(zz107 HO_35)⟩,⟨(zz7 BK500)⟩,⟨(zz2 HB GE500)⟩⟩
     ·simp only [Option.some.injEq,Prod.mk.injEq] at H
      obtain ⟨rfl,rfl,rfl,rfl,rfl⟩:=H;obtain ⟨_,_,_,_,_,_,_,_⟩:=cf4 BK500;go_wp2
      refine pR (results_ct rfl _ _ gb500 51 #[.string (⟨#[]⟩:ByteArray),.slice none 0 0,.bool false,.string (⟨#[]⟩:ByteArray)] (0,0) _ rfl (zz38 BK500) Tryz.underlying51 rfl (by kernel_rfl)) rfl ?_;exact ⟨_,zz1,zz75,(zz2 HB GE500)⟩
    ·(first|rw [c16b0]|(simp only [i64_w,i32_w];rw [c16b0])|skip)
     replace H:=bindA H;obtain ⟨t518,A26,H⟩:=H;replace H:=bindA H;obtain ⟨t522,A27,H⟩:=H;have HF28:=A_ H;clear H;obtain ⟨Ao29,co29,eo29⟩:=Kd.R_slice HO_12.out;subst eo29;go_upto_if 62 with (first|(refine gV 134 (some 56) Tryz.func134 (impl_PathClean.calls k1 _ _ x12_1 t518 _ ?side1 ?side2 A26.out) ?_;(case side1=>exact (zz110 HO_12));(case side2=>exact (Kd.R_reads' HO_12.out).2.1);rintro v519 w30 ⟨ho0,hb⟩;have HO520:=A_ (Kd.R_lower (Kd.R_new' (Kd.R_new' ho0 (Kd.R_lt (zz8 HO_12))) (Kd.R_lt (zz8 HO_35))) (below_size (zz2 HB GE500)));replace HO_12:=A_ (Kd.R_elder' (zz8 HO_12) (Kd.R_base ho0) hb);replace HO_35:=A_ (Kd.R_elder' (zz8 HO_35) (Kd.R_base ho0) hb);replace BK500:=A_ (bB (zz7 BK500) hb);replace HB:=A_ (bS (zz2 HB GE500) hb);(try clear hb ho0);obtain ⟨Ao31,co31,eo31⟩:=Kd.R_slice HO520.out;subst eo31)|(refine boxF 17 #[.string (⟨#[]⟩:ByteArray),.slice none 0 0,.bool false,.string (⟨#[]⟩:ByteArray)] 51 ?_;intro gb521 hg w32 BK521 hb;replace HO_12:=A_ (rB (zz8 HO_12) hb);replace HO_35:=A_ (rB (zz8 HO_35) hb);replace HO520:=A_ (rB (zz8 HO520) hb);have GE521:=geB hg (zz2 HB GE500);replace HB:=A_ (bS (zz2 HB GE500) hb);have NB500_521:=A_ ((by rw [hg];exact Nat.ne_of_lt (blk_lt (zz7 BK500)):gb500≠gb521));have NB521_500:=A_ ((by rw [hg];exact Nat.ne_of_gt (blk_lt (zz7 BK500)):gb521≠gb500));replace BK500:=A_ (bB (zz7 BK500) hb);clear hb hg;have hnb33:=NB521_500.out;have hnc33:=NB500_521.out;obtain ⟨_,_,_,_,_,_,_,_⟩:=cf4 BK521)|((with_reducible refine gC (f:=101) rfl ?_);refine gsL (some 61) Tryz.func101 #[.agg #[.string a0,.slice Ao31 t518.length co31,.bool t503,.string t504]] ?_;(with_reducible refine (impl_AddrOk.calls k1 a0 _ _ t518 t503 t504 t522 _ ?side1 ?side2 A27.out).mono ?_);(case side1=>exact (by refine (Kd.R_reads' (e:=9) (base:=w.heap.size) (ok:=fun k_=>((True∧some k_≠(.slice Ao29 x12_1.length co29:Value).ownBlock)∧some k_≠(.slice Ao15 t509.length co15:Value).ownBlock)) (n:=t518.length) (c:=co31) ?_).2.2;exact (zz169 HO520 BK521)));(case side2=>exact (Kd.R_reads' HO520.out).2.1);rintro e w35 ⟨rfl,hb⟩;refine ⟨_,rfl,?_⟩;replace HO_12:=A_ (rB (zz169 HO_12 BK521) hb);replace HO_35:=A_ (rB (zz169 HO_35 BK521) hb);replace HO520:=A_ (rB (zz169 HO520 BK521) hb);replace BK500:=A_ (bB (g:=gb500) (o:=.cells #[.string x501000_1,.slice none 0 0,.bool x501002_1,.string x501003_1] 51 (0,0)) (zz12 BK500 NB500_521) hb);replace BK521:=A_ (bB (g:=gb521) (o:=.cells #[.string a0,.slice Ao31 t518.length co31,.bool t503,.string t504] 51 (0,0)) (zz38 BK521) hb);replace HB:=A_ (bS (zz11 HB GE500 GE521) hb);(try clear hb)))
     obtain ⟨H⟩:=HF28;replace H:=iteB H;rcases H with ⟨rfl,H⟩|⟨rfl,H⟩
     ·simp only [Option.some.injEq,Prod.mk.injEq] at H
      obtain ⟨rfl,rfl,rfl,rfl,rfl⟩:=H;have hnb37:=NB521_500.out;have hnc37:=NB500_521.out;obtain ⟨_,_,_,_,_,_,_,_⟩:=cf4 BK521;obtain ⟨_,_,_,_,_,_,_,_⟩:=cf4 BK500;go_wp2
      refine pR (results_ct rfl _ _ gb500 51 #[.string a0,.slice Ao31 t518.length co31,.bool t503,.string t504] (0,0) _ rfl (zz38 BK500) Tryz.underlying51 rfl (by kernel_rfl)) rfl ?_;exact ⟨_,zz1,(zz10 (rt HO520 BK500)),(zz11 HB GE500 GE521)⟩
     ·simp only [Option.some.injEq,Prod.mk.injEq] at H
      obtain ⟨rfl,rfl,rfl,rfl,rfl⟩:=H;have hnb40:=NB500_521.out;have hnc40:=NB521_500.out;obtain ⟨_,_,_,_,_,_,_,_⟩:=cf4 BK500;go_wp2
      refine pR (results_ct rfl _ _ gb500 51 #[.string (⟨#[]⟩:ByteArray),.slice none 0 0,.bool false,.string (⟨#[]⟩:ByteArray)] (0,0) _ rfl (zz38 BK500) Tryz.underlying51 rfl (by kernel_rfl)) rfl ?_;exact ⟨_,zz1,zz75,(zz11 HB GE500 GE521)⟩
 ·simp only [Option.some.injEq,Prod.mk.injEq] at H
  obtain ⟨rfl,rfl,rfl,rfl,rfl⟩:=H;obtain ⟨_,_,_,_,_,_,_,_⟩:=cf4 BK500;go_wp2
  refine pR (results_ct rfl _ _ gb500 51 #[.string (⟨#[]⟩:ByteArray),.slice none 0 0,.bool false,.string (⟨#[]⟩:ByteArray)] (0,0) _ rfl (zz38 BK500) Tryz.underlying51 rfl (by kernel_rfl)) rfl ?_;exact ⟨_,zz1,zz75,(zz2 HB GE500)⟩
def impl_readWhole.f (k:Nat) (a0:ByteArray):Option (ByteArray×List ByteArray×Bool×ByteArray×Bool):=(strings_CutPrefix.f a0 (⟨#[47,47]⟩:ByteArray)).bind fun bt524=>(if bt524.2=true then ((strings_IndexAny.f bt524.1 (⟨#[47,63]⟩:ByteArray)).bind fun t526=>(if t526 < 0 then (if 0≤(bt524.1.size:Int) then (if (bt524.1.size:Int)≤(bt524.1.size:Int) then ((impl_smallLetters.f (bt524.1.extract 0 ((bt524.1.size:Int):Int).toNat)).bind fun t527=>((impl_readWay.f k t527 ([]:List ByteArray) (bt524.1.extract ((bt524.1.size:Int):Int).toNat bt524.1.size)).bind fun bt528=>(some (bt528.1,bt528.2.1,bt528.2.2.1,bt528.2.2.2.1,bt528.2.2.2.2)))) else (none)) else (none)) else (if 0≤t526 then (if t526≤(bt524.1.size:Int) then ((impl_smallLetters.f (bt524.1.extract 0 (t526:Int).toNat)).bind fun t535=>((impl_readWay.f k t535 ([]:List ByteArray) (bt524.1.extract (t526:Int).toNat bt524.1.size)).bind fun bt536=>(some (bt536.1,bt536.2.1,bt536.2.2.1,bt536.2.2.2.1,bt536.2.2.2.2)))) else (none)) else (none)))) else (some ((⟨#[]⟩:ByteArray),([]:List ByteArray),false,(⟨#[]⟩:ByteArray),false)))
theorem impl_readWhole.mono:∀ a0 k,LeO (impl_readWhole.f k a0) (impl_readWhole.f (k+1) a0):=by
 intro a0 k;unfold impl_readWhole.f
 repeat' first|(with_reducible first|exact impl_readWay.mono _ _ _ _|exact LeO.refl _|exact LeO.none _|refine LeO.ite ?_ ?_|refine LeO.bind ?_ (fun _=>?_))|exact LeO.none _|refine LeO.ite ?_ ?_|refine LeO.bind ?_ (fun _=>?_)
def impl_readWhole.T7:Bool×List (List Nat×List Nat):=(true,[([],[]),([],[]),([0,1],[0,1]),([2],[2]),([],[]),([],[]),([4,5],[4,5]),([3,6,3],[3,6]),([7],[7]),([7],[7]),([8,7,0,1,2,3,4,5,6,7,8,9],[8]),([9,10,0,1,2,3,4,5,6,7,8,9,10],[9])])
def impl_readWhole.B7:List Nat:=[0,0,3,7,0,0,48,127,255,255,1023,2047]
theorem impl_readWhole.tab7:rtab .any (opsOf Tryz.f71 7)=impl_readWhole.T7:=by kernel_rfl
theorem impl_readWhole.bits7:waitsOk impl_readWhole.T7.2 impl_readWhole.B7=true:=by kernel_rfl
theorem impl_readWhole.calls (k:Nat) (a0:ByteArray) (r1:ByteArray) (r2:List ByteArray) (r3:Bool) (r4:ByteArray) (r5:Bool) (w:World) (h:impl_readWhole.f k a0=some (r1,r2,r3,r4,r5)) :
  Calls Tryz.prog 71 #[.string a0] w fun e w'=>∃ v1_:Value,e=.returned (.tuple #[.agg #[.string r1,v1_,.bool r3,.string r4],.bool r5])∧Kd.R Kd.string 9 w' w.heap.size (fun _=>True) v1_ r2∧Below w.heap.size w w':=by
 have hu51:=Tryz.underlying51;have HB:=A_ (Below.refl w.heap.size w);unfold impl_readWhole.f at h
 have H:=h;clear h;replace H:=bindA H;obtain ⟨⟨t524,t525⟩,A2,H⟩:=H;try dsimp only at H
 have HF3:=A_ H;clear H;go_enter Tryz.func71,Tryz.ntmps71;go_upto_if 13 with (first|(refine boxF 2 #[.string (⟨#[]⟩:ByteArray),.slice none 0 0,.bool false,.string (⟨#[]⟩:ByteArray)] 51 ?_;intro gb523 hg w4 BK523 hb;have GE523:=geB hg (zz0 HB);replace HB:=A_ (bS (zz0 HB) hb);clear hb hg)|((with_reducible refine gC (f:=97) rfl ?_);refine goesL_ (some 9) rfl rfl Tryz.func97 (by kernel_rfl) rfl #[.string a0,.string (⟨#[47,47]⟩:ByteArray)] rfl zz171 ?_;(with_reducible refine (strings_CutPrefix.calls a0 (⟨#[47,47]⟩:ByteArray) t524 t525 _ A2.out).mono ?_);rintro e w' ⟨rfl,⟨nd,rfl⟩⟩;refine ⟨_,rfl,?_⟩))
 obtain ⟨H⟩:=HF3;replace H:=iteB H;rcases H with ⟨rfl,H⟩|⟨rfl,H⟩
 ·replace H:=bindA H
  obtain ⟨t526,A6,H⟩:=H;have HF7:=A_ H;clear H;go_upto_if 18 with (first|((with_reducible refine gC (f:=98) rfl ?_);refine goesL_ (some 16) rfl rfl Tryz.func98 (by kernel_rfl) rfl #[.string t524,.string (⟨#[47,63]⟩:ByteArray)] rfl zz171 ?_;(with_reducible refine mR (strings_IndexAny.calls t524 (⟨#[47,63]⟩:ByteArray) t526 _ A6.out) ?_);rintro w8 hb;replace BK523:=A_ (bB (zz7 BK523) hb);replace HB:=A_ (bS (zz2 HB GE523) hb);(try clear hb)))
  obtain ⟨H⟩:=HF7;replace H:=iteEd H;rcases H with ⟨c9b0,H⟩|⟨c9b0,H⟩
  ·(first|rw [c9b0]|(simp only [i64_w,i32_w];rw [c9b0])|skip)
   replace H:=iteN H;obtain ⟨c10,H⟩:=H;have c10b0:=eq_true c10;have c10b1:=dT c10;clear c10;replace H:=iteN H;obtain ⟨c11,H⟩:=H;have c11b0:=eq_true c11;have c11b1:=dT c11;clear c11;replace H:=bindA H;obtain ⟨t527,A12,H⟩:=H;have c13b0:=eq_true (ofD:0≤(t524.size:Int));have c14b0:=eq_true (ofD:(t524.size:Int)≤(t524.size:Int));replace H:=bindA H;obtain ⟨⟨t528,t529,t532,t533,t534⟩,A15,H⟩:=H;try dsimp only at H
   simp only [Option.some.injEq,Prod.mk.injEq] at H
   obtain ⟨rfl,rfl,rfl,rfl,rfl⟩:=H;try go_wp2
   replace BK523:=A_ (blk_drew BK523.out);replace HB:=A_ (below_drew1 HB.out);refine start_ (n:=12) (S:=fun w'=>True) (ds:=[]) #[yF,yF,yF,yF,yF,yF,yF,yF,yF,yF,yF,yF] (by kernel_rfl) rfl rfl trivial (fun hHeld=>?_);refine with_tabW impl_readWhole.tab7 impl_readWhole.bits7 (fun HT_ HW_=>?_);generalize w8.drew=w16 at BK523 HB hHeld ⊢;refine pureZ 0 (some 21) #[yT,yF,yF,yF,yF,yF,yF,yF,yF,yF,yF,yF] ?_;refine pureZ 1 (some 22) #[yT,yT,yF,yF,yF,yF,yF,yF,yF,yF,yF,yF] ?_;refine pureZ 2 (some 23) #[yT,yT,yT,yF,yF,yF,yF,yF,yF,yF,yF,yF] ?_;refine pureZ 4 (some 25) #[yT,yT,yT,yF,yT,yF,yF,yF,yF,yF,yF,yF] ?_;refine pureZ 5 (some 26) #[yT,yT,yT,yF,yT,yT,yF,yF,yF,yF,yF,yF] ?_;refine pureZ 6 (some 27) #[yT,yT,yT,yF,yT,yT,yT,yF,yF,yF,yF,yF] ?_;refine oneZ 3 (some 24) #[yT,yT,yT,yT,yT,yT,yT,yF,yF,yF,yF,yF] (fun K hK=>?_);refine goes_ Tryz.func100 (by kernel_rfl) rfl #[.string (t524.extract 0 ((t524.size:Int):Int).toNat)] (by rfl) rfl rfl zz171 ?_;with_reducible refine (impl_smallLetters.calls (t524.extract 0 ((t524.size:Int):Int).toNat) t527 _ A12.out).mono ?_
   rintro e w17 ⟨rfl,hb⟩;refine ⟨_,rfl,?_⟩;replace BK523:=A_ (bB (zz7 BK523) hb);replace HB:=A_ (bS (zz2 HB GE523) hb);(try clear hb)
   (try clear hb2)
   (try clear hk)
   (try clear hi)
   refine hK.out _ _ trivial (fun hHeld=>?_);clear hK K;refine nZ 24 ?_;refine oneZ 7 (some 28) #[yT,yT,yT,yT,yT,yT,yT,yT,yF,yF,yF,yF] (fun K hK=>?_);refine goes_ Tryz.func99 (by kernel_rfl) rfl #[.string t527,.slice none 0 0,.string (t524.extract ((t524.size:Int):Int).toNat t524.size)] (by rfl) rfl rfl zz171 ?_;refine (impl_readWay.calls k t527 _ _ ([]:List ByteArray) (t524.extract ((t524.size:Int):Int).toNat t524.size) t528 t529 t532 t533 t534 _ ?side1 ?side2 A15.out).mono ?_;(case side1=>exact Kd.C_nil _ _)
   (case side2=>exact Nat.le_refl _)
   rintro e w18 ⟨v530,rfl,ho0,hb⟩;refine ⟨_,rfl,?_⟩;have HO531:=A_ (Kd.R_lower ho0 (below_size (zz2 HB GE523)));replace BK523:=A_ (bB (zz7 BK523) hb);replace HB:=A_ (bS (zz2 HB GE523) hb);(try clear hb)
   (try clear hb2)
   (try clear hk)
   (try clear hi)
   (try clear ho0)
   obtain ⟨Ao20,co20,eo20⟩:=Kd.R_slice HO531.out;(first|subst eo20|(injection eo20 with f1_ f2_ f3_;have f4_:=f1_.symm;have f5_:=f3_.symm;clear f1_ f2_ f3_;subst f4_;subst f5_))
   refine hK.out _ _ trivial (fun hHeld=>?_);clear hK K;refine nZ 28 ?_;refine pureZ 8 (some 29) #[yT,yT,yT,yT,yT,yT,yT,yT,yT,yF,yF,yF] ?_;refine pureZ 9 (some 30) #[yT,yT,yT,yT,yT,yT,yT,yT,yT,yT,yF,yF] ?_;refine oneZ 10 (none) #[yT,yT,yT,yT,yT,yT,yT,yT,yT,yT,yT,yF] (fun K hK=>?_);have hs19:w18.cell? ⟨gb523,0,none⟩=some (.string (⟨#[]⟩:ByteArray)):=(blk_cell BK523.out 0).trans rfl;have hfs19:=blk_frozen BK523.out 0;have hs21:w18.cell? ⟨gb523,1,none⟩=some (.slice none 0 0):=(blk_cell BK523.out 1).trans rfl;have hfs21:=blk_frozen BK523.out 1;have hs22:w18.cell? ⟨gb523,2,none⟩=some (.bool false):=(blk_cell BK523.out 2).trans rfl;have hfs22:=blk_frozen BK523.out 2;have hs23:w18.cell? ⟨gb523,3,none⟩=some (.string (⟨#[]⟩:ByteArray)):=(blk_cell BK523.out 3).trans rfl;have hfs23:=blk_frozen BK523.out 3;refine skip_ (w1:=?_) (by rfl) rfl ?_ ?_;rotate_left
   ·go_simp
    rfl
   refine hK.out _ _ trivial (fun hHeld=>?_);clear hK K;refine pureZ 11 (some 3) #[yT,yT,yT,yT,yT,yT,yT,yT,yT,yT,yT,yT] ?_;refine done_ (done_of HT_.out (by kernel_rfl)) ?_;try go_wp2
   refine pR (results_ct rfl _ _ gb523 51 #[.string t528,.slice Ao20 t529.length co20,.bool t532,.string t533] (0,0) _ rfl (zz38 BK523) Tryz.underlying51 rfl (by kernel_rfl)) rfl ?_;exact ⟨_,zz1,(zz10 (rt HO531 BK523)),(zz2 HB GE523)⟩
  ·(first|rw [c9b0]|(simp only [i64_w,i32_w];rw [c9b0])|skip)
   replace H:=iteN H;obtain ⟨c24,H⟩:=H;have c24b0:=eq_true c24;have c24b1:=dT c24;clear c24;replace H:=iteN H;obtain ⟨c25,H⟩:=H;have c25b0:=eq_true c25;have c25b1:=dT c25;clear c25;replace H:=bindA H;obtain ⟨t535,A26,H⟩:=H;have c27b0:=eq_true (ofD:0≤t526);have c28b0:=eq_true (ofD:t526≤(t524.size:Int));replace H:=bindA H;obtain ⟨⟨t536,t537,t540,t541,t542⟩,A29,H⟩:=H;try dsimp only at H
   simp only [Option.some.injEq,Prod.mk.injEq] at H
   obtain ⟨rfl,rfl,rfl,rfl,rfl⟩:=H;try go_wp2
   replace BK523:=A_ (blk_drew BK523.out);replace HB:=A_ (below_drew1 HB.out);refine start_ (n:=12) (S:=fun w'=>True) (ds:=[]) #[yF,yF,yF,yF,yF,yF,yF,yF,yF,yF,yF,yF] (by kernel_rfl) rfl rfl trivial (fun hHeld=>?_);refine with_tabW impl_readWhole.tab7 impl_readWhole.bits7 (fun HT_ HW_=>?_);generalize w8.drew=w30 at BK523 HB hHeld ⊢;refine pureZ 0 (some 21) #[yT,yF,yF,yF,yF,yF,yF,yF,yF,yF,yF,yF] ?_;refine pureZ 1 (some 22) #[yT,yT,yF,yF,yF,yF,yF,yF,yF,yF,yF,yF] ?_;refine pureZ 2 (some 23) #[yT,yT,yT,yF,yF,yF,yF,yF,yF,yF,yF,yF] ?_;refine pureZ 4 (some 25) #[yT,yT,yT,yF,yT,yF,yF,yF,yF,yF,yF,yF] ?_;refine pureZ 5 (some 26) #[yT,yT,yT,yF,yT,yT,yF,yF,yF,yF,yF,yF] ?_;refine pureZ 6 (some 27) #[yT,yT,yT,yF,yT,yT,yT,yF,yF,yF,yF,yF] ?_;refine oneZ 3 (some 24) #[yT,yT,yT,yT,yT,yT,yT,yF,yF,yF,yF,yF] (fun K hK=>?_);refine goes_ Tryz.func100 (by kernel_rfl) rfl #[.string (t524.extract 0 (t526:Int).toNat)] (by rfl) rfl rfl zz171 ?_;with_reducible refine (impl_smallLetters.calls (t524.extract 0 (t526:Int).toNat) t535 _ A26.out).mono ?_
   rintro e w31 ⟨rfl,hb⟩;refine ⟨_,rfl,?_⟩;replace BK523:=A_ (bB (zz7 BK523) hb);replace HB:=A_ (bS (zz2 HB GE523) hb);(try clear hb)
   (try clear hb2)
   (try clear hk)
   (try clear hi)
   refine hK.out _ _ trivial (fun hHeld=>?_);clear hK K;refine nZ 24 ?_;refine oneZ 7 (some 28) #[yT,yT,yT,yT,yT,yT,yT,yT,yF,yF,yF,yF] (fun K hK=>?_);refine goes_ Tryz.func99 (by kernel_rfl) rfl #[.string t535,.slice none 0 0,.string (t524.extract (t526:Int).toNat t524.size)] (by rfl) rfl rfl zz171 ?_;refine (impl_readWay.calls k t535 _ _ ([]:List ByteArray) (t524.extract (t526:Int).toNat t524.size) t536 t537 t540 t541 t542 _ ?side1 ?side2 A29.out).mono ?_;(case side1=>exact Kd.C_nil _ _)
   (case side2=>exact Nat.le_refl _)
   rintro e w32 ⟨v538,rfl,ho0,hb⟩;refine ⟨_,rfl,?_⟩;have HO539:=A_ (Kd.R_lower ho0 (below_size (zz2 HB GE523)));replace BK523:=A_ (bB (zz7 BK523) hb);replace HB:=A_ (bS (zz2 HB GE523) hb);(try clear hb)
   (try clear hb2)
   (try clear hk)
   (try clear hi)
   (try clear ho0)
   obtain ⟨Ao34,co34,eo34⟩:=Kd.R_slice HO539.out;(first|subst eo34|(injection eo34 with f1_ f2_ f3_;have f4_:=f1_.symm;have f5_:=f3_.symm;clear f1_ f2_ f3_;subst f4_;subst f5_))
   refine hK.out _ _ trivial (fun hHeld=>?_);clear hK K;refine nZ 28 ?_;refine pureZ 8 (some 29) #[yT,yT,yT,yT,yT,yT,yT,yT,yT,yF,yF,yF] ?_;refine pureZ 9 (some 30) #[yT,yT,yT,yT,yT,yT,yT,yT,yT,yT,yF,yF] ?_;refine oneZ 10 (none) #[yT,yT,yT,yT,yT,yT,yT,yT,yT,yT,yT,yF] (fun K hK=>?_);have hs33:w32.cell? ⟨gb523,0,none⟩=some (.string (⟨#[]⟩:ByteArray)):=(blk_cell BK523.out 0).trans rfl;have hfs33:=blk_frozen BK523.out 0;have hs35:w32.cell? ⟨gb523,1,none⟩=some (.slice none 0 0):=(blk_cell BK523.out 1).trans rfl;have hfs35:=blk_frozen BK523.out 1;have hs36:w32.cell? ⟨gb523,2,none⟩=some (.bool false):=(blk_cell BK523.out 2).trans rfl;have hfs36:=blk_frozen BK523.out 2;have hs37:w32.cell? ⟨gb523,3,none⟩=some (.string (⟨#[]⟩:ByteArray)):=(blk_cell BK523.out 3).trans rfl;have hfs37:=blk_frozen BK523.out 3;refine skip_ (w1:=?_) (by rfl) rfl ?_ ?_;rotate_left
   ·go_simp
    rfl
   refine hK.out _ _ trivial (fun hHeld=>?_);clear hK K;refine pureZ 11 (some 3) #[yT,yT,yT,yT,yT,yT,yT,yT,yT,yT,yT,yT] ?_;refine done_ (done_of HT_.out (by kernel_rfl)) ?_;try go_wp2
   refine pR (results_ct rfl _ _ gb523 51 #[.string t536,.slice Ao34 t537.length co34,.bool t540,.string t541] (0,0) _ rfl (zz38 BK523) Tryz.underlying51 rfl (by kernel_rfl)) rfl ?_;exact ⟨_,zz1,(zz10 (rt HO539 BK523)),(zz2 HB GE523)⟩
 ·simp only [Option.some.injEq,Prod.mk.injEq] at H
  obtain ⟨rfl,rfl,rfl,rfl,rfl⟩:=H;obtain ⟨_,_,_,_,_,_,_,_⟩:=cf4 BK523;go_wp2
  refine pR (results_ct rfl _ _ gb523 51 #[.string (⟨#[]⟩:ByteArray),.slice none 0 0,.bool false,.string (⟨#[]⟩:ByteArray)] (0,0) _ rfl (zz38 BK523) Tryz.underlying51 rfl (by kernel_rfl)) rfl ?_;exact ⟨_,zz1,zz75,(zz2 HB GE523)⟩
def impl_AddrRead.f (k:Nat) (a0:ByteArray):Option (ByteArray×List ByteArray×Bool×ByteArray×Bool):=if (a0.size:Int) > 60 then (some ((⟨#[]⟩:ByteArray),([]:List ByteArray),false,(⟨#[]⟩:ByteArray),false)) else ((strings_Cut.f a0 (⟨#[35]⟩:ByteArray)).bind fun bt544=>((impl_readWhole.f k bt544.1).bind fun bt547=>(some (bt547.1,bt547.2.1,bt547.2.2.1,bt547.2.2.2.1,bt547.2.2.2.2))))
theorem impl_AddrRead.mono:∀ a0 k,LeO (impl_AddrRead.f k a0) (impl_AddrRead.f (k+1) a0):=by
 intro a0 k;unfold impl_AddrRead.f
 repeat' first|(with_reducible first|exact impl_readWhole.mono _ _|exact LeO.refl _|exact LeO.none _|refine LeO.ite ?_ ?_|refine LeO.bind ?_ (fun _=>?_))|exact LeO.none _|refine LeO.ite ?_ ?_|refine LeO.bind ?_ (fun _=>?_)
theorem impl_AddrRead.calls (k:Nat) (a0:ByteArray) (r1:ByteArray) (r2:List ByteArray) (r3:Bool) (r4:ByteArray) (r5:Bool) (w:World) (h:impl_AddrRead.f k a0=some (r1,r2,r3,r4,r5)) :
  Calls Tryz.prog 31 #[.string a0] w fun e w'=>∃ v1_:Value,e=.returned (.tuple #[.agg #[.string r1,v1_,.bool r3,.string r4],.bool r5])∧Kd.R Kd.string 9 w' w.heap.size (fun _=>True) v1_ r2∧Below w.heap.size w w':=by
 have hu51:=Tryz.underlying51;have HB:=A_ (Below.refl w.heap.size w);unfold impl_AddrRead.f at h
 have H:=h;clear h;have HF2:=A_ H;clear H;go_enter Tryz.func31,Tryz.ntmps31;go_upto_if 9 with (first|(refine boxF 2 #[.string (⟨#[]⟩:ByteArray),.slice none 0 0,.bool false,.string (⟨#[]⟩:ByteArray)] 51 ?_;intro gb543 hg w3 BK543 hb;have GE543:=geB hg (zz0 HB);replace HB:=A_ (bS (zz0 HB) hb);clear hb hg))
 obtain ⟨H⟩:=HF2;replace H:=iteE H;rcases H with ⟨c4,H⟩|⟨c4,H⟩
 ·have c4b0:=gtT c4
  have c4b1:decide (60 < a0.size)=true:=dT (by omega);clear c4;(first|rw [c4b0]|(simp only [i64_w,i32_w];rw [c4b0])|skip)
  simp only [Option.some.injEq,Prod.mk.injEq] at H
  obtain ⟨rfl,rfl,rfl,rfl,rfl⟩:=H;obtain ⟨_,_,_,_,_,_,_,_⟩:=cf4 BK543;go_wp2
  refine pR (results_ct rfl _ _ gb543 51 #[.string (⟨#[]⟩:ByteArray),.slice none 0 0,.bool false,.string (⟨#[]⟩:ByteArray)] (0,0) _ rfl (zz38 BK543) Tryz.underlying51 rfl (by kernel_rfl)) rfl ?_;exact ⟨_,zz1,zz75,(zz2 HB GE543)⟩
 ·have c4b0:=gtF c4
  have c4b1:decide (60 < a0.size)=false:=dF (by omega);clear c4;(first|rw [c4b0]|(simp only [i64_w,i32_w];rw [c4b0])|skip)
  replace H:=bindA H;obtain ⟨⟨t544,t545,t546⟩,A6,H⟩:=H;try dsimp only at H
  replace H:=bindA H;obtain ⟨⟨t547,t548,t551,t552,t553⟩,A7,H⟩:=H;try dsimp only at H
  simp only [Option.some.injEq,Prod.mk.injEq] at H
  obtain ⟨rfl,rfl,rfl,rfl,rfl⟩:=H;go_wp2_with (first|(refine gR 70 (some 13) Tryz.func70 (strings_Cut.calls a0 (⟨#[35]⟩:ByteArray) t544 t545 t546 _ A6.out) ?_;rintro w8 hb;replace BK543:=A_ (bB (zz7 BK543) hb);replace HB:=A_ (bS (zz2 HB GE543) hb);(try clear hb))|(refine gV 71 (some 18) Tryz.func71 (impl_readWhole.calls k t544 t547 t548 t551 t552 t553 _ A7.out) ?_;rintro v549 w9 ⟨ho0,hb⟩;have HO550:=A_ (Kd.R_lower ho0 (below_size (zz2 HB GE543)));replace BK543:=A_ (bB (zz7 BK543) hb);replace HB:=A_ (bS (zz2 HB GE543) hb);(try clear hb ho0);obtain ⟨_,_,_,_,_,_,_,_⟩:=cf4 BK543;obtain ⟨Ao11,co11,eo11⟩:=Kd.R_slice HO550.out;subst eo11))
  refine pR (results_ct rfl _ _ gb543 51 #[.string t547,.slice Ao11 t548.length co11,.bool t551,.string t552] (0,0) _ rfl (zz38 BK543) Tryz.underlying51 rfl (by kernel_rfl)) rfl ?_;exact ⟨_,zz1,(zz10 (rt HO550 BK543)),(zz2 HB GE543)⟩
def impl_readAddress.f (k:Nat) (a0:ByteArray):Option (ByteArray×List ByteArray×Bool×ByteArray×Bool):=(impl_AddrRead.f k a0).bind fun bt555=>(if bt555.2.2.2.2=true then ((impl_writeAddr.f bt555.1 bt555.2.1 bt555.2.2.1 bt555.2.2.2.1).bind fun t563=>(if t563.toList=a0.toList then (some (bt555.1,bt555.2.1,bt555.2.2.1,bt555.2.2.2.1,true)) else (some ((⟨#[]⟩:ByteArray),([]:List ByteArray),false,(⟨#[]⟩:ByteArray),false)))) else (some ((⟨#[]⟩:ByteArray),([]:List ByteArray),false,(⟨#[]⟩:ByteArray),false)))
theorem impl_readAddress.mono:∀ a0 k,LeO (impl_readAddress.f k a0) (impl_readAddress.f (k+1) a0):=by
 intro a0 k;unfold impl_readAddress.f
 repeat' first|(with_reducible first|exact impl_AddrRead.mono _ _|exact LeO.refl _|exact LeO.none _|refine LeO.ite ?_ ?_|refine LeO.bind ?_ (fun _=>?_))|exact LeO.none _|refine LeO.ite ?_ ?_|refine LeO.bind ?_ (fun _=>?_)
theorem impl_readAddress.calls (k:Nat) (a0:ByteArray) (r1:ByteArray) (r2:List ByteArray) (r3:Bool) (r4:ByteArray) (r5:Bool) (w:World) (h:impl_readAddress.f k a0=some (r1,r2,r3,r4,r5)) :
  Calls Tryz.prog 125 #[.string a0] w fun e w'=>∃ v1_:Value,e=.returned (.tuple #[.agg #[.string r1,v1_,.bool r3,.string r4],.bool r5])∧Kd.R Kd.string 9 w' w.heap.size (fun _=>True) v1_ r2∧Below w.heap.size w w':=by
 have hu51:=Tryz.underlying51;have HB:=A_ (Below.refl w.heap.size w);unfold impl_readAddress.f at h
 have H:=h;clear h;replace H:=bindA H;obtain ⟨⟨t555,t556,t559,t560,t561⟩,A2,H⟩:=H;try dsimp only at H
 have HF3:=A_ H;clear H;go_enter Tryz.func125,Tryz.ntmps125;go_wp2_with (first|(refine boxF 2 #[.string (⟨#[]⟩:ByteArray),.slice none 0 0,.bool false,.string (⟨#[]⟩:ByteArray)] 51 ?_;intro gb554 hg w4 BK554 hb;have GE554:=geB hg (zz0 HB);replace HB:=A_ (bS (zz0 HB) hb);clear hb hg)|(refine gV 31 (some 8) Tryz.func31 (impl_AddrRead.calls k a0 t555 t556 t559 t560 t561 _ A2.out) ?_;rintro v557 w5 ⟨ho0,hb⟩;have HO558:=A_ (Kd.R_lower ho0 (below_size (zz2 HB GE554)));replace BK554:=A_ (bB (zz7 BK554) hb);replace HB:=A_ (bS (zz2 HB GE554) hb);(try clear hb ho0))|(refine boxF 4 #[.string (⟨#[]⟩:ByteArray),.slice none 0 0,.bool false,.string (⟨#[]⟩:ByteArray)] 51 ?_;intro gb562 hg w6 BK562 hb;replace HO558:=A_ (rB (zz8 HO558) hb);have GE562:=geB hg (zz2 HB GE554);replace HB:=A_ (bS (zz2 HB GE554) hb);have NB554_562:=A_ ((by rw [hg];exact Nat.ne_of_lt (blk_lt (zz7 BK554)):gb554≠gb562));have NB562_554:=A_ ((by rw [hg];exact Nat.ne_of_gt (blk_lt (zz7 BK554)):gb562≠gb554));replace BK554:=A_ (bB (zz7 BK554) hb);clear hb hg;have hnb7:=NB562_554.out;have hnc7:=NB554_562.out;obtain ⟨_,_,_,_,_,_,_,_⟩:=cf4 BK562;obtain ⟨Ao9,co9,eo9⟩:=Kd.R_slice HO558.out;subst eo9)|((with_reducible refine gate_store (t:=51) (p:=4) rfl ?_);refine store_event (t:=51) (p:=4) (v:=?vo_w10) (w1:=((((w6.setCell ⟨gb562,0,none⟩ (.string t555)).setCell ⟨gb562,1,none⟩ (.slice Ao9 t556.length co9)).setCell ⟨gb562,2,none⟩ (.bool t559)).setCell ⟨gb562,3,none⟩ (.string t560))) ?hg ?ho ?hn ?hr ?_;(case ho=>rfl);(case hg=>rfl);(case hn=>rfl);(case hr=>exact zz6);intro w10 hw;have n0_:Aside0 (Kd.R Kd.string 9 w10 w.heap.size (fun _=>True) (.slice Ao9 t556.length co9) t556):=⟨(by rw [hw];exact (zz10 (rt HO558 BK562)))⟩;have n1_:Aside0 (w10.heap[gb554]?=some (.cells #[.string (⟨#[]⟩:ByteArray),.slice none 0 0,.bool false,.string (⟨#[]⟩:ByteArray)] 51 (0,0))):=⟨(by rw [hw];exact (zz12 BK554 NB554_562))⟩;have n2_:Aside0 (w10.heap[gb562]?=some (.cells #[.string t555,.slice Ao9 t556.length co9,.bool t559,.string t560] 51 (0,0))):=⟨(by rw [hw];exact (zz38 BK562))⟩;have n3_:Aside0 (Below w.heap.size w w10):=⟨(by rw [hw];exact (zz11 HB GE554 GE562))⟩;clear hw;clear HO558;clear BK554;clear BK562;clear HB;have HO558:=n0_;have BK554:=n1_;have BK562:=n2_;have HB:=n3_;clear n0_ n1_ n2_ n3_)|((with_reducible refine atG ?_ ?_ fun K_ hK_=>?_);rfl;exact undecG)|((with_reducible refine atI ?_ fun K_ hK_=>?_);exact undecI))
 refine unG hK_ ?_;clear hK_ K_;obtain ⟨H⟩:=HF3;replace H:=iteB H;rcases H with ⟨rfl,H⟩|⟨rfl,H⟩
 ·(first|refine iteT ?_|refine iteF ?_|skip)
  replace H:=bindA H;obtain ⟨t563,A12,H⟩:=H;have HF13:=A_ H;clear H;have hnb14:=NB562_554.out;have hnc14:=NB554_562.out;obtain ⟨_,_,_,_,_,_,_,_⟩:=cf4 BK562;(try ((with_reducible refine upS ?_);go_simp))
  go_upto_if 18 with (first|(go_at_call 136;(with_reducible refine (impl_writeAddr.calls t555 _ _ t556 t559 t560 t563 _ ?side1 ?side2 A12.out).mono ?_);(case side1=>exact (zz110 HO558));(case side2=>exact (Kd.R_reads' HO558.out).2.1);rintro e w16 ⟨rfl,hb⟩;replace HO558:=A_ (rB (zz8 HO558) hb);replace BK554:=A_ (bB (zz7 BK554) hb);replace BK562:=A_ (bB (zz7 BK562) hb);replace HB:=A_ (bS (zz11 HB GE554 GE562) hb);(try clear hb)))
  obtain ⟨H⟩:=HF13;replace H:=iteEq H;rcases H with ⟨c17b0,c17b1,H⟩|⟨c17b0,c17b1,c17,H⟩
  ·(first|rw [c17b0]|(simp only [i64_w,i32_w];rw [c17b0])|skip)
   simp only [Option.some.injEq,Prod.mk.injEq] at H
   obtain ⟨rfl,rfl,rfl,rfl,rfl⟩:=H;have hnb18:=NB562_554.out;have hnc18:=NB554_562.out;obtain ⟨_,_,_,_,_,_,_,_⟩:=cf4 BK562;obtain ⟨_,_,_,_,_,_,_,_⟩:=cf4 BK554;go_wp2
   refine pR (results_ct rfl _ _ gb554 51 #[.string t555,.slice Ao9 t556.length co9,.bool t559,.string t560] (0,0) _ rfl (zz38 BK554) Tryz.underlying51 rfl (by kernel_rfl)) rfl ?_;exact ⟨_,zz1,(zz10 (rt HO558 BK554)),(zz11 HB GE554 GE562)⟩
  ·(first|rw [c17b0]|(simp only [i64_w,i32_w];rw [c17b0])|skip)
   simp only [Option.some.injEq,Prod.mk.injEq] at H
   obtain ⟨rfl,rfl,rfl,rfl,rfl⟩:=H;have hnb21:=NB554_562.out;have hnc21:=NB562_554.out;obtain ⟨_,_,_,_,_,_,_,_⟩:=cf4 BK554;go_wp2
   refine pR (results_ct rfl _ _ gb554 51 #[.string (⟨#[]⟩:ByteArray),.slice none 0 0,.bool false,.string (⟨#[]⟩:ByteArray)] (0,0) _ rfl (zz38 BK554) Tryz.underlying51 rfl (by kernel_rfl)) rfl ?_;exact ⟨_,zz1,zz75,(zz11 HB GE554 GE562)⟩
 ·(first|refine iteT ?_|refine iteF ?_|skip)
  simp only [Option.some.injEq,Prod.mk.injEq] at H
  obtain ⟨rfl,rfl,rfl,rfl,rfl⟩:=H;have hnb23:=NB554_562.out;have hnc23:=NB562_554.out;obtain ⟨_,_,_,_,_,_,_,_⟩:=cf4 BK554;(try ((with_reducible refine upS ?_);go_simp))
  go_wp2
  refine pR (results_ct rfl _ _ gb554 51 #[.string (⟨#[]⟩:ByteArray),.slice none 0 0,.bool false,.string (⟨#[]⟩:ByteArray)] (0,0) _ rfl (zz38 BK554) Tryz.underlying51 rfl (by kernel_rfl)) rfl ?_;exact ⟨_,zz1,zz75,(zz11 HB GE554 GE562)⟩
def impl_isAddress.f (k:Nat) (a0:ByteArray):Option (Bool):=(impl_readAddress.f k a0).bind fun bt564=>(some bt564.2.2.2.2)
theorem impl_isAddress.mono:∀ a0 k,LeO (impl_isAddress.f k a0) (impl_isAddress.f (k+1) a0):=by
 intro a0 k;unfold impl_isAddress.f
 repeat' first|(with_reducible first|exact impl_readAddress.mono _ _|exact LeO.refl _|exact LeO.none _|refine LeO.ite ?_ ?_|refine LeO.bind ?_ (fun _=>?_))|exact LeO.none _|refine LeO.ite ?_ ?_|refine LeO.bind ?_ (fun _=>?_)
theorem impl_isAddress.calls (k:Nat) (a0:ByteArray) (r:Bool) (w:World) (h:impl_isAddress.f k a0=some r) :
  Calls Tryz.prog 95 #[.string a0] w fun e w'=>e=.returned (.bool r)∧Below w.heap.size w w':=by
 have hu51:=Tryz.underlying51;have HB:=A_ (Below.refl w.heap.size w);unfold impl_isAddress.f at h
 have H:=h;clear h;replace H:=bindA H;obtain ⟨⟨t564,t565,t568,t569,t570⟩,A2,H⟩:=H;try dsimp only at H
 obtain rfl:=sI H;go_enter Tryz.func95,Tryz.ntmps95;go_wp2_with (first|(refine gV 125 (some 7) Tryz.func125 (impl_readAddress.calls k a0 t564 t565 t568 t569 t570 _ A2.out) ?_;rintro v566 w3 ⟨ho0,hb⟩;have HO567:=A_ (Kd.R_lower ho0 (below_size (zz0 HB)));replace HB:=A_ (bS (zz0 HB) hb);(try clear hb ho0))|(refine boxF 3 #[.string (⟨#[]⟩:ByteArray),.slice none 0 0,.bool false,.string (⟨#[]⟩:ByteArray)] 51 ?_;intro gb571 hg w4 BK571 hb;replace HO567:=A_ (rB (zz8 HO567) hb);have GE571:=geB hg (zz0 HB);replace HB:=A_ (bS (zz0 HB) hb);clear hb hg;obtain ⟨_,_,_,_,_,_,_,_⟩:=cf4 BK571;obtain ⟨Ao6,co6,eo6⟩:=Kd.R_slice HO567.out;subst eo6))
 go_ret
 exact ⟨zz1,(zz2 HB GE571)⟩
def impl_pageOk.f (k:Nat) (a0_0:ByteArray) (a0_1:ByteArray) (a0_2:ByteArray) (a0_3:Int):Option (Bool):=(impl_isAddress.f k a0_0).bind fun t573=>(if t573=true then (if (a0_1.size:Int) > 300 then (some false) else (if a0_3 < 0 then (some false) else (if a0_3 > 9 then (some false) else (if a0_2.toList=([]:List UInt8) then (some true) else ((impl_isAddress.f k a0_2).bind fun t574=>(if t574=true then (some (a0_1.toList == ([]:List UInt8))) else (some false))))))) else (some false))
theorem impl_pageOk.mono:∀ a0 a1 a2 a3 k,LeO (impl_pageOk.f k a0 a1 a2 a3) (impl_pageOk.f (k+1) a0 a1 a2 a3):=by
 intro a0 a1 a2 a3 k;unfold impl_pageOk.f
 repeat' first|(with_reducible first|exact impl_isAddress.mono _ _|exact LeO.refl _|exact LeO.none _|refine LeO.ite ?_ ?_|refine LeO.bind ?_ (fun _=>?_))|exact LeO.none _|refine LeO.ite ?_ ?_|refine LeO.bind ?_ (fun _=>?_)
theorem impl_pageOk.calls (k:Nat) (a0_0:ByteArray) (a0_1:ByteArray) (a0_2:ByteArray) (a0_3:Int) (r:Bool) (w:World) (h:impl_pageOk.f k a0_0 a0_1 a0_2 a0_3=some r) :
  Calls Tryz.prog 68 #[.agg #[.string a0_0,.string a0_1,.string a0_2,.int .i64 a0_3]] w fun e w'=>e=.returned (.bool r)∧Below w.heap.size w w':=by
 have hu57:=Tryz.underlying57;have HB:=A_ (Below.refl w.heap.size w);unfold impl_pageOk.f at h
 have H:=h;clear h;replace H:=bindA H;obtain ⟨t573,A2,H⟩:=H;have HF3:=A_ H;clear H;go_enter Tryz.func68,Tryz.ntmps68;go_wp2_with (first|((with_reducible refine gD (N:=1) rfl ?_);(try (refine gate_guard (by rfl) ?_;dsimp only));refine boxE 1 #[.string a0_0,.string a0_1,.string a0_2,.int .i64 a0_3] 57 ?_;intro gb572 hg w4 hbox hb;have BK572:=A_ (hbox);have GE572:=geB hg (zz0 HB);replace HB:=A_ (bS (zz0 HB) hb);clear hb hbox hg;obtain ⟨_,_,_,_,_,_,_,_⟩:=cf4 BK572)|(refine gR 95 (some 5) Tryz.func95 (impl_isAddress.calls k a0_0 t573 _ A2.out) ?_;rintro w6 hb;replace BK572:=A_ (bB (zz7 BK572) hb);replace HB:=A_ (bS (zz2 HB GE572) hb);(try clear hb))|((with_reducible refine atG ?_ ?_ fun K_ hK_=>?_);rfl;exact undecG)|((with_reducible refine atI ?_ fun K_ hK_=>?_);exact undecI))
 refine unG hK_ ?_;clear hK_ K_;obtain ⟨H⟩:=HF3;replace H:=iteB H;rcases H with ⟨rfl,H⟩|⟨rfl,H⟩
 ·(first|refine iteT ?_|refine iteF ?_|skip)
  replace H:=iteE H;rcases H with ⟨c8,H⟩|⟨c8,H⟩
  ·have c8b0:=gtT c8
   have c8b1:decide (300 < a0_1.size)=true:=dT (by omega);clear c8;obtain rfl:=sI H;obtain ⟨_,_,_,_,_,_,_,_⟩:=cf4 BK572;go_wp2
   go_ret
   exact ⟨zz1,(zz2 HB GE572)⟩
  ·have c8b0:=gtF c8
   have c8b1:decide (300 < a0_1.size)=false:=dF (by omega);clear c8;replace H:=iteEd H;rcases H with ⟨c10b0,H⟩|⟨c10b0,H⟩
   ·obtain rfl:=sI H
    obtain ⟨_,_,_,_,_,_,_,_⟩:=cf4 BK572;go_wp2
    go_ret
    exact ⟨zz1,(zz2 HB GE572)⟩
   ·replace H:=iteEg H
    rcases H with ⟨c12b0,H⟩|⟨c12b0,H⟩
    ·obtain rfl:=sI H
     obtain ⟨_,_,_,_,_,_,_,_⟩:=cf4 BK572;go_wp2
     go_ret
     exact ⟨zz1,(zz2 HB GE572)⟩
    ·replace H:=iteEq H
     rcases H with ⟨c14b0,c14b1,H⟩|⟨c14b0,c14b1,c14,H⟩
     ·obtain rfl:=sI H
      obtain ⟨_,_,_,_,_,_,_,_⟩:=cf4 BK572;go_wp2
      go_ret
      exact ⟨zz1,(zz2 HB GE572)⟩
     ·replace H:=bindA H
      obtain ⟨t574,A16,H⟩:=H;have HF17:=A_ H;clear H;obtain ⟨_,_,_,_,_,_,_,_⟩:=cf4 BK572;go_wp2_with (first|(go_at_call 95;(with_reducible refine (impl_isAddress.calls k a0_2 t574 _ A16.out).mono ?_);rintro e w19 ⟨rfl,hb⟩;replace BK572:=A_ (bB (zz7 BK572) hb);replace HB:=A_ (bS (zz2 HB GE572) hb);(try clear hb))|((with_reducible refine atG ?_ ?_ fun K_ hK_=>?_);rfl;exact undecG)|((with_reducible refine atI ?_ fun K_ hK_=>?_);exact undecI))
      refine unG hK_ ?_;clear hK_ K_;obtain ⟨H⟩:=HF17;replace H:=iteB H;rcases H with ⟨rfl,H⟩|⟨rfl,H⟩
      ·(first|refine iteT ?_|refine iteF ?_|skip)
       obtain rfl:=sI H;obtain ⟨_,_,_,_,_,_,_,_⟩:=cf4 BK572;(try ((with_reducible refine upS ?_);go_simp))
       go_wp2
       go_ret
       exact ⟨zz1,(zz2 HB GE572)⟩
      ·(first|refine iteT ?_|refine iteF ?_|skip)
       obtain rfl:=sI H;(try ((with_reducible refine upS ?_);go_simp))
       go_wp2
       go_ret
       exact ⟨zz1,(zz2 HB GE572)⟩
 ·(first|refine iteT ?_|refine iteF ?_|skip)
  obtain rfl:=sI H;(try ((with_reducible refine upS ?_);go_simp))
  go_wp2
  go_ret
  exact ⟨zz1,(zz2 HB GE572)⟩
end Go.Proofs.YtloijngehifbmaaGreatDoor.P
end
section
namespace Go.Proofs.YtloijngehifbmaaGreatDoor.P
open Go.RowKit Go.Proofs.YtloijngehifbmaaGreatDoorW.PrintWords Go.Proofs.YtloijngehifbmaaGreatDoorW.PrintLast Go.Proofs.YtloijngehifbmaaGreatDoorW.PrintMore Go.Maps Go.ChangeMaps
set_option linter.unusedVariables false
set_option linter.unusedSimpArgs false
def pageD (p:S57):DataW Unit:=.agg [.lit (.string p.f0.data.toList),.lit (.string p.f1.data.toList),.lit (.string p.f2.data.toList),.lit (.int .i64 p.f3)]
def pageV (p:S57):Value:=.agg #[.string p.f0,.string p.f1,.string p.f2,.int .i64 p.f3]
def pageR (v:Value):Option (DataW Unit×List MemPlace):=
 match v with
 | .agg ⟨[.string a,.string b,.string c,.int .i64 d]⟩=>some (pageD ⟨a,b,c,d⟩,[])
 | _=>none
theorem pageR_mk (p:S57):pageR (pageV p)=some (pageD p,[]):=rfl
theorem pageR_inv {v:Value} {z:DataW Unit×List MemPlace} (h:pageR v=some z):∃ p,v=pageV p∧z=(pageD p,[]):=by
 unfold pageR at h
 split at h
 ·exact ⟨⟨_,_,_,_⟩,rfl,(Option.some.inj h).symm⟩
 ·cases h
theorem pageD_inj {p q:S57} (h:pageD p=pageD q):p=q:=by
 obtain ⟨⟨⟨p0⟩⟩,⟨⟨p1⟩⟩,⟨⟨p2⟩⟩,p3⟩:=p
 obtain ⟨⟨⟨q0⟩⟩,⟨⟨q1⟩⟩,⟨⟨q2⟩⟩,q3⟩:=q
 simp [pageD] at h
 obtain ⟨rfl,rfl,rfl,rfl⟩:=h
 rfl
def keyL (s:ByteArray):Lit:=.string s.data.toList
def mapR:List S57→DataW Unit
 | []=>.map []
 | p :: r=>(mapR r).put (keyL p.f0) (pageD p)
def mapD (l:List S57):DataW Unit:=mapR l.reverse
theorem mapD_snoc (l:List S57) (p:S57):mapD (l++[p])=(mapD l).put (keyL p.f0) (pageD p):=by simp [mapD,mapR]
theorem keyL_lit (a:ByteArray):WideAt.IsKeyLit (keyL a):=trivial
theorem keyL_inj {a b:ByteArray} (h:keyL a=keyL b):a=b:=by
 obtain ⟨⟨a⟩⟩:=a
 obtain ⟨⟨b⟩⟩:=b
 simp [keyL] at h
 rw [h]
theorem mapR_is:∀ l,IsMap (mapR l)
 | []=>isMap_empty
 | p :: r=>(mapR_is r).put _ _
theorem mapR_tidy:∀ l,Tidy (mapR l)
 | []=>tidy_empty
 | p :: r=>(mapR_tidy r).put (keyL_lit _) _
def pageAtR (a:ByteArray):List S57→Option S57
 | []=>none
 | p :: r=>if p.f0=a then some p else pageAtR a r
theorem mapR_at (a:ByteArray):∀ l,(mapR l).atKey (keyL a) (pageD z57)=pageD ((pageAtR a l).getD z57)
 | []=>rfl
 | p :: r=>by
  unfold mapR pageAtR
  by_cases h:p.f0=a
  ·rw [if_pos h,← h,atKey_put_same (mapR_is r) (keyL_lit _)];rfl
  ·rw [if_neg h,atKey_put_other (fun e=>h (keyL_inj e).symm)]
   exact mapR_at a r
theorem mapR_has (a:ByteArray):∀ l,has (mapR l) (keyL a)=(pageAtR a l).isSome
 | []=>rfl
 | p :: r=>by
  unfold mapR pageAtR
  by_cases h:p.f0=a
  ·rw [if_pos h,← h,has_put_same (mapR_is r) (keyL_lit _)];rfl
  ·rw [if_neg h,has_put_other (fun e=>h (keyL_inj e).symm)]
   exact mapR_has a r
theorem mapR_size (p:S57) (r:List S57):size (mapR (p :: r))=if (pageAtR p.f0 r).isSome then size (mapR r) else size (mapR r)+1:=by
 show size ((mapR r).put _ _)=_
 rw [size_put (mapR_tidy r),mapR_has]
def getF (l:List S57) (a:ByteArray) (t:Int):Int×ByteArray:=
 match pageAtR a l.reverse with
 | none=>(0,⟨#[]⟩)
 | some p=>if t < 0 then (0,⟨#[]⟩) else if t < p.f3 then (3,⟨#[]⟩) else if p.f2.toList=([]:List UInt8) then (1,p.f1) else (2,p.f2)
def pagesOk (k:Nat):List S57→Option Bool
 | []=>some true
 | p :: r=>if p.f0.size≤9223372036854775807 then (impl_pageOk.f k p.f0 p.f1 p.f2 p.f3).bind fun t=>if t=true then pagesOk k r else some false else none
theorem map_below {w w':World} {P:Program} {k:TypeId} {R:Value→Option (DataW Unit×List MemPlace)} {b n:Nat} {D:DataW Unit} (h:w.ownsMap P k R b n D) (hb:Below w.heap.size w w'):w'.ownsMap P k R b n D:=by
 have hlt:=h.lt
 obtain ⟨es,clock,h1,F,h2,h3⟩:=h
 exact ⟨es,clock,(hb.block b hlt).trans h1,F,h2,h3⟩
theorem grown_below {w W W':World} (h:Below w.heap.size w W) (g:W.grownBy W' (some w.heap.size)):Below w.heap.size w W':=
 ⟨g.os.trans h.os,g.tape.trans h.tape,g.output.trans h.output,Nat.le_trans h.size g.size,fun i hi=>(g.block i (Nat.lt_of_lt_of_le hi h.size) (by intro e;injection e with e;omega)).trans (h.block i hi)⟩
abbrev Pages (w:World) (b n:Nat) (D:DataW Unit):Prop:=w.ownsMap Tryz.prog 9 pageR b n D
set_option maxHeartbeats 8000000 in
set_option maxRecDepth 100000 in
theorem worldOf_walk (k:Nat) (A0:Option Addr) (c0:Nat) (l0:List S57) (r:Bool) (w:World) (hr0:Kd.C k57 w A0 l0.length l0) (hc0:l0.length≤c0) (h12:l0.length≤12) (h:pagesOk k l0=some r) :
  Calls Tryz.prog 29 #[.slice A0 l0.length c0] w fun e w'=>Below w.heap.size w w' ∧
   (r=false→e=.returned (.tuple #[.map none,.bool false]))∧(r=true→∃ b,w.heap.size≤b∧Pages w' b l0.length (mapD l0)∧e=.returned (.tuple #[.map (some b),.bool ((Maps.size (mapD l0):Int) == (l0.length:Int))])):=by
 have hu:=Tryz.underlying57
 have hle:decide ((12:Int) < (l0.length:Int))=false:=decide_eq_false (by omega)
 have hmm:=@run_makeMap Tryz.prog
 have H0:=Aside0.mk h
 clear h
 go_enter Tryz.func29,Tryz.ntmps29
 go_wp2
 go_loopg [13] l0.length (fun g v wx=>∃ i:Nat,v=.int .i64 i∧i+g=l0.length∧Aside0 (pagesOk k (l0.drop i)=some r)∧Aside0 (Pages wx w.heap.size i (mapD (l0.take i)))∧Aside0 (Below w.heap.size w wx))
 case atStart=>exact ⟨0,rfl,by omega,⟨by simpa using H0.out⟩,⟨by simpa [mapD,mapR] using World.ownsMap_made w Tryz.prog 9 pageR⟩,⟨(Below.refl _ _).alloc (Nat.le_refl _) _⟩⟩
 case round=>
  clear H0 hmm
  obtain ⟨i,rfl,hig,H,HM,HB⟩:=hrel
  cases gk with
  | zero=>
   obtain rfl:i=l0.length:=by omega
   have hr:r=true:=by
    have:=H.out
    rw [List.drop_length] at this
    exact (Option.some.inj this).symm
   subst hr
   have hlt:decide ((l0.length:Int) < (l0.length:Int))=false:=decide_eq_false (by omega)
   have hlen:=fun ty=>HM.out.len Tryz.underlying60 ty
   go_wp2
   go_ret2
   refine ⟨HB.out,w.heap.size,Nat.le_refl _,?_,?_⟩
   ·have:=HM.out
    rw [List.take_length] at this
    exact this
   ·rfl
  | succ g=>
   have hi:i < l0.length:=by omega
   have hlt:decide ((i:Int) < (l0.length:Int))=true:=decide_eq_true (by omega)
   obtain ⟨ad,ea,hx0,hx1,hx2,hx3⟩:=at_T57 hr0 (i:Int) (by omega) (by omega)
   subst ea
   replace hx0:=(HB.out.cell (World.block_lt_of_cell? w _ hx0)).trans hx0
   replace hx1:=(HB.out.cell (World.block_lt_of_cell? w _ hx1)).trans hx1
   replace hx2:=(HB.out.cell (World.block_lt_of_cell? w _ hx2)).trans hx2
   replace hx3:=(HB.out.cell (World.block_lt_of_cell? w _ hx3)).trans hx3
   have p0:(0≤(i:Int))=True:=eq_true (by omega)
   have q0:((i:Int) < (l0.length:Int))=True:=eq_true (by omega)
   obtain ⟨p,hp⟩:∃ p,rd_T57 l0 (i:Int)=p:=⟨_,rfl⟩
   rw [hp] at hx0 hx1 hx2 hx3
   simp only [Int.toNat_natCast] at hx0 hx1 hx2 hx3
   have hd:l0.drop i=p :: l0.drop (i+1):=by
    rw [List.drop_eq_getElem_cons hi]
    congr 1
    rw [← hp]
    simp [rd_T57,List.getD,List.getElem?_eq_getElem hi]
   have ht:l0.take (i+1)=l0.take i++[p]:=by
    rw [List.take_succ_eq_append_getElem hi]
    congr 2
    rw [← hp]
    simp [rd_T57,List.getD,List.getElem?_eq_getElem hi]
   have H1:=H.out
   rw [hd] at H1
   simp only [pagesOk] at H1
   by_cases hz:p.f0.size≤9223372036854775807
   case neg=>rw [if_neg hz] at H1;cases H1
   rw [if_pos hz] at H1
   have HK:=Aside0.mk (Go.WideMaps.keyOf_string_mk (P:=Tryz.prog) Tryz.underlying9 (s:=p.f0) (by have:maxLen=2 ^ 63 - 1:=rfl;omega))
   clear hz
   obtain ⟨t,A0',H2⟩:=Option.bind_eq_some_iff.mp H1
   have A:=Aside0.mk A0'
   have HT:=Aside0.mk ht
   clear H1 A0' H hd ht hp
   by_cases ct:t=true
   ·subst ct
    rw [if_pos rfl] at H2
    have H':=Aside0.mk H2
    clear H2
    go_wp2_with (first|((with_reducible refine gate_dst (N:=6) rfl ?_);refine box_event ?hg (N:=6) ?hd (cs:=#[.string (⟨#[]⟩:ByteArray),.string (⟨#[]⟩:ByteArray),.string (⟨#[]⟩:ByteArray),.int .i64 0]) (t:=57) ?hr ?_;(case hd=>rfl);(case hg=>rfl);(case hr=>first|(go_simp;done)|(go_simp;rfl));intro gb hg w6 hbox hb;have BK:=Aside0.mk hbox;have NB:=Aside0.mk (show gb≠w.heap.size from by rw [hg];exact Nat.ne_of_gt HM.out.lt);have GE:=Aside0.mk (show w.heap.size≤gb from by rw [hg];exact below_size HB.out);replace HM:=Aside0.mk (map_below HM.out hb);replace HB:=Aside0.mk (below_step HB.out hb);replace hx0:=(hb.cell (World.block_lt_of_cell? _ _ hx0)).trans hx0;replace hx1:=(hb.cell (World.block_lt_of_cell? _ _ hx1)).trans hx1;replace hx2:=(hb.cell (World.block_lt_of_cell? _ _ hx2)).trans hx2;replace hx3:=(hb.cell (World.block_lt_of_cell? _ _ hx3)).trans hx3;clear hb hg hbox;obtain ⟨hc0,hc1,hc2,hc3⟩:w6.cell? ⟨gb,0,none⟩=some (.string (⟨#[]⟩:ByteArray))∧w6.cell? ⟨gb,1,none⟩=some (.string (⟨#[]⟩:ByteArray))∧w6.cell? ⟨gb,2,none⟩=some (.string (⟨#[]⟩:ByteArray))∧w6.cell? ⟨gb,3,none⟩=some (.int .i64 0):=⟨(blk_cell BK.out 0).trans rfl,(blk_cell BK.out 1).trans rfl,(blk_cell BK.out 2).trans rfl,(blk_cell BK.out 3).trans rfl⟩;have hf0:=blk_frozen BK.out 0;have hf1:=blk_frozen BK.out 1;have hf2:=blk_frozen BK.out 2;have hf3:=blk_frozen BK.out 3)|(go_at_call 68;(with_reducible refine (impl_pageOk.calls k p.f0 p.f1 p.f2 p.f3 true _ A.out).mono ?_);rintro e w8 ⟨rfl,hb⟩;replace HM:=Aside0.mk (map_below ((((HM.out.setCell (a:=⟨gb,0,none⟩) NB.out.symm _).setCell (a:=⟨gb,1,none⟩) NB.out.symm _).setCell (a:=⟨gb,2,none⟩) NB.out.symm _).setCell (a:=⟨gb,3,none⟩) NB.out.symm _) hb);replace BK:=Aside0.mk (blk_below (g:=gb) (o:=.cells #[.string p.f0,.string p.f1,.string p.f2,.int .i64 p.f3] 57 (0,0)) (by refine blk_put (cs:=#[.string p.f0,.string p.f1,.string p.f2,.int .i64 0]) ?_ 3 _ rfl;refine blk_put (cs:=#[.string p.f0,.string p.f1,.string (⟨#[]⟩:ByteArray),.int .i64 0]) ?_ 2 _ rfl;refine blk_put (cs:=#[.string p.f0,.string (⟨#[]⟩:ByteArray),.string (⟨#[]⟩:ByteArray),.int .i64 0]) ?_ 1 _ rfl;refine blk_put (cs:=#[.string (⟨#[]⟩:ByteArray),.string (⟨#[]⟩:ByteArray),.string (⟨#[]⟩:ByteArray),.int .i64 0]) ?_ 0 _ rfl;exact BK.out) hb);replace HB:=Aside0.mk (below_step (below_set (below_set (below_set (below_set HB.out GE.out) GE.out) GE.out) GE.out) hb);clear hb hx0 hx1 hx2 hx3 hc0 hc1 hc2 hc3 hf0 hf1 hf2 hf3;obtain ⟨hc0,hc1,hc2,hc3⟩:w8.cell? ⟨gb,0,none⟩=some (.string p.f0)∧w8.cell? ⟨gb,1,none⟩=some (.string p.f1)∧w8.cell? ⟨gb,2,none⟩=some (.string p.f2)∧w8.cell? ⟨gb,3,none⟩=some (.int .i64 p.f3):=⟨(blk_cell BK.out 0).trans rfl,(blk_cell BK.out 1).trans rfl,(blk_cell BK.out 2).trans rfl,(blk_cell BK.out 3).trans rfl⟩)|(at_mapUpdate;refine wpList_mapUpdate_own _ rfl _ _ _ 60 rfl 9 57 (string_keyed Tryz.underlying9) Tryz.underlying60 pageR w.heap.size i (mapD (l0.take i)) rfl HM.out (by have:maxLen=2 ^ 63 - 1:=rfl;omega) _ _ (keyL p.f0) rfl rfl HK.out (pageD p) [] (pageR_mk p) ?_;intro w9 hown hgrow))
    go_roundg g
    case measure=>omega
    case rel=>exact ⟨i+1,by simp,by omega,H',⟨by rw [HT.out,mapD_snoc];exact hown⟩,⟨grown_below HB.out hgrow⟩⟩
   ·obtain rfl:t=false:=by simpa using ct
    rw [if_neg (by decide)] at H2
    obtain rfl:=Option.some.inj H2
    go_wp2_with (first|((with_reducible refine gate_dst (N:=6) rfl ?_);refine box_event ?hg (N:=6) ?hd (cs:=#[.string (⟨#[]⟩:ByteArray),.string (⟨#[]⟩:ByteArray),.string (⟨#[]⟩:ByteArray),.int .i64 0]) (t:=57) ?hr ?_;(case hd=>rfl);(case hg=>rfl);(case hr=>first|(go_simp;done)|(go_simp;rfl));intro gb hg w6 hbox hb;have BK:=Aside0.mk hbox;have NB:=Aside0.mk (show gb≠w.heap.size from by rw [hg];exact Nat.ne_of_gt HM.out.lt);have GE:=Aside0.mk (show w.heap.size≤gb from by rw [hg];exact below_size HB.out);replace HM:=Aside0.mk (map_below HM.out hb);replace HB:=Aside0.mk (below_step HB.out hb);replace hx0:=(hb.cell (World.block_lt_of_cell? _ _ hx0)).trans hx0;replace hx1:=(hb.cell (World.block_lt_of_cell? _ _ hx1)).trans hx1;replace hx2:=(hb.cell (World.block_lt_of_cell? _ _ hx2)).trans hx2;replace hx3:=(hb.cell (World.block_lt_of_cell? _ _ hx3)).trans hx3;clear hb hg hbox;obtain ⟨hc0,hc1,hc2,hc3⟩:w6.cell? ⟨gb,0,none⟩=some (.string (⟨#[]⟩:ByteArray))∧w6.cell? ⟨gb,1,none⟩=some (.string (⟨#[]⟩:ByteArray))∧w6.cell? ⟨gb,2,none⟩=some (.string (⟨#[]⟩:ByteArray))∧w6.cell? ⟨gb,3,none⟩=some (.int .i64 0):=⟨(blk_cell BK.out 0).trans rfl,(blk_cell BK.out 1).trans rfl,(blk_cell BK.out 2).trans rfl,(blk_cell BK.out 3).trans rfl⟩;have hf0:=blk_frozen BK.out 0;have hf1:=blk_frozen BK.out 1;have hf2:=blk_frozen BK.out 2;have hf3:=blk_frozen BK.out 3)|(go_at_call 68;(with_reducible refine (impl_pageOk.calls k p.f0 p.f1 p.f2 p.f3 false _ A.out).mono ?_);rintro e w8 ⟨rfl,hb⟩;replace HM:=Aside0.mk (map_below ((((HM.out.setCell (a:=⟨gb,0,none⟩) NB.out.symm _).setCell (a:=⟨gb,1,none⟩) NB.out.symm _).setCell (a:=⟨gb,2,none⟩) NB.out.symm _).setCell (a:=⟨gb,3,none⟩) NB.out.symm _) hb);replace BK:=Aside0.mk (blk_below (g:=gb) (o:=.cells #[.string p.f0,.string p.f1,.string p.f2,.int .i64 p.f3] 57 (0,0)) (by refine blk_put (cs:=#[.string p.f0,.string p.f1,.string p.f2,.int .i64 0]) ?_ 3 _ rfl;refine blk_put (cs:=#[.string p.f0,.string p.f1,.string (⟨#[]⟩:ByteArray),.int .i64 0]) ?_ 2 _ rfl;refine blk_put (cs:=#[.string p.f0,.string (⟨#[]⟩:ByteArray),.string (⟨#[]⟩:ByteArray),.int .i64 0]) ?_ 1 _ rfl;refine blk_put (cs:=#[.string (⟨#[]⟩:ByteArray),.string (⟨#[]⟩:ByteArray),.string (⟨#[]⟩:ByteArray),.int .i64 0]) ?_ 0 _ rfl;exact BK.out) hb);replace HB:=Aside0.mk (below_step (below_set (below_set (below_set (below_set HB.out GE.out) GE.out) GE.out) GE.out) hb);clear hb hx0 hx1 hx2 hx3 hc0 hc1 hc2 hc3 hf0 hf1 hf2 hf3;obtain ⟨hc0,hc1,hc2,hc3⟩:w8.cell? ⟨gb,0,none⟩=some (.string p.f0)∧w8.cell? ⟨gb,1,none⟩=some (.string p.f1)∧w8.cell? ⟨gb,2,none⟩=some (.string p.f2)∧w8.cell? ⟨gb,3,none⟩=some (.int .i64 p.f3):=⟨(blk_cell BK.out 0).trans rfl,(blk_cell BK.out 1).trans rfl,(blk_cell BK.out 2).trans rfl,(blk_cell BK.out 3).trans rfl⟩))
    go_ret2
    exact ⟨HB.out,rfl⟩
def impl_worldOf.f (k:Nat) (l0:List S57):Option Bool:=if 12 < l0.length then some false else pagesOk k l0
set_option maxRecDepth 100000 in
theorem impl_worldOf.calls (k:Nat) (A0:Option Addr) (c0:Nat) (l0:List S57) (r:Bool) (w:World) (hr0:Kd.C k57 w A0 l0.length l0) (hc0:l0.length≤c0) (h:impl_worldOf.f k l0=some r) :
  Calls Tryz.prog 29 #[.slice A0 l0.length c0] w fun e w'=>Below w.heap.size w w' ∧
   (r=false→e=.returned (.tuple #[.map none,.bool false]))∧(r=true→∃ b,w.heap.size≤b∧Pages w' b l0.length (mapD l0)∧e=.returned (.tuple #[.map (some b),.bool ((Maps.size (mapD l0):Int) == (l0.length:Int))])):=by
 unfold impl_worldOf.f at h
 by_cases h12:12 < l0.length
 ·rw [if_pos h12] at h
  obtain rfl:=Option.some.inj h
  have hle:decide ((12:Int) < (l0.length:Int))=true:=decide_eq_true (by omega)
  clear h
  go_enter Tryz.func29,Tryz.ntmps29
  go_wp2
  go_ret2
  exact ⟨Below.refl _ _,fun _=>rfl,fun h=>by cases h⟩
 ·rw [if_neg h12] at h
  exact worldOf_walk k A0 c0 l0 r w hr0 hc0 (by omega) h
theorem pagesOk_mono (k:Nat):∀ l,LeO (pagesOk k l) (pagesOk (k+1) l)
 | []=>LeO.refl _
 | p :: r=>by
  unfold pagesOk
  exact LeO.ite (LeO.bind (impl_pageOk.mono _ _ _ _ _) (fun _=>LeO.ite (pagesOk_mono k r) (LeO.refl _))) (LeO.refl _)
theorem impl_worldOf.mono:∀ a0 k,LeO (impl_worldOf.f k a0) (impl_worldOf.f (k+1) a0):=fun a0 k=>LeO.ite (LeO.refl _) (pagesOk_mono k a0)
end Go.Proofs.YtloijngehifbmaaGreatDoor.P
end
section
namespace Go.Proofs.YtloijngehifbmaaGreatDoor.P
open Go.RowKit Go.Proofs.YtloijngehifbmaaGreatDoorW.PrintWords Go.Proofs.YtloijngehifbmaaGreatDoorW.PrintLast Go.Proofs.YtloijngehifbmaaGreatDoorW.PrintMore Go.Maps Go.ChangeMaps
set_option linter.unusedVariables false
set_option linter.unusedSimpArgs false
set_option maxHeartbeats 4000000 in
set_option maxRecDepth 100000 in
theorem get_walk (b n:Nat) (l:List S57) (a:ByteArray) (t:Int) (w:World) (ha:a.size≤9223372036854775807) (hm:Pages w b n (mapD l)) :
  Calls Tryz.prog 53 #[.map (some b),.string a,.int .i64 t] w fun e w'=>e=.returned (.tuple #[.int .i64 (getF l a t).1,.string (getF l a t).2])∧Below w.heap.size w w':=by
 have hu:=Tryz.underlying57
 have HB:=Aside0.mk (Below.refl w.heap.size w)
 have hz:(zeroValue 57).run Tryz.prog w=.ok (pageV z57) w:=by kernel_rfl
 obtain ⟨v,ps,hrun,hv⟩:=hm.look_ok (string_keyed Tryz.underlying9) Tryz.underlying60 hz (pageR_mk z57) (Go.WideMaps.keyOf_string_mk (P:=Tryz.prog) Tryz.underlying9 (s:=a) (by have:maxLen=2 ^ 63 - 1:=rfl;omega))
 have e1:=mapR_at a l.reverse
 have e2:=mapR_has a l.reverse
 rw [show (.string a.data.toList:Lit)=keyL a from rfl] at hv hrun
 unfold mapD at hv hrun
 rw [e1] at hv
 rw [e2] at hrun
 obtain ⟨q,rfl,hq⟩:=pageR_inv hv
 obtain rfl:=pageD_inj (Prod.mk.inj hq).1
 unfold getF
 clear hv hq e1 e2 hm hz
 cases hp:pageAtR a l.reverse with
 | none=>
  rw [hp] at hrun
  simp only [Option.getD_none,Option.isSome_none,pageV] at hrun
  go_enter Tryz.func53,Tryz.ntmps53
  go_wp2
  go_ret2
  exact ⟨rfl,(Below.refl _ _).alloc (Nat.le_refl _) _⟩
 | some p=>
  rw [hp] at hrun
  simp only [Option.getD_some,Option.isSome_some,pageV] at hrun
  simp only
  by_cases c1:t < 0
  ·rw [if_pos c1]
   have d1:decide (t < 0)=true:=decide_eq_true c1
   clear c1
   go_enter Tryz.func53,Tryz.ntmps53
   go_wp2
   go_ret2
   exact ⟨rfl,(Below.refl _ _).alloc (Nat.le_refl _) _⟩
  ·rw [if_neg c1]
   have d1:decide (t < 0)=false:=decide_eq_false c1
   clear c1
   by_cases c2:t < p.f3
   ·rw [if_pos c2]
    have d2:decide (t < p.f3)=true:=decide_eq_true c2
    clear c2
    go_enter Tryz.func53,Tryz.ntmps53
    go_wp2
    go_ret2
    exact ⟨rfl,(Below.refl _ _).alloc (Nat.le_refl _) _⟩
   ·rw [if_neg c2]
    have d2:decide (t < p.f3)=false:=decide_eq_false c2
    clear c2
    by_cases c3:p.f2.toList=([]:List UInt8)
    ·rw [if_pos c3]
     have d3:(p.f2.toList == ([]:List UInt8))=true:=beq_iff_eq.mpr c3
     have d4:(p.f2.toList != ([]:List UInt8))=false:=bne_eq_false_iff_eq.mpr c3
     clear c3
     go_enter Tryz.func53,Tryz.ntmps53
     go_wp2
     go_quiet (fail)
     go_wp2
     go_ret2
     exact ⟨rfl,pw_below_drewN (below_alloc (Below.refl _ _) _) _⟩
    ·rw [if_neg c3]
     have d3:(p.f2.toList == ([]:List UInt8))=false:=beq_eq_false_iff_ne.mpr c3
     have d4:(p.f2.toList != ([]:List UInt8))=true:=bne_iff_ne.mpr c3
     clear c3
     go_enter Tryz.func53,Tryz.ntmps53
     go_wp2
     go_quiet (fail)
     go_wp2
     go_ret2
     exact ⟨rfl,pw_below_drewN (below_alloc (Below.refl _ _) _) _⟩
end Go.Proofs.YtloijngehifbmaaGreatDoor.P
end
section
namespace Go.Proofs.YtloijngehifbmaaGreatDoor.P
open Go.RowKit Go.Proofs.YtloijngehifbmaaGreatDoorW.PrintWords Go.Proofs.YtloijngehifbmaaGreatDoorW.PrintLast Go.Proofs.YtloijngehifbmaaGreatDoorW.PrintMore
set_option linter.unusedVariables false
inductive RL where
 | caller (name:ByteArray)
 | rule (lets:Bool) (path:ByteArray)
 | wait (n:Int)
@[reducible] def RL.v:RL→Value
 | .caller x=>.iface 112 (.agg #[.string x])
 | .rule b x=>.iface 114 (.agg #[.bool b,.string x])
 | .wait n=>.iface 117 (.agg #[.int .i64 n])
def impl_readLine.g (k:Nat) (x1 x2:ByteArray):Option (Option RL):=
 if x1.toList=([99,97,108,108,101,114]:List UInt8) then (impl_isGroupName.f k x2).bind fun b=>some (if b=true then some (.caller x2) else none)
 else if x1.toList=([108,101,116]:List UInt8) then (impl_RuleOk.f k x2).bind fun b=>some (if b=true then some (.rule true x2) else none)
 else if x1.toList=([98,97,114]:List UInt8) then (impl_RuleOk.f k x2).bind fun b=>some (if b=true then some (.rule false x2) else none)
 else if x1.toList=([119,97,105,116]:List UInt8) then (impl_readWait.f k x2).bind fun n=>some (some (.wait n))
 else some none
def impl_readLine.f (k:Nat) (a0:ByteArray):Option (Option RL):=(strings_Cut.f a0 (⟨#[32]⟩:ByteArray)).bind fun t=>impl_readLine.g k t.1 t.2.1
def Told (w:World) (r:Option RL) (e:Ending) (w':World):Prop:=∃ iv,e=.returned (.tuple #[iv,.bool r.isSome])∧(∀ x,r=some x→iv=RL.v x)∧Below w.heap.size w w'
theorem told_if {w w':World} {b:Bool} {x:RL} {r:Option RL} {iv:Value} {e:Ending} (hr:(if b=true then some x else none)=r) (he:e=.returned (.tuple #[iv,.bool b])) (hx:iv=x.v) (hb:Below w.heap.size w w'):Told w r e w':=by
 subst hr
 cases b with
 | true=>exact ⟨iv,he,(fun y hy=>by cases hy;exact hx),hb⟩
 | false=>exact ⟨iv,he,(fun y hy=>by cases hy),hb⟩
set_option maxHeartbeats 8000000 in
set_option maxRecDepth 100000 in
theorem impl_readLine.calls (k:Nat) (a0:ByteArray) (r:Option RL) (w:World) (h:impl_readLine.f k a0=some r) :
  Calls Tryz.prog 59 #[.string a0] w fun e w'=>Told w r e w':=by
 unfold impl_readLine.f at h
 obtain ⟨⟨x1,x2,x3⟩,hc,h2⟩:=Option.bind_eq_some_iff.mp h
 have HC:=Aside0.mk hc
 simp only at h2
 unfold impl_readLine.g at h2
 clear h hc
 by_cases c1:x1.toList=([99,97,108,108,101,114]:List UInt8)
 ·rw [if_pos c1] at h2
  have c1b:(x1.toList == ([99,97,108,108,101,114]:List UInt8))=true:=beq_iff_eq.mpr c1
  clear c1
  obtain ⟨b,hb,h3⟩:=Option.bind_eq_some_iff.mp h2
  have HR:=Aside0.mk (Option.some.inj h3)
  have HB:=Aside0.mk hb
  clear h2 hb h3
  go_enter Tryz.func59,Tryz.ntmps59
  go_wp2_with (first
   | (go_at_call 70;(with_reducible refine (strings_Cut.calls a0 (⟨#[32]⟩:ByteArray) x1 x2 x3 _ HC.out).mono ?_);rintro e w1 ⟨rfl,hb1⟩;have HB1:=Aside0.mk hb1;clear hb1)
   | (go_at_call 86;(with_reducible refine (impl_isGroupName.calls k x2 b _ HB.out).mono ?_);rintro e w' ⟨rfl,⟨nd,rfl⟩⟩))
  go_ret2
  exact told_if HR.out rfl rfl (pw_below_drewN HB1.out _)
 rw [if_neg c1] at h2
 have c1b:(x1.toList == ([99,97,108,108,101,114]:List UInt8))=false:=beq_eq_false_iff_ne.mpr c1
 clear c1
 by_cases c2:x1.toList=([108,101,116]:List UInt8)
 ·rw [if_pos c2] at h2
  have c2b:(x1.toList == ([108,101,116]:List UInt8))=true:=beq_iff_eq.mpr c2
  clear c2
  obtain ⟨b,hb,h3⟩:=Option.bind_eq_some_iff.mp h2
  have HR:=Aside0.mk (Option.some.inj h3)
  have HB:=Aside0.mk hb
  clear h2 hb h3
  go_enter Tryz.func59,Tryz.ntmps59
  go_wp2_with (first
   | (go_at_call 70;(with_reducible refine (strings_Cut.calls a0 (⟨#[32]⟩:ByteArray) x1 x2 x3 _ HC.out).mono ?_);rintro e w1 ⟨rfl,hb1⟩;have HB1:=Aside0.mk hb1;clear hb1)
   | (go_at_call 87;(with_reducible refine (impl_RuleOk.calls k x2 b _ HB.out).mono ?_);rintro e w' ⟨rfl,⟨nd,rfl⟩⟩))
  go_ret2
  exact told_if HR.out rfl rfl (pw_below_drewN HB1.out _)
 rw [if_neg c2] at h2
 have c2b:(x1.toList == ([108,101,116]:List UInt8))=false:=beq_eq_false_iff_ne.mpr c2
 clear c2
 by_cases c3:x1.toList=([98,97,114]:List UInt8)
 ·rw [if_pos c3] at h2
  have c3b:(x1.toList == ([98,97,114]:List UInt8))=true:=beq_iff_eq.mpr c3
  clear c3
  obtain ⟨b,hb,h3⟩:=Option.bind_eq_some_iff.mp h2
  have HR:=Aside0.mk (Option.some.inj h3)
  have HB:=Aside0.mk hb
  clear h2 hb h3
  go_enter Tryz.func59,Tryz.ntmps59
  go_wp2_with (first
   | (go_at_call 70;(with_reducible refine (strings_Cut.calls a0 (⟨#[32]⟩:ByteArray) x1 x2 x3 _ HC.out).mono ?_);rintro e w1 ⟨rfl,hb1⟩;have HB1:=Aside0.mk hb1;clear hb1)
   | (go_at_call 87;(with_reducible refine (impl_RuleOk.calls k x2 b _ HB.out).mono ?_);rintro e w' ⟨rfl,⟨nd,rfl⟩⟩))
  go_ret2
  exact told_if HR.out rfl rfl (pw_below_drewN HB1.out _)
 rw [if_neg c3] at h2
 have c3b:(x1.toList == ([98,97,114]:List UInt8))=false:=beq_eq_false_iff_ne.mpr c3
 clear c3
 by_cases c4:x1.toList=([119,97,105,116]:List UInt8)
 ·rw [if_pos c4] at h2
  have c4b:(x1.toList == ([119,97,105,116]:List UInt8))=true:=beq_iff_eq.mpr c4
  clear c4
  obtain ⟨n,hb,h3⟩:=Option.bind_eq_some_iff.mp h2
  have HR:=Aside0.mk (Option.some.inj h3)
  have HB:=Aside0.mk hb
  clear h2 hb h3
  go_enter Tryz.func59,Tryz.ntmps59
  go_wp2_with (first
   | (go_at_call 70;(with_reducible refine (strings_Cut.calls a0 (⟨#[32]⟩:ByteArray) x1 x2 x3 _ HC.out).mono ?_);rintro e w1 ⟨rfl,hb1⟩;have HB1:=Aside0.mk hb1;clear hb1)
   | (go_at_call 88;(with_reducible refine (impl_readWait.calls k x2 n _ HB.out).mono ?_);rintro e w2 ⟨rfl,hb2⟩;have HB2:=Aside0.mk (below_step HB1.out hb2);clear hb2))
  go_ret2
  have hr:=HR.out
  subst hr
  exact ⟨_,rfl,(fun x hx=>by cases hx;rfl),HB2.out⟩
 ·rw [if_neg c4] at h2
  have c4b:(x1.toList == ([119,97,105,116]:List UInt8))=false:=beq_eq_false_iff_ne.mpr c4
  clear c4
  obtain rfl:=Option.some.inj h2
  clear h2
  go_enter Tryz.func59,Tryz.ntmps59
  go_wp2_with (first
   | (go_at_call 70;(with_reducible refine (strings_Cut.calls a0 (⟨#[32]⟩:ByteArray) x1 x2 x3 _ HC.out).mono ?_);rintro e w1 ⟨rfl,hb1⟩;have HB1:=Aside0.mk hb1;clear hb1))
  go_ret2
  exact ⟨_,rfl,(fun x hx=>by cases hx),HB1.out⟩
end Go.Proofs.YtloijngehifbmaaGreatDoor.P
end
section
namespace Go.Proofs.YtloijngehifbmaaGreatDoor.P
open Go.RowKit Go.Proofs.YtloijngehifbmaaGreatDoorW.PrintWords Go.Proofs.YtloijngehifbmaaGreatDoorW.PrintLast Go.Proofs.YtloijngehifbmaaGreatDoorW.PrintMore
set_option linter.unusedVariables false
def takeF (gs:List Gp) (b:Bool):RL→List Gp×Bool
 | .caller x=>if b=true∨gs.length=0 then (gs++[⟨[x],[],0⟩],false) else (gs.set (gs.length - 1) ⟨(lastG gs).f0++[x],(lastG gs).f1,(lastG gs).f2⟩,b)
 | .rule l p=>if gs.length=0 then (gs,b) else (if (lastG gs).f1.length < 6 then gs.set (gs.length - 1) ⟨(lastG gs).f0,(lastG gs).f1++[⟨l,p⟩],(lastG gs).f2⟩ else gs,true)
 | .wait n=>if gs.length=0 then (gs,b) else (gs.set (gs.length - 1) ⟨(lastG gs).f0,(lastG gs).f1,n⟩,true)
structure Rd (w0 w wc:World) (base gr:Nat) (ok:Nat→Prop) (v:Value) (b:Bool) (gs:List Gp):Prop where
 S:Kd.S kGp 32 wc base ok v gs
 B:Below base w0 wc
 K:Kept w wc (fun k=>ok k∨k=gr)
 le:base≤gr
 ng:∀ k,ok k→k≠gr
 box:wc.heap[gr]?=some (.cells #[v,.bool b] 85 (0,0))
theorem Rd.lt {w0 w wc:World} {base gr:Nat} {ok:Nat→Prop} {v:Value} {b:Bool} {gs:List Gp} (h:Rd w0 w wc base gr ok v b gs):gr < wc.heap.size:=blk_lt h.box
theorem Rd.below {w0 w wc wd:World} {base gr:Nat} {ok:Nat→Prop} {v:Value} {b:Bool} {gs:List Gp} (h:Rd w0 w wc base gr ok v b gs) (hb:Below wc.heap.size wc wd):Rd w0 w wd base gr ok v b gs:=
 ⟨Kd.S_below h.S hb,h.B.trans (hb.mono (Nat.le_trans h.le (Nat.le_of_lt h.lt))),h.K.below hb,h.le,h.ng,(hb.block gr h.lt).trans h.box⟩
theorem Rd.cell0 {w0 w wc:World} {base gr:Nat} {ok:Nat→Prop} {v:Value} {b:Bool} {gs:List Gp} (h:Rd w0 w wc base gr ok v b gs):wc.cell? ⟨gr,0,none⟩=some v:=(blk_cell h.box 0).trans rfl
theorem Rd.cell1 {w0 w wc:World} {base gr:Nat} {ok:Nat→Prop} {v:Value} {b:Bool} {gs:List Gp} (h:Rd w0 w wc base gr ok v b gs):wc.cell? ⟨gr,1,none⟩=some (.bool b):=(blk_cell h.box 1).trans rfl
theorem Rd.flag {w0 w wc:World} {base gr:Nat} {ok:Nat→Prop} {v:Value} {b:Bool} {gs:List Gp} (h:Rd w0 w wc base gr ok v b gs) (b':Bool):Rd w0 w (wc.setCell ⟨gr,1,none⟩ (.bool b')) base gr ok v b' gs:=
 ⟨Kd.S_far (p:=⟨gr,1,none⟩) h.S h.ng _,h.B.setCell h.le _,h.K.setCell (.inl (.inr rfl)) _,h.le,h.ng,blk_put h.box 1 _ rfl⟩
theorem Rd.groups {w0 w wc:World} {base gr:Nat} {ok:Nat→Prop} {v u:Value} {b:Bool} {gs l:List Gp} (h:Rd w0 w wc base gr ok v b gs) {wd:World} {row:Option Nat} (hg:wc.grownBy wd row) (hrow:∀ k,row=some k→ok k)
  (hS:Kd.S kGp 32 wd base ok u l) (hB:Below base w0 wd):Rd w0 w (wd.setCell ⟨gr,0,none⟩ u) base gr ok u b l:=
 ⟨Kd.S_far (p:=⟨gr,0,none⟩) hS h.ng _,hB.setCell h.le _,(Kept.of_grown hg h.K (fun k hk=>.inl (.inl (hrow k hk)))).setCell (.inl (.inr rfl)) _,h.le,h.ng,blk_put (blk_grown h.box hg (fun e=>h.ng gr (hrow gr e.symm) rfl)) 0 _ rfl⟩
def Took (w0 w:World) (base gr:Nat) (ok:Nat→Prop) (r:List Gp×Bool) (e:Ending) (w':World):Prop:=e=.returned (.tuple #[])∧∃ v',Rd w0 w w' base gr ok v' r.2 r.1
theorem as_cc (v:Value) (w:World):(Instr.typeAssert (.iface 112 v) 88 112 true).run Tryz.prog w=.ok (.tuple #[v,.bool true]) w:=by kernel_rfl
theorem as_rc (v:Value) (w:World):(Instr.typeAssert (.iface 114 v) 88 112 true).run Tryz.prog w=.ok (.tuple #[.agg #[.string ByteArray.empty],.bool false]) w:=by kernel_rfl
theorem as_rr (v:Value) (w:World):(Instr.typeAssert (.iface 114 v) 88 114 true).run Tryz.prog w=.ok (.tuple #[v,.bool true]) w:=by kernel_rfl
theorem as_wc (v:Value) (w:World):(Instr.typeAssert (.iface 117 v) 88 112 true).run Tryz.prog w=.ok (.tuple #[.agg #[.string ByteArray.empty],.bool false]) w:=by kernel_rfl
theorem as_wr (v:Value) (w:World):(Instr.typeAssert (.iface 117 v) 88 114 true).run Tryz.prog w=.ok (.tuple #[.agg #[.bool false,.string ByteArray.empty],.bool false]) w:=by kernel_rfl
theorem as_ww (v:Value) (w:World):(Instr.typeAssert (.iface 117 v) 88 117 true).run Tryz.prog w=.ok (.tuple #[v,.bool true]) w:=by kernel_rfl
attribute [local go_sem] as_cc as_rc as_rr as_wc as_wr as_ww
section
variable {P:Program} {ops:Array Oper} {o:Oper} {a:Act} {Q:Exit→Act→World→Prop} {md:Region.Mode} {S:World→Prop} {ds:List Nat} {W:World}
theorem rgP (i:Nat) (N:Option Tmp) {v:Value} {fuel:Nat} {l:Array Bool} (l':Array Bool) {a':Act}
  (h:wpAnyLast P md ops Q S ds fuel l' a' W) (hi:ops[i]?=some o:=by rfl) (hN:o.dst=N:=by rfl) (hc:anyB md ops l l' i=true:=by kernel_rfl)
  (hQ:∀ c a w,Q (.panic c) (a.put o.dst v) w→Q (.panic c) a w:=by exact fun _ _ _ h=>h)
  (hy:Yields P ops o v a:=by exact Or.inl ⟨by rfl,by intro w';go_simp;with_reducible rfl⟩)
  (ha:a.put N v=a':=by (simp only [Act.put,List.setIfInBounds_toArray,List.set_cons_zero,List.set_cons_succ,i64_w,i32_w];rfl)):wpAnyLast P md ops Q S ds (fuel+1) l a W:=pure_ l' hi hN hc hQ hy ha h
theorem rgT (i:Nat) (N:Option Tmp) {v:Value} {fuel:Nat} {l:Array Bool} (l':Array Bool) (hS:S W) {a':Act}
  (h:wpAnyLast P md ops Q S ds fuel l' a' W) (hi:ops[i]?=some o:=by rfl) (hN:o.dst=N:=by rfl) (hc:takeB md ops ds l l' i=true:=by kernel_rfl)
  (hQ:∀ c a w,Q (.panic c) (a.put o.dst v) w→Q (.panic c) a w:=by exact fun _ _ _ h=>h)
  (hy:YieldsIf P ops S o v a:=by exact Or.inl ⟨by rfl,by rintro w' ⟨s0,s1⟩;go_simp;with_reducible rfl⟩)
  (ha:a.put N v=a':=by (simp only [Act.put,List.setIfInBounds_toArray,List.set_cons_zero,List.set_cons_succ,i64_w,i32_w];rfl)):wpAnyLast P md ops Q S ds (fuel+1) l a W:=take_ l' hi hN hc hQ hy hS ha h
theorem rgT3 (i:Nat) (N:Option Tmp) {v:Value} {fuel:Nat} {l:Array Bool} (l':Array Bool) (hS:S W) {a':Act}
  (h:wpAnyLast P md ops Q S ds fuel l' a' W) (hi:ops[i]?=some o:=by rfl) (hN:o.dst=N:=by rfl) (hc:takeB md ops ds l l' i=true:=by kernel_rfl)
  (hQ:∀ c a w,Q (.panic c) (a.put o.dst v) w→Q (.panic c) a w:=by exact fun _ _ _ h=>h)
  (hy:YieldsIf P ops S o v a:=by exact Or.inl ⟨by rfl,by rintro w' ⟨s0,s1,s2⟩;go_simp;with_reducible rfl⟩)
  (ha:a.put N v=a':=by (simp only [Act.put,List.setIfInBounds_toArray,List.set_cons_zero,List.set_cons_succ,i64_w,i32_w];rfl)):wpAnyLast P md ops Q S ds (fuel+1) l a W:=take_ l' hi hN hc hQ hy hS ha h
theorem rgN (N:Tmp) {fuel:Nat} {l:Array Bool} {b a':Act} {v:Value} (h:wpAnyLast P md ops Q S ds fuel l a' W) (hb:a=b.put (some N) v:=by rfl) (ha:b.put (some N) v=a':=by (simp only [Act.put,List.setIfInBounds_toArray,List.set_cons_zero,List.set_cons_succ,i64_w,i32_w];rfl)):wpAnyLast P md ops Q S ds fuel l a W:=norm_ (hb.trans ha) h
theorem rgO (i:Nat) (N:Tmp) (v:Value) (w1:World) {fuel:Nat} {l:Array Bool} (l':Array Bool) (hS:S w1) {a':Act} (h:S w1→wpAnyLast P md ops Q S ds fuel l' a' w1) (hi:ops[i]?=some o:=by rfl) (hN:o.dst=some N:=by rfl) (hc:readyB md ops l l' i=true:=by kernel_rfl) (hd:i ∉ ds:=by decide)
  (hw:Region.wanted o (yielded ops a.tmps)=true:=by rfl) (hrun:(execOp a.eval o).run P W=.ok (.value v) w1:=by first|(go_simp;done)|(go_simp;rfl))
  (ha:a.put (some N) v=a':=by (simp only [Act.put,List.setIfInBounds_toArray,List.set_cons_zero,List.set_cons_succ,i64_w,i32_w];rfl)):wpAnyLast P md ops Q S ds (fuel+1) l a W:=
 one_ l' hi hN hc hd fun K hK=>value_ hw hN hrun (hK.out _ _ hS (fun hs=>ha ▸ h hs))
theorem rgL (i:Nat) (w1:World) {fuel:Nat} {l:Array Bool} (l':Array Bool) (h:wpAnyLast P md ops Q S ds fuel l' a w1) (hi:ops[i]?=some o:=by rfl) (hN:o.dst=none:=by rfl) (hc:readyB md ops l l' i=true:=by kernel_rfl) (hd:i ∈ ds:=by decide)
  (hw:Region.wanted o (yielded ops a.tmps)=true:=by rfl) (hrun:(execOp a.eval o).run P W=.ok .skip w1:=by first|(go_simp;done)|(go_simp;rfl)):wpAnyLast P md ops Q S ds (fuel+1) l a W:=
 last_ l' hi hN hc hd fun K hK=>skip_ hw hN hrun (hK.out _ _ h)
end
theorem lit_string (w:World) (base:Nat) (hb:base≤w.heap.size) (x:ByteArray):Kd.string.R 9 (w.alloc (.cells #[.string x] 9)) base (fun _=>True) (.slice (some ⟨w.heap.size,0,none⟩) 1 1) [x]:=by
 refine ⟨fun _ _=>trivial,[.string x],?_,Reps.one rfl (Reps.none _ _)⟩
 have h2:=World.ownsRow_lit (base:=base) (e:=9) (size:=1) w #[.string x] 1 hb (by decide) rfl
 exact h2
theorem fresh_group {wc w3:World} {base:Nat} {ok:Nat→Prop} {u v0 v1:Value} {l:List Gp} {x:Gp} (hS:Kd.S kGp 32 wc base ok u l) (hfr:∀ k,wc.heap.size≤k→ok k)
  (hst:∀ k,k < wc.heap.size→w3.heap[k]?=wc.heap[k]?) (hle:wc.heap.size≤w3.heap.size)
  (r0:Kd.string.R 9 w3 base (fun _=>True) v0 x.f0) (r1:k93.R 93 w3 base (fun _=>True) v1 x.f1)
  (h0:∀ k,some k=v0.ownBlock→wc.heap.size≤k) (h1:∀ k,some k=v1.ownBlock→wc.heap.size≤k) :
  ∃ okp:Nat→Prop,kGp.M w3 base okp x [v0,v1,.int .i64 x.f2]∧(∀ k,okp k→ok k∧some k≠u.ownBlock)∧(∀ k,w3.heap.size≤k→ok k)∧Kd.S kGp 32 w3 base (fun k=>ok k∧¬ okp k) u l:=by
 have hold:∀ k,some k=v0.ownBlock∨some k=v1.ownBlock→wc.heap.size≤k:=fun k hk=>hk.elim (h0 k) (h1 k)
 refine ⟨fun k=>some k=v0.ownBlock∨some k=v1.ownBlock,k32_mkM _ _ _ x (Kd.R_mono (Kd.R_tight rfl r0) (fun k hk=>.inl hk)) (Kd.R_mono (Kd.R_tight rfl r1) (fun k hk=>.inr hk)),fun k hk=>⟨hfr k (hold k hk),fun he=>?_⟩,fun k hk=>hfr k (by omega),?_⟩
 ·have:=Kd.S_lt hS k he.symm
  have:=hold k hk
  omega
 ·refine Kd.S_step (Kd.S_mono (Kd.S_bound hS) (fun k hk=>⟨hk.1,fun h2=>?_⟩)) (fun k _ hlt=>hst k hlt)
  have:=hold k h2
  have:=hk.2.2.1
  omega
theorem Rd.newName {w0 w w5:World} {base gr g4:Nat} {ok:Nat→Prop} {v:Value} {b:Bool} {gs:List Gp} {x:ByteArray} (h:Rd w0 w w5 base gr ok v b gs) (hfr:∀ k,w5.heap.size≤k→ok k) (hk4:w5.heap[g4]?=some (.cells #[.string x] 112 (0,0))) :
  ∃ okp:Nat→Prop,kGp.M (w5.alloc (.cells #[.string x] 9)) base okp ⟨[x],[],0⟩ [.slice (some ⟨w5.heap.size,0,none⟩) 1 1,.slice none 0 0,.int .i64 0]∧(∀ k,okp k→ok k∧some k≠v.ownBlock)∧(∀ k,(w5.alloc (.cells #[.string x] 9)).heap.size≤k→ok k)∧Kd.S kGp 32 (w5.alloc (.cells #[.string x] 9)) base (fun k=>ok k∧¬ okp k) v gs ∧
   Rd w0 w (w5.alloc (.cells #[.string x] 9)) base gr ok v b gs∧(w5.alloc (.cells #[.string x] 9)).heap[g4]?=some (.cells #[.string x] 112 (0,0))∧base≤(w5.alloc (.cells #[.string x] 9)).heap.size:=by
 have hB:Below w5.heap.size w5 (w5.alloc (.cells #[.string x] 9)):=below_alloc (Below.refl _ _) _
 have hle:=Nat.le_trans h.le (Nat.le_of_lt h.lt)
 obtain ⟨okp,hM,hokp,hnew,hS⟩:=fresh_group (x:=⟨[x],[],0⟩) h.S hfr (fun k hk=>hB.block k hk) hB.size (lit_string w5 base hle x) (Kd.R_nil k93 _ _ _ _) (fun k hk=>by simp [Value.ownBlock] at hk;omega) (fun k hk=>by simp [Value.ownBlock] at hk)
 exact ⟨okp,hM,hokp,hnew,hS,h.below hB,(hB.block _ (blk_lt hk4)).trans hk4,Nat.le_trans hle hB.size⟩
theorem Rd.lines {w0 w wc:World} {base gr:Nat} {ok:Nat→Prop} {v:Value} {b:Bool} {gs:List Gp} (h:Rd w0 w wc base gr ok v b gs):Lines w0 wc wc base ok v gs:=⟨h.S,h.B,Kept.refl _ _,Nat.le_trans h.le (Nat.le_of_lt h.lt)⟩
theorem Rd.written {w0 w wc:World} {base gr:Nat} {ok:Nat→Prop} {v:Value} {b:Bool} {gs l:List Gp} (h:Rd w0 w wc base gr ok v b gs) {wd:World} (hk:Kept wc wd ok)
  (hS:Kd.S kGp 32 wd base ok v l) (hB:Below base w0 wd):Rd w0 w wd base gr ok v b l:=
 ⟨hS,hB,h.K.then_ hk (fun k hk=>.inl (.inl hk)),h.le,h.ng,(hk.2 gr h.lt (fun e=>h.ng gr e rfl)).trans h.box⟩
set_option maxHeartbeats 8000000 in
set_option maxRecDepth 100000 in
theorem take_caller (base gr:Nat) (ok:Nat→Prop) (v:Value) (b:Bool) (gs:List Gp) (x:ByteArray) (r:List Gp×Bool) (w0 w:World) (hr:Rd w0 w w base gr ok v b gs) (hfr:∀ k,w.heap.size≤k→ok k) (hsm:gs.length < 1000000) (hs2:(lastG gs).f0.length < 1000000) (hF:takeF gs b (.caller x)=r) :
  Calls Tryz.prog 60 #[.pointer (some ⟨gr,0,none⟩),.iface 112 (.agg #[.string x])] w fun e w'=>Took w0 w base gr ok r e w':=by
 obtain ⟨A,cc,hu⟩:=Kd.S_slice hr.S
 subst hu
 have HR:=Aside0.mk hr
 have HF:=Aside0.mk hfr
 have HT:=Aside0.mk hF
 clear hr hfr hF
 go_enter Tryz.func60,Tryz.ntmps60
 go_upto_region 1 with (first|((with_reducible refine gate_dst (N:=4) rfl ?_);refine box_event ?hg (N:=4) ?hd (cs:=#[.string ⟨#[]⟩]) (t:=112) ?hr ?_;(case hd=>rfl);(case hg=>rfl);(case hr=>first|(go_simp;done)|(go_simp;rfl));rintro g4 eg w4 hk4 hb4;have EG4:=Aside0.mk eg;have BK4:=Aside0.mk hk4;have HB4:=Aside0.mk hb4;have hc0:w4.cell? ⟨g4,0,none⟩=some (.string ⟨#[]⟩):=(blk_cell hk4 0).trans rfl;have hd0:=blk_frozen hk4 0;clear eg hk4 hb4))
 have HR4:=Aside0.mk (HR.out.below (below_set HB4.out (by rw [EG4.out];exact Nat.le_refl _)):Rd w0 w (w4.setCell ⟨g4,0,none⟩ (.string x)) base gr ok (.slice A gs.length cc) b gs)
 have BK5:=Aside0.mk (blk_put BK4.out 0 (.string x) rfl:(w4.setCell ⟨g4,0,none⟩ (.string x)).heap[g4]?=some (.cells #[.string x] 112 (0,0)))
 have SZ:=Aside0.mk (by have:=blk_lt BK4.out;have:=EG4.out;simp [World.setCell];omega:w.heap.size≤(w4.setCell ⟨g4,0,none⟩ (.string x)).heap.size)
 clear HR BK4 HB4 EG4 hc0 hd0
 generalize (w4.setCell ⟨g4,0,none⟩ (.string x))=w5 at HR4 BK5 SZ ⊢
 have hx0:=HR4.out.cell0
 have hx1:=HR4.out.cell1
 have hx4:w5.cell? ⟨g4,0,none⟩=some (.string x):=(blk_cell BK5.out 0).trans rfl
 have hf0:=blk_frozen HR4.out.box 0
 have hf1:=blk_frozen HR4.out.box 1
 by_cases c0:b=true∨gs.length=0
 ·have hF:=HT.out
  simp only [takeF] at hF
  rw [if_pos c0] at hF
  subst hF
  clear HT
  have c0':gs.length=0∨(gs.length≠0∧b=true):=by rcases c0 with h|h <;> by_cases h2:gs.length=0 <;> simp_all
  clear c0
  have n0:gs.length=0→((gs.length:Int) == 0)=true:=fun h=>by rw [h];rfl
  have n1:gs.length≠0→((gs.length:Int) == 0)=false:=fun h=>beq_eq_false_iff_ne.mpr (by omega)
  rcases c0' with h|⟨h,rfl⟩
  case' inl=>replace n0:=n0 h;clear n1 h
  case' inr=>replace n1:=n1 h;clear n0 h
  all_goals
   go_wp2
   have HR8:=Aside0.mk (HR4.out.below (below_drew (Below.refl _ _)))
   have BK8:=Aside0.mk (show w5.drew.heap[g4]?=some (.cells #[.string x] 112 (0,0)) from BK5.out)
   have SZ8:=Aside0.mk (show w.heap.size≤w5.drew.heap.size from SZ.out)
   refine start_ (n:=14) (S:=fun w'=>w'.cell? ⟨gr,0,none⟩=some (.slice A gs.length cc)∧w'.cell? ⟨g4,0,none⟩=some (.string x)) (ds:=[13]) #[false,false,false,false,false,false,false,false,false,false,false,false,false,false] (by kernel_rfl) rfl rfl ⟨hx0,hx4⟩ (fun hHeld=>?_)
   generalize w5.drew=w8 at HR8 BK8 SZ8 hHeld ⊢
   refine rgP 0 (some 30) #[true,false,false,false,false,false,false,false,false,false,false,false,false,false] ?_
   refine rgP 1 (some 31) #[true,true,false,false,false,false,false,false,false,false,false,false,false,false] ?_
   refine rgP 2 (some 32) #[true,true,true,false,false,false,false,false,false,false,false,false,false,false] ?_
   refine rgP 3 (some 33) #[true,true,true,true,false,false,false,false,false,false,false,false,false,false] ?_
   refine rgP 5 (some 35) #[true,true,true,true,false,true,false,false,false,false,false,false,false,false] ?_
   refine rgT 4 (some 34) #[true,true,true,true,true,true,false,false,false,false,false,false,false,false] hHeld ?_
   refine rgT 6 (some 36) #[true,true,true,true,true,true,true,false,false,false,false,false,false,false] hHeld ?_
   refine rgO 7 37 (.slice (some ⟨w8.heap.size,0,none⟩) 1 1) (w8.alloc (.cells #[.string x] 9)) #[true,true,true,true,true,true,true,true,false,false,false,false,false,false] ?_ (fun hHeld=>?_)
   ·exact ⟨(World.cell?_alloc_lt _ _ _ (World.block_lt_of_cell? _ _ hHeld.1)).trans hHeld.1,(World.cell?_alloc_lt _ _ _ (World.block_lt_of_cell? _ _ hHeld.2)).trans hHeld.2⟩
   refine rgP 8 (some 38) #[true,true,true,true,true,true,true,true,true,false,false,false,false,false] ?_
   refine rgO 9 39 (.slice (some ⟨w8.heap.size+1,0,none⟩) 1 1) ((w8.alloc (.cells #[.string x] 9)).alloc (.cells #[.slice (some ⟨w8.heap.size,0,none⟩) 1 1,.slice none 0 0,.int .i64 0] 32)) #[true,true,true,true,true,true,true,true,true,true,false,false,false,false] ?_ (fun hHeld=>?_)
   ·exact ⟨(World.cell?_alloc_lt _ _ _ (World.block_lt_of_cell? _ _ hHeld.1)).trans hHeld.1,(World.cell?_alloc_lt _ _ _ (World.block_lt_of_cell? _ _ hHeld.2)).trans hHeld.2⟩
   refine one_ (i:=10) (N:=some 40) #[true,true,true,true,true,true,true,true,true,true,true,false,false,false] rfl rfl (by kernel_rfl) (by decide) (fun K hK=>?_)
   obtain ⟨okp,hM,hokp,hnew,hS,hRW,hKW,hzW⟩:=HR8.out.newName (fun k hk=>HF.out k (Nat.le_trans SZ8.out hk)) BK8.out
   refine Kd.S_append_step kGp (w0:=w0) (W:=(w8.alloc (.cells #[.string x] 9))) base (by rfl) (.tmp 34) (.tmp 39) 43 32 (.agg #[.slice none 0 0,.slice none 0 0,.int .i64 0]) 56 (by rfl) Tryz.underlying43 infoGp rfl (by decide) (by omega) (.slice A gs.length cc) gs ⟨[x],[],0⟩ [.slice (some ⟨w8.heap.size,0,none⟩) 1 1,.slice none 0 0,.int .i64 0] ok okp (by rfl) (by have e:(w8.alloc (.cells #[.string x] 9)).heap.size=w8.heap.size+1:=(by simp);rw [e];rfl) hM hokp hnew hS hRW.B hzW (by omega) ?_
   intro v1 w1 hS1 hB1 hG1 hat
   obtain ⟨A1,c1,rfl⟩:=Kd.S_slice hS1
   have en:(gs++[(⟨[x],[],0⟩:Gp)]).length=gs.length+1:=by rw [List.length_append,List.length_singleton]
   rw [en] at hS1 ⊢
   have hne0:some gr≠(Value.slice A gs.length cc).ownBlock:=fun e=>hRW.ng gr ((Kd.S_R hRW.S).1 gr e.symm) rfl
   have hne4:some g4≠(Value.slice A gs.length cc).ownBlock:=Kd.S_ne hRW.S hKW (by decide)
   have hb1:=blk_grown hRW.box hG1 hne0
   have hx1:w1.cell? ⟨gr,0,none⟩=some (.slice A gs.length cc):=(blk_cell hb1 0).trans rfl
   have hz1:=blk_frozen hb1 0
   have HQ:=Aside0.mk (hRW.groups hG1 (fun k hk=>(Kd.S_R hRW.S).1 k hk) hS1 hB1)
   refine hK.out _ _ ⟨hx1,cell_grown hG1 ((blk_cell hKW 0).trans rfl) hne4⟩ (fun hHeld=>?_)
   clear hK K hM hokp hnew hS hS1 hB1 hG1 hat hb1 hRW hKW hzW hne0 hne4
   refine rgN 40 ?_
   refine rgP 11 (some 41) #[true,true,true,true,true,true,true,true,true,true,true,true,false,false] ?_
   refine rgP 12 (some 42) #[true,true,true,true,true,true,true,true,true,true,true,true,true,false] ?_
   refine rgL 13 (w1.setCell ⟨gr,0,none⟩ (.slice A1 (gs.length+1) c1)) #[true,true,true,true,true,true,true,true,true,true,true,true,true,true] ?_
   refine done_ (by kernel_rfl) ?_
   clear hx0 hx1 hx4 hf0 hf1 hz1 hHeld
   generalize (w1.setCell ⟨gr,0,none⟩ (.slice A1 (gs.length+1) c1))=w9 at HQ ⊢
   have hx1:=HQ.out.cell1
   have hf1:=blk_frozen HQ.out.box 1
   go_wp2
   (try simp only [Exit.inBlock,Exit.then])
   refine bodyPost_ret (results_none rfl _ _ _) rfl ?_
   exact ⟨rfl,_,HQ.out.flag false⟩
 ·have hF:=HT.out
  simp only [takeF] at hF
  rw [if_neg c0] at hF
  subst hF
  clear HT
  have c4:gs.length≠0:=fun h=>c0 (.inr h)
  obtain rfl:b=false:=by cases b <;> simp_all
  clear c0
  have n1:((gs.length:Int) == 0)=false:=beq_eq_false_iff_ne.mpr (by omega)
  obtain ⟨g,cap,_,_,_,eu,_⟩:=(HR4.out.lines).last (by omega)
  injection eu with eu1 eu2 eu3
  subst eu1
  clear eu2 eu3
  obtain ⟨j,hj⟩:∃ j,gs.length - 1=j:=⟨_,rfl⟩
  have ej:wrap64 ((gs.length:Int) - 1)=(j:Int):=by unfold wrap64;omega
  have p0:(0≤(j:Int))=True:=eq_true (by omega)
  have q0:((j:Int) < (gs.length:Int))=True:=eq_true (by omega)
  go_wp2
  refine start_ (n:=12) (S:=fun w'=>w'.cell? ⟨gr,0,none⟩=some (.slice (some ⟨g,0,none⟩) gs.length cc)∧True) (ds:=[]) #[false,false,false,false,false,false,false,false,false,false,false,false] (by kernel_rfl) rfl rfl ⟨hx0,trivial⟩ (fun hHeld=>?_)
  have HR6:=Aside0.mk (HR4.out.below (below_drew (Below.refl _ _)))
  have SZ6:=Aside0.mk (show w.heap.size≤w5.drew.heap.size from SZ.out)
  clear hx0 hx1 hx4 hf0 hf1
  generalize w5.drew=w6 at HR6 SZ6 hHeld ⊢
  refine rgP 0 (some 52) #[true,false,false,false,false,false,false,false,false,false,false,false] ?_
  refine rgP 1 (some 53) #[true,true,false,false,false,false,false,false,false,false,false,false] ?_
  refine rgP 2 (some 54) #[true,true,true,false,false,false,false,false,false,false,false,false] ?_
  refine rgP 4 (some 56) #[true,true,true,false,true,false,false,false,false,false,false,false] ?_
  refine rgP 5 (some 57) #[true,true,true,false,true,true,false,false,false,false,false,false] ?_
  refine rgP 6 (some 58) #[true,true,true,false,true,true,true,false,false,false,false,false] ?_
  refine rgT 3 (some 55) #[true,true,true,true,true,true,true,false,false,false,false,false] hHeld ?_
  refine rgT 7 (some 59) #[true,true,true,true,true,true,true,true,false,false,false,false] hHeld ?_
  refine rgP 8 (some 60) #[true,true,true,true,true,true,true,true,true,false,false,false] ?_
  refine rgP 9 (some 61) #[true,true,true,true,true,true,true,true,true,true,false,false] ?_
  rw [ej]
  refine rgP 10 (some 62) #[true,true,true,true,true,true,true,true,true,true,true,false] ?_
  refine rgP 11 (some 6) #[true,true,true,true,true,true,true,true,true,true,true,true] ?_
  refine done_ (by kernel_rfl) ?_
  clear hHeld HR4 BK5 SZ
  go_wp2_with (first|((with_reducible refine gate_dst (N:=7) rfl ?_);refine box_event ?hg (N:=7) ?hd (cs:=#[.string ⟨#[]⟩]) (t:=112) ?hr ?_;(case hd=>rfl);(case hg=>rfl);(case hr=>first|(go_simp;done)|(go_simp;rfl));rintro g7 eg w4 hk4 hb4;have EG4:=Aside0.mk eg;have BK4:=Aside0.mk hk4;have HB4:=Aside0.mk hb4;have hc0:w4.cell? ⟨g7,0,none⟩=some (.string ⟨#[]⟩):=(blk_cell hk4 0).trans rfl;have hd0:=blk_frozen hk4 0;clear eg hk4 hb4))
  have HR8:=Aside0.mk ((HR6.out.below (below_set HB4.out (by rw [EG4.out];exact Nat.le_refl _))).below (below_drew (Below.refl _ _)):Rd w0 w (w4.setCell ⟨g7,0,none⟩ (.string x)).drew base gr ok (.slice (some ⟨g,0,none⟩) gs.length cc) false gs)
  have BK8:=Aside0.mk (show (w4.setCell ⟨g7,0,none⟩ (.string x)).drew.heap[g7]?=some (.cells #[.string x] 112 (0,0)) from blk_put BK4.out 0 (.string x) rfl)
  have SZ8:=Aside0.mk (by have:=blk_lt BK4.out;have:=EG4.out;have:=SZ6.out;have:(w4.setCell ⟨g7,0,none⟩ (.string x)).drew.heap.size=w4.heap.size:=(by simp [World.setCell]);omega:w.heap.size≤(w4.setCell ⟨g7,0,none⟩ (.string x)).drew.heap.size)
  clear HR6 BK4 HB4 EG4 SZ6 hc0 hd0
  generalize (w4.setCell ⟨g7,0,none⟩ (.string x))=w7 at HR8 BK8 SZ8 ⊢
  obtain ⟨g_,cap_,v0,v1,oki,eu,g0,g1,⟨hy0,hy1,hy2⟩,hff,hoki,hH⟩:=(HR8.out.lines).last (by omega)
  injection eu with eu1 eu2 eu3
  injection eu1 with eu1
  injection eu1 with eg _ _
  subst eg
  subst eu3
  obtain ⟨A0,cc0,rfl⟩:=Kd.R_slice g0
  obtain ⟨A1,cc1,rfl⟩:=Kd.R_slice g1
  rw [hj] at hy0 hy1 hy2 hff hH
  have G0:=Aside0.mk g0
  have G1:=Aside0.mk g1
  have HH:=Aside0.mk hH
  clear g0 g1 hH
  refine start_ (n:=12) (S:=fun w'=>w'.cell? ⟨g,j * 3,none⟩=some (.slice A0 (lastG gs).f0.length cc0)∧w'.cell? ⟨g7,0,none⟩=some (.string x)) (ds:=[11]) #[false,false,false,false,false,false,false,false,false,false,false,false] (by kernel_rfl) rfl rfl ⟨hy0,(blk_cell BK8.out 0).trans rfl⟩ (fun hHeld=>?_)
  generalize w7.drew=w8 at HR8 BK8 SZ8 G0 G1 HH hHeld hy0 hy1 hy2 hff ⊢
  refine rgP 0 (some 67) #[true,false,false,false,false,false,false,false,false,false,false,false] ?_
  refine rgP 1 (some 68) #[true,true,false,false,false,false,false,false,false,false,false,false] ?_
  refine rgP 2 (some 69) #[true,true,true,false,false,false,false,false,false,false,false,false] ?_
  refine rgP 3 (some 70) #[true,true,true,true,false,false,false,false,false,false,false,false] ?_
  refine rgP 5 (some 72) #[true,true,true,true,false,true,false,false,false,false,false,false] ?_
  refine rgT 4 (some 71) #[true,true,true,true,true,true,false,false,false,false,false,false] hHeld ?_
  refine rgT 6 (some 73) #[true,true,true,true,true,true,true,false,false,false,false,false] hHeld ?_
  refine rgO 7 74 (.slice (some ⟨w8.heap.size,0,none⟩) 1 1) (w8.alloc (.cells #[.string x] 9)) #[true,true,true,true,true,true,true,true,false,false,false,false] ?_ (fun hHeld=>?_)
  ·exact ⟨(World.cell?_alloc_lt _ _ _ (World.block_lt_of_cell? _ _ hHeld.1)).trans hHeld.1,(World.cell?_alloc_lt _ _ _ (World.block_lt_of_cell? _ _ hHeld.2)).trans hHeld.2⟩
  refine one_ (i:=8) (N:=some 75) #[true,true,true,true,true,true,true,true,true,false,false,false] rfl rfl (by kernel_rfl) (by decide) (fun K hK=>?_)
  refine Kd.R_append_step Kd.string (w0:=w0) (W:=w8) base (by rfl) (.tmp 71) (.tmp 74) 29 9 (.string ⟨#[]⟩) 16 (by rfl) Tryz.underlying29 info9 rfl (by decide) (by omega) (.slice A0 (lastG gs).f0.length cc0) (lastG gs).f0 x [.string x] (fun k=>oki k∨(ok k∧w8.heap.size≤k)) (fun _=>False) (by rfl) (by rfl) rfl (fun _ hk=>hk.elim) (fun k hk=>.inr ⟨HF.out k (Nat.le_trans SZ8.out hk),hk⟩) (Kd.R_mono G0.out (fun _ hk=>.inl hk)) HR8.out.B (Nat.le_trans HR8.out.le (Nat.le_of_lt HR8.out.lt)) (by omega) ?_
  intro v3 w1 ho hb hg hat
  obtain ⟨A3,cc3,rfl⟩:=Kd.R_slice ho
  have en:((lastG gs).f0++[x]).length=(lastG gs).f0.length+1:=by rw [List.length_append,List.length_singleton]
  rw [en] at ho ⊢
  have hneg:some g≠(Value.slice A0 (lastG gs).f0.length cc0).ownBlock:=fun e=>(hoki g (G0.out.1 g e.symm)).2 rfl
  have hneb:some g7≠(Value.slice A0 (lastG gs).f0.length cc0).ownBlock:=Kd.R_ne G0.out BK8.out (by decide)
  have hz0:=cell_grown hg hy0 hneg
  have H1:=Aside0.mk (Kd.H_grown (Kd.H_widen HH.out) hg (fun k e=>.inl (G0.out.1 k e)))
  have R1:=Aside0.mk (Kd.R_over' (v:=.slice A0 (lastG gs).f0.length cc0) G1.out (Kd.R_typed G0.out) (by decide) hg)
  have R0:=Aside0.mk ho
  have K1:=Aside0.mk (Kept.of_grown (S:=ok) hg (Kept.refl w8 _) (fun k hk=>.inl (hoki k (G0.out.1 k hk)).1))
  have B1:=Aside0.mk hb
  have hzf:=(Kd.H_at H1.out (by omega) (by omega)).2 0
  rw [Int.toNat_natCast,show kGp.sz=3 from rfl,Nat.add_zero] at hzf
  have HP:=Aside0.mk (Kd.S_seg0 H1.out (by omega) (by omega) (seg:=[.slice A3 ((lastG gs).f0.length+1) cc3]) (j:=0) (show 0+1≤3 by decide) (x':=⟨(lastG gs).f0++[x],(lastG gs).f1,(lastG gs).f2⟩) (k32_mkM _ _ _ ⟨(lastG gs).f0++[x],(lastG gs).f1,(lastG gs).f2⟩ R0.out (Kd.R_mono R1.out (fun _ hk=>.inl hk))) (fun _ hk=>hk))
  refine hK.out _ _ ⟨hz0,cell_grown hg ((blk_cell BK8.out 0).trans rfl) hneb⟩ (fun hHeld=>?_)
  clear hK K ho hb hg hat hneg hneb hHeld hy0 hy1 hy2 hff
  refine rgN 75 ?_
  refine rgP 9 (some 76) #[true,true,true,true,true,true,true,true,true,true,false,false] ?_
  refine rgP 10 (some 77) #[true,true,true,true,true,true,true,true,true,true,true,false] ?_
  refine rgL 11 (w1.setCell ⟨g,j * 3,none⟩ (.slice A3 ((lastG gs).f0.length+1) cc3)) #[true,true,true,true,true,true,true,true,true,true,true,true] ?_
  refine done_ (by kernel_rfl) ?_
  have hp1:=HP.out.1
  have hp2:=HP.out.2
  rw [Int.toNat_natCast,show kGp.sz=3 from rfl,Nat.add_zero] at hp1 hp2
  have HQ:Aside0 (Rd w0 w (w1.setCell ⟨g,j * 3,none⟩ (.slice A3 ((lastG gs).f0.length+1) cc3)) base gr ok (.slice (some ⟨g,0,none⟩) gs.length cc) false (gs.set j ⟨(lastG gs).f0++[x],(lastG gs).f1,(lastG gs).f2⟩)):=Aside0.mk (HR8.out.written (wd:=w1.setCell ⟨g,j * 3,none⟩ (.slice A3 ((lastG gs).f0.length+1) cc3)) (Kept.of_grown hp2 K1.out (fun k hk=>.inl (by injection hk with hk;subst hk;exact (Kd.S_R HR8.out.S).1 _ rfl))) hp1 (B1.out.setCell (p:=⟨g,j * 3,none⟩) (Kd.S_base HR8.out.S _ rfl) _))
  clear hp1 hp2 HP hz0 hzf
  go_wp2
  (try simp only [Exit.inBlock,Exit.then])
  refine bodyPost_end (results_none rfl _ _ _) rfl ?_
  exact ⟨rfl,_,HQ.out⟩
set_option maxHeartbeats 8000000 in
set_option maxRecDepth 100000 in
theorem take_rule (base gr:Nat) (ok:Nat→Prop) (v:Value) (b:Bool) (gs:List Gp) (l:Bool) (p:ByteArray) (r:List Gp×Bool) (w0 w:World) (hr:Rd w0 w w base gr ok v b gs) (hfr:∀ k,w.heap.size≤k→ok k) (hsm:gs.length < 1000000) (hs2:(lastG gs).f0.length < 1000000) (hF:takeF gs b (.rule l p)=r) :
  Calls Tryz.prog 60 #[.pointer (some ⟨gr,0,none⟩),.iface 114 (.agg #[.bool l,.string p])] w fun e w'=>Took w0 w base gr ok r e w':=by
 obtain ⟨A,cc,hu⟩:=Kd.S_slice hr.S
 subst hu
 have HR:=Aside0.mk hr
 have HF:=Aside0.mk hfr
 have HT:=Aside0.mk hF
 clear hr hfr hF
 go_enter Tryz.func60,Tryz.ntmps60
 go_upto_region 1 with (first|((with_reducible refine gate_dst (N:=4) rfl ?_);refine box_event ?hg (N:=4) ?hd (cs:=#[.string ⟨#[]⟩]) (t:=112) ?hr ?_;(case hd=>rfl);(case hg=>rfl);(case hr=>first|(go_simp;done)|(go_simp;rfl));rintro g4 eg w4 hk4 hb4;have EG4:=Aside0.mk eg;have BK4:=Aside0.mk hk4;have HB4:=Aside0.mk hb4;have hc0:w4.cell? ⟨g4,0,none⟩=some (.string ⟨#[]⟩):=(blk_cell hk4 0).trans rfl;have hd0:=blk_frozen hk4 0;clear eg hk4 hb4))
 have HR4:=Aside0.mk (HR.out.below (below_set HB4.out (by rw [EG4.out];exact Nat.le_refl _)):Rd w0 w (w4.setCell ⟨g4,0,none⟩ (.string ByteArray.empty)) base gr ok (.slice A gs.length cc) b gs)
 have BK5:=Aside0.mk (blk_put BK4.out 0 (.string ByteArray.empty) rfl:(w4.setCell ⟨g4,0,none⟩ (.string ByteArray.empty)).heap[g4]?=some (.cells #[.string ByteArray.empty] 112 (0,0)))
 have SZ:=Aside0.mk (by have:=blk_lt BK4.out;have:=EG4.out;simp [World.setCell];omega:w.heap.size≤(w4.setCell ⟨g4,0,none⟩ (.string ByteArray.empty)).heap.size)
 clear HR BK4 HB4 EG4 hc0 hd0
 generalize (w4.setCell ⟨g4,0,none⟩ (.string ByteArray.empty))=w5 at HR4 BK5 SZ ⊢
 have hx0:=HR4.out.cell0
 have hx1:=HR4.out.cell1
 have hx4:w5.cell? ⟨g4,0,none⟩=some (.string ByteArray.empty):=(blk_cell BK5.out 0).trans rfl
 have hf0:=blk_frozen HR4.out.box 0
 have hf1:=blk_frozen HR4.out.box 1
 by_cases c4:gs.length=0
 ·have hF:=HT.out
  simp only [takeF] at hF
  rw [if_pos c4] at hF
  subst hF
  clear HT
  have n0:((gs.length:Int) == 0)=true:=by rw [c4];rfl
  clear c4
  go_wp2
  (try simp only [Exit.inBlock,Exit.then])
  refine bodyPost_ret (results_none rfl _ _ _) rfl ?_
  exact ⟨rfl,_,HR4.out⟩
 ·have hF:=HT.out
  simp only [takeF] at hF
  rw [if_neg c4] at hF
  clear HT
  have n1:((gs.length:Int) == 0)=false:=beq_eq_false_iff_ne.mpr (by omega)
  obtain ⟨g,cap,_,_,_,eu,_⟩:=(HR4.out.lines).last (by omega)
  injection eu with eu1 eu2 eu3
  subst eu1
  clear eu2 eu3
  obtain ⟨j,hj⟩:∃ j,gs.length - 1=j:=⟨_,rfl⟩
  have ej:wrap64 ((gs.length:Int) - 1)=(j:Int):=by unfold wrap64;omega
  have p0:(0≤(j:Int))=True:=eq_true (by omega)
  have q0:((j:Int) < (gs.length:Int))=True:=eq_true (by omega)
  go_wp2
  refine start_ (n:=12) (S:=fun w'=>w'.cell? ⟨gr,0,none⟩=some (.slice (some ⟨g,0,none⟩) gs.length cc)∧True) (ds:=[]) #[false,false,false,false,false,false,false,false,false,false,false,false] (by kernel_rfl) rfl rfl ⟨hx0,trivial⟩ (fun hHeld=>?_)
  have HR6:=Aside0.mk (HR4.out.below (below_drew (Below.refl _ _)))
  have SZ6:=Aside0.mk (show w.heap.size≤w5.drew.heap.size from SZ.out)
  clear hx0 hx1 hx4 hf0 hf1
  generalize w5.drew=w6 at HR6 SZ6 hHeld ⊢
  refine rgP 0 (some 52) #[true,false,false,false,false,false,false,false,false,false,false,false] ?_
  refine rgP 1 (some 53) #[true,true,false,false,false,false,false,false,false,false,false,false] ?_
  refine rgP 2 (some 54) #[true,true,true,false,false,false,false,false,false,false,false,false] ?_
  refine rgP 4 (some 56) #[true,true,true,false,true,false,false,false,false,false,false,false] ?_
  refine rgP 5 (some 57) #[true,true,true,false,true,true,false,false,false,false,false,false] ?_
  refine rgP 6 (some 58) #[true,true,true,false,true,true,true,false,false,false,false,false] ?_
  refine rgT 3 (some 55) #[true,true,true,true,true,true,true,false,false,false,false,false] hHeld ?_
  refine rgT 7 (some 59) #[true,true,true,true,true,true,true,true,false,false,false,false] hHeld ?_
  refine rgP 8 (some 60) #[true,true,true,true,true,true,true,true,true,false,false,false] ?_
  refine rgP 9 (some 61) #[true,true,true,true,true,true,true,true,true,true,false,false] ?_
  rw [ej]
  refine rgP 10 (some 62) #[true,true,true,true,true,true,true,true,true,true,true,false] ?_
  refine rgP 11 (some 6) #[true,true,true,true,true,true,true,true,true,true,true,true] ?_
  refine done_ (by kernel_rfl) ?_
  clear hHeld HR4 BK5 SZ
  go_upto_region 12 with (first|((with_reducible refine gate_dst (N:=8) rfl ?_);refine box_event ?hg (N:=8) ?hd (cs:=#[.bool false,.string ⟨#[]⟩]) (t:=114) ?hr ?_;(case hd=>rfl);(case hg=>rfl);(case hr=>first|(go_simp;done)|(go_simp;rfl));rintro g8 eg w4 hk4 hb4;have EG4:=Aside0.mk eg;have BK4:=Aside0.mk hk4;have HB4:=Aside0.mk hb4;have hc0:w4.cell? ⟨g8,0,none⟩=some (.bool false):=(blk_cell hk4 0).trans rfl;have hd0:=blk_frozen hk4 0;have hc1:w4.cell? ⟨g8,1,none⟩=some (.string ⟨#[]⟩):=(blk_cell hk4 1).trans rfl;have hd1:=blk_frozen hk4 1;clear eg hk4 hb4))
  have HB5:=Aside0.mk (show Below w6.heap.size w6 ((w4.setCell ⟨g8,0,none⟩ (.bool l)).setCell ⟨g8,1,none⟩ (.string p)) from (below_set (below_set HB4.out (by rw [EG4.out];exact Nat.le_refl _)) (by rw [EG4.out];exact Nat.le_refl _)))
  have BK5:=Aside0.mk (show ((w4.setCell ⟨g8,0,none⟩ (.bool l)).setCell ⟨g8,1,none⟩ (.string p)).heap[g8]?=some (.cells #[.bool l,.string p] 114 (0,0)) from (blk_put (blk_put BK4.out 0 (.bool l) rfl) 1 (.string p) rfl))
  have NE5:=Aside0.mk (show g8≠gr from by have:=EG4.out;have:=HR6.out.lt;omega)
  clear BK4 HB4 EG4 hc0 hd0 hc1 hd1
  generalize ((w4.setCell ⟨g8,0,none⟩ (.bool l)).setCell ⟨g8,1,none⟩ (.string p))=w5 at HB5 BK5 ⊢
  have HR5:=Aside0.mk (HR6.out.below HB5.out)
  have SZ5:=Aside0.mk (Nat.le_trans SZ6.out HB5.out.size)
  have hx1:=HR5.out.cell1
  have hf1:=blk_frozen HR5.out.box 1
  go_upto_region 13 with (fail)
  have HR7:=Aside0.mk (HR5.out.flag true)
  have BK7:=Aside0.mk (show (w5.setCell ⟨gr,1,none⟩ (.bool true)).heap[g8]?=some (.cells #[.bool l,.string p] 114 (0,0)) from blk_far BK5.out NE5.out _)
  have SZ7:=Aside0.mk (show w.heap.size≤(w5.setCell ⟨gr,1,none⟩ (.bool true)).heap.size from by simp [World.setCell];exact SZ5.out)
  clear HR6 SZ6 HB5 BK5 NE5 HR5 SZ5 hx1 hf1
  generalize (w5.setCell ⟨gr,1,none⟩ (.bool true))=w7 at HR7 BK7 SZ7 ⊢
  obtain ⟨g_,cap_,v0,v1,oki,eu,g0,g1,⟨hy0,hy1,hy2⟩,hff,hoki,hH⟩:=(HR7.out.lines).last (by omega)
  injection eu with eu1 eu2 eu3
  injection eu1 with eu1
  injection eu1 with eg _ _
  subst eg
  subst eu3
  obtain ⟨A0,cc0,rfl⟩:=Kd.R_slice g0
  obtain ⟨A1,cc1,rfl⟩:=Kd.R_slice g1
  rw [hj] at hy0 hy1 hy2 hff hH
  have G0:=Aside0.mk g0
  have G1:=Aside0.mk g1
  have HH:=Aside0.mk hH
  clear g0 g1 hH
  by_cases h6:(lastG gs).f1.length < 6
  ·rw [if_pos h6] at hF
   subst hF
   have e6:decide (((lastG gs).f1.length:Int) < 6)=true:=decide_eq_true (by omega)
   have e6n:decide ((lastG gs).f1.length < 6)=true:=decide_eq_true h6
   go_wp2
   have HR8:=Aside0.mk (HR7.out.below (below_drew (Below.refl _ _)))
   have BK8:=Aside0.mk (show w7.drew.heap[g8]?=some (.cells #[.bool l,.string p] 114 (0,0)) from BK7.out)
   have SZ8:=Aside0.mk (show w.heap.size≤w7.drew.heap.size from SZ7.out)
   replace G0:=Aside0.mk (Kd.R_drew G0.out)
   replace G1:=Aside0.mk (Kd.R_drew G1.out)
   replace HH:=Aside0.mk (Kd.H_drew HH.out)
   replace hy0:=show w7.drew.cell? _=_ from hy0
   replace hy1:=show w7.drew.cell? _=_ from hy1
   replace hy2:=show w7.drew.cell? _=_ from hy2
   replace hff:=show ∀ j_,w7.drew.frozen? ⟨g,j * 3+j_,none⟩=false from hff
   clear HR7 BK7 SZ7
   refine start_ (n:=12) (S:=fun w'=>w'.cell? ⟨g,j * 3+1,none⟩=some (.slice A1 (lastG gs).f1.length cc1)∧(w'.cell? ⟨g8,0,none⟩=some (.bool l)∧w'.cell? ⟨g8,1,none⟩=some (.string p))) (ds:=[11]) #[false,false,false,false,false,false,false,false,false,false,false,false] (by kernel_rfl) rfl rfl ⟨hy1,⟨(blk_cell BK8.out 0).trans rfl,(blk_cell BK8.out 1).trans rfl⟩⟩ (fun hHeld=>?_)
   generalize w7.drew=w8 at HR8 BK8 SZ8 G0 G1 HH hHeld hy0 hy1 hy2 hff ⊢
   refine rgP 0 (some 90) #[true,false,false,false,false,false,false,false,false,false,false,false] ?_
   refine rgP 1 (some 91) #[true,true,false,false,false,false,false,false,false,false,false,false] ?_
   refine rgP 2 (some 92) #[true,true,true,false,false,false,false,false,false,false,false,false] ?_
   refine rgP 3 (some 93) #[true,true,true,true,false,false,false,false,false,false,false,false] ?_
   refine rgP 5 (some 95) #[true,true,true,true,false,true,false,false,false,false,false,false] ?_
   refine rgT3 4 (some 94) #[true,true,true,true,true,true,false,false,false,false,false,false] hHeld ?_
   refine rgT3 6 (some 96) #[true,true,true,true,true,true,true,false,false,false,false,false] hHeld ?_
   refine rgO 7 97 (.slice (some ⟨w8.heap.size,0,none⟩) 1 1) (w8.alloc (.cells #[.bool l,.string p] 93)) #[true,true,true,true,true,true,true,true,false,false,false,false] ?_ (fun hHeld=>?_)
   ·exact ⟨(World.cell?_alloc_lt _ _ _ (World.block_lt_of_cell? _ _ hHeld.1)).trans hHeld.1,⟨(World.cell?_alloc_lt _ _ _ (World.block_lt_of_cell? _ _ hHeld.2.1)).trans hHeld.2.1,(World.cell?_alloc_lt _ _ _ (World.block_lt_of_cell? _ _ hHeld.2.2)).trans hHeld.2.2⟩⟩
   refine one_ (i:=8) (N:=some 98) #[true,true,true,true,true,true,true,true,true,false,false,false] rfl rfl (by kernel_rfl) (by decide) (fun K hK=>?_)
   refine Kd.R_append_step k93 (w0:=w0) (W:=w8) base (by rfl) (.tmp 94) (.tmp 97) 30 93 (.agg #[.bool false,.string ⟨#[]⟩]) 24 (by rfl) Tryz.underlying30 infoRu rfl (by decide) (by omega) (.slice A1 (lastG gs).f1.length cc1) (lastG gs).f1 ⟨l,p⟩ [.bool l,.string p] (fun k=>oki k∨(ok k∧w8.heap.size≤k)) (fun _=>False) (by rfl) (by rfl) (k93_mkM _ _ _ ⟨l,p⟩) (fun _ hk=>hk.elim) (fun k hk=>.inr ⟨HF.out k (Nat.le_trans SZ8.out hk),hk⟩) (Kd.R_mono G1.out (fun _ hk=>.inl hk)) HR8.out.B (Nat.le_trans HR8.out.le (Nat.le_of_lt HR8.out.lt)) (by omega) ?_
   intro v3 w1 ho hb hg hat
   obtain ⟨A3,cc3,rfl⟩:=Kd.R_slice ho
   have en:((lastG gs).f1++[(⟨l,p⟩:S93)]).length=(lastG gs).f1.length+1:=by rw [List.length_append,List.length_singleton]
   rw [en] at ho ⊢
   have hneg:some g≠(Value.slice A1 (lastG gs).f1.length cc1).ownBlock:=fun e=>(hoki g (G1.out.1 g e.symm)).2 rfl
   have hneb:some g8≠(Value.slice A1 (lastG gs).f1.length cc1).ownBlock:=Kd.R_ne G1.out BK8.out (by decide)
   have hz0:=cell_grown hg hy1 hneg
   have H1:=Aside0.mk (Kd.H_grown (Kd.H_widen HH.out) hg (fun k e=>.inl (G1.out.1 k e)))
   have R1:=Aside0.mk (Kd.R_over' (v:=.slice A1 (lastG gs).f1.length cc1) G0.out (Kd.R_typed G1.out) (by decide) hg)
   have R0:=Aside0.mk ho
   have K1:=Aside0.mk (Kept.of_grown (S:=ok) hg (Kept.refl w8 _) (fun k hk=>.inl (hoki k (G1.out.1 k hk)).1))
   have B1:=Aside0.mk hb
   have hzf:=(Kd.H_at H1.out (by omega) (by omega)).2 1
   rw [Int.toNat_natCast,show kGp.sz=3 from rfl] at hzf
   have HP:=Aside0.mk (Kd.S_seg0 H1.out (by omega) (by omega) (seg:=[.slice A3 ((lastG gs).f1.length+1) cc3]) (j:=1) (show 1+1≤3 by decide) (x':=⟨(lastG gs).f0,(lastG gs).f1++[⟨l,p⟩],(lastG gs).f2⟩) (k32_mkM _ _ _ ⟨(lastG gs).f0,(lastG gs).f1++[⟨l,p⟩],(lastG gs).f2⟩ (Kd.R_mono R1.out (fun _ hk=>.inl hk)) R0.out) (fun _ hk=>hk))
   refine hK.out _ _ ⟨hz0,⟨cell_grown hg ((blk_cell BK8.out 0).trans rfl) hneb,cell_grown hg ((blk_cell BK8.out 1).trans rfl) hneb⟩⟩ (fun hHeld=>?_)
   clear hK K ho hb hg hat hneg hneb hHeld hy0 hy1 hy2 hff
   refine rgN 98 ?_
   refine rgP 9 (some 99) #[true,true,true,true,true,true,true,true,true,true,false,false] ?_
   refine rgP 10 (some 100) #[true,true,true,true,true,true,true,true,true,true,true,false] ?_
   refine rgL 11 (w1.setCell ⟨g,j * 3+1,none⟩ (.slice A3 ((lastG gs).f1.length+1) cc3)) #[true,true,true,true,true,true,true,true,true,true,true,true] ?_
   refine done_ (by kernel_rfl) ?_
   have hp1:=HP.out.1
   have hp2:=HP.out.2
   rw [Int.toNat_natCast,show kGp.sz=3 from rfl] at hp1 hp2
   have HQ:Aside0 (Rd w0 w (w1.setCell ⟨g,j * 3+1,none⟩ (.slice A3 ((lastG gs).f1.length+1) cc3)) base gr ok (.slice (some ⟨g,0,none⟩) gs.length cc) true (gs.set j ⟨(lastG gs).f0,(lastG gs).f1++[⟨l,p⟩],(lastG gs).f2⟩)):=Aside0.mk (HR8.out.written (wd:=w1.setCell ⟨g,j * 3+1,none⟩ (.slice A3 ((lastG gs).f1.length+1) cc3)) (Kept.of_grown hp2 K1.out (fun k hk=>.inl (by injection hk with hk;subst hk;exact (Kd.S_R HR8.out.S).1 _ rfl))) hp1 (B1.out.setCell (p:=⟨g,j * 3+1,none⟩) (Kd.S_base HR8.out.S _ rfl) _))
   clear hp1 hp2 HP hz0 hzf
   go_wp2
   (try simp only [Exit.inBlock,Exit.then])
   refine bodyPost_end (results_none rfl _ _ _) rfl ?_
   exact ⟨rfl,.slice (some ⟨g,0,none⟩) gs.length cc,by rw [hj];exact HQ.out⟩
  ·rw [if_neg h6] at hF
   subst hF
   have e6:decide (((lastG gs).f1.length:Int) < 6)=false:=decide_eq_false (by omega)
   have e6n:decide ((lastG gs).f1.length < 6)=false:=decide_eq_false h6
   go_wp2
   (try simp only [Exit.inBlock,Exit.then])
   refine bodyPost_end (results_none rfl _ _ _) rfl ?_
   exact ⟨rfl,_,HR7.out⟩
set_option maxHeartbeats 8000000 in
set_option maxRecDepth 100000 in
theorem take_wait (base gr:Nat) (ok:Nat→Prop) (v:Value) (b:Bool) (gs:List Gp) (n:Int) (r:List Gp×Bool) (w0 w:World) (hr:Rd w0 w w base gr ok v b gs) (hfr:∀ k,w.heap.size≤k→ok k) (hsm:gs.length < 1000000) (hs2:(lastG gs).f0.length < 1000000) (hF:takeF gs b (.wait n)=r) :
  Calls Tryz.prog 60 #[.pointer (some ⟨gr,0,none⟩),.iface 117 (.agg #[.int .i64 n])] w fun e w'=>Took w0 w base gr ok r e w':=by
 obtain ⟨A,cc,hu⟩:=Kd.S_slice hr.S
 subst hu
 have HR:=Aside0.mk hr
 have HF:=Aside0.mk hfr
 have HT:=Aside0.mk hF
 clear hr hfr hF
 go_enter Tryz.func60,Tryz.ntmps60
 go_upto_region 1 with (first|((with_reducible refine gate_dst (N:=4) rfl ?_);refine box_event ?hg (N:=4) ?hd (cs:=#[.string ⟨#[]⟩]) (t:=112) ?hr ?_;(case hd=>rfl);(case hg=>rfl);(case hr=>first|(go_simp;done)|(go_simp;rfl));rintro g4 eg w4 hk4 hb4;have EG4:=Aside0.mk eg;have BK4:=Aside0.mk hk4;have HB4:=Aside0.mk hb4;have hc0:w4.cell? ⟨g4,0,none⟩=some (.string ⟨#[]⟩):=(blk_cell hk4 0).trans rfl;have hd0:=blk_frozen hk4 0;clear eg hk4 hb4))
 have HR4:=Aside0.mk (HR.out.below (below_set HB4.out (by rw [EG4.out];exact Nat.le_refl _)):Rd w0 w (w4.setCell ⟨g4,0,none⟩ (.string ByteArray.empty)) base gr ok (.slice A gs.length cc) b gs)
 have BK5:=Aside0.mk (blk_put BK4.out 0 (.string ByteArray.empty) rfl:(w4.setCell ⟨g4,0,none⟩ (.string ByteArray.empty)).heap[g4]?=some (.cells #[.string ByteArray.empty] 112 (0,0)))
 have SZ:=Aside0.mk (by have:=blk_lt BK4.out;have:=EG4.out;simp [World.setCell];omega:w.heap.size≤(w4.setCell ⟨g4,0,none⟩ (.string ByteArray.empty)).heap.size)
 clear HR BK4 HB4 EG4 hc0 hd0
 generalize (w4.setCell ⟨g4,0,none⟩ (.string ByteArray.empty))=w5 at HR4 BK5 SZ ⊢
 have hx0:=HR4.out.cell0
 have hx1:=HR4.out.cell1
 have hx4:w5.cell? ⟨g4,0,none⟩=some (.string ByteArray.empty):=(blk_cell BK5.out 0).trans rfl
 have hf0:=blk_frozen HR4.out.box 0
 have hf1:=blk_frozen HR4.out.box 1
 by_cases c4:gs.length=0
 ·have hF:=HT.out
  simp only [takeF] at hF
  rw [if_pos c4] at hF
  subst hF
  clear HT
  have n0:((gs.length:Int) == 0)=true:=by rw [c4];rfl
  clear c4
  go_wp2
  (try simp only [Exit.inBlock,Exit.then])
  refine bodyPost_ret (results_none rfl _ _ _) rfl ?_
  exact ⟨rfl,_,HR4.out⟩
 ·have hF:=HT.out
  simp only [takeF] at hF
  rw [if_neg c4] at hF
  clear HT
  have n1:((gs.length:Int) == 0)=false:=beq_eq_false_iff_ne.mpr (by omega)
  obtain ⟨g,cap,_,_,_,eu,_⟩:=(HR4.out.lines).last (by omega)
  injection eu with eu1 eu2 eu3
  subst eu1
  clear eu2 eu3
  obtain ⟨j,hj⟩:∃ j,gs.length - 1=j:=⟨_,rfl⟩
  have ej:wrap64 ((gs.length:Int) - 1)=(j:Int):=by unfold wrap64;omega
  have p0:(0≤(j:Int))=True:=eq_true (by omega)
  have q0:((j:Int) < (gs.length:Int))=True:=eq_true (by omega)
  go_wp2
  refine start_ (n:=12) (S:=fun w'=>w'.cell? ⟨gr,0,none⟩=some (.slice (some ⟨g,0,none⟩) gs.length cc)∧True) (ds:=[]) #[false,false,false,false,false,false,false,false,false,false,false,false] (by kernel_rfl) rfl rfl ⟨hx0,trivial⟩ (fun hHeld=>?_)
  have HR6:=Aside0.mk (HR4.out.below (below_drew (Below.refl _ _)))
  have SZ6:=Aside0.mk (show w.heap.size≤w5.drew.heap.size from SZ.out)
  clear hx0 hx1 hx4 hf0 hf1
  generalize w5.drew=w6 at HR6 SZ6 hHeld ⊢
  refine rgP 0 (some 52) #[true,false,false,false,false,false,false,false,false,false,false,false] ?_
  refine rgP 1 (some 53) #[true,true,false,false,false,false,false,false,false,false,false,false] ?_
  refine rgP 2 (some 54) #[true,true,true,false,false,false,false,false,false,false,false,false] ?_
  refine rgP 4 (some 56) #[true,true,true,false,true,false,false,false,false,false,false,false] ?_
  refine rgP 5 (some 57) #[true,true,true,false,true,true,false,false,false,false,false,false] ?_
  refine rgP 6 (some 58) #[true,true,true,false,true,true,true,false,false,false,false,false] ?_
  refine rgT 3 (some 55) #[true,true,true,true,true,true,true,false,false,false,false,false] hHeld ?_
  refine rgT 7 (some 59) #[true,true,true,true,true,true,true,true,false,false,false,false] hHeld ?_
  refine rgP 8 (some 60) #[true,true,true,true,true,true,true,true,true,false,false,false] ?_
  refine rgP 9 (some 61) #[true,true,true,true,true,true,true,true,true,true,false,false] ?_
  rw [ej]
  refine rgP 10 (some 62) #[true,true,true,true,true,true,true,true,true,true,true,false] ?_
  refine rgP 11 (some 6) #[true,true,true,true,true,true,true,true,true,true,true,true] ?_
  refine done_ (by kernel_rfl) ?_
  clear hHeld HR4 BK5 SZ
  go_upto_region 17 with (first|((with_reducible refine gate_dst (N:=9) rfl ?_);refine box_event ?hg (N:=9) ?hd (cs:=#[.int .i64 0]) (t:=117) ?hr ?_;(case hd=>rfl);(case hg=>rfl);(case hr=>first|(go_simp;done)|(go_simp;rfl));rintro g9 eg w4 hk4 hb4;have EG4:=Aside0.mk eg;have BK4:=Aside0.mk hk4;have HB4:=Aside0.mk hb4;have hc0:w4.cell? ⟨g9,0,none⟩=some (.int .i64 0):=(blk_cell hk4 0).trans rfl;have hd0:=blk_frozen hk4 0;clear eg hk4 hb4))
  have HB5:=Aside0.mk (show Below w6.heap.size w6 (w4.setCell ⟨g9,0,none⟩ (.int .i64 n)) from (below_set HB4.out (by rw [EG4.out];exact Nat.le_refl _)))
  have BK5:=Aside0.mk (show (w4.setCell ⟨g9,0,none⟩ (.int .i64 n)).heap[g9]?=some (.cells #[.int .i64 n] 117 (0,0)) from (blk_put BK4.out 0 (.int .i64 n) rfl))
  have NE5:=Aside0.mk (show g9≠gr from by have:=EG4.out;have:=HR6.out.lt;omega)
  clear BK4 HB4 EG4 hc0 hd0
  generalize (w4.setCell ⟨g9,0,none⟩ (.int .i64 n))=w5 at HB5 BK5 ⊢
  have HR5:=Aside0.mk (HR6.out.below HB5.out)
  have SZ5:=Aside0.mk (Nat.le_trans SZ6.out HB5.out.size)
  have hx1:=HR5.out.cell1
  have hf1:=blk_frozen HR5.out.box 1
  go_upto_region 18 with (fail)
  have HR7:=Aside0.mk (HR5.out.flag true)
  have BK7:=Aside0.mk (show (w5.setCell ⟨gr,1,none⟩ (.bool true)).heap[g9]?=some (.cells #[.int .i64 n] 117 (0,0)) from blk_far BK5.out NE5.out _)
  have SZ7:=Aside0.mk (show w.heap.size≤(w5.setCell ⟨gr,1,none⟩ (.bool true)).heap.size from by simp [World.setCell];exact SZ5.out)
  clear HR6 SZ6 HB5 BK5 NE5 HR5 SZ5 hx1 hf1
  generalize (w5.setCell ⟨gr,1,none⟩ (.bool true))=w7 at HR7 BK7 SZ7 ⊢
  obtain ⟨g_,cap_,v0,v1,oki,eu,g0,g1,⟨hy0,hy1,hy2⟩,hff,hoki,hH⟩:=(HR7.out.lines).last (by omega)
  injection eu with eu1 eu2 eu3
  injection eu1 with eu1
  injection eu1 with eg _ _
  subst eg
  subst eu3
  obtain ⟨A0,cc0,rfl⟩:=Kd.R_slice g0
  obtain ⟨A1,cc1,rfl⟩:=Kd.R_slice g1
  rw [hj] at hy0 hy1 hy2 hff hH
  have G0:=Aside0.mk g0
  have G1:=Aside0.mk g1
  have HH:=Aside0.mk hH
  clear g0 g1 hH
  subst hF
  have hx9:w7.cell? ⟨g9,0,none⟩=some (.int .i64 n):=(blk_cell BK7.out 0).trans rfl
  have hf2:=hff 2
  have HP:=Aside0.mk (Kd.S_seg0 HH.out (by omega) (by omega) (seg:=[.int .i64 n]) (j:=2) (show 2+1≤3 by decide) (x':=⟨(lastG gs).f0,(lastG gs).f1,n⟩) (k32_mkM _ _ _ ⟨(lastG gs).f0,(lastG gs).f1,n⟩ G0.out G1.out) (fun _ hk=>hk))
  have hp1:=HP.out.1
  have hp2:=HP.out.2
  rw [Int.toNat_natCast,show kGp.sz=3 from rfl] at hp1 hp2
  have HQ:Aside0 (Rd w0 w (w7.setCell ⟨g,j * 3+2,none⟩ (.int .i64 n)) base gr ok (.slice (some ⟨g,0,none⟩) gs.length cc) true (gs.set j ⟨(lastG gs).f0,(lastG gs).f1,n⟩)):=Aside0.mk (HR7.out.written (wd:=w7.setCell ⟨g,j * 3+2,none⟩ (.int .i64 n)) (Kept.of_grown hp2 (Kept.refl w7 _) (fun k hk=>.inl (by injection hk with hk;subst hk;exact (Kd.S_R HR7.out.S).1 _ rfl))) hp1 (HR7.out.B.setCell (p:=⟨g,j * 3+2,none⟩) (Kd.S_base HR7.out.S _ rfl) _))
  clear hp1 hp2 HP
  go_wp2
  (try simp only [Exit.inBlock,Exit.then])
  refine bodyPost_end (results_none rfl _ _ _) rfl ?_
  exact ⟨rfl,_,HQ.out⟩
theorem impl_take.calls (base gr:Nat) (ok:Nat→Prop) (v:Value) (b:Bool) (gs:List Gp) (x:RL) (w0 w:World) (hr:Rd w0 w w base gr ok v b gs) (hfr:∀ k,w.heap.size≤k→ok k) (hsm:gs.length < 1000000) (hs2:(lastG gs).f0.length < 1000000) :
  Calls Tryz.prog 60 #[.pointer (some ⟨gr,0,none⟩),x.v] w fun e w'=>Took w0 w base gr ok (takeF gs b x) e w':=by
 cases x with
 | caller x=>exact take_caller base gr ok v b gs x _ w0 w hr hfr hsm hs2 rfl
 | rule l p=>exact take_rule base gr ok v b gs l p _ w0 w hr hfr hsm hs2 rfl
 | wait n=>exact take_wait base gr ok v b gs n _ w0 w hr hfr hsm hs2 rfl
end Go.Proofs.YtloijngehifbmaaGreatDoor.P
end
section
namespace Go.Proofs.YtloijngehifbmaaGreatDoor.P
open Go.RowKit Go.Proofs.YtloijngehifbmaaGreatDoorW.PrintWords Go.Proofs.YtloijngehifbmaaGreatDoorW.PrintLast Go.Proofs.YtloijngehifbmaaGreatDoorW.PrintMore
set_option linter.unusedVariables false
def iLoop (k:Nat):List ByteArray→List Gp→Bool→Option (List Gp)
  | [],gs,_=>some gs
  | s :: r,gs,b=>(impl_readLine.f k s).bind fun o=>match o with
    | none=>iLoop k r gs b
    | some x=>if gs.length < 1000000∧(lastG gs).f0.length < 1000000 then iLoop k r (takeF gs b x).1 (takeF gs b x).2 else none
def impl_NoticeRead.f (k:Nat) (a0:ByteArray):Option (List Gp):=(strings_Split.f k a0 (⟨#[10]⟩:ByteArray)).bind fun ls=>if ls.length≤1000000000 then iLoop k (ls.take 40) [] false else none
set_option maxHeartbeats 8000000 in
set_option maxRecDepth 100000 in
theorem impl_NoticeRead.calls (k:Nat) (a0:ByteArray) (r:List Gp) (w:World) (h:impl_NoticeRead.f k a0=some r) :
    Calls Tryz.prog 21 #[.string a0] w fun e w'=>∃ v0_:Value,e=.returned (v0_)∧Kd.S kGp 32 w' w.heap.size (fun _=>True) v0_ r∧Below w.heap.size w w':=by
  unfold impl_NoticeRead.f at h
  obtain ⟨ls,hls,h2⟩:=Option.bind_eq_some_iff.mp h
  split at h2
  case isFalse=>cases h2
  rename_i hbig
  have HS:=Aside0.mk hls
  have H0:=Aside0.mk h2
  clear h hls h2
  go_enter Tryz.func21,Tryz.ntmps21
  go_wp2_with (first
    | ((with_reducible refine gate_dst (N:=3) rfl ?_);refine box_event ?hg (N:=3) ?hd (cs:=#[.slice none 0 0,.bool false]) (t:=85) ?hr ?_;(case hd=>rfl);(case hg=>rfl);(case hr=>first|(go_simp;done)|(go_simp;rfl));rintro gr eg w3 hk3 hb3;have EG:=Aside0.mk eg;have BK3:=Aside0.mk hk3;have HB3:=Aside0.mk hb3;clear eg hk3 hb3)
    | (go_at_call 58;(with_reducible refine (strings_Split.calls k a0 (⟨#[10]⟩:ByteArray) ls _ HS.out).mono ?_);rintro e w12 ⟨v12,rfl,ho12,hb12⟩;obtain ⟨A12,c12,rfl⟩:=Kd.R_slice ho12;have HO:=Aside0.mk ho12;have HB12:=Aside0.mk hb12;clear ho12 hb12))
  have e40:(ls.take 40).length=min 40 ls.length:=List.length_take
  have HO1:=Aside0.mk (Kd.R_tight rfl HO.out)
  have GL:=Aside0.mk (blk_lt BK3.out)
  have HR3:=Aside0.mk (show Rd w w w12 w.heap.size gr (fun k=>some k≠(Value.slice A12 ls.length c12).ownBlock∧k≠gr) (.slice none 0 0) false [] from
    Rd.below ⟨Kd.S_nil _ _ _ _ _,HB3.out,Kept.of_below HB3.out _,by rw [EG.out];exact Nat.le_refl _,fun _ h=>h.2,BK3.out⟩ HB12.out)
  clear HO HB12 HB3 BK3 HS
  go_loopg [11] (ls.take 40).length (fun g v11 wx=>∃ (i:Nat) (gs:List Gp) (b:Bool) (v:Value),v11=.int .i64 i∧i+g=(ls.take 40).length∧Aside0 (iLoop k ((ls.take 40).drop i) gs b=some r)∧Aside0 (Rd w w wx w.heap.size gr (fun k=>some k≠(Value.slice A12 ls.length c12).ownBlock∧k≠gr) v b gs)∧Aside0 (Kd.string.R 9 wx w3.heap.size (fun k=>some k=(Value.slice A12 ls.length c12).ownBlock) (.slice A12 ls.length c12) ls))
  case atStart=>exact ⟨0,[],false,_,rfl,by omega,⟨by simpa using H0.out⟩,HR3,HO1⟩
  case round=>
    clear H0 HR3 HO1
    obtain ⟨i,gs,b,v,rfl,hig,H,HR,HO⟩:=hrel
    obtain ⟨A3,c3,e3⟩:=Kd.S_slice HR.out.S
    subst e3
    have hx0:=HR.out.cell0
    cases gk with
    | zero=>
      have hr:gs=r:=by
        have:=H.out
        rw [List.drop_of_length_le (by omega)] at this
        exact Option.some.inj this
      subst hr
      by_cases c1:i < ls.length
      · have c1b:decide ((i:Int) < (ls.length:Int))=true:=decide_eq_true (by omega)
        have c1n:decide (i < ls.length)=true:=decide_eq_true (by omega)
        have c2b:((i:Int) == 40)=true:=beq_iff_eq.mpr (by omega)
        obtain ⟨gl,cl,eu,hb0,hb1,hx1⟩:=string_at HO.out c1
        injection eu with eu1 eu2 eu3
        subst eu1
        subst eu3
        have p0:(0≤(i:Int))=True:=eq_true (by omega)
        have q0:((i:Int) < (ls.length:Int))=True:=eq_true (by omega)
        have q1:(i < ls.length)=True:=eq_true (by omega)
        generalize ls[i]=s at hx1
        clear c1
        go_wp2
        go_ret
        exact ⟨_,rfl,Kd.S_mono HR.out.S (fun _ _=>trivial),HR.out.B⟩
      · have c1b:decide ((i:Int) < (ls.length:Int))=false:=decide_eq_false (by omega)
        have c1n:decide (i < ls.length)=false:=decide_eq_false (by omega)
        clear c1
        go_wp2
        go_ret
        exact ⟨_,rfl,Kd.S_mono HR.out.S (fun _ _=>trivial),HR.out.B⟩
    | succ g1=>
      have hi:i < ls.length:=by omega
      have c1b:decide ((i:Int) < (ls.length:Int))=true:=decide_eq_true (by omega)
      have c1n:decide (i < ls.length)=true:=decide_eq_true (by omega)
      have c2b:((i:Int) == 40)=false:=beq_eq_false_iff_ne.mpr (by omega)
      obtain ⟨gl,cl,eu,hb0,hb1,hx1⟩:=string_at HO.out hi
      injection eu with eu1 eu2 eu3
      subst eu1
      subst eu3
      have p0:(0≤(i:Int))=True:=eq_true (by omega)
      have q0:((i:Int) < (ls.length:Int))=True:=eq_true (by omega)
      have q1:(i < ls.length)=True:=eq_true (by omega)
      have h1:=H.out
      rw [List.drop_eq_getElem_cons (by omega:i < (ls.take 40).length),List.getElem_take] at h1
      unfold iLoop at h1
      obtain ⟨o,A1,h2⟩:=Option.bind_eq_some_iff.mp h1
      have HA1:=Aside0.mk A1
      generalize ls[i]=s at hx1 HA1
      clear H h1 A1
      cases o with
      | none=>
        have H':=Aside0.mk h2
        clear h2
        go_wp2_with (first
          | (go_at_call 59;(with_reducible refine (impl_readLine.calls k s none _ HA1.out).mono ?_);rintro e w5 ⟨iv,rfl,_,hb5⟩;simp only [Option.isSome_none];have HB5:=Aside0.mk hb5;clear hb5))
        go_roundg g1
        case measure=>omega
        case rel=>exact ⟨i+1,gs,b,_,by first|rw [nxt i (by omega)]|simp,by omega,H',⟨HR.out.below HB5.out⟩,⟨Kd.R_below HO.out HB5.out⟩⟩
      | some x=>
        simp only at h2
        split at h2
        case isFalse=>cases h2
        rename_i hsm
        have H':=Aside0.mk h2
        clear h2
        go_wp2_with (first
          | (go_at_call 59;(with_reducible refine (impl_readLine.calls k s (some x) _ HA1.out).mono ?_);rintro e w5 ⟨iv,rfl,hiv,hb5⟩;simp only [Option.isSome_some];obtain rfl:=hiv x rfl;have HB5:=Aside0.mk hb5;clear hb5 hiv)
          | (go_at_call 60
             have HQ:=Aside0.mk (HR.out.below HB5.out)
             have HP:=Aside0.mk (Kd.R_below HO.out HB5.out)
             (with_reducible refine (impl_take.calls w.heap.size gr (fun k=>some k≠(Value.slice (some ⟨gl,0,none⟩) ls.length c12).ownBlock∧k≠gr) (.slice A3 gs.length c3) b gs x w _ ⟨HQ.out.S,HQ.out.B,Kept.refl _ _,HQ.out.le,HQ.out.ng,HQ.out.box⟩ (fun k hk=>⟨fun he=>by have:=Kd.R_lt HP.out k he.symm;omega,fun he=>by have:=HQ.out.lt;omega⟩) hsm.1 hsm.2).mono ?_)
             rintro e w6 ⟨rfl,v6,h6⟩
             have H6:=Aside0.mk (show Rd w w w6 w.heap.size gr (fun k=>some k≠(Value.slice (some ⟨gl,0,none⟩) ls.length c12).ownBlock∧k≠gr) v6 (takeF gs b x).2 (takeF gs b x).1 from ⟨h6.S,h6.B,HQ.out.K.then_ h6.K (fun k hk=>.inl hk),h6.le,h6.ng,h6.box⟩)
             have HO6:=Aside0.mk (Kd.R_step HP.out (fun k hk hlt=>h6.K.2 k hlt (fun h=>h.elim (fun h=>h.1 hk) (fun h=>by have hb:=Kd.R_base HP.out k hk.symm;have:=GL.out;omega))))
             clear h6))
        go_roundg g1
        case measure=>omega
        case rel=>exact ⟨i+1,(takeF gs b x).1,(takeF gs b x).2,_,by first|rw [nxt i (by omega)]|simp,by omega,H',H6,HO6⟩
end Go.Proofs.YtloijngehifbmaaGreatDoor.P
end
section
namespace Go.Proofs.YtloijngehifbmaaGreatDoor.P
open Go.RowKit Go.Proofs.YtloijngehifbmaaGreatDoorW.PrintWords Go.Proofs.YtloijngehifbmaaGreatDoorW.PrintLast Go.Proofs.YtloijngehifbmaaGreatDoorW.PrintMore Go.Proofs.YtloijngehifbmaaGreatDoor.B Go.Proofs.YtloijngehifbmaaGreatDoor.Ad
set_option linter.unusedVariables false
set_option linter.unusedSimpArgs false
abbrev Ge:=S32
abbrev Re:=S93
theorem contains_walk (A0:Option Addr) (c0:Nat) (l0:List ByteArray) (x:ByteArray) (w:World) (hr:Kd.C Kd.string w A0 l0.length l0) (hl:l0.length≤9223372036854775807) :
  Calls Tryz.prog 56 #[.slice A0 l0.length c0,.string x] w fun e w'=>e=.returned (.bool (Lib.containsS l0 x))∧w'=w:=by
 rcases Nat.eq_zero_or_pos l0.length with h0|h0
 ·obtain rfl:l0=[]:=List.length_eq_zero_iff.1 h0
  exact Tryz.slices_Contains_string_empty A0 c0 x w
 ·obtain ⟨bk,o,rfl,hb,hcells⟩:=row_at hr h0
  refine (Tryz.slices_Contains_string bk o l0.length c0 l0 x w (Nat.le_refl _) hl (fun j hj=>?_)).mono fun e w' ⟨he,hw⟩=>⟨?_,hw⟩
  ·rw [List.getD_eq_getElem?_getD,List.getElem?_eq_getElem hj]
   exact hcells j _ (List.getElem?_eq_getElem hj)
  ·rw [List.take_length] at he
   exact he
set_option maxRecDepth 100000 in
theorem has_walk (A0:Option Addr) (c0:Nat) (l0:List ByteArray) (A1:Option Addr) (n1 c1:Nat) (n2:Int) (B:Nat) (x:ByteArray) (w:World) (hr:Kd.C Kd.string w A0 l0.length l0) (hB:w.cell? ⟨B,0,none⟩=some (.string x)) (hl:l0.length≤9223372036854775807) :
  Calls Tryz.prog 55 #[.agg #[.slice A0 l0.length c0,.slice A1 n1 c1,.int .i64 n2],.pointer (some ⟨B,0,none⟩)] w fun e w'=>e=.returned (.bool (Lib.containsS l0 x))∧Below w.heap.size w w':=by
 have hu:=Tryz.underlying32
 have HB:=Aside0.mk (Below.refl w.heap.size w)
 have HR:=Aside0.mk hr
 have HX:=Aside0.mk hB
 clear hr hB
 go_enter Tryz.func55,Tryz.ntmps55
 go_wp2_with (first|((with_reducible refine gate_dst (N:=2) rfl ?_);refine box_event ?hg (N:=2) ?hd (cs:=#[.slice A0 l0.length c0,.slice A1 n1 c1,.int .i64 n2]) (t:=32) ?hr ?_;(case hd=>rfl);(case hg=>rfl);(case hr=>first|(go_simp;done)|(go_simp;rfl));intro gb hg w2 hbox hb;have BK:=Aside0.mk hbox;replace HB:=Aside0.mk (below_step HB.out hb);have hx6:=(hb.cell (World.block_lt_of_cell? _ _ HX.out)).trans HX.out;replace HR:=Aside0.mk (Kd.C_below HR.out hb);clear hb hg hbox;have hc0:w2.cell? ⟨gb,0,none⟩=some (.slice A0 l0.length c0):=(blk_cell BK.out 0).trans rfl)|(go_at_call 56;refine (contains_walk A0 c0 l0 x _ HR.out hl).mono ?_;rintro e w3 ⟨rfl,rfl⟩))
 go_ret
 exact ⟨rfl,HB.out⟩
set_option maxHeartbeats 4000000 in
set_option maxRecDepth 100000 in
theorem indexFunc_walk (A0:Option Addr) (c0:Nat) (l0:List Ge) (B:Nat) (x:ByteArray) (w:World) (hr0:Kd.C k32 w A0 l0.length l0) (hB:w.cell? ⟨B,0,none⟩=some (.string x)) (hl:l0.length≤4611686018427387904) (hn:∀ g ∈ l0,g.f0.length≤9223372036854775807) :
  Calls Tryz.prog 84 #[.slice A0 l0.length c0,.func (.func 55) #[] #[.pointer (some ⟨B,0,none⟩)]] w fun e w'=>∃ r:Int,e=.returned (.int .i64 r)∧decide (0≤r)=l0.any (fun g=>Lib.containsS g.f0 x)∧Below w.heap.size w w':=by
 have hu:=Tryz.underlying32
 have HB0:=Aside0.mk (Below.refl w.heap.size w)
 go_enter Tryz.func84,Tryz.ntmps84
 go_wp2
 go_loopg [8] l0.length (fun g v wx=>∃ i:Nat,v=.int .i64 i∧i+g=l0.length∧Aside0 ((l0.take i).any (fun g=>Lib.containsS g.f0 x)=false)∧Aside0 (Below w.heap.size w wx))
 case atStart=>exact ⟨0,rfl,by omega,⟨rfl⟩,HB0⟩
 case round=>
  clear HB0
  obtain ⟨i,rfl,hig,HA,HB⟩:=hrel
  cases gk with
  | zero=>
   obtain rfl:i=l0.length:=by omega
   have hlt:decide ((l0.length:Int) < (l0.length:Int))=false:=decide_eq_false (by omega)
   go_wp2
   go_ret
   refine ⟨_,rfl,?_,HB.out⟩
   have:=HA.out
   rw [List.take_length] at this
   rw [this]
   rfl
  | succ g=>
   have hi:i < l0.length:=by omega
   have hlt:decide ((i:Int) < (l0.length:Int))=true:=decide_eq_true (by omega)
   obtain ⟨ad,A1,c1,A2,c2,ea,hx0,hx1,hx2,hl1,hr1,hl2,hr2⟩:=at_T32 hr0 (i:Int) (by omega) (by omega)
   subst ea
   replace hx0:=(HB.out.cell (World.block_lt_of_cell? w _ hx0)).trans hx0
   replace hx1:=(HB.out.cell (World.block_lt_of_cell? w _ hx1)).trans hx1
   replace hx2:=(HB.out.cell (World.block_lt_of_cell? w _ hx2)).trans hx2
   have hx3:=(HB.out.cell (World.block_lt_of_cell? w _ hB)).trans hB
   have p0:(0≤(i:Int))=True:=eq_true (by omega)
   have q0:((i:Int) < (l0.length:Int))=True:=eq_true (by omega)
   obtain ⟨p,hp⟩:∃ p,rd_T32 l0 (i:Int)=p:=⟨_,rfl⟩
   have hpi:p=l0[i]:=by
    rw [← hp]
    simp [rd_T32,List.getD,List.getElem?_eq_getElem hi]
   rw [hp] at hx0 hx1 hx2 hl1 hr1 hl2 hr2
   simp only [Int.toNat_natCast] at hx0 hx1 hx2
   have HR:=Aside0.mk (Kd.C_below hr1 HB.out)
   have HN:=Aside0.mk (show p.f0.length≤9223372036854775807 from hn _ (by rw [hpi];exact List.getElem_mem hi))
   have HT:=Aside0.mk (show (l0.take (i+1)).any (fun g=>Lib.containsS g.f0 x)=Lib.containsS p.f0 x by
    rw [List.take_succ_eq_append_getElem hi,List.any_append,HA.out,← hpi]
    simp)
   have HI:=Aside0.mk (show Lib.containsS p.f0 x=true→l0.any (fun g=>Lib.containsS g.f0 x)=true from fun h=>List.any_eq_true.2 ⟨p,by rw [hpi];exact List.getElem_mem hi,h⟩)
   clear hp hpi hr1 hr2 hl1 hl2 HA
   obtain ⟨q,hq⟩:∃ q,Lib.containsS p.f0 x=q:=⟨_,rfl⟩
   have HQ:=Aside0.mk hq
   clear hq
   cases q with
   | true=>
    go_wp2_with (first|(go_at_call 55;refine (has_walk A1 c1 p.f0 A2 _ c2 _ B x _ HR.out hx3 HN.out).mono ?_;rintro e w3 ⟨rfl,hb⟩;rw [HQ.out];replace HB:=Aside0.mk (below_step HB.out hb);clear hb))
    go_ret
    refine ⟨_,rfl,?_,HB.out⟩
    rw [HI.out HQ.out]
    exact decide_eq_true (by omega)
   | false=>
    go_wp2_with (first|(go_at_call 55;refine (has_walk A1 c1 p.f0 A2 _ c2 _ B x _ HR.out hx3 HN.out).mono ?_;rintro e w3 ⟨rfl,hb⟩;rw [HQ.out];replace HB:=Aside0.mk (below_step HB.out hb);clear hb))
    go_roundg g
    case measure=>omega
    case rel=>exact ⟨i+1,by simp,by omega,⟨by rw [HT.out,HQ.out]⟩,HB⟩
set_option maxRecDepth 100000 in
theorem containsFunc_walk (A0:Option Addr) (c0:Nat) (l0:List Ge) (B:Nat) (x:ByteArray) (w:World) (hr0:Kd.C k32 w A0 l0.length l0) (hB:w.cell? ⟨B,0,none⟩=some (.string x)) (hl:l0.length≤4611686018427387904) (hn:∀ g ∈ l0,g.f0.length≤9223372036854775807) :
  Calls Tryz.prog 57 #[.slice A0 l0.length c0,.func (.func 55) #[] #[.pointer (some ⟨B,0,none⟩)]] w fun e w'=>e=.returned (.bool (l0.any (fun g=>Lib.containsS g.f0 x)))∧Below w.heap.size w w':=by
 go_enter Tryz.func57,Tryz.ntmps57
 go_wp2_with (first|(go_at_call 84;refine (indexFunc_walk A0 c0 l0 B x _ hr0 hB hl hn).mono ?_;rintro e w1 ⟨r,rfl,hd,hb⟩;have HB:=Aside0.mk hb;have HD:=Aside0.mk hd;clear hb hd))
 go_ret
 exact ⟨by rw [← HD.out];rfl,HB.out⟩
theorem put3 {w:World} {g:Nat} {t:TypeId} {a0 b0 c0:Value} (h:w.heap[g]?=some (.cells #[a0,b0,c0] t (0,0))) (a b c:Value):(((w.setCell ⟨g,0,none⟩ a).setCell ⟨g,1,none⟩ b).setCell ⟨g,2,none⟩ c).heap[g]?=some (.cells #[a,b,c] t (0,0)):=
 blk_put (cs:=#[a,b,c0]) (blk_put (cs:=#[a,b0,c0]) (blk_put (cs:=#[a0,b0,c0]) h 0 a rfl) 1 b rfl) 2 c rfl
theorem far3 {w:World} {k g:Nat} {t:TypeId} {cs:Array Value} (h:w.heap[k]?=some (.cells cs t (0,0))) (hne:k≠g) (a b c:Value):(((w.setCell ⟨g,0,none⟩ a).setCell ⟨g,1,none⟩ b).setCell ⟨g,2,none⟩ c).heap[k]?=some (.cells cs t (0,0)):=
 blk_far (p:=⟨g,2,none⟩) (blk_far (p:=⟨g,1,none⟩) (blk_far (p:=⟨g,0,none⟩) h hne a) hne b) hne c
theorem R_far3 {α:Type} {d:Kd α} {e:TypeId} {w:World} {base g:Nat} {v:Value} {xs:List α} {t:Nat} {cs:Array Value} (h:d.R e w base (fun _=>True) v xs) (hb:w.heap[g]?=some (.cells cs t (0,0))) (ht:∀ q,q ∈ e :: d.E→q≠t) (a b c:Value) :
  d.R e (((w.setCell ⟨g,0,none⟩ a).setCell ⟨g,1,none⟩ b).setCell ⟨g,2,none⟩ c) base (fun _=>True) v xs:=
 Kd.R_mono (Kd.R_far (p:=⟨g,2,none⟩) (Kd.R_far (p:=⟨g,1,none⟩) (Kd.R_far (p:=⟨g,0,none⟩) (Kd.R_types h hb ht) (fun _ hk=>hk.2) a) (fun _ hk=>hk.2) b) (fun _ hk=>hk.2) c) (fun _ _=>trivial)
theorem below3 {w w':World} {g:Nat} (h:Below w.heap.size w w') (hg:w.heap.size≤g) (a b c:Value):Below w.heap.size w (((w'.setCell ⟨g,0,none⟩ a).setCell ⟨g,1,none⟩ b).setCell ⟨g,2,none⟩ c):=below_set (below_set (below_set h hg) hg) hg
theorem put2 {w:World} {g:Nat} {t:TypeId} {a0 b0 c0:Value} (h:w.heap[g]?=some (.cells #[a0,b0,c0] t (0,0))) (b c:Value):((w.setCell ⟨g,1,none⟩ b).setCell ⟨g,2,none⟩ c).heap[g]?=some (.cells #[a0,b,c] t (0,0)):=
 blk_put (cs:=#[a0,b,c0]) (blk_put (cs:=#[a0,b0,c0]) h 1 b rfl) 2 c rfl
theorem far2 {w:World} {k g:Nat} {t:TypeId} {cs:Array Value} (h:w.heap[k]?=some (.cells cs t (0,0))) (hne:k≠g) (b c:Value):((w.setCell ⟨g,1,none⟩ b).setCell ⟨g,2,none⟩ c).heap[k]?=some (.cells cs t (0,0)):=
 blk_far (p:=⟨g,2,none⟩) (blk_far (p:=⟨g,1,none⟩) h hne b) hne c
theorem R_far2 {α:Type} {d:Kd α} {e:TypeId} {w:World} {base g:Nat} {v:Value} {xs:List α} {t:Nat} {cs:Array Value} (h:d.R e w base (fun _=>True) v xs) (hb:w.heap[g]?=some (.cells cs t (0,0))) (ht:∀ q,q ∈ e :: d.E→q≠t) (b c:Value) :
  d.R e ((w.setCell ⟨g,1,none⟩ b).setCell ⟨g,2,none⟩ c) base (fun _=>True) v xs:=
 Kd.R_mono (Kd.R_far (p:=⟨g,2,none⟩) (Kd.R_far (p:=⟨g,1,none⟩) (Kd.R_types h hb ht) (fun _ hk=>hk.2) b) (fun _ hk=>hk.2) c) (fun _ _=>trivial)
theorem below2 {w w':World} {g:Nat} (h:Below w.heap.size w w') (hg:w.heap.size≤g) (b c:Value):Below w.heap.size w ((w'.setCell ⟨g,1,none⟩ b).setCell ⟨g,2,none⟩ c):=below_set (below_set h hg) hg
set_option maxRecDepth 100000 in
theorem newHas_walk (x:ByteArray) (w:World):Calls Tryz.prog 54 #[.string x] w fun e w'=>∃ B,w.heap.size≤B∧e=.returned (.func (.func 55) #[] #[.pointer (some ⟨B,0,none⟩)])∧w'.cell? ⟨B,0,none⟩=some (.string x)∧Below w.heap.size w w':=by
 have hmf:∀ (fn:Fn) (first cap:Array Value) (w:World),(Instr.makeFunc fn first cap).run Tryz.prog w=.ok (.func fn first cap) w:=fun _ _ _ _=>rfl
 have HB:=Aside0.mk (Below.refl w.heap.size w)
 go_enter Tryz.func54,Tryz.ntmps54
 go_wp2_with (first|((with_reducible refine gate_dst (N:=1) rfl ?_);refine box_event ?hg (N:=1) ?hd (cs:=#[.string x]) (t:=9) ?hr ?_;(case hd=>rfl);(case hg=>rfl);(case hr=>first|(go_simp;done)|(go_simp;rfl));intro gb hg w2 hbox hb;have BK:=Aside0.mk hbox;have GE:=Aside0.mk (show w.heap.size≤gb from by rw [hg];exact below_size HB.out);replace HB:=Aside0.mk (below_step HB.out hb);clear hb hg hbox))
 go_ret
 exact ⟨gb,GE.out,rfl,(blk_cell BK.out 0).trans rfl,HB.out⟩
def hasN (x:ByteArray) (g:Ge):Bool:=Lib.containsS g.f0 x
def toldF (x:ByteArray):List Ge→List Re→Int→List Re×Int
 | [],rs,n=>(rs,n)
 | g :: r,rs,n=>if hasN x g=true then toldF x r (rs++g.f1) (mx n g.f2) else toldF x r rs n
def askF (l:List Ge) (x:ByteArray):ByteArray:=if l.any (hasN x)=true then x else ⟨#[42]⟩
def sumR (l:List Ge):Nat:=(l.map fun g=>g.f1.length).sum
def impl_NoticeFor.f (k:Nat) (l0:List Ge) (a1:ByteArray):Option (List ByteArray×List Re×Int):=
 if l0.length≤1000000000∧(∀ g ∈ l0,g.f0.length≤1000000000)∧sumR l0≤1000000000 then some ([a1],toldF (askF l0 a1) l0 [] 0) else none
set_option maxHeartbeats 8000000 in
set_option maxRecDepth 100000 in
theorem impl_NoticeFor.calls (k:Nat) (A0:Option Addr) (c0:Nat) (l0:List Ge) (a1:ByteArray) (r1:List ByteArray) (r2:List Re) (r3:Int) (w:World) (hr0:Kd.C k32 w A0 l0.length l0) (hc0:l0.length≤c0) (h:impl_NoticeFor.f k l0 a1=some (r1,r2,r3)) :
  Calls Tryz.prog 20 #[.slice A0 l0.length c0,.string a1] w fun e w'=>∃ v0_ v1_:Value,e=.returned (.agg #[v0_,v1_,.int .i64 r3])∧Kd.R Kd.string 9 w' w.heap.size (fun _=>True) v0_ r1∧Kd.R k93 93 w' w.heap.size (fun _=>True) v1_ r2∧Below w.heap.size w w':=by
 have hu:=Tryz.underlying32
 unfold impl_NoticeFor.f at h
 split at h
 case isFalse=>cases h
 rename_i hz
 obtain ⟨h1,h2,h3⟩:=hz
 obtain ⟨rfl,h4⟩:=Prod.mk.inj (Option.some.inj h)
 clear h
 obtain ⟨x,hx⟩:∃ x,askF l0 a1=x:=⟨_,rfl⟩
 rw [hx] at h4
 have HT:=Aside0.mk h4
 have HX:=Aside0.mk hx
 have HL:=Aside0.mk h1
 have HN:=Aside0.mk h2
 have HS:=Aside0.mk h3
 have HR0:=Aside0.mk hr0
 clear h1 h2 h3 h4 hx hr0
 have HB:=Aside0.mk (Below.refl w.heap.size w)
 go_enter Tryz.func20,Tryz.ntmps20
 go_upto_region 2 with (first|((with_reducible refine gate_dst (N:=4) rfl ?_);refine box_event ?hg (N:=4) ?hd (cs:=#[.slice none 0 0,.slice none 0 0,.int .i64 0]) (t:=32) ?hr ?_;(case hd=>rfl);(case hg=>rfl);(case hr=>first|(go_simp;done)|(go_simp;rfl));intro g4 hg w2 hbox hb;have BK4:=Aside0.mk hbox;have GE4:=Aside0.mk (show w.heap.size≤g4 from by rw [hg];exact below_size HB.out);replace HB:=Aside0.mk (below_step HB.out hb);clear hb hg hbox))
 go_cut [6,10] (fun v6 v10 wc=>v6=.string a1∧Aside0 (wc.heap[g4]?=some (.cells #[.slice none 0 0,.slice none 0 0,.int .i64 0] 32 (0,0)))∧Aside0 (Below w.heap.size w wc))
 case first=>
  go_wp2
  go_meet
  case rel=>exact ⟨rfl,BK4,HB⟩
 case rest=>
 clear BK4 HB
 obtain ⟨rfl,BK4,HB⟩:=hcut
 rename_i hK_
 refine hK_ _ _ ?_
 clear hK_
 go_step
 go_cut [6] (fun v6 wc=>v6=.string x∧Aside0 (wc.heap[g4]?=some (.cells #[.slice none 0 0,.slice none 0 0,.int .i64 0] 32 (0,0)))∧Aside0 (Below w.heap.size w wc))
 case first=>
  clear HT
  obtain ⟨q,hq⟩:∃ q,(l0.any fun g=>Lib.containsS g.f0 a1)=q:=⟨_,rfl⟩
  have HQ:=Aside0.mk hq
  have hx:=HX.out
  unfold askF hasN at hx
  rw [hq] at hx
  clear hq HX
  cases q with
  | true=>
   rw [if_pos rfl] at hx
   subst hx
   go_wp2_with (first|(go_at_call 54;refine (newHas_walk a1 _).mono ?_;rintro e w5 ⟨B,hBs,rfl,hBc,hb⟩;have HC:=Aside0.mk hBc;replace BK4:=Aside0.mk (blk_below BK4.out hb);replace HB:=Aside0.mk (below_step HB.out hb);clear hb hBc)|(go_at_call 57;refine (containsFunc_walk A0 c0 l0 B a1 _ (Kd.C_below HR0.out HB.out) HC.out (by have:=HL.out;omega) (fun g hg=>by have:=HN.out g hg;omega)).mono ?_;rintro e w6 ⟨rfl,hb⟩;rw [HQ.out];replace BK4:=Aside0.mk (blk_below BK4.out hb);replace HB:=Aside0.mk (below_step HB.out hb);clear hb))
   go_meet
   case rel=>exact ⟨rfl,BK4,HB⟩
  | false=>
   rw [if_neg (by decide)] at hx
   subst hx
   go_wp2_with (first|(go_at_call 54;refine (newHas_walk a1 _).mono ?_;rintro e w5 ⟨B,hBs,rfl,hBc,hb⟩;have HC:=Aside0.mk hBc;replace BK4:=Aside0.mk (blk_below BK4.out hb);replace HB:=Aside0.mk (below_step HB.out hb);clear hb hBc)|(go_at_call 57;refine (containsFunc_walk A0 c0 l0 B a1 _ (Kd.C_below HR0.out HB.out) HC.out (by have:=HL.out;omega) (fun g hg=>by have:=HN.out g hg;omega)).mono ?_;rintro e w6 ⟨rfl,hb⟩;rw [HQ.out];replace BK4:=Aside0.mk (blk_below BK4.out hb);replace HB:=Aside0.mk (below_step HB.out hb);clear hb))
   go_meet
   case rel=>exact ⟨rfl,BK4,HB⟩
 case rest=>
  clear BK4 HB HX
  obtain ⟨rfl,BK4,HB⟩:=hcut
  go_wp2_with (first|((with_reducible refine gate_dst (N:=18) rfl ?_);refine Kd.R_lit Kd.string _ 9 ?hg (N:=18) ?hd (xs:=([a1]:List ByteArray)) (inner:=[.string a1]) (ok:=fun _=>True) (okp:=fun _=>True) ?hr ?hp (fun _ hk=>hk) trivial (Below.refl _ _) (Nat.le_refl _) (by simp) ?_;(case hd=>rfl);(case hg=>rfl);(case hr=>first|(go_simp;done)|(go_simp;rfl));(case hp=>exact (Reps.one (show Kd.M Kd.string _ _ _ a1 [.string a1] from rfl) (Reps.none _ _)));intro v18 w7 ho hb hg_ hnew_;clear hg_ hnew_;have HO:=Aside0.mk (Kd.R_lower ho (below_size HB.out));replace BK4:=Aside0.mk (blk_below BK4.out hb);replace HB:=Aside0.mk (below_step HB.out hb);clear hb ho;obtain ⟨An,cn,en⟩:=Kd.R_slice HO.out;subst en)|((with_reducible refine gate_dst (N:=7) rfl ?_);refine box_event ?hg (N:=7) ?hd (cs:=#[.slice none 0 0,.slice none 0 0,.int .i64 0]) (t:=32) ?hr ?_;(case hd=>rfl);(case hg=>rfl);(case hr=>first|(go_simp;done)|(go_simp;rfl));intro g7 hg w8 hbox hb;have BK7:=Aside0.mk hbox;have NB:=Aside0.mk (show g4≠g7 from by rw [hg];exact Nat.ne_of_lt (blk_lt BK4.out));have GE7:=Aside0.mk (show w.heap.size≤g7 from by rw [hg];exact below_size HB.out);replace HO:=Aside0.mk (Kd.R_below HO.out hb);replace BK4:=Aside0.mk (blk_below BK4.out hb);replace HB:=Aside0.mk (below_step HB.out hb);clear hb hg hbox;have h70:w8.cell? ⟨g7,0,none⟩=some (.slice none 0 0):=(blk_cell BK7.out 0).trans rfl;have h71:w8.cell? ⟨g7,1,none⟩=some (.slice none 0 0):=(blk_cell BK7.out 1).trans rfl;have h72:w8.cell? ⟨g7,2,none⟩=some (.int .i64 0):=(blk_cell BK7.out 2).trans rfl;have f70:=blk_frozen BK7.out 0;have f71:=blk_frozen BK7.out 1;have f72:=blk_frozen BK7.out 2))
  have HO1:=Aside0.mk (R_far3 HO.out BK7.out (by decide) (.slice An 1 cn) (.slice none 0 0) (.int .i64 0))
  have BK41:=Aside0.mk (far3 BK4.out NB.out (.slice An 1 cn) (.slice none 0 0) (.int .i64 0))
  have BK71:=Aside0.mk (put3 BK7.out (.slice An 1 cn) (.slice none 0 0) (.int .i64 0))
  have HB1:=Aside0.mk (below3 HB.out GE7.out (.slice An 1 cn) (.slice none 0 0) (.int .i64 0))
  clear h70 h71 h72 f70 f71 f72 HO BK4 BK7 HB
  generalize (((w8.setCell ⟨g7,0,none⟩ (Value.slice An 1 cn)).setCell ⟨g7,1,none⟩ (Value.slice none 0 0)).setCell ⟨g7,2,none⟩ (Value.int IntKind.i64 0))=wl at HO1 BK41 BK71 HB1 ⊢
  go_loopg [22] l0.length (fun g v wx=>∃ (i:Nat) (acc:List Re) (n:Int) (u:Value),v=.int .i64 i∧i+g=l0.length∧Aside0 (toldF x (l0.drop i) acc n=(r2,r3))∧Aside0 (acc.length+sumR (l0.drop i)≤1000000000)∧Aside0 (Kd.R Kd.string 9 wx w.heap.size (fun _=>True) (.slice An 1 cn) [a1])∧Aside0 (Kd.R k93 93 wx w.heap.size (fun _=>True) u acc)∧Aside0 (wx.heap[g4]?=some (.cells #[.slice none 0 0,.slice none 0 0,.int .i64 0] 32 (0,0)))∧Aside0 (wx.heap[g7]?=some (.cells #[.slice An 1 cn,u,.int .i64 n] 32 (0,0)))∧Aside0 (Below w.heap.size w wx))
  case atStart=>exact ⟨0,[],0,.slice none 0 0,rfl,by omega,HT,⟨by rw [List.drop_zero,List.length_nil,Nat.zero_add];exact HS.out⟩,HO1,⟨Kd.R_nil _ _ _ _ _⟩,BK41,BK71,HB1⟩
  case round=>
   clear HO1 BK41 BK71 HB1 HT HS
   obtain ⟨i,acc,n,u,rfl,hig,HT,HS,HO,HU,BK4,BK7,HB⟩:=hrel
   cases gk with
   | zero=>
    obtain ⟨Au,cu,eu⟩:=Kd.R_slice HU.out
    subst eu
    obtain rfl:i=l0.length:=by omega
    have hlt:decide ((l0.length:Int) < (l0.length:Int))=false:=decide_eq_false (by omega)
    have ht:=HT.out
    rw [List.drop_length] at ht
    obtain ⟨rfl,rfl⟩:=Prod.mk.inj ht
    clear ht HT HS
    have h70:wr.cell? ⟨g7,0,none⟩=some (.slice An 1 cn):=(blk_cell BK7.out 0).trans rfl
    have fh70:=blk_frozen BK7.out 0
    have h71:wr.cell? ⟨g7,1,none⟩=some (.slice Au acc.length cu):=(blk_cell BK7.out 1).trans rfl
    have fh71:=blk_frozen BK7.out 1
    have h72:wr.cell? ⟨g7,2,none⟩=some (.int .i64 n):=(blk_cell BK7.out 2).trans rfl
    have fh72:=blk_frozen BK7.out 2
    have h40:wr.cell? ⟨g4,0,none⟩=some (.slice none 0 0):=(blk_cell BK4.out 0).trans rfl
    have fh40:=blk_frozen BK4.out 0
    have h41:wr.cell? ⟨g4,1,none⟩=some (.slice none 0 0):=(blk_cell BK4.out 1).trans rfl
    have fh41:=blk_frozen BK4.out 1
    have h42:wr.cell? ⟨g4,2,none⟩=some (.int .i64 0):=(blk_cell BK4.out 2).trans rfl
    have fh42:=blk_frozen BK4.out 2
    go_wp2
    refine bodyPost_ret (results_cell_row rfl _ _ g4 32 #[.slice An 1 cn,.slice Au acc.length cu,.int .i64 n] (0,0) _ rfl (put3 BK4.out (.slice An 1 cn) (.slice Au acc.length cu) (.int .i64 n)) Tryz.underlying32 rfl (by kernel_rfl)) rfl ?_
    exact ⟨_,_,rfl,R_far3 HO.out BK4.out (by decide) (.slice An 1 cn) (.slice Au acc.length cu) (.int .i64 n),R_far3 HU.out BK4.out (by decide) (.slice An 1 cn) (.slice Au acc.length cu) (.int .i64 n),below3 HB.out GE4.out (.slice An 1 cn) (.slice Au acc.length cu) (.int .i64 n)⟩
   | succ g=>
    have hi:i < l0.length:=by omega
    have hlt:decide ((i:Int) < (l0.length:Int))=true:=decide_eq_true (by omega)
    obtain ⟨ad,A1,c1,A2,c2,ea,hx0,hx1,hx2,hl1,hr1,hl2,hr2⟩:=at_T32 HR0.out (i:Int) (by omega) (by omega)
    subst ea
    replace hx0:=(HB.out.cell (World.block_lt_of_cell? w _ hx0)).trans hx0
    replace hx1:=(HB.out.cell (World.block_lt_of_cell? w _ hx1)).trans hx1
    replace hx2:=(HB.out.cell (World.block_lt_of_cell? w _ hx2)).trans hx2
    have p0:(0≤(i:Int))=True:=eq_true (by omega)
    have q0:((i:Int) < (l0.length:Int))=True:=eq_true (by omega)
    obtain ⟨p,hp⟩:∃ p,rd_T32 l0 (i:Int)=p:=⟨_,rfl⟩
    have hpi:p=l0[i]:=by
     rw [← hp]
     simp [rd_T32,List.getD,List.getElem?_eq_getElem hi]
    rw [hp] at hx0 hx1 hx2 hl1 hr1 hl2 hr2
    simp only [Int.toNat_natCast] at hx0 hx1 hx2
    have hd:l0.drop i=p :: l0.drop (i+1):=by rw [List.drop_eq_getElem_cons hi,hpi]
    have ht:=HT.out
    have hs:=HS.out
    rw [hd] at ht hs
    simp only [toldF] at ht
    simp only [sumR,List.map_cons,List.sum_cons] at hs
    have HT1:=Aside0.mk ht
    have HS1:=Aside0.mk (show acc.length+(p.f1.length+sumR (l0.drop (i+1)))≤1000000000 from hs)
    have HN1:=Aside0.mk (show p.f0.length≤9223372036854775807 from by have:=HN.out l0[i] (List.getElem_mem hi);rw [hpi];omega)
    have HR1:=Aside0.mk hr1
    have HR2:=Aside0.mk hr2
    clear hp hpi hr1 hr2 hl1 hl2 hd ht hs HT HS
    go_upto_region 9 with (first|((with_reducible refine gate_dst (N:=9) rfl ?_);refine box_event ?hg (N:=9) ?hd (cs:=#[.slice none 0 0,.slice none 0 0,.int .i64 0]) (t:=32) ?hr ?_;(case hd=>rfl);(case hg=>rfl);(case hr=>first|(go_simp;done)|(go_simp;rfl));intro g9 hg w9 hbox hb;have BK9:=Aside0.mk hbox;have N4:=Aside0.mk (show g4≠g9 from by rw [hg];exact Nat.ne_of_lt (blk_lt BK4.out));have N7:=Aside0.mk (show g7≠g9 from by rw [hg];exact Nat.ne_of_lt (blk_lt BK7.out));have GE9:=Aside0.mk (show w.heap.size≤g9 from by rw [hg];exact below_size HB.out);replace HO:=Aside0.mk (Kd.R_below HO.out hb);replace HU:=Aside0.mk (Kd.R_below HU.out hb);replace BK4:=Aside0.mk (blk_below BK4.out hb);replace BK7:=Aside0.mk (blk_below BK7.out hb);replace HB:=Aside0.mk (below_step HB.out hb);clear hb hg hbox;have h90:w9.cell? ⟨g9,0,none⟩=some (.slice none 0 0):=(blk_cell BK9.out 0).trans rfl;have f90:=blk_frozen BK9.out 0;have h91:w9.cell? ⟨g9,1,none⟩=some (.slice none 0 0):=(blk_cell BK9.out 1).trans rfl;have f91:=blk_frozen BK9.out 1;have h92:w9.cell? ⟨g9,2,none⟩=some (.int .i64 0):=(blk_cell BK9.out 2).trans rfl;have f92:=blk_frozen BK9.out 2))
    replace HO:=Aside0.mk (R_far3 HO.out BK9.out (by decide) (.slice A1 p.f0.length c1) (.slice A2 p.f1.length c2) (.int .i64 p.f2))
    replace HU:=Aside0.mk (R_far3 HU.out BK9.out (by decide) (.slice A1 p.f0.length c1) (.slice A2 p.f1.length c2) (.int .i64 p.f2))
    replace BK4:=Aside0.mk (far3 BK4.out N4.out (.slice A1 p.f0.length c1) (.slice A2 p.f1.length c2) (.int .i64 p.f2))
    replace BK7:=Aside0.mk (far3 BK7.out N7.out (.slice A1 p.f0.length c1) (.slice A2 p.f1.length c2) (.int .i64 p.f2))
    replace BK9:=Aside0.mk (put3 BK9.out (.slice A1 p.f0.length c1) (.slice A2 p.f1.length c2) (.int .i64 p.f2))
    replace HB:=Aside0.mk (below3 HB.out GE9.out (.slice A1 p.f0.length c1) (.slice A2 p.f1.length c2) (.int .i64 p.f2))
    clear h90 h91 h92 f90 f91 f92 hx0 hx1 hx2
    generalize (((w9.setCell ⟨g9,0,none⟩ (Value.slice A1 p.f0.length c1)).setCell ⟨g9,1,none⟩ (Value.slice A2 p.f1.length c2)).setCell ⟨g9,2,none⟩ (Value.int IntKind.i64 p.f2))=w10 at HO HU BK4 BK7 BK9 HB ⊢
    refine start_ (n:=5) (S:=fun w'=>w'.cell? ⟨g9,0,none⟩=some (.slice A1 p.f0.length c1)∧w'.cell? ⟨g9,1,none⟩=some (.slice A2 p.f1.length c2)∧w'.cell? ⟨g9,2,none⟩=some (.int .i64 p.f2)) (ds:=[]) #[false,false,false,false,false] (by kernel_rfl) rfl rfl ⟨(blk_cell BK9.out 0).trans rfl,(blk_cell BK9.out 1).trans rfl,(blk_cell BK9.out 2).trans rfl⟩ (fun hHeld=>?_)
    replace HO:=Aside0.mk (Kd.R_drew HO.out)
    replace HU:=Aside0.mk (Kd.R_drew HU.out)
    replace BK4:=Aside0.mk (blk_drew BK4.out)
    replace BK7:=Aside0.mk (blk_drew BK7.out)
    replace BK9:=Aside0.mk (blk_drew BK9.out)
    replace HB:=Aside0.mk (below_drew1 HB.out)
    generalize w10.drew=w11 at HO HU BK4 BK7 BK9 HB hHeld ⊢
    refine rgP 0 (some 26) #[true,false,false,false,false] ?_
    refine rgP 1 (some 27) #[true,true,false,false,false] ?_
    refine rgT3 3 (some 29) #[true,true,false,true,false] hHeld ?_
    refine one_ (i:=2) (N:=some 28) #[true,true,true,true,false] rfl rfl (by kernel_rfl) (by decide) (fun K hK=>?_)
    refine callv_ (f:=54) Tryz.func54 (by kernel_rfl) rfl #[.string x] (by rfl) rfl (.tmp 26) rfl rfl (by simp [Act.eval]) ?_
    refine (newHas_walk x _).mono ?_
    rintro e w12 ⟨B,hBs,rfl,hBc,hb⟩
    refine ⟨_,rfl,?_⟩
    replace HO:=Aside0.mk (Kd.R_below HO.out hb)
    replace HU:=Aside0.mk (Kd.R_below HU.out hb)
    replace BK4:=Aside0.mk (blk_below BK4.out hb)
    replace BK7:=Aside0.mk (blk_below BK7.out hb)
    replace BK9:=Aside0.mk (blk_below BK9.out hb)
    replace HB:=Aside0.mk (below_step HB.out hb)
    have HC:=Aside0.mk hBc
    clear hb hBc
    refine hK.out _ _ ⟨(blk_cell BK9.out 0).trans rfl,(blk_cell BK9.out 1).trans rfl,(blk_cell BK9.out 2).trans rfl⟩ (fun hHeld=>?_)
    clear hK K
    refine rgN 28 ?_
    refine one_ (i:=4) (N:=some 30) #[true,true,true,true,true] rfl rfl (by kernel_rfl) (by decide) (fun K hK=>?_)
    refine callv_ (f:=55) Tryz.func55 (by kernel_rfl) rfl #[.agg #[.slice A1 p.f0.length c1,.slice A2 p.f1.length c2,.int .i64 p.f2],.pointer (some ⟨B,0,none⟩)] (by rfl) rfl (.tmp 28) rfl rfl (by simp [Act.eval]) ?_
    refine (has_walk A1 c1 p.f0 A2 _ c2 _ B x _ (Kd.C_below HR1.out HB.out) HC.out HN1.out).mono ?_
    rintro e w13 ⟨rfl,hb⟩
    refine ⟨_,rfl,?_⟩
    replace HO:=Aside0.mk (Kd.R_below HO.out hb)
    replace HU:=Aside0.mk (Kd.R_below HU.out hb)
    replace BK4:=Aside0.mk (blk_below BK4.out hb)
    replace BK7:=Aside0.mk (blk_below BK7.out hb)
    replace BK9:=Aside0.mk (blk_below BK9.out hb)
    replace HB:=Aside0.mk (below_step HB.out hb)
    clear hb HC
    refine hK.out _ _ ⟨(blk_cell BK9.out 0).trans rfl,(blk_cell BK9.out 1).trans rfl,(blk_cell BK9.out 2).trans rfl⟩ (fun hHeld=>?_)
    clear hK K
    refine rgN 30 ?_
    refine done_ (by kernel_rfl) ?_
    clear hHeld HR1 HN1
    obtain ⟨q,hq⟩:∃ q,Lib.containsS p.f0 x=q:=⟨_,rfl⟩
    rw [hq]
    have ht:=HT1.out
    unfold hasN at ht
    rw [hq] at ht
    clear hq HT1
    cases q with
    | false=>
     rw [if_neg (by decide)] at ht
     have HT:=Aside0.mk ht
     clear ht
     go_wp2
     go_roundg g
     case measure=>omega
     case rel=>exact ⟨i+1,acc,n,_,by have hL:=HL.out;simp [wrap64];omega,by omega,HT,⟨by have:=HS1.out;omega⟩,HO,HU,BK4,BK7,HB⟩
    | true=>
     rw [if_pos rfl] at ht
     have hm:mx n p.f2=max n p.f2:=by unfold mx;omega
     rw [hm] at ht
     have HT:=Aside0.mk ht
     clear ht hm
     have h70:w13.cell? ⟨g7,0,none⟩=some (.slice An 1 cn):=(blk_cell BK7.out 0).trans rfl
     have f70:=blk_frozen BK7.out 0
     have h71:w13.cell? ⟨g7,1,none⟩=some u:=(blk_cell BK7.out 1).trans rfl
     have f71:=blk_frozen BK7.out 1
     have h72:w13.cell? ⟨g7,2,none⟩=some (.int .i64 n):=(blk_cell BK7.out 2).trans rfl
     have f72:=blk_frozen BK7.out 2
     have h90:w13.cell? ⟨g9,0,none⟩=some (.slice A1 p.f0.length c1):=(blk_cell BK9.out 0).trans rfl
     have f90:=blk_frozen BK9.out 0
     have h91:w13.cell? ⟨g9,1,none⟩=some (.slice A2 p.f1.length c2):=(blk_cell BK9.out 1).trans rfl
     have f91:=blk_frozen BK9.out 1
     have h92:w13.cell? ⟨g9,2,none⟩=some (.int .i64 p.f2):=(blk_cell BK9.out 2).trans rfl
     have f92:=blk_frozen BK9.out 2
     go_wp2_with (first|((with_reducible refine gate_builtin (b:=.append) (xs:=#[.tmp 32,.tmp 34]) rfl ?_);(try (refine gate_guard (by rfl) ?_;dsimp only));at_builtin;refine Kd.R_append_rows k93 (w0:=w) w.heap.size rfl (.tmp 32) (.tmp 34) 30 93 (.agg #[(.bool false),(.string ⟨#[]⟩)]) 24 rfl Tryz.underlying30 info93 rfl (by decide) (by omega) u acc p.f1 _ _ _ (fun _=>True) (fun _=>False) rfl rfl ?aO ?aR (fun _ _ h=>h) (fun _ h=>h.elim) ?aF ?aB ?aS ?aL ?_;(case aR=>exact (Kd.C_below HR2.out HB.out));(case aB=>exact HB.out);(case aF=>exact (fun _ _=>trivial));(case aO=>exact HU.out);(case aS=>exact below_size HB.out);(case aL=>have:=HS1.out;omega);intro vv w14 ho hb hg hat;replace HO:=Aside0.mk (Kd.R_over' HO.out (Kd.R_typed HU.out) (by decide) hg);replace BK4:=Aside0.mk (blk_grown BK4.out hg (Kd.R_ne HU.out BK4.out (by decide)));replace BK7:=Aside0.mk (blk_grown BK7.out hg (Kd.R_ne HU.out BK7.out (by decide)));replace BK9:=Aside0.mk (blk_grown BK9.out hg (Kd.R_ne HU.out BK9.out (by decide)));replace HB:=Aside0.mk hb;replace HU:=Aside0.mk ho;clear ho hb hg hat h70 h71 h72 f70 f71 f72 h90 h91 h92 f90 f91 f92;obtain ⟨Av,cv,ev⟩:=Kd.R_slice HU.out;subst ev;have h70:w14.cell? ⟨g7,0,none⟩=some (.slice An 1 cn):=(blk_cell BK7.out 0).trans rfl;have f70:=blk_frozen BK7.out 0;have h71:w14.cell? ⟨g7,1,none⟩=some u:=(blk_cell BK7.out 1).trans rfl;have f71:=blk_frozen BK7.out 1;have h72:w14.cell? ⟨g7,2,none⟩=some (.int .i64 n):=(blk_cell BK7.out 2).trans rfl;have f72:=blk_frozen BK7.out 2;have h90:w14.cell? ⟨g9,0,none⟩=some (.slice A1 p.f0.length c1):=(blk_cell BK9.out 0).trans rfl;have f90:=blk_frozen BK9.out 0;have h91:w14.cell? ⟨g9,1,none⟩=some (.slice A2 p.f1.length c2):=(blk_cell BK9.out 1).trans rfl;have f91:=blk_frozen BK9.out 1;have h92:w14.cell? ⟨g9,2,none⟩=some (.int .i64 p.f2):=(blk_cell BK9.out 2).trans rfl;have f92:=blk_frozen BK9.out 2))
     go_roundg g
     case measure=>omega
     case rel=>exact ⟨i+1,acc++p.f1,max n p.f2,_,by have hL:=HL.out;simp [wrap64];omega,by omega,HT,⟨by have:=HS1.out;rw [List.length_append];omega⟩,⟨R_far2 HO.out BK7.out (by decide) _ _⟩,⟨R_far2 HU.out BK7.out (by decide) _ _⟩,⟨far2 BK4.out NB.out _ _⟩,⟨by rw [List.length_append];exact put2 BK7.out _ _⟩,⟨below2 HB.out GE7.out _ _⟩⟩
end Go.Proofs.YtloijngehifbmaaGreatDoor.P
end
section
namespace Go.Proofs.YtloijngehifbmaaGreatDoor.P
open Go.RowKit Go.Proofs.YtloijngehifbmaaGreatDoorW.PrintWords Go.Proofs.YtloijngehifbmaaGreatDoorW.PrintLast Go.Proofs.YtloijngehifbmaaGreatDoorW.PrintMore Go.Maps Go.ChangeMaps
set_option linter.unusedVariables false
set_option linter.unusedSimpArgs false
abbrev SP:=S57
set_option maxRecDepth 100000 in
theorem atLast_walk (b n:Nat) (l:List SP) (a:ByteArray) (w:World) (ha:a.size≤9223372036854775807) (hm:Pages w b n (mapD l)) :
  Calls Tryz.prog 77 #[.map (some b),.string a] w fun e w'=>e=.returned (.tuple #[.int .i64 (getF l a 2).1,.string (getF l a 2).2])∧Below w.heap.size w w':=by
 obtain ⟨q,hq⟩:∃ q,getF l a 2=q:=⟨_,rfl⟩
 rw [hq]
 go_enter Tryz.func77,Tryz.ntmps77
 go_wp2_with (first|(go_at_call 53;refine (get_walk b n l a 2 _ ha hm).mono ?_;rintro e w1 ⟨rfl,hb⟩;rw [hq];have HB:=Aside0.mk hb;clear hb))
 go_ret2
 exact ⟨rfl,HB.out⟩
def barredF (a1:ByteArray):List ByteArray×List Re×Int:=([a1],[⟨false,⟨#[47]⟩⟩],0)
def sayF (k:Nat) (q:Int×ByteArray) (a1:ByteArray):Option (List ByteArray×List Re×Int):=
 if q.1=1 then (impl_NoticeRead.f k q.2).bind fun n=>impl_NoticeFor.f k n a1 else if q.1=3 then some (barredF a1) else impl_NoticeFor.f k [] a1
def saidF (k:Nat) (l:List SP) (a0 a1:ByteArray):Option (List ByteArray×List Re×Int):=
 (impl_noticeAddr.f a0).bind fun ad=>if ad.size≤9223372036854775807 then sayF k (getF l ad 2) a1 else none
set_option maxHeartbeats 4000000 in
set_option maxRecDepth 100000 in
theorem notice_walk (k:Nat) (b n:Nat) (l:List SP) (a0 a1:ByteArray) (r1:List ByteArray) (r2:List Re) (r3:Int) (w:World) (hm:Pages w b n (mapD l)) (h:saidF k l a0 a1=some (r1,r2,r3)) :
  Calls Tryz.prog 39 #[.map (some b),.string a0,.string a1] w fun e w'=>∃ v0_ v1_:Value,e=.returned (.agg #[v0_,v1_,.int .i64 r3])∧Kd.R Kd.string 9 w' w.heap.size (fun _=>True) v0_ r1∧Kd.R k93 93 w' w.heap.size (fun _=>True) v1_ r2∧Below w.heap.size w w':=by
 have HB:=Aside0.mk (Below.refl w.heap.size w)
 unfold saidF at h
 obtain ⟨ad,hA,h2⟩:=Option.bind_eq_some_iff.mp h
 split at h2
 case isFalse=>cases h2
 rename_i hS
 obtain ⟨⟨q,tx⟩,hq⟩:∃ q,getF l ad 2=q:=⟨_,rfl⟩
 rw [hq] at h2
 have HA:=Aside0.mk hA
 have HS:=Aside0.mk hS
 have HQ:=Aside0.mk hq
 have HM:=Aside0.mk hm
 clear h hA hS hq hm
 unfold sayF at h2
 simp only at h2
 by_cases c1:q=1
 ·subst c1
  rw [if_pos rfl] at h2
  obtain ⟨gs,hR,h3⟩:=Option.bind_eq_some_iff.mp h2
  have HR:=Aside0.mk hR
  have HF:=Aside0.mk h3
  clear h2 h3 hR
  go_enter Tryz.func39,Tryz.ntmps39
  go_wp2_with (first|((with_reducible refine gate_dst (N:=6) rfl ?_);refine box_event ?hg (N:=6) ?hd (cs:=#[.slice none 0 0,.slice none 0 0,.int .i64 0]) (t:=32) ?hr ?_;(case hd=>rfl);(case hg=>rfl);(case hr=>first|(go_simp;done)|(go_simp;rfl));intro g6 hg w6 hbox hb;have BK:=Aside0.mk hbox;have GE:=Aside0.mk (show w.heap.size≤g6 from by rw [hg];exact below_size HB.out);replace HB:=Aside0.mk (below_step HB.out hb);replace HM:=Aside0.mk (map_below HM.out hb);clear hb hg hbox)|(go_at_call 78;refine (impl_noticeAddr.calls a0 ad _ HA.out).mono ?_;rintro e w1 ⟨rfl,hd⟩;have hb:=hd.below;replace BK:=Aside0.mk (blk_below BK.out hb);replace HB:=Aside0.mk (below_step HB.out hb);replace HM:=Aside0.mk (map_below HM.out hb);clear hb hd)|(go_at_call 77;refine (atLast_walk b n l ad _ HS.out HM.out).mono ?_;rintro e w2 ⟨rfl,hb⟩;rw [HQ.out];replace BK:=Aside0.mk (blk_below BK.out hb);replace HB:=Aside0.mk (below_step HB.out hb);  clear hb)|(go_at_call 21;refine (impl_NoticeRead.calls k tx gs _ HR.out).mono ?_;rintro e w3 ⟨v3,rfl,ho,hb⟩;replace BK:=Aside0.mk (blk_below BK.out hb);replace HB:=Aside0.mk (below_step HB.out hb);have HO:=Aside0.mk (Kd.S_N ho);clear ho hb;obtain ⟨Ag,cg,eg⟩:=Kd.N_slice HO.out;subst eg)|(go_at_call 20;refine (impl_NoticeFor.calls k Ag _ gs a1 r1 r2 r3 _ (Kd.N_reads' HO.out).2.2 (Kd.N_reads' HO.out).2.1 HF.out).mono ?_;rintro e w4 ⟨v0,v1,rfl,ho0,ho1,hb⟩;have H0:=Aside0.mk (Kd.R_lower ho0 (below_size HB.out));have H1:=Aside0.mk (Kd.R_lower ho1 (below_size HB.out));replace BK:=Aside0.mk (blk_below BK.out hb);replace HB:=Aside0.mk (below_step HB.out hb);clear ho0 ho1 hb;obtain ⟨Aa,ca,ea⟩:=Kd.R_slice H0.out;subst ea;obtain ⟨Ab,cb,eb⟩:=Kd.R_slice H1.out;subst eb;have h60:w4.cell? ⟨g6,0,none⟩=some (.slice none 0 0):=(blk_cell BK.out 0).trans rfl;have f60:=blk_frozen BK.out 0;have h61:w4.cell? ⟨g6,1,none⟩=some (.slice none 0 0):=(blk_cell BK.out 1).trans rfl;have f61:=blk_frozen BK.out 1;have h62:w4.cell? ⟨g6,2,none⟩=some (.int .i64 0):=(blk_cell BK.out 2).trans rfl;have f62:=blk_frozen BK.out 2;(skip)))
  refine bodyPost_ret (results_cell_row rfl _ _ g6 32 #[.slice Aa r1.length ca,.slice Ab r2.length cb,.int .i64 r3] (0,0) _ rfl (put3 BK.out (.slice Aa r1.length ca) (.slice Ab r2.length cb) (.int .i64 r3)) Tryz.underlying32 rfl (by kernel_rfl)) rfl ?_
  exact ⟨_,_,rfl,R_far3 H0.out BK.out (by decide) (.slice Aa r1.length ca) (.slice Ab r2.length cb) (.int .i64 r3),R_far3 H1.out BK.out (by decide) (.slice Aa r1.length ca) (.slice Ab r2.length cb) (.int .i64 r3),below3 HB.out GE.out (.slice Aa r1.length ca) (.slice Ab r2.length cb) (.int .i64 r3)⟩
 ·rw [if_neg c1] at h2
  have d1:(q == 1)=false:=beq_eq_false_iff_ne.mpr c1
  have d1':decide (q=1)=false:=decide_eq_false c1
  by_cases c3:q=3
  ·subst c3
   rw [if_pos rfl] at h2
   obtain ⟨rfl,h3⟩:=Prod.mk.inj (Option.some.inj h2)
   obtain ⟨rfl,rfl⟩:=Prod.mk.inj h3
   clear h2 h3 c1
   go_enter Tryz.func39,Tryz.ntmps39
   go_wp2_with (first|((with_reducible refine gate_dst (N:=6) rfl ?_);refine box_event ?hg (N:=6) ?hd (cs:=#[.slice none 0 0,.slice none 0 0,.int .i64 0]) (t:=32) ?hr ?_;(case hd=>rfl);(case hg=>rfl);(case hr=>first|(go_simp;done)|(go_simp;rfl));intro g6 hg w6 hbox hb;have BK:=Aside0.mk hbox;have GE:=Aside0.mk (show w.heap.size≤g6 from by rw [hg];exact below_size HB.out);replace HB:=Aside0.mk (below_step HB.out hb);replace HM:=Aside0.mk (map_below HM.out hb);clear hb hg hbox)|(go_at_call 78;refine (impl_noticeAddr.calls a0 ad _ HA.out).mono ?_;rintro e w1 ⟨rfl,hd⟩;have hb:=hd.below;replace BK:=Aside0.mk (blk_below BK.out hb);replace HB:=Aside0.mk (below_step HB.out hb);replace HM:=Aside0.mk (map_below HM.out hb);clear hb hd)|(go_at_call 77;refine (atLast_walk b n l ad _ HS.out HM.out).mono ?_;rintro e w2 ⟨rfl,hb⟩;rw [HQ.out];replace BK:=Aside0.mk (blk_below BK.out hb);replace HB:=Aside0.mk (below_step HB.out hb);  clear hb)|((with_reducible refine gate_dst (N:=26) rfl ?_);refine Kd.R_lit Kd.string _ 9 ?hg (N:=26) ?hd (xs:=([a1]:List ByteArray)) (inner:=[.string a1]) (ok:=fun _=>True) (okp:=fun _=>True) ?hr ?hp (fun _ hk=>hk) trivial (Below.refl _ _) (Nat.le_refl _) (by simp) ?_;(case hd=>rfl);(case hg=>rfl);(case hr=>first|(go_simp;done)|(go_simp;rfl));(case hp=>exact (Reps.one (show Kd.M Kd.string _ _ _ a1 [.string a1] from rfl) (Reps.none _ _)));intro v26 w7 ho hb hg_ hnew_;clear hg_ hnew_;have H0:=Aside0.mk (Kd.R_lower ho (below_size HB.out));replace BK:=Aside0.mk (blk_below BK.out hb);replace HB:=Aside0.mk (below_step HB.out hb);clear hb ho;obtain ⟨Aa,ca,ea⟩:=Kd.R_slice H0.out;subst ea)|((with_reducible refine gate_dst (N:=28) rfl ?_);refine Kd.R_lit k93 _ 93 ?hg (N:=28) ?hd (xs:=([⟨false,⟨#[47]⟩⟩]:List Re)) (inner:=[.bool false,.string ⟨#[47]⟩]) (ok:=fun _=>True) (okp:=fun _=>True) ?hr ?hp (fun _ hk=>hk) trivial (Below.refl _ _) (Nat.le_refl _) (by simp) ?_;(case hd=>rfl);(case hg=>rfl);(case hr=>first|(go_simp;done)|(go_simp;rfl));(case hp=>exact (Reps.c2 (show Kd.M k93 _ _ _ (⟨false,(⟨#[47]⟩:ByteArray)⟩:Re) [.bool false,.string (⟨#[47]⟩:ByteArray)] from (k93_mkM _ _ _ (⟨false,(⟨#[47]⟩:ByteArray)⟩:Re))) (Reps.none _ _)));intro v28 w8 ho hb hg_ hnew_;clear hg_ hnew_;have H1:=Aside0.mk (Kd.R_lower ho (below_size HB.out));replace H0:=Aside0.mk (Kd.R_below H0.out hb);replace BK:=Aside0.mk (blk_below BK.out hb);replace HB:=Aside0.mk (below_step HB.out hb);clear hb ho;obtain ⟨Ab,cb,eb⟩:=Kd.R_slice H1.out;subst eb;have h60:w8.cell? ⟨g6,0,none⟩=some (.slice none 0 0):=(blk_cell BK.out 0).trans rfl;have f60:=blk_frozen BK.out 0;have h61:w8.cell? ⟨g6,1,none⟩=some (.slice none 0 0):=(blk_cell BK.out 1).trans rfl;have f61:=blk_frozen BK.out 1;have h62:w8.cell? ⟨g6,2,none⟩=some (.int .i64 0):=(blk_cell BK.out 2).trans rfl;have f62:=blk_frozen BK.out 2;(skip)))
   refine bodyPost_ret (results_cell_row rfl _ _ g6 32 #[.slice Aa 1 ca,.slice Ab 1 cb,.int .i64 0] (0,0) _ rfl (put3 BK.out (.slice Aa 1 ca) (.slice Ab 1 cb) (.int .i64 0)) Tryz.underlying32 rfl (by kernel_rfl)) rfl ?_
   exact ⟨_,_,rfl,R_far3 H0.out BK.out (by decide) (.slice Aa 1 ca) (.slice Ab 1 cb) (.int .i64 0),R_far3 H1.out BK.out (by decide) (.slice Aa 1 ca) (.slice Ab 1 cb) (.int .i64 0),below3 HB.out GE.out (.slice Aa 1 ca) (.slice Ab 1 cb) (.int .i64 0)⟩
  ·rw [if_neg c3] at h2
   have d3:(q == 3)=false:=beq_eq_false_iff_ne.mpr c3
   have d3':decide (q=3)=false:=decide_eq_false c3
   have HF:=Aside0.mk h2
   clear h2 c1 c3
   go_enter Tryz.func39,Tryz.ntmps39
   go_wp2_with (first|((with_reducible refine gate_dst (N:=6) rfl ?_);refine box_event ?hg (N:=6) ?hd (cs:=#[.slice none 0 0,.slice none 0 0,.int .i64 0]) (t:=32) ?hr ?_;(case hd=>rfl);(case hg=>rfl);(case hr=>first|(go_simp;done)|(go_simp;rfl));intro g6 hg w6 hbox hb;have BK:=Aside0.mk hbox;have GE:=Aside0.mk (show w.heap.size≤g6 from by rw [hg];exact below_size HB.out);replace HB:=Aside0.mk (below_step HB.out hb);replace HM:=Aside0.mk (map_below HM.out hb);clear hb hg hbox)|(go_at_call 78;refine (impl_noticeAddr.calls a0 ad _ HA.out).mono ?_;rintro e w1 ⟨rfl,hd⟩;have hb:=hd.below;replace BK:=Aside0.mk (blk_below BK.out hb);replace HB:=Aside0.mk (below_step HB.out hb);replace HM:=Aside0.mk (map_below HM.out hb);clear hb hd)|(go_at_call 77;refine (atLast_walk b n l ad _ HS.out HM.out).mono ?_;rintro e w2 ⟨rfl,hb⟩;rw [HQ.out];replace BK:=Aside0.mk (blk_below BK.out hb);replace HB:=Aside0.mk (below_step HB.out hb);  clear hb)|(go_at_call 20;refine (impl_NoticeFor.calls k none _ [] a1 r1 r2 r3 _ (Kd.C_nil _ _) (Nat.zero_le _) HF.out).mono ?_;rintro e w4 ⟨v0,v1,rfl,ho0,ho1,hb⟩;have H0:=Aside0.mk (Kd.R_lower ho0 (below_size HB.out));have H1:=Aside0.mk (Kd.R_lower ho1 (below_size HB.out));replace BK:=Aside0.mk (blk_below BK.out hb);replace HB:=Aside0.mk (below_step HB.out hb);clear ho0 ho1 hb;obtain ⟨Aa,ca,ea⟩:=Kd.R_slice H0.out;subst ea;obtain ⟨Ab,cb,eb⟩:=Kd.R_slice H1.out;subst eb;have h60:w4.cell? ⟨g6,0,none⟩=some (.slice none 0 0):=(blk_cell BK.out 0).trans rfl;have f60:=blk_frozen BK.out 0;have h61:w4.cell? ⟨g6,1,none⟩=some (.slice none 0 0):=(blk_cell BK.out 1).trans rfl;have f61:=blk_frozen BK.out 1;have h62:w4.cell? ⟨g6,2,none⟩=some (.int .i64 0):=(blk_cell BK.out 2).trans rfl;have f62:=blk_frozen BK.out 2;(skip)))
   refine bodyPost_ret (results_cell_row rfl _ _ g6 32 #[.slice Aa r1.length ca,.slice Ab r2.length cb,.int .i64 r3] (0,0) _ rfl (put3 BK.out (.slice Aa r1.length ca) (.slice Ab r2.length cb) (.int .i64 r3)) Tryz.underlying32 rfl (by kernel_rfl)) rfl ?_
   exact ⟨_,_,rfl,R_far3 H0.out BK.out (by decide) (.slice Aa r1.length ca) (.slice Ab r2.length cb) (.int .i64 r3),R_far3 H1.out BK.out (by decide) (.slice Aa r1.length ca) (.slice Ab r2.length cb) (.int .i64 r3),below3 HB.out GE.out (.slice Aa r1.length ca) (.slice Ab r2.length cb) (.int .i64 r3)⟩
def impl_WorldNotice.f (k:Nat) (l0:List SP) (a1 a2:ByteArray):Option (List ByteArray×List Re×Int):=
 (impl_worldOf.f k l0).bind fun t=>if t=true then (if ((Maps.size (mapD l0):Int) == (l0.length:Int))=true then (impl_isHouse.f k a1).bind fun h=>if h=true then (impl_isName.f k a2).bind fun nm=>if nm=true then saidF k l0 a1 a2 else some ([],[],0) else some ([],[],0) else some ([],[],0)) else some ([],[],0)
set_option maxHeartbeats 4000000 in
set_option maxRecDepth 100000 in
theorem impl_WorldNotice.calls (k:Nat) (A0:Option Addr) (c0:Nat) (l0:List (SP)) (a1 a2:ByteArray) (r1:List ByteArray) (r2:List Re) (r3:Int) (w:World) (hr0:Kd.C k57 w A0 l0.length l0) (hc0:l0.length≤c0) (h:impl_WorldNotice.f k l0 a1 a2=some (r1,r2,r3)) :
  Calls Tryz.prog 12 #[.slice A0 l0.length c0,.string a1,.string a2] w fun e w'=>∃ v0_ v1_:Value,e=.returned (.agg #[v0_,v1_,.int .i64 r3])∧Kd.R Kd.string 9 w' w.heap.size (fun _=>True) v0_ r1∧Kd.R k93 93 w' w.heap.size (fun _=>True) v1_ r2∧Below w.heap.size w w':=by
 have HB:=Aside0.mk (Below.refl w.heap.size w)
 unfold impl_WorldNotice.f at h
 obtain ⟨t,A,H⟩:=Option.bind_eq_some_iff.mp h
 have AW:=Aside0.mk A
 clear h A
 cases t with
 | false=>
  rw [if_neg (by decide)] at H
  obtain ⟨rfl,H4⟩:=Prod.mk.inj (Option.some.inj H)
  obtain ⟨rfl,rfl⟩:=Prod.mk.inj H4
  clear H H4
  go_enter Tryz.func12,Tryz.ntmps12
  go_wp2_with (first|((with_reducible refine gate_dst (N:=6) rfl ?_);refine box_event ?hg (N:=6) ?hd (cs:=#[.slice none 0 0,.slice none 0 0,.int .i64 0]) (t:=32) ?hr ?_;(case hd=>rfl);(case hg=>rfl);(case hr=>first|(go_simp;done)|(go_simp;rfl));intro g6 hg w6 hbox hb;have BK:=Aside0.mk hbox;have GE:=Aside0.mk (show w.heap.size≤g6 from by rw [hg];exact below_size HB.out);replace HB:=Aside0.mk (below_step HB.out hb);clear hb hg hbox)|(go_at_call 29;refine (impl_worldOf.calls k A0 c0 l0 false _ (Kd.C_below hr0 HB.out) hc0 AW.out).mono ?_;rintro e w1 ⟨hb,h0,h1⟩;obtain rfl:=h0 rfl;clear h0 h1;replace BK:=Aside0.mk (blk_below BK.out hb);replace HB:=Aside0.mk (below_step HB.out hb);  clear hb;have h60:w1.cell? ⟨g6,0,none⟩=some (.slice none 0 0):=(blk_cell BK.out 0).trans rfl;have f60:=blk_frozen BK.out 0;have h61:w1.cell? ⟨g6,1,none⟩=some (.slice none 0 0):=(blk_cell BK.out 1).trans rfl;have f61:=blk_frozen BK.out 1;have h62:w1.cell? ⟨g6,2,none⟩=some (.int .i64 0):=(blk_cell BK.out 2).trans rfl;have f62:=blk_frozen BK.out 2;(skip)))
  refine bodyPost_ret (results_cell_row rfl _ _ g6 32 #[.slice none 0 0,.slice none 0 0,.int .i64 0] (0,0) _ rfl (put3 BK.out (.slice none 0 0) (.slice none 0 0) (.int .i64 0)) Tryz.underlying32 rfl (by kernel_rfl)) rfl ?_
  exact ⟨_,_,rfl,Kd.R_nil _ _ _ _ _,Kd.R_nil _ _ _ _ _,below3 HB.out GE.out (.slice none 0 0) (.slice none 0 0) (.int .i64 0)⟩
 | true=>
  rw [if_pos rfl] at H
  obtain ⟨q,hq⟩:∃ q,((Maps.size (mapD l0):Int) == (l0.length:Int))=q:=⟨_,rfl⟩
  rw [hq] at H
  have HQ:=Aside0.mk hq
  clear hq
  cases q with
  | false=>
   rw [if_neg (by decide)] at H
   obtain ⟨rfl,H4⟩:=Prod.mk.inj (Option.some.inj H)
   obtain ⟨rfl,rfl⟩:=Prod.mk.inj H4
   clear H H4
   go_enter Tryz.func12,Tryz.ntmps12
   go_wp2_with (first|((with_reducible refine gate_dst (N:=6) rfl ?_);refine box_event ?hg (N:=6) ?hd (cs:=#[.slice none 0 0,.slice none 0 0,.int .i64 0]) (t:=32) ?hr ?_;(case hd=>rfl);(case hg=>rfl);(case hr=>first|(go_simp;done)|(go_simp;rfl));intro g6 hg w6 hbox hb;have BK:=Aside0.mk hbox;have GE:=Aside0.mk (show w.heap.size≤g6 from by rw [hg];exact below_size HB.out);replace HB:=Aside0.mk (below_step HB.out hb);clear hb hg hbox)|(go_at_call 29;refine (impl_worldOf.calls k A0 c0 l0 true _ (Kd.C_below hr0 HB.out) hc0 AW.out).mono ?_;rintro e w1 ⟨hb,h0,h1⟩;obtain ⟨b,_,hM,rfl⟩:=h1 rfl;rw [HQ.out];have HM:=Aside0.mk hM;clear hM;clear h0 h1;replace BK:=Aside0.mk (blk_below BK.out hb);replace HB:=Aside0.mk (below_step HB.out hb);  clear hb;have h60:w1.cell? ⟨g6,0,none⟩=some (.slice none 0 0):=(blk_cell BK.out 0).trans rfl;have f60:=blk_frozen BK.out 0;have h61:w1.cell? ⟨g6,1,none⟩=some (.slice none 0 0):=(blk_cell BK.out 1).trans rfl;have f61:=blk_frozen BK.out 1;have h62:w1.cell? ⟨g6,2,none⟩=some (.int .i64 0):=(blk_cell BK.out 2).trans rfl;have f62:=blk_frozen BK.out 2;(skip)))
   refine bodyPost_ret (results_cell_row rfl _ _ g6 32 #[.slice none 0 0,.slice none 0 0,.int .i64 0] (0,0) _ rfl (put3 BK.out (.slice none 0 0) (.slice none 0 0) (.int .i64 0)) Tryz.underlying32 rfl (by kernel_rfl)) rfl ?_
   exact ⟨_,_,rfl,Kd.R_nil _ _ _ _ _,Kd.R_nil _ _ _ _ _,below3 HB.out GE.out (.slice none 0 0) (.slice none 0 0) (.int .i64 0)⟩
  | true=>
   rw [if_pos rfl] at H
   obtain ⟨hh,A,H⟩:=Option.bind_eq_some_iff.mp H
   rename_i H_
   clear H_
   have AH:=Aside0.mk A
   clear A
   cases hh with
   | false=>
    rw [if_neg (by decide)] at H
    obtain ⟨rfl,H4⟩:=Prod.mk.inj (Option.some.inj H)
    obtain ⟨rfl,rfl⟩:=Prod.mk.inj H4
    clear H H4
    go_enter Tryz.func12,Tryz.ntmps12
    go_wp2_with (first|((with_reducible refine gate_dst (N:=6) rfl ?_);refine box_event ?hg (N:=6) ?hd (cs:=#[.slice none 0 0,.slice none 0 0,.int .i64 0]) (t:=32) ?hr ?_;(case hd=>rfl);(case hg=>rfl);(case hr=>first|(go_simp;done)|(go_simp;rfl));intro g6 hg w6 hbox hb;have BK:=Aside0.mk hbox;have GE:=Aside0.mk (show w.heap.size≤g6 from by rw [hg];exact below_size HB.out);replace HB:=Aside0.mk (below_step HB.out hb);clear hb hg hbox)|(go_at_call 29;refine (impl_worldOf.calls k A0 c0 l0 true _ (Kd.C_below hr0 HB.out) hc0 AW.out).mono ?_;rintro e w1 ⟨hb,h0,h1⟩;obtain ⟨b,_,hM,rfl⟩:=h1 rfl;rw [HQ.out];have HM:=Aside0.mk hM;clear hM;clear h0 h1;replace BK:=Aside0.mk (blk_below BK.out hb);replace HB:=Aside0.mk (below_step HB.out hb);  clear hb;have h60:w1.cell? ⟨g6,0,none⟩=some (.slice none 0 0):=(blk_cell BK.out 0).trans rfl;have f60:=blk_frozen BK.out 0;have h61:w1.cell? ⟨g6,1,none⟩=some (.slice none 0 0):=(blk_cell BK.out 1).trans rfl;have f61:=blk_frozen BK.out 1;have h62:w1.cell? ⟨g6,2,none⟩=some (.int .i64 0):=(blk_cell BK.out 2).trans rfl;have f62:=blk_frozen BK.out 2;(skip))|(go_at_call 38;refine (impl_isHouse.calls k a1 false _ AH.out).mono ?_;rintro e w2 ⟨rfl,hd⟩;have hb:=hd.below;clear hd;replace BK:=Aside0.mk (blk_below BK.out hb);replace HB:=Aside0.mk (below_step HB.out hb);replace HM:=Aside0.mk (map_below HM.out hb);clear hb h60 h61 h62 f60 f61 f62;have h60:w2.cell? ⟨g6,0,none⟩=some (.slice none 0 0):=(blk_cell BK.out 0).trans rfl;have f60:=blk_frozen BK.out 0;have h61:w2.cell? ⟨g6,1,none⟩=some (.slice none 0 0):=(blk_cell BK.out 1).trans rfl;have f61:=blk_frozen BK.out 1;have h62:w2.cell? ⟨g6,2,none⟩=some (.int .i64 0):=(blk_cell BK.out 2).trans rfl;have f62:=blk_frozen BK.out 2;(skip)))
    refine bodyPost_ret (results_cell_row rfl _ _ g6 32 #[.slice none 0 0,.slice none 0 0,.int .i64 0] (0,0) _ rfl (put3 BK.out (.slice none 0 0) (.slice none 0 0) (.int .i64 0)) Tryz.underlying32 rfl (by kernel_rfl)) rfl ?_
    exact ⟨_,_,rfl,Kd.R_nil _ _ _ _ _,Kd.R_nil _ _ _ _ _,below3 HB.out GE.out (.slice none 0 0) (.slice none 0 0) (.int .i64 0)⟩
   | true=>
    rw [if_pos rfl] at H
    obtain ⟨nm,A,H⟩:=Option.bind_eq_some_iff.mp H
    rename_i H_
    clear H_
    have AN:=Aside0.mk A
    clear A
    cases nm with
    | false=>
     rw [if_neg (by decide)] at H
     obtain ⟨rfl,H4⟩:=Prod.mk.inj (Option.some.inj H)
     obtain ⟨rfl,rfl⟩:=Prod.mk.inj H4
     clear H H4
     go_enter Tryz.func12,Tryz.ntmps12
     go_wp2_with (first|((with_reducible refine gate_dst (N:=6) rfl ?_);refine box_event ?hg (N:=6) ?hd (cs:=#[.slice none 0 0,.slice none 0 0,.int .i64 0]) (t:=32) ?hr ?_;(case hd=>rfl);(case hg=>rfl);(case hr=>first|(go_simp;done)|(go_simp;rfl));intro g6 hg w6 hbox hb;have BK:=Aside0.mk hbox;have GE:=Aside0.mk (show w.heap.size≤g6 from by rw [hg];exact below_size HB.out);replace HB:=Aside0.mk (below_step HB.out hb);clear hb hg hbox)|(go_at_call 29;refine (impl_worldOf.calls k A0 c0 l0 true _ (Kd.C_below hr0 HB.out) hc0 AW.out).mono ?_;rintro e w1 ⟨hb,h0,h1⟩;obtain ⟨b,_,hM,rfl⟩:=h1 rfl;rw [HQ.out];have HM:=Aside0.mk hM;clear hM;clear h0 h1;replace BK:=Aside0.mk (blk_below BK.out hb);replace HB:=Aside0.mk (below_step HB.out hb);  clear hb;have h60:w1.cell? ⟨g6,0,none⟩=some (.slice none 0 0):=(blk_cell BK.out 0).trans rfl;have f60:=blk_frozen BK.out 0;have h61:w1.cell? ⟨g6,1,none⟩=some (.slice none 0 0):=(blk_cell BK.out 1).trans rfl;have f61:=blk_frozen BK.out 1;have h62:w1.cell? ⟨g6,2,none⟩=some (.int .i64 0):=(blk_cell BK.out 2).trans rfl;have f62:=blk_frozen BK.out 2;(skip))|(go_at_call 38;refine (impl_isHouse.calls k a1 true _ AH.out).mono ?_;rintro e w2 ⟨rfl,hd⟩;have hb:=hd.below;clear hd;replace BK:=Aside0.mk (blk_below BK.out hb);replace HB:=Aside0.mk (below_step HB.out hb);replace HM:=Aside0.mk (map_below HM.out hb);clear hb h60 h61 h62 f60 f61 f62;have h60:w2.cell? ⟨g6,0,none⟩=some (.slice none 0 0):=(blk_cell BK.out 0).trans rfl;have f60:=blk_frozen BK.out 0;have h61:w2.cell? ⟨g6,1,none⟩=some (.slice none 0 0):=(blk_cell BK.out 1).trans rfl;have f61:=blk_frozen BK.out 1;have h62:w2.cell? ⟨g6,2,none⟩=some (.int .i64 0):=(blk_cell BK.out 2).trans rfl;have f62:=blk_frozen BK.out 2;(skip))|(go_at_call 30;refine (impl_isName.calls k a2 false _ AN.out).mono ?_;rintro e w3 ⟨rfl,hd⟩;have hb:=hd.below;clear hd;replace BK:=Aside0.mk (blk_below BK.out hb);replace HB:=Aside0.mk (below_step HB.out hb);replace HM:=Aside0.mk (map_below HM.out hb);clear hb h60 h61 h62 f60 f61 f62;have h60:w3.cell? ⟨g6,0,none⟩=some (.slice none 0 0):=(blk_cell BK.out 0).trans rfl;have f60:=blk_frozen BK.out 0;have h61:w3.cell? ⟨g6,1,none⟩=some (.slice none 0 0):=(blk_cell BK.out 1).trans rfl;have f61:=blk_frozen BK.out 1;have h62:w3.cell? ⟨g6,2,none⟩=some (.int .i64 0):=(blk_cell BK.out 2).trans rfl;have f62:=blk_frozen BK.out 2;(skip)))
     refine bodyPost_ret (results_cell_row rfl _ _ g6 32 #[.slice none 0 0,.slice none 0 0,.int .i64 0] (0,0) _ rfl (put3 BK.out (.slice none 0 0) (.slice none 0 0) (.int .i64 0)) Tryz.underlying32 rfl (by kernel_rfl)) rfl ?_
     exact ⟨_,_,rfl,Kd.R_nil _ _ _ _ _,Kd.R_nil _ _ _ _ _,below3 HB.out GE.out (.slice none 0 0) (.slice none 0 0) (.int .i64 0)⟩
    | true=>
     rw [if_pos rfl] at H
     have HF:=Aside0.mk H
     clear H
     go_enter Tryz.func12,Tryz.ntmps12
     go_wp2_with (first|((with_reducible refine gate_dst (N:=6) rfl ?_);refine box_event ?hg (N:=6) ?hd (cs:=#[.slice none 0 0,.slice none 0 0,.int .i64 0]) (t:=32) ?hr ?_;(case hd=>rfl);(case hg=>rfl);(case hr=>first|(go_simp;done)|(go_simp;rfl));intro g6 hg w6 hbox hb;have BK:=Aside0.mk hbox;have GE:=Aside0.mk (show w.heap.size≤g6 from by rw [hg];exact below_size HB.out);replace HB:=Aside0.mk (below_step HB.out hb);clear hb hg hbox)|(go_at_call 29;refine (impl_worldOf.calls k A0 c0 l0 true _ (Kd.C_below hr0 HB.out) hc0 AW.out).mono ?_;rintro e w1 ⟨hb,h0,h1⟩;obtain ⟨b,_,hM,rfl⟩:=h1 rfl;rw [HQ.out];have HM:=Aside0.mk hM;clear hM;clear h0 h1;replace BK:=Aside0.mk (blk_below BK.out hb);replace HB:=Aside0.mk (below_step HB.out hb);  clear hb;have h60:w1.cell? ⟨g6,0,none⟩=some (.slice none 0 0):=(blk_cell BK.out 0).trans rfl;have f60:=blk_frozen BK.out 0;have h61:w1.cell? ⟨g6,1,none⟩=some (.slice none 0 0):=(blk_cell BK.out 1).trans rfl;have f61:=blk_frozen BK.out 1;have h62:w1.cell? ⟨g6,2,none⟩=some (.int .i64 0):=(blk_cell BK.out 2).trans rfl;have f62:=blk_frozen BK.out 2;(skip))|(go_at_call 38;refine (impl_isHouse.calls k a1 true _ AH.out).mono ?_;rintro e w2 ⟨rfl,hd⟩;have hb:=hd.below;clear hd;replace BK:=Aside0.mk (blk_below BK.out hb);replace HB:=Aside0.mk (below_step HB.out hb);replace HM:=Aside0.mk (map_below HM.out hb);clear hb h60 h61 h62 f60 f61 f62;have h60:w2.cell? ⟨g6,0,none⟩=some (.slice none 0 0):=(blk_cell BK.out 0).trans rfl;have f60:=blk_frozen BK.out 0;have h61:w2.cell? ⟨g6,1,none⟩=some (.slice none 0 0):=(blk_cell BK.out 1).trans rfl;have f61:=blk_frozen BK.out 1;have h62:w2.cell? ⟨g6,2,none⟩=some (.int .i64 0):=(blk_cell BK.out 2).trans rfl;have f62:=blk_frozen BK.out 2;(skip))|(go_at_call 30;refine (impl_isName.calls k a2 true _ AN.out).mono ?_;rintro e w3 ⟨rfl,hd⟩;have hb:=hd.below;clear hd;replace BK:=Aside0.mk (blk_below BK.out hb);replace HB:=Aside0.mk (below_step HB.out hb);replace HM:=Aside0.mk (map_below HM.out hb);clear hb h60 h61 h62 f60 f61 f62;have h60:w3.cell? ⟨g6,0,none⟩=some (.slice none 0 0):=(blk_cell BK.out 0).trans rfl;have f60:=blk_frozen BK.out 0;have h61:w3.cell? ⟨g6,1,none⟩=some (.slice none 0 0):=(blk_cell BK.out 1).trans rfl;have f61:=blk_frozen BK.out 1;have h62:w3.cell? ⟨g6,2,none⟩=some (.int .i64 0):=(blk_cell BK.out 2).trans rfl;have f62:=blk_frozen BK.out 2;(skip))|(go_at_call 39;refine (notice_walk k b _ l0 a1 a2 r1 r2 r3 _ HM.out HF.out).mono ?_;rintro e w4 ⟨v0,v1,rfl,ho0,ho1,hb⟩;have H0:=Aside0.mk (Kd.R_lower ho0 (below_size HB.out));have H1:=Aside0.mk (Kd.R_lower ho1 (below_size HB.out));replace BK:=Aside0.mk (blk_below BK.out hb);replace HB:=Aside0.mk (below_step HB.out hb);clear ho0 ho1 hb h60 h61 h62 f60 f61 f62;obtain ⟨Aa,ca,ea⟩:=Kd.R_slice H0.out;subst ea;obtain ⟨Ab,cb,eb⟩:=Kd.R_slice H1.out;subst eb;have h60:w4.cell? ⟨g6,0,none⟩=some (.slice none 0 0):=(blk_cell BK.out 0).trans rfl;have f60:=blk_frozen BK.out 0;have h61:w4.cell? ⟨g6,1,none⟩=some (.slice none 0 0):=(blk_cell BK.out 1).trans rfl;have f61:=blk_frozen BK.out 1;have h62:w4.cell? ⟨g6,2,none⟩=some (.int .i64 0):=(blk_cell BK.out 2).trans rfl;have f62:=blk_frozen BK.out 2;(skip)))
     refine bodyPost_ret (results_cell_row rfl _ _ g6 32 #[.slice Aa r1.length ca,.slice Ab r2.length cb,.int .i64 r3] (0,0) _ rfl (put3 BK.out (.slice Aa r1.length ca) (.slice Ab r2.length cb) (.int .i64 r3)) Tryz.underlying32 rfl (by kernel_rfl)) rfl ?_
     exact ⟨_,_,rfl,R_far3 H0.out BK.out (by decide) (.slice Aa r1.length ca) (.slice Ab r2.length cb) (.int .i64 r3),R_far3 H1.out BK.out (by decide) (.slice Aa r1.length ca) (.slice Ab r2.length cb) (.int .i64 r3),below3 HB.out GE.out (.slice Aa r1.length ca) (.slice Ab r2.length cb) (.int .i64 r3)⟩
end Go.Proofs.YtloijngehifbmaaGreatDoor.P
end
