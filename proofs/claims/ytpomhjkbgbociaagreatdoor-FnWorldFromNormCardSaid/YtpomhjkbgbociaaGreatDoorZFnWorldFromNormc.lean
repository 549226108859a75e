/- Part 3 of the proof of FnWorldFromNorm: the plain functions of what it reaches, that Go comes to just their answers, what they answer, and the words that the walks use; conditions: each theorem's own. -/
import Derived.Test.YtpomhjkbgbociaaGreatDoorZFnWorldFromNormb
import Derived.Test.YtpomhjkbgbociaaGreatDoorZFnWorldFromNorma
import Derived.OneCell
import Derived.Laws.BitsLemmas
import Derived.Lib.Strings
import Derived.Lib.ConvBytes
import Derived.Laws.RangeAny
import Derived.Laws.Runes
import Derived.Laws.RangeString
import Derived.Laws.Strings3
import Derived.Lib.IndexAny
import Derived.Lib.IndexBytes
import Derived.Deep.LoopGhost

section
namespace Go.Proofs.YtpomhjkbgbociaaGreatDoor.P
open Go.RowKit Go.Proofs.YtpomhjkbgbociaaGreatDoorW.PrintWords Go.Proofs.YtpomhjkbgbociaaGreatDoorW.PrintLast Go.Proofs.YtpomhjkbgbociaaGreatDoorW.PrintMore
attribute [local go_sem] max2_int min2_int max_two min_two max_three min_three max_four min_four
set_option linter.unusedVariables false
set_option linter.unusedSimpArgs false
set_option maxHeartbeats 8000000
set_option maxRecDepth 100000
def spec_l1House.l0:Nat→ByteArray→Int→Option (Bool)
 | 0,_,_=>none
 | k+1,x0,x3=>if x3 < (x0.size:Int) then (if 0≤x3 then (if (bt x0 x3) < 97 then (some false) else (if (bt x0 x3) > 122 then (some false) else (spec_l1House.l0 k x0 (wrap64 (x3+1))))) else (none)) else ((spec_l6In.f (x0.size:Int) 1 5).bind fun t115=>(some t115))
def spec_l1House.f (k:Nat) (a0:ByteArray):Option (Bool):=spec_l1House.l0 k a0 0
theorem spec_l1House.mono_l:∀ k,(∀ y0 y1,LeO (spec_l1House.l0 k y0 y1) (spec_l1House.l0 (k+1) y0 y1))
 | 0=>by intros;intro r h;simp [spec_l1House.l0] at h
 | k+1=>by
  have ih0:=spec_l1House.mono_l k;intros;unfold spec_l1House.l0;repeat' first|(with_reducible first|exact ih0 _ _|exact LeO.refl _|exact LeO.none _|refine LeO.ite ?_ ?_|refine LeO.bind ?_ (fun _=>?_))|exact LeO.none _|refine LeO.ite ?_ ?_|refine LeO.bind ?_ (fun _=>?_)
theorem spec_l1House.mono:∀ a0 k,LeO (spec_l1House.f k a0) (spec_l1House.f (k+1) a0):=by
 intro a0 k;have ih0:=spec_l1House.mono_l k;unfold spec_l1House.f
 repeat' first|(with_reducible first|exact ih0 _ _|exact LeO.refl _|exact LeO.none _|refine LeO.ite ?_ ?_|refine LeO.bind ?_ (fun _=>?_))|exact LeO.none _|refine LeO.ite ?_ ?_|refine LeO.bind ?_ (fun _=>?_)
theorem spec_l1House.calls (k:Nat) (a0:ByteArray) (r:Bool) (w:World) (h:spec_l1House.f k a0=some r) :
  Calls Tryz.prog 98 #[.string a0] w fun e w'=>e=.returned (.bool r)∧Drawn0 w w':=by
 unfold spec_l1House.f at h
 have H:=h;clear h;have H':=A_ H;clear H;go_enter Tryz.func98,Tryz.ntmps98;go_wp2
 go_loopg [3] k (fun kq v3 w'=>∃ (x3_1:Int),v3=.int .i64 x3_1∧Aside0 (spec_l1House.l0 kq a0 x3_1=some r)∧Aside0 (kq≤k)∧Drawn0 w w')
 case atStart=>exact ⟨(0),zz0,H',⟨Nat.le_refl _⟩,zz1⟩
 case round=>
  clear H';obtain ⟨x3_1,rfl,HA,HK1,⟨m1,rfl⟩⟩:=hrel;cases gk with
  | zero=>exact absurd HA.out (by simp [spec_l1House.l0])
  | succ k1=>
   obtain ⟨H⟩:=HA;simp only [spec_l1House.l0] at H
   replace H:=iteEd H;rcases H with ⟨c2b0,H⟩|⟨c2b0,H⟩
   ·replace H:=iteNd H
    obtain ⟨c3b0,H⟩:=H;replace H:=iteEd H;rcases H with ⟨c5b0,H⟩|⟨c5b0,H⟩
    ·obtain rfl:=sI H
     have p4:0≤(x3_1:Int):=ofD;have q4:x3_1 < (a0.size:Int):=ofD;have hx4:=bt_at a0 x3_1;replace p4:=eq_true p4;replace q4:=eq_true q4;go_wp2
     go_ret
     exact ⟨zz0,zz1⟩
    ·replace H:=iteEg H
     rcases H with ⟨c7b0,H⟩|⟨c7b0,H⟩
     ·obtain rfl:=sI H
      have p4:0≤(x3_1:Int):=ofD;have q4:x3_1 < (a0.size:Int):=ofD;have hx4:=bt_at a0 x3_1;replace p4:=eq_true p4;replace q4:=eq_true q4;have p6:0≤(x3_1:Int):=ofD;have q6:x3_1 < (a0.size:Int):=ofD;have hx6:=bt_at a0 x3_1;replace p6:=eq_true p6;replace q6:=eq_true q6;go_wp2
      go_ret
      exact ⟨zz0,zz1⟩
     ·have H':=A_ H
      clear H;have p4:0≤(x3_1:Int):=ofD;have q4:x3_1 < (a0.size:Int):=ofD;have hx4:=bt_at a0 x3_1;replace p4:=eq_true p4;replace q4:=eq_true q4;have p6:0≤(x3_1:Int):=ofD;have q6:x3_1 < (a0.size:Int):=ofD;have hx6:=bt_at a0 x3_1;replace p6:=eq_true p6;replace q6:=eq_true q6;go_wp2
      go_roundg k1
      case measure=>have:=HK1.out;omega
      case rel=>exact ⟨(wrap64 (x3_1+1)),zz0,H',⟨(zz3 HK1)⟩,zz1⟩
   ·replace H:=bindA H
    obtain ⟨t115,A8,H⟩:=H;obtain rfl:=sI H;go_wp2_with (first|(refine gR 27 (some 22) Tryz.func27 (spec_l6In.calls (a0.size:Int) 1 5 t115 _ A8.out) ?_;rintro w' ⟨nd,rfl⟩))
    go_ret
    exact ⟨zz0,zz1⟩
mutual
def spec_EscNorm.l0:Nat→ByteArray→ByteArray→Int→Option (ByteArray×Bool)
 | 0,_,_,_=>none
 | k+1,x0,x4,x5=>if x5 < (x0.size:Int) then (if 0≤x5 then (if (bt x0 x5)=37 then (if (wrap64 (x5+2)) ≥ (x0.size:Int) then (spec_EscNorm.j1 k x0 x4 x5 true) else (if 0≤(wrap64 (x5+1)) then (if (wrap64 (x5+1)) < (x0.size:Int) then ((spec_l1Hex.f k (bt x0 (wrap64 (x5+1)))).bind fun t116=>(if t116 < 0 then (spec_EscNorm.j1 k x0 x4 x5 true) else (if 0≤(wrap64 (x5+2)) then (if (wrap64 (x5+2)) < (x0.size:Int) then ((spec_l1Hex.f k (bt x0 (wrap64 (x5+2)))).bind fun t117=>(spec_EscNorm.j1 k x0 x4 x5 (decide (t117 < 0)))) else (none)) else (none)))) else (none)) else (none))) else (spec_EscNorm.j2 k x0 x4 x5 (wrap64 (bt x0 x5)))) else (none)) else (some (x4,true))
def spec_EscNorm.j2:Nat→ByteArray→ByteArray→Int→Int→Option (ByteArray×Bool)
 | 0,_,_,_,_=>none
 | k+1,x0,x4,x5,x6=>(spec_l1Plain.f ((x6) % 256)).bind fun t120=>(if t120=true then ((some (([(x6) % 256]:List Int):List Int)).bind fun y121=>(if x4.size+(strOfNums y121).size≤9223372036854775807 then (spec_EscNorm.l0 k x0 (x4++(strOfNums y121)) (wrap64 (x5+1))) else (none))) else ((spec_l1Sign.f x6).bind fun t124=>(if x4.size+t124.size≤9223372036854775807 then (spec_EscNorm.l0 k x0 (x4++t124) (wrap64 (x5+1))) else (none))))
def spec_EscNorm.j1:Nat→ByteArray→ByteArray→Int→Bool→Option (ByteArray×Bool)
 | 0,_,_,_,_=>none
 | k+1,x0,x4,x5,x44=>if x44=true then (some ((⟨#[]⟩:ByteArray),false)) else (if 0≤(wrap64 (x5+1)) then (if (wrap64 (x5+1)) < (x0.size:Int) then ((spec_l1Hex.f k (bt x0 (wrap64 (x5+1)))).bind fun t118=>(if 0≤(wrap64 (x5+2)) then (if (wrap64 (x5+2)) < (x0.size:Int) then ((spec_l1Hex.f k (bt x0 (wrap64 (x5+2)))).bind fun t119=>(spec_EscNorm.j2 k x0 x4 (wrap64 (x5+2)) (wrap64 ((wrap64 (t118 * 16))+t119)))) else (none)) else (none))) else (none)) else (none))
end
def spec_EscNorm.f (k:Nat) (a0:ByteArray):Option (ByteArray×Bool):=if (a0.size:Int) > 60 then (some ((⟨#[]⟩:ByteArray),false)) else (spec_EscNorm.l0 k a0 (⟨#[]⟩:ByteArray) 0)
theorem spec_EscNorm.mono_l:∀ k,(∀ y0 y1 y2,LeO (spec_EscNorm.l0 k y0 y1 y2) (spec_EscNorm.l0 (k+1) y0 y1 y2))∧(∀ y0 y1 y2 y3,LeO (spec_EscNorm.j2 k y0 y1 y2 y3) (spec_EscNorm.j2 (k+1) y0 y1 y2 y3))∧(∀ y0 y1 y2 y3,LeO (spec_EscNorm.j1 k y0 y1 y2 y3) (spec_EscNorm.j1 (k+1) y0 y1 y2 y3))
 | 0=>by refine ⟨?_,?_,?_⟩ <;> (intros;intro r h;simp [spec_EscNorm.l0,spec_EscNorm.j2,spec_EscNorm.j1] at h)
 | k+1=>by
  obtain ⟨ih0,ih1,ih2⟩:=spec_EscNorm.mono_l k;refine ⟨?_,?_,?_⟩ <;> intros <;> (first|unfold spec_EscNorm.l0|unfold spec_EscNorm.j2|unfold spec_EscNorm.j1) <;>
  repeat' first|(with_reducible first|exact ih0 _ _ _|exact ih1 _ _ _ _|exact ih2 _ _ _ _|exact spec_l1Hex.mono _ _|exact LeO.refl _|exact LeO.none _|refine LeO.ite ?_ ?_|refine LeO.bind ?_ (fun _=>?_))|exact LeO.none _|refine LeO.ite ?_ ?_|refine LeO.bind ?_ (fun _=>?_)
theorem spec_EscNorm.mono:∀ a0 k,LeO (spec_EscNorm.f k a0) (spec_EscNorm.f (k+1) a0):=by
 intro a0 k;obtain ⟨ih0,ih1,ih2⟩:=spec_EscNorm.mono_l k;unfold spec_EscNorm.f
 repeat' first|(with_reducible first|exact ih0 _ _ _|exact ih1 _ _ _ _|exact ih2 _ _ _ _|exact spec_l1Hex.mono _ _|exact LeO.refl _|exact LeO.none _|refine LeO.ite ?_ ?_|refine LeO.bind ?_ (fun _=>?_))|exact LeO.none _|refine LeO.ite ?_ ?_|refine LeO.bind ?_ (fun _=>?_)
theorem spec_EscNorm.calls (k:Nat) (a0:ByteArray) (r1:ByteArray) (r2:Bool) (w:World) (h:spec_EscNorm.f k a0=some (r1,r2)) :
  Calls Tryz.prog 120 #[.string a0] w fun e w'=>e=.returned (.tuple #[.string r1,.bool r2])∧Below w.heap.size w w':=by
 have HB:=A_ (Below.refl w.heap.size w);unfold spec_EscNorm.f at h
 have H:=h;clear h;replace H:=iteE H;rcases H with ⟨c2,H⟩|⟨c2,H⟩
 ·have c2b0:=gtT c2
  have c2b1:decide (60 < a0.size)=true:=dT (by omega);clear c2;simp only [Option.some.injEq,Prod.mk.injEq] at H
  obtain ⟨rfl,rfl⟩:=H;go_enter Tryz.func120,Tryz.ntmps120;go_wp2
  repeat (go_quiet (fail);try go_wp2)
  go_ret2
  exact ⟨zz12,(zz5 HB)⟩
 ·have c2b0:=gtF c2
  have c2b1:decide (60 < a0.size)=false:=dF (by omega);clear c2;have H':=A_ H;clear H;go_enter Tryz.func120,Tryz.ntmps120;go_wp2
  repeat (go_quiet (fail);try go_wp2)
  go_loopg [4,5] k (fun kq v4 v5 w'=>∃ (x4_1:ByteArray) (x5_1:Int),v4=.string x4_1∧v5=.int .i64 x5_1∧Aside0 (spec_EscNorm.l0 kq a0 x4_1 x5_1=some (r1,r2))∧Aside0 (kq≤k)∧Aside0 (Below w.heap.size w w'))
  case atStart=>exact ⟨((⟨#[]⟩:ByteArray)),(0),zz0,zz0,H',⟨Nat.le_refl _⟩,⟨(zz5 HB)⟩⟩
  case round=>
   clear H';obtain ⟨x4_1,x5_1,rfl,rfl,HA,HK1,HB⟩:=hrel;cases gk with
   | zero=>exact absurd HA.out (by simp [spec_EscNorm.l0])
   | succ k1=>
    obtain ⟨H⟩:=HA;simp only [spec_EscNorm.l0] at H
    replace H:=iteEd H;rcases H with ⟨c3b0,H⟩|⟨c3b0,H⟩
    ·replace H:=iteNd H
     obtain ⟨c4b0,H⟩:=H;have HC7:=A_ H;clear H;have p5:0≤(x5_1:Int):=ofD;have q5:x5_1 < (a0.size:Int):=ofD;have hx5:=bt_at a0 x5_1;replace p5:=eq_true p5;replace q5:=eq_true q5;have p6:0≤(x5_1:Int):=ofD;have q6:x5_1 < (a0.size:Int):=ofD;have hx6:=bt_at a0 x5_1;replace p6:=eq_true p6;replace q6:=eq_true q6;go_upto_if 23 with (fail)
     repeat (go_quiet (fail);go_upto_if 23 with (fail))
     go_cut [5,6] (fun v5 v6 wc=>∃ (kq:Nat) (x5_6:Int) (x6_6:Int),v5=.int .i64 x5_6∧v6=.int .i64 x6_6∧Aside0 (spec_EscNorm.j2 kq a0 x4_1 x5_6 x6_6=some (r1,r2))∧Aside0 (kq≤k1)∧Aside0 (Below w.heap.size w wc))
     case first=>
      obtain ⟨H⟩:=HC7;replace H:=iteEq H;rcases H with ⟨c8b0,c8b1,H⟩|⟨c8b0,c8b1,c8,H⟩
      ·(first|rw [c8b0]|(simp only [i64_w,i32_w];rw [c8b0])|skip)
       have HC9:=A_ H;clear H;go_upto_region 9 with (fail)
       repeat (go_quiet (fail);go_upto_region 9 with (fail))
       go_cut [44] (fun v44 wc=>∃ (kq:Nat) (x44_8:Bool),v44=.bool x44_8∧Aside0 (spec_EscNorm.j1 kq a0 x4_1 x5_1 x44_8=some (r1,r2))∧Aside0 (kq≤k1)∧Aside0 (Below w.heap.size w wc))
       case first=>
        obtain ⟨H⟩:=HC9;replace H:=iteEe H;rcases H with ⟨c10b0,H⟩|⟨c10b0,H⟩
        ·(first|rw [c10b0]|(simp only [i64_w,i32_w];rw [c10b0])|skip)
         have H':=A_ H;clear H;go_wp2
         repeat (go_quiet (fail);try go_wp2)
         go_meet
         case rel=>exact ⟨_,(true),zz0,H',⟨(zz7 HK1)⟩,⟨(zz5 HB)⟩⟩
        ·(first|rw [c10b0]|(simp only [i64_w,i32_w];rw [c10b0])|skip)
         obtain ⟨ji11,hji11⟩:∃ j_:Int,(wrap64 (x5_1+1))=j_:=⟨_,rfl⟩;(first|rw [hji11] at H|simp only [hji11] at H)
         have hji11w:(IntKind.i64.wrap (x5_1+1))=ji11:=(i64_w _).trans hji11;replace H:=iteNd H;obtain ⟨c12b0,H⟩:=H;replace H:=iteNd H;obtain ⟨c13b0,H⟩:=H;replace H:=bindA H;obtain ⟨t116,A15,H⟩:=H;have HF16:=A_ H;clear H;have p14:0≤((ji11):Int):=ofD;have q14:(ji11) < (a0.size:Int):=ofD;have hx14:=bt_at a0 (ji11);replace p14:=eq_true p14;replace q14:=eq_true q14;go_wp2_with (first|(go_at_call 131;(with_reducible refine (spec_l1Hex.calls k1 (bt a0 (ji11)) t116 _ A15.out).mono ?_);rintro e w' ⟨rfl,⟨nd,rfl⟩⟩;(try first|exact ⟨rfl,_,World.drewN_drewN _ _ _⟩|exact ⟨rfl,_,Eq.trans (World.drewN_drewN _ _ _) (congrArg (World.drewN _) (Nat.add_assoc _ _ _))⟩))|((with_reducible refine atG ?_ ?_ fun K_ hK_=>?_);rfl;exact undecG)|((with_reducible refine atI ?_ fun K_ hK_=>?_);exact undecI))
         repeat (go_quiet (first|(go_at_call 131;(with_reducible refine (spec_l1Hex.calls k1 (bt a0 (ji11)) t116 _ A15.out).mono ?_);rintro e w' ⟨rfl,⟨nd,rfl⟩⟩;(try first|exact ⟨rfl,_,World.drewN_drewN _ _ _⟩|exact ⟨rfl,_,Eq.trans (World.drewN_drewN _ _ _) (congrArg (World.drewN _) (Nat.add_assoc _ _ _))⟩))|((with_reducible refine atG ?_ ?_ fun K_ hK_=>?_);rfl;exact undecG)|((with_reducible refine atI ?_ fun K_ hK_=>?_);exact undecI));go_wp2_with (first|(go_at_call 131;(with_reducible refine (spec_l1Hex.calls k1 (bt a0 (ji11)) t116 _ A15.out).mono ?_);rintro e w' ⟨rfl,⟨nd,rfl⟩⟩;(try first|exact ⟨rfl,_,World.drewN_drewN _ _ _⟩|exact ⟨rfl,_,Eq.trans (World.drewN_drewN _ _ _) (congrArg (World.drewN _) (Nat.add_assoc _ _ _))⟩))|((with_reducible refine atG ?_ ?_ fun K_ hK_=>?_);rfl;exact undecG)|((with_reducible refine atI ?_ fun K_ hK_=>?_);exact undecI)))
         refine unG hK_ ?_;clear hK_ K_;obtain ⟨H⟩:=HF16;replace H:=iteE H;rcases H with ⟨c17,H⟩|⟨c17,H⟩
         ·have c17b0:=dT c17
          (first|refine iteT ?_|refine iteF ?_|skip)
          clear c17;(first|rw [c17b0]|(simp only [i64_w,i32_w];rw [c17b0])|skip)
          have H':=A_ H;clear H;(try ((with_reducible refine upS ?_);go_simp))
          go_wp2
          repeat (go_quiet (fail);try go_wp2)
          go_meet
          case rel=>exact ⟨_,(true),zz0,H',⟨(zz7 HK1)⟩,⟨(zz5 HB)⟩⟩
         ·have c17b0:=dF c17
          (first|refine iteT ?_|refine iteF ?_|skip)
          clear c17;(first|rw [c17b0]|(simp only [i64_w,i32_w];rw [c17b0])|skip)
          obtain ⟨ji18,hji18⟩:∃ j_:Int,(wrap64 (x5_1+2))=j_:=⟨_,rfl⟩;(first|rw [hji18] at H|simp only [hji18] at H)
          (try rw [hji18] at c10b0)
          have hji18w:(IntKind.i64.wrap (x5_1+2))=ji18:=(i64_w _).trans hji18;replace H:=iteNd H;obtain ⟨c19b0,H⟩:=H;replace H:=iteNd H;obtain ⟨c20b0,H⟩:=H;replace H:=bindA H;obtain ⟨t117,A22,H⟩:=H;have H':=A_ H;clear H;have p21:0≤((ji18):Int):=ofD;have q21:(ji18) < (a0.size:Int):=ofD;have hx21:=bt_at a0 (ji18);replace p21:=eq_true p21;replace q21:=eq_true q21;go_wp2_with (first|(go_at_call 131;(with_reducible refine (spec_l1Hex.calls k1 (bt a0 (ji18)) t117 _ A22.out).mono ?_);rintro e w' ⟨rfl,⟨nd,rfl⟩⟩;(try first|exact ⟨rfl,_,World.drewN_drewN _ _ _⟩|exact ⟨rfl,_,Eq.trans (World.drewN_drewN _ _ _) (congrArg (World.drewN _) (Nat.add_assoc _ _ _))⟩)))
          repeat (go_quiet (first|(go_at_call 131;(with_reducible refine (spec_l1Hex.calls k1 (bt a0 (ji18)) t117 _ A22.out).mono ?_);rintro e w' ⟨rfl,⟨nd,rfl⟩⟩;(try first|exact ⟨rfl,_,World.drewN_drewN _ _ _⟩|exact ⟨rfl,_,Eq.trans (World.drewN_drewN _ _ _) (congrArg (World.drewN _) (Nat.add_assoc _ _ _))⟩)));try go_wp2_with (first|(go_at_call 131;(with_reducible refine (spec_l1Hex.calls k1 (bt a0 (ji18)) t117 _ A22.out).mono ?_);rintro e w' ⟨rfl,⟨nd,rfl⟩⟩;(try first|exact ⟨rfl,_,World.drewN_drewN _ _ _⟩|exact ⟨rfl,_,Eq.trans (World.drewN_drewN _ _ _) (congrArg (World.drewN _) (Nat.add_assoc _ _ _))⟩))))
          go_meet
          case rel=>exact ⟨_,(decide (t117 < 0)),zz0,H',⟨(zz7 HK1)⟩,⟨(zz5 HB)⟩⟩
       case rest=>
        clear HC9;obtain ⟨kq,x44_8,rfl,HA,HJ8,HB⟩:=hcut;cases kq with
        | zero=>exact absurd HA.out (by simp [spec_EscNorm.j1])
        | succ kj8=>
         obtain ⟨H⟩:=HA;simp only [spec_EscNorm.j1] at H
         replace H:=iteB H;rcases H with ⟨rfl,H⟩|⟨rfl,H⟩
         ·simp only [Option.some.injEq,Prod.mk.injEq] at H
          obtain ⟨rfl,rfl⟩:=H;go_wp2
          repeat (go_quiet (fail);try go_wp2)
          go_ret2
          exact ⟨zz12,(zz5 HB)⟩
         ·obtain ⟨ji24,hji24⟩:∃ j_:Int,(wrap64 (x5_1+1))=j_:=⟨_,rfl⟩
          (first|rw [hji24] at H|simp only [hji24] at H)
          have hji24w:(IntKind.i64.wrap (x5_1+1))=ji24:=(i64_w _).trans hji24;replace H:=iteNd H;obtain ⟨c25b0,H⟩:=H;replace H:=iteNd H;obtain ⟨c26b0,H⟩:=H;replace H:=bindA H;obtain ⟨t118,A28,H⟩:=H;obtain ⟨ji29,hji29⟩:∃ j_:Int,(wrap64 (x5_1+2))=j_:=⟨_,rfl⟩;(first|rw [hji29] at H|simp only [hji29] at H)
          (try rw [hji29] at A28)
          have hji29w:(IntKind.i64.wrap (x5_1+2))=ji29:=(i64_w _).trans hji29;replace H:=iteNd H;obtain ⟨c30b0,H⟩:=H;replace H:=iteNd H;obtain ⟨c31b0,H⟩:=H;replace H:=bindA H;obtain ⟨t119,A33,H⟩:=H;have H':=A_ H;clear H;have p27:0≤((ji24):Int):=ofD;have q27:(ji24) < (a0.size:Int):=ofD;have hx27:=bt_at a0 (ji24);replace p27:=eq_true p27;replace q27:=eq_true q27;go_wp2_with (first|(go_at_call 131;(with_reducible refine (spec_l1Hex.calls kj8 (bt a0 (ji24)) t118 _ A28.out).mono ?_);rintro e w' ⟨rfl,⟨nd,rfl⟩⟩;(try first|exact ⟨rfl,_,World.drewN_drewN _ _ _⟩|exact ⟨rfl,_,Eq.trans (World.drewN_drewN _ _ _) (congrArg (World.drewN _) (Nat.add_assoc _ _ _))⟩);have p32:0≤((ji29):Int):=ofD;have q32:(ji29) < (a0.size:Int):=ofD;have hx32:=bt_at a0 (ji29);replace p32:=eq_true p32;replace q32:=eq_true q32)|(go_at_call 131;(with_reducible refine (spec_l1Hex.calls kj8 (bt a0 (ji29)) t119 _ A33.out).mono ?_);rintro e w' ⟨rfl,⟨nd,rfl⟩⟩;(try first|exact ⟨rfl,_,World.drewN_drewN _ _ _⟩|exact ⟨rfl,_,Eq.trans (World.drewN_drewN _ _ _) (congrArg (World.drewN _) (Nat.add_assoc _ _ _))⟩)))
          repeat (go_quiet (first|(go_at_call 131;(with_reducible refine (spec_l1Hex.calls kj8 (bt a0 (ji24)) t118 _ A28.out).mono ?_);rintro e w' ⟨rfl,⟨nd,rfl⟩⟩;(try first|exact ⟨rfl,_,World.drewN_drewN _ _ _⟩|exact ⟨rfl,_,Eq.trans (World.drewN_drewN _ _ _) (congrArg (World.drewN _) (Nat.add_assoc _ _ _))⟩);have p32:0≤((ji29):Int):=ofD;have q32:(ji29) < (a0.size:Int):=ofD;have hx32:=bt_at a0 (ji29);replace p32:=eq_true p32;replace q32:=eq_true q32)|(go_at_call 131;(with_reducible refine (spec_l1Hex.calls kj8 (bt a0 (ji29)) t119 _ A33.out).mono ?_);rintro e w' ⟨rfl,⟨nd,rfl⟩⟩;(try first|exact ⟨rfl,_,World.drewN_drewN _ _ _⟩|exact ⟨rfl,_,Eq.trans (World.drewN_drewN _ _ _) (congrArg (World.drewN _) (Nat.add_assoc _ _ _))⟩)));try go_wp2_with (first|(go_at_call 131;(with_reducible refine (spec_l1Hex.calls kj8 (bt a0 (ji24)) t118 _ A28.out).mono ?_);rintro e w' ⟨rfl,⟨nd,rfl⟩⟩;(try first|exact ⟨rfl,_,World.drewN_drewN _ _ _⟩|exact ⟨rfl,_,Eq.trans (World.drewN_drewN _ _ _) (congrArg (World.drewN _) (Nat.add_assoc _ _ _))⟩);have p32:0≤((ji29):Int):=ofD;have q32:(ji29) < (a0.size:Int):=ofD;have hx32:=bt_at a0 (ji29);replace p32:=eq_true p32;replace q32:=eq_true q32)|(go_at_call 131;(with_reducible refine (spec_l1Hex.calls kj8 (bt a0 (ji29)) t119 _ A33.out).mono ?_);rintro e w' ⟨rfl,⟨nd,rfl⟩⟩;(try first|exact ⟨rfl,_,World.drewN_drewN _ _ _⟩|exact ⟨rfl,_,Eq.trans (World.drewN_drewN _ _ _) (congrArg (World.drewN _) (Nat.add_assoc _ _ _))⟩))))
          go_meet
          case rel=>exact ⟨_,(ji29),(wrap64 ((wrap64 (t118 * 16))+t119)),(by first|rfl|(simp only [i64_w,i32_w];done)|(simp only [aid_isEmpty,aid_isEmpty2];done)|(simp;done)|((simp only [← hji29] <;> (first|rfl|simp));done)|(simp [*];done)),zz0,H',⟨(by have:=HK1.out;have:=HJ8.out;first|omega|exact Nat.le_refl _)⟩,⟨(zz5 HB)⟩⟩
      ·(first|rw [c8b0]|(simp only [i64_w,i32_w];rw [c8b0])|skip)
       have H':=A_ H;clear H;go_wp2
       repeat (go_quiet (fail);try go_wp2)
       go_meet
       case rel=>exact ⟨_,(x5_1),(wrap64 (bt a0 x5_1)),zz0,zz0,H',⟨(zz7 HK1)⟩,⟨(zz5 HB)⟩⟩
     case rest=>
      clear HC7;obtain ⟨kq,x5_6,x6_6,rfl,rfl,HA,HJ6,HB⟩:=hcut;cases kq with
      | zero=>exact absurd HA.out (by simp [spec_EscNorm.j2])
      | succ kj6=>
       obtain ⟨H⟩:=HA;simp only [spec_EscNorm.j2] at H
       replace H:=bindA H;obtain ⟨t120,A34,H⟩:=H;have HF35:=A_ H;clear H;go_upto_if 61 with (first|(go_at_call 130;(with_reducible refine (spec_l1Plain.calls ((x6_6) % 256) t120 _ A34.out).mono ?_);rintro e w' ⟨rfl,⟨nd,rfl⟩⟩;(try first|exact ⟨rfl,_,World.drewN_drewN _ _ _⟩|exact ⟨rfl,_,Eq.trans (World.drewN_drewN _ _ _) (congrArg (World.drewN _) (Nat.add_assoc _ _ _))⟩)))
       repeat (go_quiet (first|(go_at_call 130;(with_reducible refine (spec_l1Plain.calls ((x6_6) % 256) t120 _ A34.out).mono ?_);rintro e w' ⟨rfl,⟨nd,rfl⟩⟩;(try first|exact ⟨rfl,_,World.drewN_drewN _ _ _⟩|exact ⟨rfl,_,Eq.trans (World.drewN_drewN _ _ _) (congrArg (World.drewN _) (Nat.add_assoc _ _ _))⟩)));go_upto_if 61 with (first|(go_at_call 130;(with_reducible refine (spec_l1Plain.calls ((x6_6) % 256) t120 _ A34.out).mono ?_);rintro e w' ⟨rfl,⟨nd,rfl⟩⟩;(try first|exact ⟨rfl,_,World.drewN_drewN _ _ _⟩|exact ⟨rfl,_,Eq.trans (World.drewN_drewN _ _ _) (congrArg (World.drewN _) (Nat.add_assoc _ _ _))⟩))))
       obtain ⟨H⟩:=HF35;replace H:=iteB H;rcases H with ⟨rfl,H⟩|⟨rfl,H⟩
       ·obtain ⟨y121,Ny121,H⟩:=bindY H
        replace H:=iteN H;obtain ⟨c37,H⟩:=H;have c37b0:=eq_true c37;have c37b1:=dT c37;try have c37b2:(9223372036854775807 < x4_1.size+(strOfNums y121).size)=False:=eq_false (Nat.not_lt.2 c37)
        have H':=A_ H;clear H;go_wp2_with (first|((with_reducible refine gD (N:=65) rfl ?_);refine Kd.R_lit (Kd.int .u8) _ 5 ?hg (N:=65) ?hd (xs:=([(x6_6) % 256]:List Int)) (inner:=[.int .u8 ((x6_6) % 256)]) (ok:=fun _=>True) (okp:=fun _=>True) ?hr ?hp (fun _ hk=>hk) trivial (Below.refl _ _) (Nat.le_refl _) (by simp) ?_;(case hd=>rfl);(case hg=>rfl);(case hr=>exact zz26);(case hp=>exact (Reps.one (show Kd.M (Kd.int .u8) _ _ _ ((x6_6) % 256) [.int .u8 ((x6_6) % 256)] from rfl) (Reps.none _ _)));intro v122 w38 ho39 hb hg_ hnew_;clear hg_ hnew_;(first|rw [← Ny121.out] at ho39|(simp only [Int.reduceToNat] at ho39;rw [← Ny121.out] at ho39));have HO123:=A_ (Kd.R_lower ho39 (below_size (zz5 HB)));replace HB:=A_ (bS (zz5 HB) hb);clear hb ho39;have hcv40:=own_string (P:=Tryz.prog) Tryz.underlying22 Tryz.underlying5 Tryz.underlying9 (Kd.own_of_R HO123.out)))
        repeat (go_quiet (first|((with_reducible refine gD (N:=65) rfl ?_);refine Kd.R_lit (Kd.int .u8) _ 5 ?hg (N:=65) ?hd (xs:=([(x6_6) % 256]:List Int)) (inner:=[.int .u8 ((x6_6) % 256)]) (ok:=fun _=>True) (okp:=fun _=>True) ?hr ?hp (fun _ hk=>hk) trivial (Below.refl _ _) (Nat.le_refl _) (by simp) ?_;(case hd=>rfl);(case hg=>rfl);(case hr=>exact zz26);(case hp=>exact (Reps.one (show Kd.M (Kd.int .u8) _ _ _ ((x6_6) % 256) [.int .u8 ((x6_6) % 256)] from rfl) (Reps.none _ _)));intro v122 w38 ho39 hb hg_ hnew_;clear hg_ hnew_;(first|rw [← Ny121.out] at ho39|(simp only [Int.reduceToNat] at ho39;rw [← Ny121.out] at ho39));have HO123:=A_ (Kd.R_lower ho39 (below_size (zz5 HB)));replace HB:=A_ (bS (zz5 HB) hb);clear hb ho39;have hcv40:=own_string (P:=Tryz.prog) Tryz.underlying22 Tryz.underlying5 Tryz.underlying9 (Kd.own_of_R HO123.out)));try go_wp2_with (first|((with_reducible refine gD (N:=65) rfl ?_);refine Kd.R_lit (Kd.int .u8) _ 5 ?hg (N:=65) ?hd (xs:=([(x6_6) % 256]:List Int)) (inner:=[.int .u8 ((x6_6) % 256)]) (ok:=fun _=>True) (okp:=fun _=>True) ?hr ?hp (fun _ hk=>hk) trivial (Below.refl _ _) (Nat.le_refl _) (by simp) ?_;(case hd=>rfl);(case hg=>rfl);(case hr=>exact zz26);(case hp=>exact (Reps.one (show Kd.M (Kd.int .u8) _ _ _ ((x6_6) % 256) [.int .u8 ((x6_6) % 256)] from rfl) (Reps.none _ _)));intro v122 w38 ho39 hb hg_ hnew_;clear hg_ hnew_;(first|rw [← Ny121.out] at ho39|(simp only [Int.reduceToNat] at ho39;rw [← Ny121.out] at ho39));have HO123:=A_ (Kd.R_lower ho39 (below_size (zz5 HB)));replace HB:=A_ (bS (zz5 HB) hb);clear hb ho39;have hcv40:=own_string (P:=Tryz.prog) Tryz.underlying22 Tryz.underlying5 Tryz.underlying9 (Kd.own_of_R HO123.out))))
        go_roundg kj6
        case measure=>have:=HK1.out;have:=HJ6.out;omega
        case rel=>exact ⟨(x4_1++(strOfNums y121)),(wrap64 (x5_6+1)),zz0,zz0,H',⟨(zz10 HK1 HJ6)⟩,⟨(zz5 HB)⟩⟩
       ·replace H:=bindA H
        obtain ⟨t124,A41,H⟩:=H;replace H:=iteN H;obtain ⟨c42,H⟩:=H;have c42b0:=eq_true c42;have c42b1:=dT c42;try have c42b2:(9223372036854775807 < x4_1.size+t124.size)=False:=eq_false (Nat.not_lt.2 c42)
        have H':=A_ H;clear H;go_wp2_with (first|(go_at_call 132;(with_reducible refine (spec_l1Sign.calls x6_6 t124 _ A41.out).mono ?_);rintro e w' ⟨rfl,⟨nd,rfl⟩⟩;(try first|exact ⟨rfl,_,World.drewN_drewN _ _ _⟩|exact ⟨rfl,_,Eq.trans (World.drewN_drewN _ _ _) (congrArg (World.drewN _) (Nat.add_assoc _ _ _))⟩)))
        repeat (go_quiet (first|(go_at_call 132;(with_reducible refine (spec_l1Sign.calls x6_6 t124 _ A41.out).mono ?_);rintro e w' ⟨rfl,⟨nd,rfl⟩⟩;(try first|exact ⟨rfl,_,World.drewN_drewN _ _ _⟩|exact ⟨rfl,_,Eq.trans (World.drewN_drewN _ _ _) (congrArg (World.drewN _) (Nat.add_assoc _ _ _))⟩)));try go_wp2_with (first|(go_at_call 132;(with_reducible refine (spec_l1Sign.calls x6_6 t124 _ A41.out).mono ?_);rintro e w' ⟨rfl,⟨nd,rfl⟩⟩;(try first|exact ⟨rfl,_,World.drewN_drewN _ _ _⟩|exact ⟨rfl,_,Eq.trans (World.drewN_drewN _ _ _) (congrArg (World.drewN _) (Nat.add_assoc _ _ _))⟩))))
        go_roundg kj6
        case measure=>have:=HK1.out;have:=HJ6.out;omega
        case rel=>exact ⟨(x4_1++t124),(wrap64 (x5_6+1)),zz0,zz0,H',⟨(zz10 HK1 HJ6)⟩,⟨(zz5 HB)⟩⟩
    ·simp only [Option.some.injEq,Prod.mk.injEq] at H
     obtain ⟨rfl,rfl⟩:=H;go_wp2
     repeat (go_quiet (fail);try go_wp2)
     go_ret2
     exact ⟨zz12,(zz5 HB)⟩
def spec_l2Name.l0:Nat→ByteArray→Int→Option (Bool)
 | 0,_,_=>none
 | k+1,x0,x3=>if x3 < (x0.size:Int) then (if 0≤x3 then (if (bt x0 x3) < 97 then (some false) else (if (bt x0 x3) > 122 then (some false) else (spec_l2Name.l0 k x0 (wrap64 (x3+1))))) else (none)) else ((spec_l6In.f (x0.size:Int) 1 8).bind fun t179=>(some t179))
def spec_l2Name.f (k:Nat) (a0:ByteArray):Option (Bool):=spec_l2Name.l0 k a0 0
theorem spec_l2Name.mono_l:∀ k,(∀ y0 y1,LeO (spec_l2Name.l0 k y0 y1) (spec_l2Name.l0 (k+1) y0 y1))
 | 0=>by intros;intro r h;simp [spec_l2Name.l0] at h
 | k+1=>by
  have ih0:=spec_l2Name.mono_l k;intros;unfold spec_l2Name.l0;repeat' first|(with_reducible first|exact ih0 _ _|exact LeO.refl _|exact LeO.none _|refine LeO.ite ?_ ?_|refine LeO.bind ?_ (fun _=>?_))|exact LeO.none _|refine LeO.ite ?_ ?_|refine LeO.bind ?_ (fun _=>?_)
theorem spec_l2Name.mono:∀ a0 k,LeO (spec_l2Name.f k a0) (spec_l2Name.f (k+1) a0):=by
 intro a0 k;have ih0:=spec_l2Name.mono_l k;unfold spec_l2Name.f
 repeat' first|(with_reducible first|exact ih0 _ _|exact LeO.refl _|exact LeO.none _|refine LeO.ite ?_ ?_|refine LeO.bind ?_ (fun _=>?_))|exact LeO.none _|refine LeO.ite ?_ ?_|refine LeO.bind ?_ (fun _=>?_)
theorem spec_l2Name.calls (k:Nat) (a0:ByteArray) (r:Bool) (w:World) (h:spec_l2Name.f k a0=some r) :
  Calls Tryz.prog 116 #[.string a0] w fun e w'=>e=.returned (.bool r)∧Drawn0 w w':=by
 unfold spec_l2Name.f at h
 have H:=h;clear h;have H':=A_ H;clear H;go_enter Tryz.func116,Tryz.ntmps116;go_wp2
 go_loopg [3] k (fun kq v3 w'=>∃ (x3_1:Int),v3=.int .i64 x3_1∧Aside0 (spec_l2Name.l0 kq a0 x3_1=some r)∧Aside0 (kq≤k)∧Drawn0 w w')
 case atStart=>exact ⟨(0),zz0,H',⟨Nat.le_refl _⟩,zz1⟩
 case round=>
  clear H';obtain ⟨x3_1,rfl,HA,HK1,⟨m1,rfl⟩⟩:=hrel;cases gk with
  | zero=>exact absurd HA.out (by simp [spec_l2Name.l0])
  | succ k1=>
   obtain ⟨H⟩:=HA;simp only [spec_l2Name.l0] at H
   replace H:=iteEd H;rcases H with ⟨c2b0,H⟩|⟨c2b0,H⟩
   ·replace H:=iteNd H
    obtain ⟨c3b0,H⟩:=H;replace H:=iteEd H;rcases H with ⟨c5b0,H⟩|⟨c5b0,H⟩
    ·obtain rfl:=sI H
     have p4:0≤(x3_1:Int):=ofD;have q4:x3_1 < (a0.size:Int):=ofD;have hx4:=bt_at a0 x3_1;replace p4:=eq_true p4;replace q4:=eq_true q4;go_wp2
     go_ret
     exact ⟨zz0,zz1⟩
    ·replace H:=iteEg H
     rcases H with ⟨c7b0,H⟩|⟨c7b0,H⟩
     ·obtain rfl:=sI H
      have p4:0≤(x3_1:Int):=ofD;have q4:x3_1 < (a0.size:Int):=ofD;have hx4:=bt_at a0 x3_1;replace p4:=eq_true p4;replace q4:=eq_true q4;have p6:0≤(x3_1:Int):=ofD;have q6:x3_1 < (a0.size:Int):=ofD;have hx6:=bt_at a0 x3_1;replace p6:=eq_true p6;replace q6:=eq_true q6;go_wp2
      go_ret
      exact ⟨zz0,zz1⟩
     ·have H':=A_ H
      clear H;have p4:0≤(x3_1:Int):=ofD;have q4:x3_1 < (a0.size:Int):=ofD;have hx4:=bt_at a0 x3_1;replace p4:=eq_true p4;replace q4:=eq_true q4;have p6:0≤(x3_1:Int):=ofD;have q6:x3_1 < (a0.size:Int):=ofD;have hx6:=bt_at a0 x3_1;replace p6:=eq_true p6;replace q6:=eq_true q6;go_wp2
      go_roundg k1
      case measure=>have:=HK1.out;omega
      case rel=>exact ⟨(wrap64 (x3_1+1)),zz0,H',⟨(zz3 HK1)⟩,zz1⟩
   ·replace H:=bindA H
    obtain ⟨t179,A8,H⟩:=H;obtain rfl:=sI H;go_wp2_with (first|(refine gR 27 (some 22) Tryz.func27 (spec_l6In.calls (a0.size:Int) 1 8 t179 _ A8.out) ?_;rintro w' ⟨nd,rfl⟩))
    go_ret
    exact ⟨zz0,zz1⟩
mutual
def spec_RuleOk.j0:Nat→ByteArray→Bool→Option (Bool)
 | 0,_,_=>none
 | k+1,x0,x16=>if x16=true then (some false) else (spec_RuleOk.l0 k x0 0)
def spec_RuleOk.l0:Nat→ByteArray→Int→Option (Bool)
 | 0,_,_=>none
 | k+1,x0,x3=>if x3 < (x0.size:Int) then (if 0≤x3 then ((spec_l1Plain.f (bt x0 x3)).bind fun t180=>(if t180=true then (spec_RuleOk.l0 k x0 (wrap64 (x3+1))) else (if (bt x0 x3)=47 then (spec_RuleOk.l0 k x0 (wrap64 (x3+1))) else (if (bt x0 x3)=42 then (spec_RuleOk.l0 k x0 (wrap64 (x3+1))) else (if (bt x0 x3)=63 then (spec_RuleOk.l0 k x0 (wrap64 (x3+1))) else (if (bt x0 x3)=37 then (spec_RuleOk.l0 k x0 (wrap64 (x3+1))) else (if (bt x0 x3) ≥ 65 then (if ((bt x0 x3)≤70) then (spec_RuleOk.l0 k x0 (wrap64 (x3+1))) else (if (bt x0 x3)=36 then (if (x3=(wrap64 ((x0.size:Int) - 1))) then (spec_RuleOk.l0 k x0 (wrap64 (x3+1))) else (some false)) else (some false))) else (if (bt x0 x3)=36 then (if (x3=(wrap64 ((x0.size:Int) - 1))) then (spec_RuleOk.l0 k x0 (wrap64 (x3+1))) else (some false)) else (some false))))))))) else (none)) else (some true)
end
def spec_RuleOk.f (k:Nat) (a0:ByteArray):Option (Bool):=if (a0.size:Int) > 16 then (spec_RuleOk.j0 k a0 true) else (if a0.toList=([]:List UInt8) then (spec_RuleOk.j0 k a0 true) else (if 0 < (a0.size:Int) then (spec_RuleOk.j0 k a0 ((bt a0 0) != 47)) else (none)))
theorem spec_RuleOk.calls (k:Nat) (a0:ByteArray) (r:Bool) (w:World) (h:spec_RuleOk.f k a0=some r) :
  Calls Tryz.prog 117 #[.string a0] w fun e w'=>e=.returned (.bool r)∧Drawn0 w w':=by
 unfold spec_RuleOk.f at h
 have H:=h;clear h;have HC2:=A_ H;clear H;go_enter Tryz.func117,Tryz.ntmps117;go_upto_region 1 with (fail)
 go_cut [16] (fun v16 wc=>∃ (kq:Nat) (x16_1:Bool),v16=.bool x16_1∧Aside0 (spec_RuleOk.j0 kq a0 x16_1=some r)∧Aside0 (kq≤k)∧Drawn0 w wc)
 case first=>
  obtain ⟨H⟩:=HC2;replace H:=iteE H;rcases H with ⟨c3,H⟩|⟨c3,H⟩
  ·have c3b0:=gtT c3
   have c3b1:decide (16 < a0.size)=true:=dT (by omega);clear c3;(first|rw [c3b0]|(simp only [i64_w,i32_w];rw [c3b0])|skip)
   have H':=A_ H;clear H;go_wp2
   go_meet
   case rel=>exact ⟨_,(true),zz0,H',⟨zz17⟩,zz1⟩
  ·have c3b0:=gtF c3
   have c3b1:decide (16 < a0.size)=false:=dF (by omega);clear c3;(first|rw [c3b0]|(simp only [i64_w,i32_w];rw [c3b0])|skip)
   replace H:=iteEq H;rcases H with ⟨c4b0,c4b1,H⟩|⟨c4b0,c4b1,c4,H⟩
   ·have H':=A_ H
    clear H;go_wp2
    go_meet
    case rel=>exact ⟨_,(true),zz0,H',⟨zz17⟩,zz1⟩
   ·replace H:=iteN H
    obtain ⟨c5,H⟩:=H;have c5b0:=dT c5;have c5b1:decide (0 < a0.size)=true:=dT (by omega);clear c5;have H':=A_ H;clear H;have p6:0≤(0:Int):=(by omega);have q6:0 < a0.size:=(by have:(0:Int) < (a0.size:Int):=ofD;omega);have hx6:∀ h:0 < a0.size,((a0[0]'h).toNat:Int)=bt a0 0:=bt_at a0 0;clear p6;have qi6:(0 < (a0.size:Int))=True:=eq_true ofD;replace q6:=eq_true q6;go_wp2
    go_meet
    case rel=>exact ⟨_,(((bt a0 0) != 47)),zz0,H',⟨zz17⟩,zz1⟩
 case rest=>
  clear HC2;obtain ⟨kq,x16_1,rfl,HA,HJ1,⟨mc1,rfl⟩⟩:=hcut;cases kq with
  | zero=>exact absurd HA.out (by simp [spec_RuleOk.j0])
  | succ kj1=>
   obtain ⟨H⟩:=HA;simp only [spec_RuleOk.j0] at H
   replace H:=iteB H;rcases H with ⟨rfl,H⟩|⟨rfl,H⟩
   ·obtain rfl:=sI H
    go_wp2
    go_ret
    exact ⟨zz0,zz1⟩
   ·have H':=A_ H
    clear H;go_wp2
    go_loopg [3] kj1 (fun kq v3 w'=>∃ (x3_2:Int),v3=.int .i64 x3_2∧Aside0 (spec_RuleOk.l0 kq a0 x3_2=some r)∧Aside0 (kq≤kj1)∧Drawn0 w w')
    case atStart=>exact ⟨(0),zz0,H',⟨Nat.le_refl _⟩,zz1⟩
    case round=>
     clear H';obtain ⟨x3_2,rfl,HA,HK2,⟨m2,rfl⟩⟩:=hrel;cases gk with
     | zero=>exact absurd HA.out (by simp [spec_RuleOk.l0])
     | succ k2=>
      obtain ⟨H⟩:=HA;simp only [spec_RuleOk.l0] at H
      replace H:=iteEd H;rcases H with ⟨c8b0,H⟩|⟨c8b0,H⟩
      ·replace H:=iteNd H
       obtain ⟨c9b0,H⟩:=H;replace H:=bindA H;obtain ⟨t180,A11,H⟩:=H;have HF12:=A_ H;clear H;have p10:0≤(x3_2:Int):=ofD;have q10:x3_2 < (a0.size:Int):=ofD;have hx10:=bt_at a0 x3_2;replace p10:=eq_true p10;replace q10:=eq_true q10;go_wp2_with (first|(refine gR 130 (some 27) Tryz.func130 (spec_l1Plain.calls (bt a0 x3_2) t180 _ A11.out) ?_;rintro w' ⟨nd,rfl⟩)|((with_reducible refine atG ?_ ?_ fun K_ hK_=>?_);rfl;exact undecG)|((with_reducible refine atI ?_ fun K_ hK_=>?_);exact undecI))
       refine unG hK_ ?_;clear hK_ K_;obtain ⟨H⟩:=HF12;replace H:=iteB H;rcases H with ⟨rfl,H⟩|⟨rfl,H⟩
       ·(first|refine iteT ?_|refine iteF ?_|skip)
        have H':=A_ H;clear H;(try ((with_reducible refine upS ?_);go_simp))
        go_wp2
        go_roundg k2
        case measure=>have:=HJ1.out;have:=HK2.out;omega
        case rel=>exact ⟨(wrap64 (x3_2+1)),zz0,H',⟨(zz10 HJ1 HK2)⟩,zz1⟩
       ·(first|refine iteT ?_|refine iteF ?_|skip)
        replace H:=iteEq H;rcases H with ⟨c14b0,c14b1,H⟩|⟨c14b0,c14b1,c14,H⟩
        ·have H':=A_ H
         clear H;go_wp2
         go_roundg k2
         case measure=>have:=HJ1.out;have:=HK2.out;omega
         case rel=>exact ⟨(wrap64 (x3_2+1)),zz0,H',⟨(zz10 HJ1 HK2)⟩,zz1⟩
        ·replace H:=iteEq H
         rcases H with ⟨c15b0,c15b1,H⟩|⟨c15b0,c15b1,c15,H⟩
         ·have H':=A_ H
          clear H;go_wp2
          go_roundg k2
          case measure=>have:=HJ1.out;have:=HK2.out;omega
          case rel=>exact ⟨(wrap64 (x3_2+1)),zz0,H',⟨(zz10 HJ1 HK2)⟩,zz1⟩
         ·replace H:=iteEq H
          rcases H with ⟨c16b0,c16b1,H⟩|⟨c16b0,c16b1,c16,H⟩
          ·have H':=A_ H
           clear H;go_wp2
           go_roundg k2
           case measure=>have:=HJ1.out;have:=HK2.out;omega
           case rel=>exact ⟨(wrap64 (x3_2+1)),zz0,H',⟨(zz10 HJ1 HK2)⟩,zz1⟩
          ·replace H:=iteEq H
           rcases H with ⟨c17b0,c17b1,H⟩|⟨c17b0,c17b1,c17,H⟩
           ·have H':=A_ H
            clear H;go_wp2
            go_roundg k2
            case measure=>have:=HJ1.out;have:=HK2.out;omega
            case rel=>exact ⟨(wrap64 (x3_2+1)),zz0,H',⟨(zz10 HJ1 HK2)⟩,zz1⟩
           ·replace H:=iteEe H
            rcases H with ⟨c18b0,H⟩|⟨c18b0,H⟩
            ·replace H:=iteE H
             rcases H with ⟨c19,H⟩|⟨c19,H⟩
             ·have c19b0:decide ((bt a0 x3_2)≤70)=true:=dT c19
              clear c19;have H':=A_ H;clear H;go_wp2
              go_roundg k2
              case measure=>have:=HJ1.out;have:=HK2.out;omega
              case rel=>exact ⟨(wrap64 (x3_2+1)),zz0,H',⟨(zz10 HJ1 HK2)⟩,zz1⟩
             ·have c19b0:decide ((bt a0 x3_2)≤70)=false:=dF c19
              clear c19;replace H:=iteEq H;rcases H with ⟨c20b0,c20b1,H⟩|⟨c20b0,c20b1,c20,H⟩
              ·replace H:=iteEq H
               rcases H with ⟨c21b0,c21b1,H⟩|⟨c21b0,c21b1,c21,H⟩
               ·have H':=A_ H
                clear H;go_wp2
                go_roundg k2
                case measure=>have:=HJ1.out;have:=HK2.out;omega
                case rel=>exact ⟨(wrap64 (x3_2+1)),zz0,H',⟨(zz10 HJ1 HK2)⟩,zz1⟩
               ·obtain rfl:=sI H
                go_wp2
                go_ret
                exact ⟨zz0,zz1⟩
              ·obtain rfl:=sI H
               go_wp2
               go_ret
               exact ⟨zz0,zz1⟩
            ·replace H:=iteEq H
             rcases H with ⟨c22b0,c22b1,H⟩|⟨c22b0,c22b1,c22,H⟩
             ·replace H:=iteEq H
              rcases H with ⟨c23b0,c23b1,H⟩|⟨c23b0,c23b1,c23,H⟩
              ·have H':=A_ H
               clear H;go_wp2
               go_roundg k2
               case measure=>have:=HJ1.out;have:=HK2.out;omega
               case rel=>exact ⟨(wrap64 (x3_2+1)),zz0,H',⟨(zz10 HJ1 HK2)⟩,zz1⟩
              ·obtain rfl:=sI H
               go_wp2
               go_ret
               exact ⟨zz0,zz1⟩
             ·obtain rfl:=sI H
              go_wp2
              go_ret
              exact ⟨zz0,zz1⟩
      ·obtain rfl:=sI H
       go_wp2
       go_ret
       exact ⟨zz0,zz1⟩
mutual
def spec_NoticeOk.l0:Nat→List (S106)→Int→Int→Option (Bool)
 | 0,_,_,_=>none
 | k+1,x0,x3,x4=>if x4 < (x0.length:Int) then (if 0≤x4 then (if (((rd_T106 x0 x4).f0).length:Int)=0 then (spec_NoticeOk.j1 k x0 x3 x4 true ((rd_T106 x0 x4).f0) ((rd_T106 x0 x4).f1) ((rd_T106 x0 x4).f2)) else (if (((rd_T106 x0 x4).f1).length:Int)=0 then (if ((rd_T106 x0 x4).f2)=0 then (spec_NoticeOk.j1 k x0 x3 x4 true ((rd_T106 x0 x4).f0) ((rd_T106 x0 x4).f1) ((rd_T106 x0 x4).f2)) else (if (((rd_T106 x0 x4).f1).length:Int) > 6 then (spec_NoticeOk.j1 k x0 x3 x4 true ((rd_T106 x0 x4).f0) ((rd_T106 x0 x4).f1) ((rd_T106 x0 x4).f2)) else ((spec_l6In.f ((rd_T106 x0 x4).f2) 0 20).bind fun t183=>(spec_NoticeOk.j1 k x0 x3 x4 (!t183) ((rd_T106 x0 x4).f0) ((rd_T106 x0 x4).f1) ((rd_T106 x0 x4).f2))))) else (if (((rd_T106 x0 x4).f1).length:Int) > 6 then (spec_NoticeOk.j1 k x0 x3 x4 true ((rd_T106 x0 x4).f0) ((rd_T106 x0 x4).f1) ((rd_T106 x0 x4).f2)) else ((spec_l6In.f ((rd_T106 x0 x4).f2) 0 20).bind fun t184=>(spec_NoticeOk.j1 k x0 x3 x4 (!t184) ((rd_T106 x0 x4).f0) ((rd_T106 x0 x4).f1) ((rd_T106 x0 x4).f2)))))) else (none)) else (some (decide (x3≤40)))
def spec_NoticeOk.j1:Nat→List (S106)→Int→Int→Bool→List ByteArray→List (S108)→Int→Option (Bool)
 | 0,_,_,_,_,_,_,_=>none
 | k+1,x0,x3,x4,x44,x183000,x183001,x183002=>if x44=true then (some false) else (spec_NoticeOk.l1 k x0 x3 x4 0 x183000 x183001 x183002)
def spec_NoticeOk.l1:Nat→List (S106)→Int→Int→Int→List ByteArray→List (S108)→Int→Option (Bool)
 | 0,_,_,_,_,_,_,_=>none
 | k+1,x0,x3,x4,x6,x183000,x183001,x183002=>if x6 < (x183000.length:Int) then (if 0≤x6 then (if (rdOf ByteArray.empty x183000 x6).toList=([42]:List UInt8) then (spec_NoticeOk.l1 k x0 x3 x4 (wrap64 (x6+1)) x183000 x183001 x183002) else ((spec_l2Name.f k (rdOf ByteArray.empty x183000 x6)).bind fun t187=>(if t187=true then (spec_NoticeOk.l1 k x0 x3 x4 (wrap64 (x6+1)) x183000 x183001 x183002) else (some false)))) else (none)) else (spec_NoticeOk.l2 k x0 x3 x4 0 x183000 x183001 x183002)
def spec_NoticeOk.l2:Nat→List (S106)→Int→Int→Int→List ByteArray→List (S108)→Int→Option (Bool)
 | 0,_,_,_,_,_,_,_=>none
 | k+1,x0,x3,x4,x7,x183000,x183001,x183002=>if x7 < (x183001.length:Int) then (if 0≤x7 then ((spec_RuleOk.f k ((rd_T108 x183001 x7).f1)).bind fun t189=>(if t189=true then (spec_NoticeOk.l2 k x0 x3 x4 (wrap64 (x7+1)) x183000 x183001 x183002) else (some false))) else (none)) else (spec_NoticeOk.l0 k x0 (wrap64 ((wrap64 ((wrap64 (x3+(x183000.length:Int)))+(x183001.length:Int)))+1)) (wrap64 (x4+1)))
end
def spec_NoticeOk.f (k:Nat) (l0:List (S106)):Option (Bool):=spec_NoticeOk.l0 k l0 0 0
theorem spec_NoticeOk.calls (k:Nat) (A0:Option Addr) (c0:Nat) (l0:List (S106)) (r:Bool) (w:World) (hr0:Kd.C k106 w A0 l0.length l0) (hc0:l0.length≤c0) (h:spec_NoticeOk.f k l0=some r) :
  Calls Tryz.prog 93 #[.slice A0 l0.length c0] w fun e w'=>e=.returned (.bool r)∧Below w.heap.size w w':=by
 have hu106:=Tryz.underlying106;have HR0:=A_ hr0;have HC0:=A_ hc0;clear hr0 hc0;have HB:=A_ (Below.refl w.heap.size w);unfold spec_NoticeOk.f at h
 have H:=h;clear h;have H':=A_ H;clear H;go_enter Tryz.func93,Tryz.ntmps93;go_wp2
 go_loopg [3,4] k (fun kq v3 v4 w'=>∃ (x3_1:Int) (x4_1:Int),v3=.int .i64 x3_1∧v4=.int .i64 x4_1∧Aside0 (spec_NoticeOk.l0 kq l0 x3_1 x4_1=some r)∧Aside0 (kq≤k)∧Aside0 (Below w.heap.size w w'))
 case atStart=>exact ⟨(0),(0),zz0,zz0,H',⟨Nat.le_refl _⟩,⟨(zz5 HB)⟩⟩
 case round=>
  clear H';obtain ⟨x3_1,x4_1,rfl,rfl,HA,HK1,HB⟩:=hrel;cases gk with
  | zero=>exact absurd HA.out (by simp [spec_NoticeOk.l0])
  | succ k1=>
   obtain ⟨H⟩:=HA;simp only [spec_NoticeOk.l0] at H
   replace H:=iteEd H;rcases H with ⟨c2b0,H⟩|⟨c2b0,H⟩
   ·replace H:=iteNd H
    obtain ⟨c3b0,H⟩:=H;have HC4:=A_ H;clear H;obtain ⟨⟨ad181,A181_0,c181_0,A181_1,c181_1,e181,hx181_0,hx181_1,hx181_2,hl181_0,hi181_0,hl181_1,hi181_1⟩,p181,q181⟩:=atB (at_T106 HR0.out x4_1);cases e181
    obtain ⟨hx181_0,hx181_1,hx181_2⟩:=cb3 HB hx181_0 hx181_1 hx181_2;have HR181_0:=A_ hi181_0;have HC181_0:=A_ hl181_0;clear hi181_0 hl181_0;have HR181_1:=A_ hi181_1;have HC181_1:=A_ hl181_1;clear hi181_1 hl181_1;go_upto_region 6 with (first|((with_reducible refine gD (N:=5) rfl ?_);(try (refine gate_guard (by rfl) ?_;dsimp only));refine boxE 5 #[.slice none 0 0,.slice none 0 0,.int .i64 0] 106 ?_;intro gb182 hg w5 hbox hb;have BK182:=A_ (hbox);have GE182:=geB hg (zz5 HB);replace HB:=A_ (bS (zz5 HB) hb);clear hb hbox hg;obtain ⟨_,_,_,_,_,_⟩:=cf3 BK182))
    (try simp only [Act.put,List.setIfInBounds_toArray,List.set_cons_zero,List.set_cons_succ])
    go_cut [44] (fun v44 wc=>∃ (kq:Nat) (x44_3:Bool),v44=.bool x44_3∧Aside0 (spec_NoticeOk.j1 kq l0 x3_1 x4_1 x44_3 ((rd_T106 l0 x4_1).f0) ((rd_T106 l0 x4_1).f1) ((rd_T106 l0 x4_1).f2)=some r)∧Aside0 (kq≤k1)∧Aside0 (wc.heap[gb182]?=some (.cells #[(.slice A181_0 ((rd_T106 l0 x4_1).f0).length c181_0),(.slice A181_1 ((rd_T106 l0 x4_1).f1).length c181_1),.int .i64 ((rd_T106 l0 x4_1).f2)] 106 (0,0)))∧Aside0 (Below w.heap.size w wc))
    case first=>
     obtain ⟨H⟩:=HC4;replace H:=iteEq H;rcases H with ⟨c7b0,c7b1,H⟩|⟨c7b0,c7b1,c7,H⟩
     ·(first|rw [c7b0]|(simp only [i64_w,i32_w];rw [c7b0])|skip)
      have H':=A_ H;clear H;obtain ⟨_,_,_,_,_,_⟩:=cf3 BK182;go_wp2
      go_meet
      case rel=>exact ⟨_,(true),zz0,H',⟨(zz7 HK1)⟩,⟨(zz41 BK182)⟩,⟨(zz16 HB GE182)⟩⟩
     ·have c7b2:¬ (((rd_T106 l0 x4_1).f0)=[]):=fun h_=>c7 (by rw [h_];rfl)
      (first|rw [c7b0]|(simp only [i64_w,i32_w];rw [c7b0])|skip)
      replace H:=iteEq H;rcases H with ⟨c9b0,c9b1,H⟩|⟨c9b0,c9b1,c9,H⟩
      ·replace H:=iteEq H
       rcases H with ⟨c10b0,c10b1,H⟩|⟨c10b0,c10b1,c10,H⟩
       ·have H':=A_ H
        clear H;obtain ⟨_,_,_,_,_,_⟩:=cf3 BK182;go_wp2
        go_meet
        case rel=>exact ⟨_,(true),zz0,H',⟨(zz7 HK1)⟩,⟨(zz41 BK182)⟩,⟨(zz16 HB GE182)⟩⟩
       ·replace H:=iteE H
        rcases H with ⟨c12,H⟩|⟨c12,H⟩
        ·have c12b0:=gtT c12
         have c12b1:decide (6 < ((rd_T106 l0 x4_1).f1).length)=true:=dT (by omega);clear c12;have H':=A_ H;clear H;obtain ⟨_,_,_,_,_,_⟩:=cf3 BK182;go_wp2
         go_meet
         case rel=>exact ⟨_,(true),zz0,H',⟨(zz7 HK1)⟩,⟨(zz41 BK182)⟩,⟨(zz16 HB GE182)⟩⟩
        ·have c12b0:=gtF c12
         have c12b1:decide (6 < ((rd_T106 l0 x4_1).f1).length)=false:=dF (by omega);clear c12;replace H:=bindA H;obtain ⟨t183,A14,H⟩:=H;have H':=A_ H;clear H;obtain ⟨_,_,_,_,_,_⟩:=cf3 BK182;go_wp2_with (first|(go_at_call 27;(with_reducible refine (spec_l6In.calls ((rd_T106 l0 x4_1).f2) 0 20 t183 _ A14.out).mono ?_);rintro e w' ⟨rfl,⟨nd,rfl⟩⟩))
         go_meet
         case rel=>exact ⟨_,(!t183),zz0,H',⟨(zz7 HK1)⟩,⟨(zz41 BK182)⟩,⟨(zz16 HB GE182)⟩⟩
      ·have c9b2:¬ (((rd_T106 l0 x4_1).f1)=[]):=fun h_=>c9 (by rw [h_];rfl)
       replace H:=iteE H;rcases H with ⟨c16,H⟩|⟨c16,H⟩
       ·have c16b0:=gtT c16
        have c16b1:decide (6 < ((rd_T106 l0 x4_1).f1).length)=true:=dT (by omega);clear c16;have H':=A_ H;clear H;obtain ⟨_,_,_,_,_,_⟩:=cf3 BK182;go_wp2
        go_meet
        case rel=>exact ⟨_,(true),zz0,H',⟨(zz7 HK1)⟩,⟨(zz41 BK182)⟩,⟨(zz16 HB GE182)⟩⟩
       ·have c16b0:=gtF c16
        have c16b1:decide (6 < ((rd_T106 l0 x4_1).f1).length)=false:=dF (by omega);clear c16;replace H:=bindA H;obtain ⟨t184,A18,H⟩:=H;have H':=A_ H;clear H;obtain ⟨_,_,_,_,_,_⟩:=cf3 BK182;go_wp2_with (first|(go_at_call 27;(with_reducible refine (spec_l6In.calls ((rd_T106 l0 x4_1).f2) 0 20 t184 _ A18.out).mono ?_);rintro e w' ⟨rfl,⟨nd,rfl⟩⟩))
        go_meet
        case rel=>exact ⟨_,(!t184),zz0,H',⟨(zz7 HK1)⟩,⟨(zz41 BK182)⟩,⟨(zz16 HB GE182)⟩⟩
    case rest=>
     clear HC4;obtain ⟨kq,x44_3,rfl,HA,HJ3,BK182,HB⟩:=hcut;cases kq with
     | zero=>exact absurd HA.out (by simp [spec_NoticeOk.j1])
     | succ kj3=>
      obtain ⟨H⟩:=HA;simp only [spec_NoticeOk.j1] at H
      replace H:=iteB H;rcases H with ⟨rfl,H⟩|⟨rfl,H⟩
      ·obtain rfl:=sI H
       go_wp2
       go_ret
       exact ⟨zz12,(zz16 HB GE182)⟩
      ·have H':=A_ H
       clear H;go_wp2
       go_loopg [6] kj3 (fun kq v6 w'=>∃ (x6_3:Int),v6=.int .i64 x6_3∧Aside0 (spec_NoticeOk.l1 kq l0 x3_1 x4_1 x6_3 ((rd_T106 l0 x4_1).f0) ((rd_T106 l0 x4_1).f1) ((rd_T106 l0 x4_1).f2)=some r)∧Aside0 (kq≤kj3)∧Aside0 (w'.heap[gb182]?=some (.cells #[(.slice A181_0 ((rd_T106 l0 x4_1).f0).length c181_0),(.slice A181_1 ((rd_T106 l0 x4_1).f1).length c181_1),.int .i64 ((rd_T106 l0 x4_1).f2)] 106 (0,0)))∧Aside0 (Below w.heap.size w w'))
       case atStart=>exact ⟨(0),zz0,H',⟨Nat.le_refl _⟩,⟨(zz15 BK182)⟩,⟨(zz16 HB GE182)⟩⟩
       case round=>
        clear H';obtain ⟨x6_3,rfl,HA,HK3,BK182,HB⟩:=hrel;cases gk with
        | zero=>exact absurd HA.out (by simp [spec_NoticeOk.l1])
        | succ k3=>
         obtain ⟨H⟩:=HA;simp only [spec_NoticeOk.l1] at H
         replace H:=iteEd H;rcases H with ⟨c21b0,H⟩|⟨c21b0,H⟩
         ·replace H:=iteNd H
          obtain ⟨c22b0,H⟩:=H;replace H:=iteEq H;rcases H with ⟨c23b0,c23b1,H⟩|⟨c23b0,c23b1,c23,H⟩
          ·have H':=A_ H
           clear H;obtain ⟨_,_,_,_,_,_⟩:=cf3 BK182;obtain ⟨⟨ad185,e185,hx185_0⟩,p185,q185⟩:=atB (Kd.at_string HR181_0.out x6_3);cases e185
           replace hx185_0:=cbl HB hx185_0;go_wp2
           go_roundg k3
           case measure=>have:=HK1.out;have:=HJ3.out;have:=HK3.out;omega
           case rel=>exact ⟨(wrap64 (x6_3+1)),zz0,H',⟨(zz64 HK1 HJ3 HK3)⟩,⟨(zz15 BK182)⟩,⟨(zz16 HB GE182)⟩⟩
          ·replace H:=bindA H
           obtain ⟨t187,A25,H⟩:=H;have HF26:=A_ H;clear H;obtain ⟨_,_,_,_,_,_⟩:=cf3 BK182;obtain ⟨⟨ad185,e185,hx185_0⟩,p185,q185⟩:=atB (Kd.at_string HR181_0.out x6_3);cases e185
           replace hx185_0:=cbl HB hx185_0;obtain ⟨⟨ad186,e186,hx186_0⟩,p186,q186⟩:=atB (Kd.at_string HR181_0.out x6_3);obtain rfl:ad185=ad186:=(by injection e186);replace hx186_0:=cbl HB hx186_0;go_upto_if 66 with (first|(go_at_call 116;(with_reducible refine (spec_l2Name.calls k3 (rdOf ByteArray.empty ((rd_T106 l0 x4_1).f0) x6_3) t187 _ A25.out).mono ?_);rintro e w' ⟨rfl,⟨nd,rfl⟩⟩))
           obtain ⟨H⟩:=HF26;replace H:=iteB H;rcases H with ⟨rfl,H⟩|⟨rfl,H⟩
           ·have H':=A_ H
            clear H;go_wp2
            go_roundg k3
            case measure=>have:=HK1.out;have:=HJ3.out;have:=HK3.out;omega
            case rel=>exact ⟨(wrap64 (x6_3+1)),zz0,H',⟨(zz64 HK1 HJ3 HK3)⟩,⟨(zz15 BK182)⟩,⟨(zz16 HB GE182)⟩⟩
           ·obtain rfl:=sI H
            go_wp2
            go_ret
            exact ⟨zz12,(zz16 HB GE182)⟩
         ·have H':=A_ H
          clear H;obtain ⟨_,_,_,_,_,_⟩:=cf3 BK182;go_wp2
          go_loopg [7] k3 (fun kq v7 w'=>∃ (x7_4:Int),v7=.int .i64 x7_4∧Aside0 (spec_NoticeOk.l2 kq l0 x3_1 x4_1 x7_4 ((rd_T106 l0 x4_1).f0) ((rd_T106 l0 x4_1).f1) ((rd_T106 l0 x4_1).f2)=some r)∧Aside0 (kq≤k3)∧Aside0 (w'.heap[gb182]?=some (.cells #[(.slice A181_0 ((rd_T106 l0 x4_1).f0).length c181_0),(.slice A181_1 ((rd_T106 l0 x4_1).f1).length c181_1),.int .i64 ((rd_T106 l0 x4_1).f2)] 106 (0,0)))∧Aside0 (Below w.heap.size w w'))
          case atStart=>exact ⟨(0),zz0,H',⟨Nat.le_refl _⟩,⟨(zz15 BK182)⟩,⟨(zz16 HB GE182)⟩⟩
          case round=>
           clear H';obtain ⟨x7_4,rfl,HA,HK4,BK182,HB⟩:=hrel;cases gk with
           | zero=>exact absurd HA.out (by simp [spec_NoticeOk.l2])
           | succ k4=>
            obtain ⟨H⟩:=HA;simp only [spec_NoticeOk.l2] at H
            replace H:=iteEd H;rcases H with ⟨c30b0,H⟩|⟨c30b0,H⟩
            ·replace H:=iteNd H
             obtain ⟨c31b0,H⟩:=H;replace H:=bindA H;obtain ⟨t189,A32,H⟩:=H;have HF33:=A_ H;clear H;obtain ⟨_,_,_,_,_,_⟩:=cf3 BK182;obtain ⟨⟨ad188,e188,hx188_0,hx188_1⟩,p188,q188⟩:=atB (at_T108 HR181_1.out x7_4);cases e188
             obtain ⟨hx188_0,hx188_1⟩:=cb2 HB hx188_0 hx188_1;go_upto_if 81 with (first|(refine gR 117 (some 80) Tryz.func117 (spec_RuleOk.calls k4 ((rd_T108 ((rd_T106 l0 x4_1).f1) x7_4).f1) t189 _ A32.out) ?_;rintro w' ⟨nd,rfl⟩))
             obtain ⟨H⟩:=HF33;replace H:=iteB H;rcases H with ⟨rfl,H⟩|⟨rfl,H⟩
             ·have H':=A_ H
              clear H;go_wp2
              go_roundg k4
              case measure=>have:=HK1.out;have:=HJ3.out;have:=HK3.out;have:=HK4.out;omega
              case rel=>exact ⟨(wrap64 (x7_4+1)),zz0,H',⟨(by have:=HK1.out;have:=HJ3.out;have:=HK3.out;have:=HK4.out;omega)⟩,⟨(zz15 BK182)⟩,⟨(zz16 HB GE182)⟩⟩
             ·obtain rfl:=sI H
              go_wp2
              go_ret
              exact ⟨zz12,(zz16 HB GE182)⟩
            ·have H':=A_ H
             clear H;obtain ⟨_,_,_,_,_,_⟩:=cf3 BK182;go_wp2
             go_roundg k4
             case measure=>have:=HK1.out;have:=HJ3.out;have:=HK3.out;have:=HK4.out;omega
             case rel=>exact ⟨(wrap64 ((wrap64 ((wrap64 (x3_1+(((rd_T106 l0 x4_1).f0).length:Int)))+(((rd_T106 l0 x4_1).f1).length:Int)))+1)),(wrap64 (x4_1+1)),zz0,zz0,H',⟨(by have:=HK1.out;have:=HJ3.out;have:=HK3.out;have:=HK4.out;omega)⟩,⟨(zz16 HB GE182)⟩⟩
   ·obtain rfl:=sI H
    go_wp2
    go_ret
    exact ⟨zz12,(zz5 HB)⟩
mutual
def spec_NoticeText.l0:Nat→List (S106)→ByteArray→Int→Option (ByteArray)
 | 0,_,_,_=>none
 | k+1,x0,x3,x4=>if x4 < (x0.length:Int) then (spec_NoticeText.l1 k x0 x3 x4 0) else (some x3)
def spec_NoticeText.l1:Nat→List (S106)→ByteArray→Int→Int→Option (ByteArray)
 | 0,_,_,_,_=>none
 | k+1,x0,x3,x4,x5=>if 0≤x4 then (if x4 < (x0.length:Int) then (if x5 < (((rd_T106 x0 x4).f0).length:Int) then (if x3.size+7≤9223372036854775807 then (if 0≤x5 then (if x3.size+7+(rdOf ByteArray.empty ((rd_T106 x0 x4).f0) x5).size≤9223372036854775807 then (if x3.size+7+(rdOf ByteArray.empty ((rd_T106 x0 x4).f0) x5).size+1≤9223372036854775807 then (spec_NoticeText.l1 k x0 (((x3++(⟨#[99,97,108,108,101,114,32]⟩:ByteArray))++(rdOf ByteArray.empty ((rd_T106 x0 x4).f0) x5))++(⟨#[10]⟩:ByteArray)) x4 (wrap64 (x5+1))) else (none)) else (none)) else (none)) else (none)) else (spec_NoticeText.l2 k x0 x3 x4 0)) else (none)) else (none)
def spec_NoticeText.l2:Nat→List (S106)→ByteArray→Int→Int→Option (ByteArray)
 | 0,_,_,_,_=>none
 | k+1,x0,x3,x4,x6=>if 0≤x4 then (if x4 < (x0.length:Int) then (if x6 < (((rd_T106 x0 x4).f1).length:Int) then (if 0≤x6 then (if (rd_T108 ((rd_T106 x0 x4).f1) x6).f0=true then (if x3.size+4≤9223372036854775807 then (if x3.size+4+((rd_T108 ((rd_T106 x0 x4).f1) x6).f1).size≤9223372036854775807 then (if x3.size+4+((rd_T108 ((rd_T106 x0 x4).f1) x6).f1).size+1≤9223372036854775807 then (spec_NoticeText.l2 k x0 (((x3++(⟨#[108,101,116,32]⟩:ByteArray))++((rd_T108 ((rd_T106 x0 x4).f1) x6).f1))++(⟨#[10]⟩:ByteArray)) x4 (wrap64 (x6+1))) else (none)) else (none)) else (none)) else (if x3.size+4≤9223372036854775807 then (if x3.size+4+((rd_T108 ((rd_T106 x0 x4).f1) x6).f1).size≤9223372036854775807 then (if x3.size+4+((rd_T108 ((rd_T106 x0 x4).f1) x6).f1).size+1≤9223372036854775807 then (spec_NoticeText.l2 k x0 (((x3++(⟨#[98,97,114,32]⟩:ByteArray))++((rd_T108 ((rd_T106 x0 x4).f1) x6).f1))++(⟨#[10]⟩:ByteArray)) x4 (wrap64 (x6+1))) else (none)) else (none)) else (none))) else (none)) else (if ((rd_T106 x0 x4).f2) > 0 then (if x3.size+5≤9223372036854775807 then ((spec_l6Dec.f k ((rd_T106 x0 x4).f2)).bind fun t203=>(if x3.size+5+t203.size≤9223372036854775807 then (if x3.size+5+t203.size+1≤9223372036854775807 then (spec_NoticeText.l0 k x0 (((x3++(⟨#[119,97,105,116,32]⟩:ByteArray))++t203)++(⟨#[10]⟩:ByteArray)) (wrap64 (x4+1))) else (none)) else (none))) else (none)) else (spec_NoticeText.l0 k x0 x3 (wrap64 (x4+1))))) else (none)) else (none)
end
def spec_NoticeText.f (k:Nat) (l0:List (S106)):Option (ByteArray):=(spec_NoticeOk.f k l0).bind fun t190=>(if t190=true then (spec_NoticeText.l0 k l0 (⟨#[]⟩:ByteArray) 0) else (some (⟨#[]⟩:ByteArray)))
theorem spec_NoticeText.calls (k:Nat) (A0:Option Addr) (c0:Nat) (l0:List (S106)) (r:ByteArray) (w:World) (hr0:Kd.C k106 w A0 l0.length l0) (hc0:l0.length≤c0) (h:spec_NoticeText.f k l0=some r) :
  Calls Tryz.prog 66 #[.slice A0 l0.length c0] w fun e w'=>e=.returned (.string r)∧Below w.heap.size w w':=by
 have HR0:=A_ hr0;have HC0:=A_ hc0;clear hr0 hc0;have HB:=A_ (Below.refl w.heap.size w);unfold spec_NoticeText.f at h
 have H:=h;clear h;replace H:=bindA H;obtain ⟨t190,A2,H⟩:=H;have HF3:=A_ H;clear H;go_enter Tryz.func66,Tryz.ntmps66;go_upto_if 10 with (first|(refine gR 93 (some 9) Tryz.func93 (spec_NoticeOk.calls k _ _ l0 t190 _ ?side1 ?side2 A2.out) ?_;(case side1=>exact (zz70 HR0));(case side2=>exact HC0.out);rintro w4 hb;replace HB:=A_ (bS (zz5 HB) hb);(try clear hb)))
 obtain ⟨H⟩:=HF3;replace H:=iteB H;rcases H with ⟨rfl,H⟩|⟨rfl,H⟩
 ·have H':=A_ H
  clear H;go_wp2
  go_loopg [3,4] k (fun kq v3 v4 w'=>∃ (x3_1:ByteArray) (x4_1:Int),v3=.string x3_1∧v4=.int .i64 x4_1∧Aside0 (spec_NoticeText.l0 kq l0 x3_1 x4_1=some r)∧Aside0 (kq≤k)∧Aside0 (Below w.heap.size w w'))
  case atStart=>exact ⟨((⟨#[]⟩:ByteArray)),(0),zz0,zz0,H',⟨Nat.le_refl _⟩,⟨(zz5 HB)⟩⟩
  case round=>
   clear H';obtain ⟨x3_1,x4_1,rfl,rfl,HA,HK1,HB⟩:=hrel;cases gk with
   | zero=>exact absurd HA.out (by simp [spec_NoticeText.l0])
   | succ k1=>
    obtain ⟨H⟩:=HA;simp only [spec_NoticeText.l0] at H
    replace H:=iteEd H;rcases H with ⟨c6b0,H⟩|⟨c6b0,H⟩
    ·(first|rw [c6b0]|(simp only [i64_w,i32_w];rw [c6b0])|skip)
     have H':=A_ H;clear H;go_wp2
     go_loopg [3,5] k1 (fun kq v3 v5 w'=>∃ (x3_2:ByteArray) (x5_2:Int),v3=.string x3_2∧v5=.int .i64 x5_2∧Aside0 (spec_NoticeText.l1 kq l0 x3_2 x4_1 x5_2=some r)∧Aside0 (kq≤k1)∧Aside0 (Below w.heap.size w w'))
     case atStart=>exact ⟨(x3_1),(0),zz0,zz0,H',⟨Nat.le_refl _⟩,⟨(zz5 HB)⟩⟩
     case round=>
      clear H';obtain ⟨x3_2,x5_2,rfl,rfl,HA,HK2,HB⟩:=hrel;cases gk with
      | zero=>exact absurd HA.out (by simp [spec_NoticeText.l1])
      | succ k2=>
       obtain ⟨H⟩:=HA;simp only [spec_NoticeText.l1] at H
       replace H:=iteNd H;obtain ⟨c7b0,H⟩:=H;replace H:=iteNd H;obtain ⟨c8b0,H⟩:=H;replace H:=iteEd H;rcases H with ⟨c9b0,H⟩|⟨c9b0,H⟩
       ·replace H:=iteN H
        obtain ⟨c10,H⟩:=H;have c10b0:=eq_true c10;have c10b1:=dT c10;try have c10b2:(9223372036854775807 < x3_2.size+7)=False:=eq_false (Nat.not_lt.2 c10)
        replace H:=iteNd H;obtain ⟨c11b0,H⟩:=H;replace H:=iteN H;obtain ⟨c12,H⟩:=H;have c12b0:=eq_true c12;have c12b1:=dT c12;try have c12b2:(9223372036854775807 < x3_2.size+7+(rdOf ByteArray.empty ((rd_T106 l0 x4_1).f0) x5_2).size)=False:=eq_false (Nat.not_lt.2 c12)
        replace H:=iteN H;obtain ⟨c13,H⟩:=H;have c13b0:=eq_true c13;have c13b1:=dT c13;try have c13b2:(9223372036854775807 < x3_2.size+7+(rdOf ByteArray.empty ((rd_T106 l0 x4_1).f0) x5_2).size+1)=False:=eq_false (Nat.not_lt.2 c13)
        have H':=A_ H;clear H;obtain ⟨⟨ad191,A191_0,c191_0,A191_1,c191_1,e191,hx191_0,hx191_1,hx191_2,hl191_0,hi191_0,hl191_1,hi191_1⟩,p191,q191⟩:=atB (at_T106 HR0.out x4_1);cases e191
        obtain ⟨hx191_0,hx191_1,hx191_2⟩:=cb3 HB hx191_0 hx191_1 hx191_2;have HR191_0:=A_ hi191_0;have HC191_0:=A_ hl191_0;clear hi191_0 hl191_0;have HR191_1:=A_ hi191_1;have HC191_1:=A_ hl191_1;clear hi191_1 hl191_1;obtain ⟨⟨ad192,A192_0,c192_0,A192_1,c192_1,e192,hx192_0,hx192_1,hx192_2,hl192_0,hi192_0,hl192_1,hi192_1⟩,p192,q192⟩:=atB (at_T106 HR0.out x4_1);obtain rfl:ad191=ad192:=(by injection e192);obtain ⟨hx192_0,hx192_1,hx192_2⟩:=cb3 HB hx192_0 hx192_1 hx192_2;have HR192_0:=A_ hi192_0;have HC192_0:=A_ hl192_0;clear hi192_0 hl192_0;have HR192_1:=A_ hi192_1;have HC192_1:=A_ hl192_1;clear hi192_1 hl192_1;have ea_:=sI (hx191_0.symm.trans hx192_0);injection ea_ with ea_ en_ ec_
        subst ea_;subst ec_;clear en_;have ea_:=sI (hx191_1.symm.trans hx192_1);injection ea_ with ea_ en_ ec_
        subst ea_;subst ec_;clear en_;obtain ⟨⟨ad193,e193,hx193_0⟩,p193,q193⟩:=atB (Kd.at_string HR192_0.out x5_2);cases e193
        replace hx193_0:=cbl HB hx193_0;go_wp2
        go_roundg k2
        case measure=>have:=HK1.out;have:=HK2.out;omega
        case rel=>exact ⟨(((x3_2++(⟨#[99,97,108,108,101,114,32]⟩:ByteArray))++(rdOf ByteArray.empty ((rd_T106 l0 x4_1).f0) x5_2))++(⟨#[10]⟩:ByteArray)),(wrap64 (x5_2+1)),zz0,zz0,H',⟨(zz10 HK1 HK2)⟩,⟨(zz5 HB)⟩⟩
       ·have H':=A_ H
        clear H;obtain ⟨⟨ad191,A191_0,c191_0,A191_1,c191_1,e191,hx191_0,hx191_1,hx191_2,hl191_0,hi191_0,hl191_1,hi191_1⟩,p191,q191⟩:=atB (at_T106 HR0.out x4_1);cases e191
        obtain ⟨hx191_0,hx191_1,hx191_2⟩:=cb3 HB hx191_0 hx191_1 hx191_2;have HR191_0:=A_ hi191_0;have HC191_0:=A_ hl191_0;clear hi191_0 hl191_0;have HR191_1:=A_ hi191_1;have HC191_1:=A_ hl191_1;clear hi191_1 hl191_1;go_wp2
        go_loopg [3,6] k2 (fun kq v3 v6 w'=>∃ (x3_3:ByteArray) (x6_3:Int),v3=.string x3_3∧v6=.int .i64 x6_3∧Aside0 (spec_NoticeText.l2 kq l0 x3_3 x4_1 x6_3=some r)∧Aside0 (kq≤k2)∧Aside0 (Below w.heap.size w w'))
        case atStart=>exact ⟨(x3_2),(0),zz0,zz0,H',⟨Nat.le_refl _⟩,⟨(zz5 HB)⟩⟩
        case round=>
         clear H';obtain ⟨x3_3,x6_3,rfl,rfl,HA,HK3,HB⟩:=hrel;cases gk with
         | zero=>exact absurd HA.out (by simp [spec_NoticeText.l2])
         | succ k3=>
          obtain ⟨H⟩:=HA;simp only [spec_NoticeText.l2] at H
          replace H:=iteNd H;obtain ⟨c14b0,H⟩:=H;replace H:=iteNd H;obtain ⟨c15b0,H⟩:=H;replace H:=iteEd H;rcases H with ⟨c16b0,H⟩|⟨c16b0,H⟩
          ·replace H:=iteNd H
           obtain ⟨c17b0,H⟩:=H;obtain ⟨bq18,hbq18⟩:∃ b_:Bool,b_=((rd_T108 ((rd_T106 l0 x4_1).f1) x6_3).f0):=⟨_,rfl⟩;rw [← hbq18] at H;have Nbq18:=A_ hbq18;clear hbq18;replace H:=iteB H;rcases H with ⟨rfl,H⟩|⟨rfl,H⟩
           ·replace H:=iteN H
            obtain ⟨c20,H⟩:=H;have c20b0:=eq_true c20;have c20b1:=dT c20;try have c20b2:(9223372036854775807 < x3_3.size+4)=False:=eq_false (Nat.not_lt.2 c20)
            replace H:=iteN H;obtain ⟨c21,H⟩:=H;have c21b0:=eq_true c21;have c21b1:=dT c21;try have c21b2:(9223372036854775807 < x3_3.size+4+((rd_T108 ((rd_T106 l0 x4_1).f1) x6_3).f1).size)=False:=eq_false (Nat.not_lt.2 c21)
            replace H:=iteN H;obtain ⟨c22,H⟩:=H;have c22b0:=eq_true c22;have c22b1:=dT c22;try have c22b2:(9223372036854775807 < x3_3.size+4+((rd_T108 ((rd_T106 l0 x4_1).f1) x6_3).f1).size+1)=False:=eq_false (Nat.not_lt.2 c22)
            have H':=A_ H;clear H;obtain ⟨⟨ad194,A194_0,c194_0,A194_1,c194_1,e194,hx194_0,hx194_1,hx194_2,hl194_0,hi194_0,hl194_1,hi194_1⟩,p194,q194⟩:=atB (at_T106 HR0.out x4_1);obtain rfl:ad191=ad194:=(by injection e194);obtain ⟨hx194_0,hx194_1,hx194_2⟩:=cb3 HB hx194_0 hx194_1 hx194_2;have HR194_0:=A_ hi194_0;have HC194_0:=A_ hl194_0;clear hi194_0 hl194_0;have HR194_1:=A_ hi194_1;have HC194_1:=A_ hl194_1;clear hi194_1 hl194_1;obtain ⟨⟨ad195,A195_0,c195_0,A195_1,c195_1,e195,hx195_0,hx195_1,hx195_2,hl195_0,hi195_0,hl195_1,hi195_1⟩,p195,q195⟩:=atB (at_T106 HR0.out x4_1);obtain rfl:ad191=ad195:=(by injection e195);obtain ⟨hx195_0,hx195_1,hx195_2⟩:=cb3 HB hx195_0 hx195_1 hx195_2;have HR195_0:=A_ hi195_0;have HC195_0:=A_ hl195_0;clear hi195_0 hl195_0;have HR195_1:=A_ hi195_1;have HC195_1:=A_ hl195_1;clear hi195_1 hl195_1;have ea_:=sI (hx194_0.symm.trans hx195_0);injection ea_ with ea_ en_ ec_
            subst ea_;subst ec_;clear en_;have ea_:=sI (hx194_1.symm.trans hx195_1);injection ea_ with ea_ en_ ec_
            subst ea_;subst ec_;clear en_;obtain ⟨⟨ad196,e196,hx196_0,hx196_1⟩,p196,q196⟩:=atB (at_T108 HR195_1.out x6_3);(try rw [← Nbq18.out] at hx196_0)
            cases e196
            obtain ⟨hx196_0,hx196_1⟩:=cb2 HB hx196_0 hx196_1;obtain ⟨⟨ad197,A197_0,c197_0,A197_1,c197_1,e197,hx197_0,hx197_1,hx197_2,hl197_0,hi197_0,hl197_1,hi197_1⟩,p197,q197⟩:=atB (at_T106 HR0.out x4_1);obtain rfl:ad191=ad197:=(by injection e197);obtain ⟨hx197_0,hx197_1,hx197_2⟩:=cb3 HB hx197_0 hx197_1 hx197_2;have HR197_0:=A_ hi197_0;have HC197_0:=A_ hl197_0;clear hi197_0 hl197_0;have HR197_1:=A_ hi197_1;have HC197_1:=A_ hl197_1;clear hi197_1 hl197_1;have ea_:=sI (hx194_0.symm.trans hx197_0);injection ea_ with ea_ en_ ec_
            subst ea_;subst ec_;clear en_;have ea_:=sI (hx194_1.symm.trans hx197_1);injection ea_ with ea_ en_ ec_
            subst ea_;subst ec_;clear en_;obtain ⟨⟨ad198,e198,hx198_0,hx198_1⟩,p198,q198⟩:=atB (at_T108 HR197_1.out x6_3);(try rw [← Nbq18.out] at hx198_0)
            cases e198
            obtain ⟨hx198_0,hx198_1⟩:=cb2 HB hx198_0 hx198_1;go_wp2
            go_roundg k3
            case measure=>have:=HK1.out;have:=HK2.out;have:=HK3.out;omega
            case rel=>exact ⟨(((x3_3++(⟨#[108,101,116,32]⟩:ByteArray))++((rd_T108 ((rd_T106 l0 x4_1).f1) x6_3).f1))++(⟨#[10]⟩:ByteArray)),(wrap64 (x6_3+1)),zz0,zz0,H',⟨(zz64 HK1 HK2 HK3)⟩,⟨(zz5 HB)⟩⟩
           ·replace H:=iteN H
            obtain ⟨c23,H⟩:=H;have c23b0:=eq_true c23;have c23b1:=dT c23;try have c23b2:(9223372036854775807 < x3_3.size+4)=False:=eq_false (Nat.not_lt.2 c23)
            replace H:=iteN H;obtain ⟨c24,H⟩:=H;have c24b0:=eq_true c24;have c24b1:=dT c24;try have c24b2:(9223372036854775807 < x3_3.size+4+((rd_T108 ((rd_T106 l0 x4_1).f1) x6_3).f1).size)=False:=eq_false (Nat.not_lt.2 c24)
            replace H:=iteN H;obtain ⟨c25,H⟩:=H;have c25b0:=eq_true c25;have c25b1:=dT c25;try have c25b2:(9223372036854775807 < x3_3.size+4+((rd_T108 ((rd_T106 l0 x4_1).f1) x6_3).f1).size+1)=False:=eq_false (Nat.not_lt.2 c25)
            have H':=A_ H;clear H;obtain ⟨⟨ad194,A194_0,c194_0,A194_1,c194_1,e194,hx194_0,hx194_1,hx194_2,hl194_0,hi194_0,hl194_1,hi194_1⟩,p194,q194⟩:=atB (at_T106 HR0.out x4_1);obtain rfl:ad191=ad194:=(by injection e194);obtain ⟨hx194_0,hx194_1,hx194_2⟩:=cb3 HB hx194_0 hx194_1 hx194_2;have HR194_0:=A_ hi194_0;have HC194_0:=A_ hl194_0;clear hi194_0 hl194_0;have HR194_1:=A_ hi194_1;have HC194_1:=A_ hl194_1;clear hi194_1 hl194_1;obtain ⟨⟨ad195,A195_0,c195_0,A195_1,c195_1,e195,hx195_0,hx195_1,hx195_2,hl195_0,hi195_0,hl195_1,hi195_1⟩,p195,q195⟩:=atB (at_T106 HR0.out x4_1);obtain rfl:ad191=ad195:=(by injection e195);obtain ⟨hx195_0,hx195_1,hx195_2⟩:=cb3 HB hx195_0 hx195_1 hx195_2;have HR195_0:=A_ hi195_0;have HC195_0:=A_ hl195_0;clear hi195_0 hl195_0;have HR195_1:=A_ hi195_1;have HC195_1:=A_ hl195_1;clear hi195_1 hl195_1;have ea_:=sI (hx194_0.symm.trans hx195_0);injection ea_ with ea_ en_ ec_
            subst ea_;subst ec_;clear en_;have ea_:=sI (hx194_1.symm.trans hx195_1);injection ea_ with ea_ en_ ec_
            subst ea_;subst ec_;clear en_;obtain ⟨⟨ad196,e196,hx196_0,hx196_1⟩,p196,q196⟩:=atB (at_T108 HR195_1.out x6_3);(try rw [← Nbq18.out] at hx196_0)
            cases e196
            obtain ⟨hx196_0,hx196_1⟩:=cb2 HB hx196_0 hx196_1;obtain ⟨⟨ad199,A199_0,c199_0,A199_1,c199_1,e199,hx199_0,hx199_1,hx199_2,hl199_0,hi199_0,hl199_1,hi199_1⟩,p199,q199⟩:=atB (at_T106 HR0.out x4_1);obtain rfl:ad191=ad199:=(by injection e199);obtain ⟨hx199_0,hx199_1,hx199_2⟩:=cb3 HB hx199_0 hx199_1 hx199_2;have HR199_0:=A_ hi199_0;have HC199_0:=A_ hl199_0;clear hi199_0 hl199_0;have HR199_1:=A_ hi199_1;have HC199_1:=A_ hl199_1;clear hi199_1 hl199_1;have ea_:=sI (hx194_0.symm.trans hx199_0);injection ea_ with ea_ en_ ec_
            subst ea_;subst ec_;clear en_;have ea_:=sI (hx194_1.symm.trans hx199_1);injection ea_ with ea_ en_ ec_
            subst ea_;subst ec_;clear en_;obtain ⟨⟨ad200,e200,hx200_0,hx200_1⟩,p200,q200⟩:=atB (at_T108 HR199_1.out x6_3);(try rw [← Nbq18.out] at hx200_0)
            cases e200
            obtain ⟨hx200_0,hx200_1⟩:=cb2 HB hx200_0 hx200_1;go_wp2
            go_roundg k3
            case measure=>have:=HK1.out;have:=HK2.out;have:=HK3.out;omega
            case rel=>exact ⟨(((x3_3++(⟨#[98,97,114,32]⟩:ByteArray))++((rd_T108 ((rd_T106 l0 x4_1).f1) x6_3).f1))++(⟨#[10]⟩:ByteArray)),(wrap64 (x6_3+1)),zz0,zz0,H',⟨(zz64 HK1 HK2 HK3)⟩,⟨(zz5 HB)⟩⟩
          ·replace H:=iteEg H
           rcases H with ⟨c26b0,H⟩|⟨c26b0,H⟩
           ·replace H:=iteN H
            obtain ⟨c27,H⟩:=H;have c27b0:=eq_true c27;have c27b1:=dT c27;try have c27b2:(9223372036854775807 < x3_3.size+5)=False:=eq_false (Nat.not_lt.2 c27)
            replace H:=bindA H;obtain ⟨t203,A28,H⟩:=H;replace H:=iteN H;obtain ⟨c29,H⟩:=H;have c29b0:=eq_true c29;have c29b1:=dT c29;try have c29b2:(9223372036854775807 < x3_3.size+5+t203.size)=False:=eq_false (Nat.not_lt.2 c29)
            replace H:=iteN H;obtain ⟨c30,H⟩:=H;have c30b0:=eq_true c30;have c30b1:=dT c30;try have c30b2:(9223372036854775807 < x3_3.size+5+t203.size+1)=False:=eq_false (Nat.not_lt.2 c30)
            have H':=A_ H;clear H;obtain ⟨⟨ad194,A194_0,c194_0,A194_1,c194_1,e194,hx194_0,hx194_1,hx194_2,hl194_0,hi194_0,hl194_1,hi194_1⟩,p194,q194⟩:=atB (at_T106 HR0.out x4_1);obtain rfl:ad191=ad194:=(by injection e194);obtain ⟨hx194_0,hx194_1,hx194_2⟩:=cb3 HB hx194_0 hx194_1 hx194_2;have HR194_0:=A_ hi194_0;have HC194_0:=A_ hl194_0;clear hi194_0 hl194_0;have HR194_1:=A_ hi194_1;have HC194_1:=A_ hl194_1;clear hi194_1 hl194_1;obtain ⟨⟨ad201,A201_0,c201_0,A201_1,c201_1,e201,hx201_0,hx201_1,hx201_2,hl201_0,hi201_0,hl201_1,hi201_1⟩,p201,q201⟩:=atB (at_T106 HR0.out x4_1);obtain rfl:ad191=ad201:=(by injection e201);obtain ⟨hx201_0,hx201_1,hx201_2⟩:=cb3 HB hx201_0 hx201_1 hx201_2;have HR201_0:=A_ hi201_0;have HC201_0:=A_ hl201_0;clear hi201_0 hl201_0;have HR201_1:=A_ hi201_1;have HC201_1:=A_ hl201_1;clear hi201_1 hl201_1;have ea_:=sI (hx194_0.symm.trans hx201_0);injection ea_ with ea_ en_ ec_
            subst ea_;subst ec_;clear en_;have ea_:=sI (hx194_1.symm.trans hx201_1);injection ea_ with ea_ en_ ec_
            subst ea_;subst ec_;clear en_;obtain ⟨⟨ad202,A202_0,c202_0,A202_1,c202_1,e202,hx202_0,hx202_1,hx202_2,hl202_0,hi202_0,hl202_1,hi202_1⟩,p202,q202⟩:=atB (at_T106 HR0.out x4_1);obtain rfl:ad191=ad202:=(by injection e202);obtain ⟨hx202_0,hx202_1,hx202_2⟩:=cb3 HB hx202_0 hx202_1 hx202_2;have HR202_0:=A_ hi202_0;have HC202_0:=A_ hl202_0;clear hi202_0 hl202_0;have HR202_1:=A_ hi202_1;have HC202_1:=A_ hl202_1;clear hi202_1 hl202_1;have ea_:=sI (hx194_0.symm.trans hx202_0);injection ea_ with ea_ en_ ec_
            subst ea_;subst ec_;clear en_;have ea_:=sI (hx194_1.symm.trans hx202_1);injection ea_ with ea_ en_ ec_
            subst ea_;subst ec_;clear en_;go_wp2_with (first|(refine gR 42 (some 85) Tryz.func42 (spec_l6Dec.calls k3 ((rd_T106 l0 x4_1).f2) t203 _ A28.out) ?_;rintro w31 hb;replace HB:=A_ (bS (zz5 HB) hb);(try clear hb)))
            go_roundg k3
            case measure=>have:=HK1.out;have:=HK2.out;have:=HK3.out;omega
            case rel=>exact ⟨(((x3_3++(⟨#[119,97,105,116,32]⟩:ByteArray))++t203)++(⟨#[10]⟩:ByteArray)),(wrap64 (x4_1+1)),zz0,zz0,H',⟨(zz64 HK1 HK2 HK3)⟩,⟨(zz5 HB)⟩⟩
           ·have H':=A_ H
            clear H;obtain ⟨⟨ad194,A194_0,c194_0,A194_1,c194_1,e194,hx194_0,hx194_1,hx194_2,hl194_0,hi194_0,hl194_1,hi194_1⟩,p194,q194⟩:=atB (at_T106 HR0.out x4_1);obtain rfl:ad191=ad194:=(by injection e194);obtain ⟨hx194_0,hx194_1,hx194_2⟩:=cb3 HB hx194_0 hx194_1 hx194_2;have HR194_0:=A_ hi194_0;have HC194_0:=A_ hl194_0;clear hi194_0 hl194_0;have HR194_1:=A_ hi194_1;have HC194_1:=A_ hl194_1;clear hi194_1 hl194_1;obtain ⟨⟨ad201,A201_0,c201_0,A201_1,c201_1,e201,hx201_0,hx201_1,hx201_2,hl201_0,hi201_0,hl201_1,hi201_1⟩,p201,q201⟩:=atB (at_T106 HR0.out x4_1);obtain rfl:ad191=ad201:=(by injection e201);obtain ⟨hx201_0,hx201_1,hx201_2⟩:=cb3 HB hx201_0 hx201_1 hx201_2;have HR201_0:=A_ hi201_0;have HC201_0:=A_ hl201_0;clear hi201_0 hl201_0;have HR201_1:=A_ hi201_1;have HC201_1:=A_ hl201_1;clear hi201_1 hl201_1;have ea_:=sI (hx194_0.symm.trans hx201_0);injection ea_ with ea_ en_ ec_
            subst ea_;subst ec_;clear en_;have ea_:=sI (hx194_1.symm.trans hx201_1);injection ea_ with ea_ en_ ec_
            subst ea_;subst ec_;clear en_;go_wp2
            go_roundg k3
            case measure=>have:=HK1.out;have:=HK2.out;have:=HK3.out;omega
            case rel=>exact ⟨(x3_3),(wrap64 (x4_1+1)),zz0,zz0,H',⟨(zz64 HK1 HK2 HK3)⟩,⟨(zz5 HB)⟩⟩
    ·(first|rw [c6b0]|(simp only [i64_w,i32_w];rw [c6b0])|skip)
     obtain rfl:=sI H;go_wp2
     go_ret
     exact ⟨zz12,(zz5 HB)⟩
 ·obtain rfl:=sI H
  go_wp2
  go_ret
  exact ⟨zz12,(zz5 HB)⟩
def spec_PageBase.l0:Nat→List ByteArray→Int→Option (ByteArray×Bool)
 | 0,_,_=>none
 | k+1,x4,x5=>if x5 < (x4.length:Int) then (if 0≤x5 then ((spec_l3Head.f (rdOf ByteArray.empty x4 x5)).bind fun t850=>(if t850=64 then (if 1≤((rdOf ByteArray.empty x4 x5).size:Int) then (some ((rdOf ByteArray.empty x4 x5).extract 1 (rdOf ByteArray.empty x4 x5).size,true)) else (none)) else (spec_PageBase.l0 k x4 (wrap64 (x5+1))))) else (none)) else (some ((⟨#[]⟩:ByteArray),false))
def spec_PageBase.f (k:Nat) (a0:ByteArray):Option (ByteArray×Bool):=(spec_l3Marks.f k a0).bind fun t846=>(spec_PageBase.l0 k t846 0)
theorem spec_PageBase.mono_l:∀ k,(∀ y0 y1,LeO (spec_PageBase.l0 k y0 y1) (spec_PageBase.l0 (k+1) y0 y1))
 | 0=>by intros;intro r h;simp [spec_PageBase.l0] at h
 | k+1=>by
  have ih0:=spec_PageBase.mono_l k;intros;unfold spec_PageBase.l0;repeat' first|(with_reducible first|exact ih0 _ _|exact spec_l3Marks.mono _ _|exact LeO.refl _|exact LeO.none _|refine LeO.ite ?_ ?_|refine LeO.bind ?_ (fun _=>?_))|exact LeO.none _|refine LeO.ite ?_ ?_|refine LeO.bind ?_ (fun _=>?_)
theorem spec_PageBase.calls (k:Nat) (a0:ByteArray) (r1:ByteArray) (r2:Bool) (w:World) (h:spec_PageBase.f k a0=some (r1,r2)) :
  Calls Tryz.prog 74 #[.string a0] w fun e w'=>e=.returned (.tuple #[.string r1,.bool r2])∧Below w.heap.size w w':=by
 have HB:=A_ (Below.refl w.heap.size w);unfold spec_PageBase.f at h
 have H:=h;clear h;replace H:=bindA H;obtain ⟨t846,A2,H⟩:=H;have H':=A_ H;clear H;go_enter Tryz.func74,Tryz.ntmps74;go_wp2_with (first|(refine gV 101 (some 7) Tryz.func101 (spec_l3Marks.calls k a0 t846 _ A2.out) ?_;rintro v847 w3 ⟨ho0,hb⟩;have HO848:=A_ (Kd.R_lower ho0 (below_size (zz5 HB)));replace HB:=A_ (bS (zz5 HB) hb);(try clear hb ho0)))
 go_loopg [5] k (fun kq v5 w'=>∃ (x5_1:Int),v5=.int .i64 x5_1∧Aside0 (spec_PageBase.l0 kq t846 x5_1=some (r1,r2))∧Aside0 (kq≤k)∧Aside0 (Kd.R Kd.string 9 w' w.heap.size (fun _=>True) v847 t846)∧Aside0 (Below w.heap.size w w'))
 case atStart=>exact ⟨(0),zz0,H',⟨Nat.le_refl _⟩,⟨(zz8 HO848)⟩,⟨(zz5 HB)⟩⟩
 case round=>
  clear H';obtain ⟨x5_1,rfl,HA,HK1,HO_4,HB⟩:=hrel;cases gk with
  | zero=>exact absurd HA.out (by simp [spec_PageBase.l0])
  | succ k1=>
   obtain ⟨H⟩:=HA;simp only [spec_PageBase.l0] at H
   replace H:=iteEd H;rcases H with ⟨c4b0,H⟩|⟨c4b0,H⟩
   ·replace H:=iteNd H
    obtain ⟨c5b0,H⟩:=H;replace H:=bindA H;obtain ⟨t850,A6,H⟩:=H;have HF7:=A_ H;clear H;obtain ⟨Ao8,co8,eo8⟩:=Kd.R_slice HO_4.out;subst eo8;obtain ⟨⟨ad849,e849,hx849_0⟩,p849,q849⟩:=atB (Kd.at_string (Kd.R_reads' HO_4.out).2.2 x5_1);cases e849
    go_upto_if 19 with (first|(refine gR 102 (some 18) Tryz.func102 (spec_l3Head.calls (rdOf ByteArray.empty t846 x5_1) t850 _ A6.out) ?_;rintro w' ⟨nd,rfl⟩))
    obtain ⟨H⟩:=HF7;replace H:=iteEq H;rcases H with ⟨c9b0,c9b1,H⟩|⟨c9b0,c9b1,c9,H⟩
    ·(first|rw [c9b0]|(simp only [i64_w,i32_w];rw [c9b0])|skip)
     replace H:=iteN H;obtain ⟨c10,H⟩:=H;have c10b0:=eq_true c10;have c10b1:=dT c10;clear c10;simp only [Option.some.injEq,Prod.mk.injEq] at H
     obtain ⟨rfl,rfl⟩:=H;obtain ⟨⟨ad851,e851,hx851_0⟩,p851,q851⟩:=atB (Kd.at_string (Kd.R_reads' HO_4.out).2.2 x5_1);obtain rfl:ad849=ad851:=(by injection e851);go_wp2
     go_ret2
     exact ⟨zz12,(zz5 HB)⟩
    ·(first|rw [c9b0]|(simp only [i64_w,i32_w];rw [c9b0])|skip)
     have H':=A_ H;clear H;go_wp2
     go_roundg k1
     case measure=>have:=HK1.out;omega
     case rel=>exact ⟨(wrap64 (x5_1+1)),zz0,H',⟨(zz3 HK1)⟩,⟨(zz8 HO_4)⟩,⟨(zz5 HB)⟩⟩
   ·simp only [Option.some.injEq,Prod.mk.injEq] at H
    obtain ⟨rfl,rfl⟩:=H;obtain ⟨Ao11,co11,eo11⟩:=Kd.R_slice HO_4.out;subst eo11;go_wp2
    go_ret2
    exact ⟨zz12,(zz5 HB)⟩
def spec_PageLinks.l0:Nat→List ByteArray→List ByteArray→Int→Option (List ByteArray)
 | 0,_,_,_=>none
 | k+1,x3,x4,x5=>if x5 < (x3.length:Int) then (if 0≤x5 then ((spec_l3Head.f (rdOf ByteArray.empty x3 x5)).bind fun t914=>(if t914=33 then (spec_PageLinks.l0 k x3 x4 (wrap64 (x5+1))) else ((spec_l3Head.f (rdOf ByteArray.empty x3 x5)).bind fun t916=>(if t916=64 then (spec_PageLinks.l0 k x3 x4 (wrap64 (x5+1))) else (if x4.length < 8796093022208 then (spec_PageLinks.l0 k x3 (x4++[rdOf ByteArray.empty x3 x5]) (wrap64 (x5+1))) else (none)))))) else (none)) else (some x4)
def spec_PageLinks.f (k:Nat) (a0:ByteArray):Option (List ByteArray):=(spec_l3Marks.f k a0).bind fun t907=>(spec_PageLinks.l0 k t907 (([]:List ByteArray)) 0)
theorem spec_PageLinks.mono_l:∀ k,(∀ y0 y1 y2,LeO (spec_PageLinks.l0 k y0 y1 y2) (spec_PageLinks.l0 (k+1) y0 y1 y2))
 | 0=>by intros;intro r h;simp [spec_PageLinks.l0] at h
 | k+1=>by
  have ih0:=spec_PageLinks.mono_l k;intros;unfold spec_PageLinks.l0;repeat' first|(with_reducible first|exact ih0 _ _ _|exact spec_l3Marks.mono _ _|exact LeO.refl _|exact LeO.none _|refine LeO.ite ?_ ?_|refine LeO.bind ?_ (fun _=>?_))|exact LeO.none _|refine LeO.ite ?_ ?_|refine LeO.bind ?_ (fun _=>?_)
theorem spec_PageLinks.calls (k:Nat) (a0:ByteArray) (r:List ByteArray) (w:World) (h:spec_PageLinks.f k a0=some r) :
  Calls Tryz.prog 76 #[.string a0] w fun e w'=>∃ v0_:Value,e=.returned (v0_)∧Kd.R Kd.string 9 w' w.heap.size (fun _=>True) v0_ r∧Below w.heap.size w w':=by
 have HB:=A_ (Below.refl w.heap.size w);unfold spec_PageLinks.f at h
 have H:=h;clear h;replace H:=bindA H;obtain ⟨t907,A2,H⟩:=H;obtain ⟨y910,Ny910⟩:=toY (([]:List ByteArray));(first|with_reducible replace H:=bindZ Ny910 H|rw [← Ny910.out] at H|skip)
 have H':=A_ H;clear H;go_enter Tryz.func76,Tryz.ntmps76;go_wp2_with (first|(refine gV 101 (some 7) Tryz.func101 (spec_l3Marks.calls k a0 t907 _ A2.out) ?_;rintro v908 w3 ⟨ho0,hb⟩;have HO909:=A_ (Kd.R_lower ho0 (below_size (zz5 HB)));replace HB:=A_ (bS (zz5 HB) hb);(try clear hb ho0))|((with_reducible refine gD (N:=8) rfl ?_);refine Kd.R_lit Kd.string _ 9 ?hg (N:=8) ?hd (xs:=([]:List ByteArray)) (inner:=[]) (ok:=fun _=>True) (okp:=fun _=>True) ?hr ?hp (fun _ hk=>hk) trivial (Below.refl _ _) (Nat.le_refl _) (by simp) ?_;(case hd=>rfl);(case hg=>rfl);(case hr=>exact zz26);(case hp=>exact (Reps.none _ _));intro v911 w4 ho5 hb hg_ hnew_;clear hg_ hnew_;(first|rw [← Ny910.out] at ho5|(simp only [Int.reduceToNat] at ho5;rw [← Ny910.out] at ho5));have HO912:=A_ (Kd.R_lower (Kd.R_new' ho5 (Kd.R_lt (zz8 HO909))) (below_size (zz5 HB)));replace HO909:=A_ (Kd.R_elder' (zz8 HO909) (Kd.R_base ho5) hb);replace HB:=A_ (bS (zz5 HB) hb);clear hb ho5))
 go_loopg [4,5] k (fun kq v4 v5 w'=>∃ (x4_1:List ByteArray) (x5_1:Int),v5=.int .i64 x5_1∧Aside0 (spec_PageLinks.l0 kq t907 x4_1 x5_1=some r)∧Aside0 (kq≤k)∧Aside0 (Kd.R Kd.string 9 w' w.heap.size (fun k_=>some k_≠(v4:Value).ownBlock) v908 t907)∧Aside0 (Kd.R Kd.string 9 w' w.heap.size (fun k_=>some k_≠(v908:Value).ownBlock) v4 x4_1)∧Aside0 (Below w.heap.size w w'))
 case atStart=>exact ⟨(y910),(0),zz0,H',⟨Nat.le_refl _⟩,⟨(zz94 HO909)⟩,⟨(zz94 HO912)⟩,⟨(zz5 HB)⟩⟩
 case round=>
  clear H';obtain ⟨x4_1,x5_1,rfl,HA,HK1,HO_3,HO_4,HB⟩:=hrel;cases gk with
  | zero=>exact absurd HA.out (by simp [spec_PageLinks.l0])
  | succ k1=>
   obtain ⟨H⟩:=HA;simp only [spec_PageLinks.l0] at H
   replace H:=iteEd H;rcases H with ⟨c6b0,H⟩|⟨c6b0,H⟩
   ·replace H:=iteNd H
    obtain ⟨c7b0,H⟩:=H;replace H:=bindA H;obtain ⟨t914,A8,H⟩:=H;have HF9:=A_ H;clear H;obtain ⟨Ao10,co10,eo10⟩:=Kd.R_slice HO_3.out;subst eo10;obtain ⟨⟨ad913,e913,hx913_0⟩,p913,q913⟩:=atB (Kd.at_string (Kd.R_reads' HO_3.out).2.2 x5_1);cases e913
    go_wp2_with (first|(refine gR 102 (some 19) Tryz.func102 (spec_l3Head.calls (rdOf ByteArray.empty t907 x5_1) t914 _ A8.out) ?_;rintro w' ⟨nd,rfl⟩)|((with_reducible refine atG ?_ ?_ fun K_ hK_=>?_);rfl;exact undecG)|((with_reducible refine atI ?_ fun K_ hK_=>?_);exact undecI))
    refine unG hK_ ?_;clear hK_ K_;obtain ⟨H⟩:=HF9;replace H:=iteE H;rcases H with ⟨c11,H⟩|⟨c11,H⟩
    ·obtain ⟨c11b0,c11b1⟩:=eqT c11
     (first|refine iteT ?_|refine iteF ?_|skip)
     clear c11;(first|rw [c11b0]|(simp only [i64_w,i32_w];rw [c11b0])|skip)
     have H':=A_ H;clear H;(try ((with_reducible refine upS ?_);go_simp))
     go_wp2
     go_roundg k1
     case measure=>have:=HK1.out;omega
     case rel=>exact ⟨(x4_1),(wrap64 (x5_1+1)),zz0,H',⟨(zz3 HK1)⟩,⟨(zz8 HO_3)⟩,⟨(zz8 HO_4)⟩,⟨(zz5 HB)⟩⟩
    ·obtain ⟨c11b0,c11b1⟩:=eqF c11
     (first|refine iteT ?_|refine iteF ?_|skip)
     (first|rw [c11b0]|(simp only [i64_w,i32_w];rw [c11b0])|skip)
     replace H:=bindA H;obtain ⟨t916,A12,H⟩:=H;have HF13:=A_ H;clear H;obtain ⟨⟨ad915,e915,hx915_0⟩,p915,q915⟩:=atB (Kd.at_string (Kd.R_reads' HO_3.out).2.2 x5_1);obtain rfl:ad913=ad915:=(by injection e915);(try ((with_reducible refine upS ?_);go_simp))
     go_upto_if 28 with (first|(go_at_call 102;(with_reducible refine (spec_l3Head.calls (rdOf ByteArray.empty t907 x5_1) t916 _ A12.out).mono ?_);rintro e w' ⟨rfl,⟨nd,rfl⟩⟩))
     obtain ⟨H⟩:=HF13;replace H:=iteEq H;rcases H with ⟨c14b0,c14b1,H⟩|⟨c14b0,c14b1,c14,H⟩
     ·(first|rw [c14b0]|(simp only [i64_w,i32_w];rw [c14b0])|skip)
      have H':=A_ H;clear H;go_wp2
      go_roundg k1
      case measure=>have:=HK1.out;omega
      case rel=>exact ⟨(x4_1),(wrap64 (x5_1+1)),zz0,H',⟨(zz3 HK1)⟩,⟨(zz8 HO_3)⟩,⟨(zz8 HO_4)⟩,⟨(zz5 HB)⟩⟩
     ·(first|rw [c14b0]|(simp only [i64_w,i32_w];rw [c14b0])|skip)
      replace H:=iteN H;obtain ⟨c15,H⟩:=H;have LMc15:=A_ c15;clear c15;obtain ⟨y918,Ny918⟩:=toY (x4_1++[rdOf ByteArray.empty t907 x5_1]);(first|with_reducible replace H:=bindZ Ny918 H|rw [← Ny918.out] at H|skip)
      have H':=A_ H;clear H;obtain ⟨⟨ad917,e917,hx917_0⟩,p917,q917⟩:=atB (Kd.at_string (Kd.R_reads' HO_3.out).2.2 x5_1);obtain rfl:ad913=ad917:=(by injection e917);go_wp2_with (first|((with_reducible refine gate_builtin (b:=.append) (xs:=#[.tmp 29,.tmp 34]) rfl ?_);at_builtin;refine Kd.R_append Kd.string (w0:=w) w.heap.size rfl (.tmp 29) (.tmp 34) 35 9 (.string ⟨#[]⟩) 16 rfl Tryz.underlying35 info9 rfl (by decide) (by omega) u4 x4_1 (rdOf ByteArray.empty t907 x5_1) [.string (rdOf ByteArray.empty t907 x5_1)] (fun k_=>some k_≠(.slice (some ad913) t907.length co10:Value).ownBlock) (fun _=>False) rfl rfl ?aP (fun _ hk=>hk.elim) ?aF ?aO ?aB ?aS ?aL ?_;(case aP=>exact rfl);(case aB=>exact (zz5 HB));(case aF=>exact (fun k_ hk=>Kd.fresh' (Kd.R_lt (zz8 HO_3)) k_ hk));(case aO=>exact (zz8 HO_4));(case aS=>exact (below_size (zz5 HB)));(case aL=>exact (zz3 LMc15));intro v919 w16 ho hb hg hat;rw [← Ny918.out] at ho;replace HO_3:=A_ (Kd.R_after (ok:=(fun _=>True)) (zz96 HO_3) hg hat);replace HB:=A_ (hb);have HO920:=A_ (ho);clear HO_4;clear ho hb hg hat))
      go_roundg k1
      case measure=>have:=HK1.out;omega
      case rel=>exact ⟨(y918),(wrap64 (x5_1+1)),zz0,H',⟨(zz3 HK1)⟩,⟨(zz94 HO_3)⟩,⟨(zz8 HO920)⟩,⟨(zz5 HB)⟩⟩
   ·obtain rfl:=sI H
    obtain ⟨Ao17,co17,eo17⟩:=Kd.R_slice HO_3.out;subst eo17;go_wp2
    go_ret
    exact ⟨_,zz12,(zz97 HO_4),(zz5 HB)⟩
def impl_isHouse.f (k:Nat) (a0:ByteArray):Option (Bool):=if (a0.size:Int) ≥ 1 then (if (a0.size:Int)≤5 then ((impl_allSmallLetters.f k a0).bind fun t565=>(some t565)) else (some false)) else (some false)
theorem impl_isHouse.mono:∀ a0 k,LeO (impl_isHouse.f k a0) (impl_isHouse.f (k+1) a0):=by
 intro a0 k;unfold impl_isHouse.f
 repeat' first|(with_reducible first|exact impl_allSmallLetters.mono _ _|exact LeO.refl _|exact LeO.none _|refine LeO.ite ?_ ?_|refine LeO.bind ?_ (fun _=>?_))|exact LeO.none _|refine LeO.ite ?_ ?_|refine LeO.bind ?_ (fun _=>?_)
theorem impl_isHouse.calls (k:Nat) (a0:ByteArray) (r:Bool) (w:World) (h:impl_isHouse.f k a0=some r) :
  Calls Tryz.prog 57 #[.string a0] w fun e w'=>e=.returned (.bool r)∧Drawn0 w w':=by
 unfold impl_isHouse.f at h
 have H:=h;clear h;replace H:=iteE H;rcases H with ⟨c2,H⟩|⟨c2,H⟩
 ·have c2b0:=geT c2
  have c2b1:decide (1≤a0.size)=true:=dT (by omega);clear c2;replace H:=iteE H;rcases H with ⟨c3,H⟩|⟨c3,H⟩
  ·have c3b0:=dT c3
   have c3b1:decide (a0.size≤5)=true:=dT (by omega);clear c3;replace H:=bindA H;obtain ⟨t565,A4,H⟩:=H;obtain rfl:=sI H;go_enter Tryz.func57,Tryz.ntmps57;go_wp2_with (first|(go_at_call 87;(with_reducible refine (impl_allSmallLetters.calls k a0 t565 _ A4.out).mono ?_);rintro e w' ⟨rfl,⟨nd,rfl⟩⟩))
   go_ret
   exact ⟨zz0,zz1⟩
  ·have c3b0:=dF c3
   have c3b1:decide (a0.size≤5)=false:=dF (by omega);clear c3;obtain rfl:=sI H;go_enter Tryz.func57,Tryz.ntmps57;go_wp2
   go_ret
   exact ⟨zz0,zz1⟩
 ·have c2b0:=geF c2
  have c2b1:decide (1≤a0.size)=false:=dF (by omega);clear c2;obtain rfl:=sI H;go_enter Tryz.func57,Tryz.ntmps57;go_wp2
  go_ret
  exact ⟨zz0,zz1⟩
def spec_l1Text.f (k:Nat) (a0_0:ByteArray) (l0_1:List ByteArray) (a0_2:Bool) (a0_3:ByteArray):Option (ByteArray):=if 2+a0_0.size≤9223372036854775807 then ((spec_l1Path.f k a0_0 l0_1 a0_2 a0_3).bind fun t114=>(if 2+a0_0.size+t114.size≤9223372036854775807 then (some (((⟨#[47,47]⟩:ByteArray)++a0_0)++t114)) else (none))) else (none)
theorem spec_l1Text.mono:∀ a0 a1 a2 a3 k,LeO (spec_l1Text.f k a0 a1 a2 a3) (spec_l1Text.f (k+1) a0 a1 a2 a3):=by
 intro a0 a1 a2 a3 k;unfold spec_l1Text.f
 repeat' first|(with_reducible first|exact spec_l1Path.mono _ _ _ _ _|exact LeO.refl _|exact LeO.none _|refine LeO.ite ?_ ?_|refine LeO.bind ?_ (fun _=>?_))|exact LeO.none _|refine LeO.ite ?_ ?_|refine LeO.bind ?_ (fun _=>?_)
theorem spec_l1Text.calls (k:Nat) (a0_0:ByteArray) (A0_1:Option Addr) (c0_1:Nat) (l0_1:List ByteArray) (a0_2:Bool) (a0_3:ByteArray) (r:ByteArray) (w:World) (hr0_1:Kd.C Kd.string w A0_1 l0_1.length l0_1) (hc0_1:l0_1.length≤c0_1) (h:spec_l1Text.f k a0_0 l0_1 a0_2 a0_3=some r) :
  Calls Tryz.prog 73 #[.agg #[.string a0_0,.slice A0_1 l0_1.length c0_1,.bool a0_2,.string a0_3]] w fun e w'=>e=.returned (.string r)∧Below w.heap.size w w':=by
 have hu39:=Tryz.underlying39;have HR0_1:=A_ hr0_1;have HC0_1:=A_ hc0_1;clear hr0_1 hc0_1;have HB:=A_ (Below.refl w.heap.size w);unfold spec_l1Text.f at h
 have H:=h;clear h;replace H:=iteE H;rcases H with ⟨c2,H⟩|⟨c2,H⟩
 ·have c2b0:=eq_true c2
  have c2b1:=dT c2;try have c2b2:(9223372036854775807 < 2+a0_0.size)=False:=eq_false (Nat.not_lt.2 c2)
  replace H:=bindA H;obtain ⟨t114,A3,H⟩:=H;replace H:=iteN H;obtain ⟨c4,H⟩:=H;have c4b0:=eq_true c4;have c4b1:=dT c4;try have c4b2:(9223372036854775807 < 2+a0_0.size+t114.size)=False:=eq_false (Nat.not_lt.2 c4)
  obtain rfl:=sI H;go_enter Tryz.func73,Tryz.ntmps73;try go_wp2_with (first|(refine boxF 1 #[.string a0_0,.slice A0_1 l0_1.length c0_1,.bool a0_2,.string a0_3] 39 ?_;intro gb113 hg w5 BK113 hb;have GE113:=geB hg (zz5 HB);replace HB:=A_ (bS (zz5 HB) hb);clear hb hg))
  replace BK113:=A_ (blk_drew BK113.out);replace HB:=A_ (below_drew1 HB.out);refine start_ (n:=7) (S:=fun w'=>w'.cell? ⟨gb113,0,none⟩=some (.string a0_0)∧w'.cell? ⟨gb113,1,none⟩=some (.slice A0_1 l0_1.length c0_1)∧w'.cell? ⟨gb113,2,none⟩=some (.bool a0_2)∧w'.cell? ⟨gb113,3,none⟩=some (.string a0_3)) (ds:=[]) #[yF,yF,yF,yF,yF,yF,yF] (by kernel_rfl) rfl rfl ⟨(blk_cell BK113.out 0).trans rfl,(blk_cell BK113.out 1).trans rfl,(blk_cell BK113.out 2).trans rfl,(blk_cell BK113.out 3).trans rfl⟩ (fun hHeld=>?_);generalize w5.drew=w6 at BK113 HB hHeld ⊢;refine pureY 0 (some 3) #[yT,yF,yF,yF,yF,yF,yF] ?_;refine takeY4 1 (some 4) #[yT,yT,yF,yF,yF,yF,yF] hHeld ?_;refine pureY 2 (some 5) #[yT,yT,yT,yF,yF,yF,yF] ?_;refine takeY4 3 (some 6) #[yT,yT,yT,yT,yF,yF,yF] hHeld ?_;refine one_ (i:=4) (N:=some 7) #[yT,yT,yT,yT,yT,yF,yF] rfl rfl (by kernel_rfl) (by decide) (fun K hK=>?_);refine goes_ Tryz.func100 (by kernel_rfl) rfl #[.agg #[.string a0_0,.slice A0_1 l0_1.length c0_1,.bool a0_2,.string a0_3]] (by rfl) rfl rfl zz27 ?_;with_reducible refine (spec_l1Path.calls k a0_0 _ _ l0_1 a0_2 a0_3 t114 _ ?side1 ?side2 A3.out).mono ?_
  (case side1=>exact (zz98 HR0_1 HB))
  (case side2=>exact HC0_1.out)
  rintro e w7 ⟨rfl,hb⟩;refine ⟨_,rfl,?_⟩;replace BK113:=A_ (bB (zz15 BK113) hb);replace HB:=A_ (bS (zz16 HB GE113) hb);(try clear hb)
  (try clear hb2)
  (try clear hk)
  (try clear hi)
  refine hK.out _ _ ⟨(blk_cell BK113.out 0).trans rfl,(blk_cell BK113.out 1).trans rfl,(blk_cell BK113.out 2).trans rfl,(blk_cell BK113.out 3).trans rfl⟩ (fun hHeld=>?_);clear hK K;refine nZ 7 ?_;refine pureY 5 (some 8) #[yT,yT,yT,yT,yT,yT,yF] ?_;refine pureY 6 (some 2) #[yT,yT,yT,yT,yT,yT,yT] ?_;refine done_ (by kernel_rfl) ?_;try go_wp2
  go_ret
  exact ⟨zz12,(zz16 HB GE113)⟩
 ·exact absurd H (by simp)
def spec_l1Norm.f (k:Nat) (a0:ByteArray):Option (Bool):=(spec_EscNorm.f k a0).bind fun bt125=>(if bt125.2=true then (some (bt125.1.toList == a0.toList)) else (some false))
theorem spec_l1Norm.mono:∀ a0 k,LeO (spec_l1Norm.f k a0) (spec_l1Norm.f (k+1) a0):=by
 intro a0 k;unfold spec_l1Norm.f
 repeat' first|(with_reducible first|exact spec_EscNorm.mono _ _|exact LeO.refl _|exact LeO.none _|refine LeO.ite ?_ ?_|refine LeO.bind ?_ (fun _=>?_))|exact LeO.none _|refine LeO.ite ?_ ?_|refine LeO.bind ?_ (fun _=>?_)
theorem spec_l1Norm.calls (k:Nat) (a0:ByteArray) (r:Bool) (w:World) (h:spec_l1Norm.f k a0=some r) :
  Calls Tryz.prog 99 #[.string a0] w fun e w'=>e=.returned (.bool r)∧Below w.heap.size w w':=by
 have HB:=A_ (Below.refl w.heap.size w);unfold spec_l1Norm.f at h
 have H:=h;clear h;replace H:=bindA H;obtain ⟨⟨t125,t126⟩,A2,H⟩:=H;try dsimp only at H
 have HF3:=A_ H;clear H;go_enter Tryz.func99,Tryz.ntmps99;go_wp2_with (first|(refine gR 120 (some 7) Tryz.func120 (spec_EscNorm.calls k a0 t125 t126 _ A2.out) ?_;rintro w4 hb;replace HB:=A_ (bS (zz5 HB) hb);(try clear hb))|((with_reducible refine atG ?_ ?_ fun K_ hK_=>?_);rfl;exact undecG)|((with_reducible refine atI ?_ fun K_ hK_=>?_);exact undecI))
 refine unG hK_ ?_;clear hK_ K_;obtain ⟨H⟩:=HF3;replace H:=iteB H;rcases H with ⟨rfl,H⟩|⟨rfl,H⟩
 ·(first|refine iteT ?_|refine iteF ?_|skip)
  obtain rfl:=sI H;(try ((with_reducible refine upS ?_);go_simp))
  go_wp2
  go_ret
  exact ⟨zz12,(zz5 HB)⟩
 ·(first|refine iteT ?_|refine iteF ?_|skip)
  obtain rfl:=sI H;(try ((with_reducible refine upS ?_);go_simp))
  go_wp2
  go_ret
  exact ⟨zz12,(zz5 HB)⟩
def spec_l11Get.f (k:Nat) (l0:List (S30)) (a1:ByteArray) (a2:Int):Option (Int×ByteArray):=(spec_l11At.f k l0 a1).bind fun bt545=>(if bt545.2.2.2.2=true then (if a2 < bt545.2.2.2.1 then (some (3,(⟨#[]⟩:ByteArray))) else (if bt545.2.2.1.toList=([]:List UInt8) then (some (1,bt545.2.1)) else (some (2,bt545.2.2.1)))) else (some (0,(⟨#[]⟩:ByteArray))))
theorem spec_l11Get.calls (k:Nat) (A0:Option Addr) (c0:Nat) (l0:List (S30)) (a1:ByteArray) (a2:Int) (r1:Int) (r2:ByteArray) (w:World) (hr0:Kd.C k30 w A0 l0.length l0) (hc0:l0.length≤c0) (h:spec_l11Get.f k l0 a1 a2=some (r1,r2)) :
  Calls Tryz.prog 23 #[.slice A0 l0.length c0,.string a1,.int .i64 a2] w fun e w'=>e=.returned (.tuple #[.int .i64 r1,.string r2])∧Below w.heap.size w w':=by
 have hu30:=Tryz.underlying30;have HR0:=A_ hr0;have HC0:=A_ hc0;clear hr0 hc0;have HB:=A_ (Below.refl w.heap.size w);unfold spec_l11Get.f at h
 have H:=h;clear h;replace H:=bindA H;obtain ⟨⟨t545,t546,t547,t548,t549⟩,A4,H⟩:=H;try dsimp only at H
 have HF5:=A_ H;clear H;go_enter Tryz.func23,Tryz.ntmps23;go_upto_if 16 with (first|(go_at_call 44;(with_reducible refine (spec_l11At.calls k _ _ l0 a1 t545 t546 t547 t548 t549 _ ?side1 ?side2 A4.out).mono ?_);(case side1=>exact (zz70 HR0));(case side2=>exact HC0.out);rintro e w6 ⟨rfl,hb⟩;replace HB:=A_ (bS (zz5 HB) hb);(try clear hb))|(refine boxF 8 #[.string (⟨#[]⟩:ByteArray),.string (⟨#[]⟩:ByteArray),.string (⟨#[]⟩:ByteArray),.int .i64 0] 30 ?_;intro gb550 hg w7 BK550 hb;have GE550:=geB hg (zz5 HB);replace HB:=A_ (bS (zz5 HB) hb);clear hb hg;obtain ⟨_,_,_,_,_,_,_,_⟩:=cf4 BK550)|((with_reducible refine gate_store (t:=30) (p:=8) rfl ?_);(try (rw [drewN_self w7];generalize hq_:World.drewN w7 _=w7;have HB:=A_ (below_at hq_ HB.out);clear hq_ BK550 HB;have BK550:=A_ (blk_at hq_ BK550.out)));refine store_event (t:=30) (p:=8) (v:=?vo_w9) (w1:=((((w7.setCell ⟨gb550,0,none⟩ (.string t545)).setCell ⟨gb550,1,none⟩ (.string t546)).setCell ⟨gb550,2,none⟩ (.string t547)).setCell ⟨gb550,3,none⟩ (.int .i64 t548))) ?hg ?ho ?hn ?hr ?_;(case ho=>rfl);(case hg=>rfl);(case hn=>rfl);(case hr=>exact zz26);intro w9 hw;have n0_:Aside0 (w9.heap[gb550]?=some (.cells #[.string t545,.string t546,.string t547,.int .i64 t548] 30 (0,0))):=⟨(by rw [hw];exact (zz32 BK550))⟩;have n1_:Aside0 (Below w.heap.size w w9):=⟨(by rw [hw];exact (zz16 HB GE550))⟩;clear hw;clear BK550;clear HB;have BK550:=n0_;have HB:=n1_;clear n0_ n1_))
 repeat (go_quiet (first|(go_at_call 44;(with_reducible refine (spec_l11At.calls k _ _ l0 a1 t545 t546 t547 t548 t549 _ ?side1 ?side2 A4.out).mono ?_);(case side1=>exact (zz70 HR0));(case side2=>exact HC0.out);rintro e w6 ⟨rfl,hb⟩;replace HB:=A_ (bS (zz5 HB) hb);(try clear hb))|(refine boxF 8 #[.string (⟨#[]⟩:ByteArray),.string (⟨#[]⟩:ByteArray),.string (⟨#[]⟩:ByteArray),.int .i64 0] 30 ?_;intro gb550 hg w7 BK550 hb;have GE550:=geB hg (zz5 HB);replace HB:=A_ (bS (zz5 HB) hb);clear hb hg;obtain ⟨_,_,_,_,_,_,_,_⟩:=cf4 BK550)|((with_reducible refine gate_store (t:=30) (p:=8) rfl ?_);(try (rw [drewN_self w7];generalize hq_:World.drewN w7 _=w7;have HB:=A_ (below_at hq_ HB.out);clear hq_ BK550 HB;have BK550:=A_ (blk_at hq_ BK550.out)));refine store_event (t:=30) (p:=8) (v:=?vo_w9) (w1:=((((w7.setCell ⟨gb550,0,none⟩ (.string t545)).setCell ⟨gb550,1,none⟩ (.string t546)).setCell ⟨gb550,2,none⟩ (.string t547)).setCell ⟨gb550,3,none⟩ (.int .i64 t548))) ?hg ?ho ?hn ?hr ?_;(case ho=>rfl);(case hg=>rfl);(case hn=>rfl);(case hr=>exact zz26);intro w9 hw;have n0_:Aside0 (w9.heap[gb550]?=some (.cells #[.string t545,.string t546,.string t547,.int .i64 t548] 30 (0,0))):=⟨(by rw [hw];exact (zz32 BK550))⟩;have n1_:Aside0 (Below w.heap.size w w9):=⟨(by rw [hw];exact (zz16 HB GE550))⟩;clear hw;clear BK550;clear HB;have BK550:=n0_;have HB:=n1_;clear n0_ n1_));go_upto_if 16 with (first|(go_at_call 44;(with_reducible refine (spec_l11At.calls k _ _ l0 a1 t545 t546 t547 t548 t549 _ ?side1 ?side2 A4.out).mono ?_);(case side1=>exact (zz70 HR0));(case side2=>exact HC0.out);rintro e w6 ⟨rfl,hb⟩;replace HB:=A_ (bS (zz5 HB) hb);(try clear hb))|(refine boxF 8 #[.string (⟨#[]⟩:ByteArray),.string (⟨#[]⟩:ByteArray),.string (⟨#[]⟩:ByteArray),.int .i64 0] 30 ?_;intro gb550 hg w7 BK550 hb;have GE550:=geB hg (zz5 HB);replace HB:=A_ (bS (zz5 HB) hb);clear hb hg;obtain ⟨_,_,_,_,_,_,_,_⟩:=cf4 BK550)|((with_reducible refine gate_store (t:=30) (p:=8) rfl ?_);(try (rw [drewN_self w7];generalize hq_:World.drewN w7 _=w7;have HB:=A_ (below_at hq_ HB.out);clear hq_ BK550 HB;have BK550:=A_ (blk_at hq_ BK550.out)));refine store_event (t:=30) (p:=8) (v:=?vo_w9) (w1:=((((w7.setCell ⟨gb550,0,none⟩ (.string t545)).setCell ⟨gb550,1,none⟩ (.string t546)).setCell ⟨gb550,2,none⟩ (.string t547)).setCell ⟨gb550,3,none⟩ (.int .i64 t548))) ?hg ?ho ?hn ?hr ?_;(case ho=>rfl);(case hg=>rfl);(case hn=>rfl);(case hr=>exact zz26);intro w9 hw;have n0_:Aside0 (w9.heap[gb550]?=some (.cells #[.string t545,.string t546,.string t547,.int .i64 t548] 30 (0,0))):=⟨(by rw [hw];exact (zz32 BK550))⟩;have n1_:Aside0 (Below w.heap.size w w9):=⟨(by rw [hw];exact (zz16 HB GE550))⟩;clear hw;clear BK550;clear HB;have BK550:=n0_;have HB:=n1_;clear n0_ n1_)))
 obtain ⟨H⟩:=HF5;replace H:=iteB H;rcases H with ⟨rfl,H⟩|⟨rfl,H⟩
 ·replace H:=iteE H
  rcases H with ⟨c11,H⟩|⟨c11,H⟩
  ·have c11b0:=dT c11
   clear c11;(first|rw [c11b0]|(simp only [i64_w,i32_w];rw [c11b0])|skip)
   simp only [Option.some.injEq,Prod.mk.injEq] at H
   obtain ⟨rfl,rfl⟩:=H;obtain ⟨_,_,_,_,_,_,_,_⟩:=cf4 BK550;go_wp2
   repeat (go_quiet (fail);try go_wp2)
   go_ret2
   exact ⟨zz12,(zz16 HB GE550)⟩
  ·have c11b0:=dF c11
   clear c11;(first|rw [c11b0]|(simp only [i64_w,i32_w];rw [c11b0])|skip)
   replace H:=iteEq H;rcases H with ⟨c13b0,c13b1,H⟩|⟨c13b0,c13b1,c13,H⟩
   ·simp only [Option.some.injEq,Prod.mk.injEq] at H
    obtain ⟨rfl,rfl⟩:=H;obtain ⟨_,_,_,_,_,_,_,_⟩:=cf4 BK550;go_wp2
    repeat (go_quiet (fail);try go_wp2)
    go_ret2
    exact ⟨zz12,(zz16 HB GE550)⟩
   ·simp only [Option.some.injEq,Prod.mk.injEq] at H
    obtain ⟨rfl,rfl⟩:=H;obtain ⟨_,_,_,_,_,_,_,_⟩:=cf4 BK550;go_wp2
    repeat (go_quiet (fail);try go_wp2)
    go_ret2
    exact ⟨zz12,(zz16 HB GE550)⟩
 ·simp only [Option.some.injEq,Prod.mk.injEq] at H
  obtain ⟨rfl,rfl⟩:=H;go_wp2
  repeat (go_quiet (fail);try go_wp2)
  go_ret2
  exact ⟨zz12,(zz16 HB GE550)⟩
def spec_l11Last.f (k:Nat) (l0:List (S30)) (a1:ByteArray):Option (Int×ByteArray):=(spec_l11Get.f k l0 a1 2).bind fun bt838=>(some (bt838.1,bt838.2))
theorem spec_l11Last.calls (k:Nat) (A0:Option Addr) (c0:Nat) (l0:List (S30)) (a1:ByteArray) (r1:Int) (r2:ByteArray) (w:World) (hr0:Kd.C k30 w A0 l0.length l0) (hc0:l0.length≤c0) (h:spec_l11Last.f k l0 a1=some (r1,r2)) :
  Calls Tryz.prog 29 #[.slice A0 l0.length c0,.string a1] w fun e w'=>e=.returned (.tuple #[.int .i64 r1,.string r2])∧Below w.heap.size w w':=by
 have HR0:=A_ hr0;have HC0:=A_ hc0;clear hr0 hc0;have HB:=A_ (Below.refl w.heap.size w);unfold spec_l11Last.f at h
 have H:=h;clear h;replace H:=bindA H;obtain ⟨⟨t838,t839⟩,A3,H⟩:=H;try dsimp only at H
 simp only [Option.some.injEq,Prod.mk.injEq] at H
 obtain ⟨rfl,rfl⟩:=H;go_enter Tryz.func29,Tryz.ntmps29;go_wp2_with (first|(refine gR 23 (some 8) Tryz.func23 (spec_l11Get.calls k _ _ l0 a1 2 t838 t839 _ ?side1 ?side2 A3.out) ?_;(case side1=>exact (zz70 HR0));(case side2=>exact HC0.out);rintro w4 hb;replace HB:=A_ (bS (zz5 HB) hb);(try clear hb)))
 go_ret2
 exact ⟨zz12,(zz5 HB)⟩
def slices_Contains_string_string.f (k:Nat) (l0:List ByteArray) (a1:ByteArray):Option (Bool):=(slices_Index_string_string.f k l0 a1).bind fun t798=>(some (decide (t798 ≥ 0)))
theorem slices_Contains_string_string.calls (k:Nat) (A0:Option Addr) (c0:Nat) (l0:List ByteArray) (a1:ByteArray) (r:Bool) (w:World) (hr0:Kd.C Kd.string w A0 l0.length l0) (hc0:l0.length≤c0) (h:slices_Contains_string_string.f k l0 a1=some r) :
  Calls Tryz.prog 37 #[.slice A0 l0.length c0,.string a1] w fun e w'=>e=.returned (.bool r)∧Drawn0 w w':=by
 have HR0:=A_ hr0;have HC0:=A_ hc0;clear hr0 hc0;unfold slices_Contains_string_string.f at h
 have H:=h;clear h;replace H:=bindA H;obtain ⟨t798,A3,H⟩:=H;obtain rfl:=sI H;go_enter Tryz.func37,Tryz.ntmps37;go_wp2_with (first|(refine gR 63 (some 7) Tryz.func63 (slices_Index_string_string.calls k _ _ l0 a1 t798 _ ?side1 ?side2 A3.out) ?_;(case side1=>exact (zz70 HR0));(case side2=>exact HC0.out);rintro w' ⟨nd,rfl⟩))
 go_ret
 exact ⟨zz0,zz1⟩
end Go.Proofs.YtpomhjkbgbociaaGreatDoor.P
end
section
namespace Go.Proofs.YtpomhjkbgbociaaGreatDoor.P
open Go.RowKit Go.Proofs.YtpomhjkbgbociaaGreatDoorW.PrintWords Go.Proofs.YtpomhjkbgbociaaGreatDoorW.PrintLast Go.Proofs.YtpomhjkbgbociaaGreatDoorW.PrintMore
set_option linter.unusedVariables false
def strings_explode.f (a0:ByteArray) (a1:Int):Option (List ByteArray):=none
theorem strings_explode.calls (a0:ByteArray) (a1:Int) (r:List ByteArray) (w:World) (h:strings_explode.f a0 a1=some r) :
  Calls Tryz.prog 125 #[.string a0,.int .i64 a1] w fun e w'=>∃ v0_:Value,e=.returned (v0_)∧Kd.R Kd.string 9 w' w.heap.size (fun _=>True) v0_ r∧Below w.heap.size w w':=by
 cases h
end Go.Proofs.YtpomhjkbgbociaaGreatDoor.P
end
section
namespace Go.Proofs.YtpomhjkbgbociaaGreatDoor.P
open Go.RowKit Go.Proofs.YtpomhjkbgbociaaGreatDoorW.PrintWords Go.Proofs.YtpomhjkbgbociaaGreatDoorW.PrintLast Go.Proofs.YtpomhjkbgbociaaGreatDoorW.PrintMore
set_option linter.unusedVariables false
section
variable {P:Program} {ops:Array Oper} {Q:Exit→Act→World→Prop}
theorem callv_ {oi:Oper} {N:Option Tmp} {a:Act} {w:World} {K:Act→World→Prop} {f:FuncId} {fn:Func} {as1:Array Operand} {ts:Array TypeId} {cap:Array Value} (hf:P.funcs[f]?=some fn) (hname:(fn.name == "runtime.NumGoroutine")=false) (hb:fn.body.isSome=true) (args:Array Value)
  (hw:Region.wanted oi (yielded ops a.tmps)=true) (hN:oi.dst=N) (t:Operand) (hop:oi.op=.call { callee:=.value t,args:=as1,argTypes:=ts }) (hv:a.eval t=.func (.func f) #[] cap) (hargs:as1.map a.eval++cap=args)
  (h:Calls P f args w fun e w'=>∃ v,e=.returned v∧K (a.put N v) w'):if Region.wanted oi (yielded ops a.tmps)=true then Oper.wp P oi a w K Q else K (a.put N undef) w:=by
 refine call_ f args hw hN ?_ h
 have he:=enters_ hf hname hb args w
 unfold execOp
 simp [hop,resolve,hv,Deferred.ofValue,invoke,hargs,he]
end
theorem heap_set_ne (w:World) (p:Addr) (u:Value) (k:Nat) (h:k≠p.block):(w.setCell p u).heap[k]?=w.heap[k]?:=Below.heap_setCell w p u k h
theorem size_set (w:World) (p:Addr) (u:Value):(w.setCell p u).heap.size=w.heap.size:=by simp
end Go.Proofs.YtpomhjkbgbociaaGreatDoor.P
end
section
namespace Go.Proofs.YtpomhjkbgbociaaGreatDoor.B
open Go.RowKit Go.Proofs.YtpomhjkbgbociaaGreatDoorW.PrintWords Go.Proofs.YtpomhjkbgbociaaGreatDoorW.PrintLast Go.Proofs.YtpomhjkbgbociaaGreatDoorW.PrintMore
set_option linter.unusedVariables false
set_option linter.unusedSimpArgs false
theorem w64 {n:Int} (h0:-9223372036854775808≤n) (h1:n < 9223372036854775808):wrap64 n=n:=by
 unfold wrap64;omega
theorem tmod_nn {a b:Int} (h0:0≤a) (h1:0 < b):0≤Int.tmod a b∧Int.tmod a b < b:=
 ⟨Int.tmod_nonneg _ h0,Int.tmod_lt_of_pos _ h1⟩
theorem tdiv_nn {a b:Int} (h0:0≤a) (h1:0 < b):0≤Int.tdiv a b∧Int.tdiv a b≤a:=by
 rw [Int.tdiv_eq_ediv_of_nonneg h0]
 exact ⟨Int.ediv_nonneg h0 (by omega),Int.ediv_le_self _ h0⟩
theorem xor_nn {a b:Int} (h0:0≤a) (h1:a < 2 ^ 62) (h2:0≤b) (h3:b < 2 ^ 62) :
  0≤Go.bits .xor .i64 a b∧Go.bits .xor .i64 a b < 2 ^ 62:=by
 obtain ⟨x,rfl⟩:=Int.eq_ofNat_of_zero_le h0
 obtain ⟨y,rfl⟩:=Int.eq_ofNat_of_zero_le h2
 have hx:x < 2 ^ 62:=by exact_mod_cast h1
 have hy:y < 2 ^ 62:=by exact_mod_cast h3
 have hx':x % 2 ^ IntKind.i64.bits=x:=Nat.mod_eq_of_lt (Nat.lt_of_lt_of_le hx (by decide))
 have hy':y % 2 ^ IntKind.i64.bits=y:=Nat.mod_eq_of_lt (Nat.lt_of_lt_of_le hy (by decide))
 have hz:x ^^^ y < 2 ^ 62:=Nat.xor_lt_two_pow hx hy
 have e:Go.bits .xor .i64 (x:Int) (y:Int)=((x ^^^ y:Nat):Int):=by
  simp only [Go.bits,BitVec.ofInt_natCast,BitVec.toNat_xor,BitVec.toNat_ofNat,hx',hy']
  rw [IntKind.wrap_i64]
  have:((x ^^^ y:Nat):Int) < 2 ^ 62:=by exact_mod_cast hz
  omega
 rw [e]
 exact ⟨Int.natCast_nonneg _,by exact_mod_cast hz⟩
theorem rd_byte {b:List Int} (hb:∀ x ∈ b,0≤x∧x≤255) (i:Int):0≤rd b i∧rd b i≤255:=by
 unfold rd
 rw [List.getD_eq_getElem?_getD]
 cases h:b[i.toNat]? with
 | none=>simp
 | some v=>simpa using hb v (List.mem_of_getElem? h)
theorem wf_u8 {x:Int} (h:(Lit.int .u8 x).wf=true):0≤x∧x≤255:=by
 simp [Lit.wf,IntKind.min,IntKind.max,IntKind.signed,IntKind.bits] at h
 omega
abbrev L (s:ByteArray):List UInt8:=s.data.toList
theorem L_size (s:ByteArray):(L s).length=s.size:=(Lib.size_eq s).symm
theorem L_app (a b:ByteArray):L (a++b)=L a++L b:=by simp [L]
theorem L_ext (s:ByteArray) (a b:Nat):L (s.extract a b)=((L s).drop a).take (b - a):=Lib.extract_data s a b
theorem L_inj {a b:ByteArray} (h:L a=L b):a=b:=by
 cases a;cases b;congr 1;exact Array.toList_inj.1 h
theorem toList_inj {a b:ByteArray}:a.toList=b.toList↔a=b:=by
 rw [Lib.toList_data,Lib.toList_data];exact ⟨fun h=>L_inj h,fun h=>by rw [h]⟩
theorem toList_nil {a:ByteArray}:a.toList=([]:List UInt8)↔a.size=0:=by
 rw [Lib.toList_data,Lib.size_eq];exact List.length_eq_zero_iff.symm
theorem bt_L (s:ByteArray) (i:Nat):bt s i=(((L s).getD i 0).toNat:Int):=by
 unfold bt
 simp only [Int.toNat_natCast]
 split
 ·rename_i h
  rw [List.getD_eq_getElem?_getD,List.getElem?_eq_getElem (by rw [L_size];exact h)]
  simp [L]
  rfl
 ·rename_i h
  rw [List.getD_eq_getElem?_getD,List.getElem?_eq_none (by rw [L_size];omega)]
  rfl
theorem Ev_succ {α:Type} {g:Nat→Option α} {r:α} (h:Ev (fun k=>g (k+1)) r):Ev g r:=Ev.step (f:=fun k=>g (k+1)) (fun _=>rfl) h
end Go.Proofs.YtpomhjkbgbociaaGreatDoor.B
end
section
namespace Go.Proofs.YtpomhjkbgbociaaGreatDoor.Ad
open Go.RowKit Go.Proofs.YtpomhjkbgbociaaGreatDoorW.PrintWords Go.Proofs.YtpomhjkbgbociaaGreatDoor.B
set_option linter.unusedVariables false
set_option linter.unusedSimpArgs false
abbrev ofL (l:List UInt8):ByteArray:=⟨l.toArray⟩
theorem L_of (l:List UInt8):L (ofL l)=l:=by simp [L]
theorem of_L (s:ByteArray):ofL (L s)=s:=by apply L_inj;simp [L]
theorem ofL_app (a b:List UInt8):ofL (a++b)=ofL a++ofL b:=by apply L_inj;rw [L_of,L_app,L_of,L_of]
theorem ofL_size (l:List UInt8):(ofL l).size=l.length:=by rw [← L_size,L_of]
def plainB (c:UInt8):Bool:=(decide (97≤c.toNat) && decide (c.toNat≤122)) || (decide (48≤c.toNat) && decide (c.toNat≤57)) || c.toNat == 46 || c.toNat == 45
def hexN (c:UInt8):Option Nat:=
 if 48≤c.toNat∧c.toNat≤57 then some (c.toNat - 48) else if 97≤c.toNat∧c.toNat≤102 then some (c.toNat - 87) else if 65≤c.toNat∧c.toNat≤70 then some (c.toNat - 55) else none
theorem hexN_lt {c:UInt8} {x:Nat} (h:hexN c=some x):x < 16:=by
 unfold hexN at h
 split at h
 ·injection h;omega
 ·split at h
  ·injection h;omega
  ·split at h
   ·injection h;omega
   ·cases h
def fig (n:Nat):UInt8:=if n < 10 then UInt8.ofNat (48+n) else UInt8.ofNat (55+n)
def encN (n:Nat):List UInt8:=if plainB (UInt8.ofNat n) then [UInt8.ofNat n] else [37,fig (n / 16),fig (n % 16)]
theorem encN_len (n:Nat):(encN n).length≤3:=by unfold encN;split <;> simp
def esc:List UInt8→Option (List UInt8)
 | []=>some []
 | c :: r=>if c=37 then (match r with
   | a :: b :: q=>(match hexN a,hexN b with
    | some x,some y=>(esc q).map (encN (x * 16+y)++·)
    | _,_=>none)
   | _=>none) else (esc r).map (encN c.toNat++·)
theorem esc_short {r:List UInt8} (h:r.length≤1):esc (37 :: r)=none:=by
 match r,h with
 | [],_=>simp [esc]
 | [_],_=>simp [esc]
 | _ :: _ :: _,h=>simp at h
theorem esc_bad1 {a:UInt8} (b:UInt8) (q:List UInt8) (h:hexN a=none):esc (37 :: a :: b :: q)=none:=by simp [esc,h]
theorem esc_bad2 (a:UInt8) {b:UInt8} (q:List UInt8) (h:hexN b=none):esc (37 :: a :: b :: q)=none:=by
 cases ha:hexN a <;> simp [esc,h,ha]
theorem esc_sign {a b:UInt8} {x y:Nat} (q:List UInt8) (ha:hexN a=some x) (hb:hexN b=some y):esc (37 :: a :: b :: q)=(esc q).map (encN (x * 16+y)++·):=by simp [esc,ha,hb]
theorem esc_plain {c:UInt8} (r:List UInt8) (h:c≠37):esc (c :: r)=(esc r).map (encN c.toNat++·):=by rw [esc.eq_def];exact if_neg h
def escO (o:Option (List UInt8)):ByteArray×Bool:=match o with
 | some r=>(ofL r,true)
 | none=>(⟨#[]⟩,false)
def escNorm (s:ByteArray):ByteArray×Bool:=if s.size > 60 then (⟨#[]⟩,false) else escO (esc (L s))
def isNorm (s:ByteArray):Bool:=(escNorm s).2 && ((escNorm s).1.toList == s.toList)
theorem esc_len (n:Nat):∀ (l r:List UInt8),l.length≤n→esc l=some r→r.length≤3 * l.length:=by
 induction n with
 | zero=>
  intro l r hl h
  obtain rfl:l=[]:=List.length_eq_zero_iff.1 (by omega)
  simp [esc] at h
  subst h
  simp
 | succ n ih=>
  intro l r hl h
  match l,hl,h with
  | [],_,h=>simp [esc] at h;subst h;simp
  | c :: q,hl,h=>
   unfold esc at h
   split at h
   ·match q,hl,h with
    | a :: b :: q',hl,h=>
     simp only at h
     split at h
     ·obtain ⟨t,ht,rfl⟩:=Option.map_eq_some_iff.1 h
      have:=ih q' t (by simp at hl;omega) ht
      exact Nat.le_trans (by rw [List.length_append];exact Nat.add_le_add (encN_len _) this) (by simp only [List.length_cons];omega)
     ·cases h
    | [],_,h=>simp at h
    | [_],_,h=>simp at h
   ·obtain ⟨t,ht,rfl⟩:=Option.map_eq_some_iff.1 h
    have:=ih q t (by simp at hl;omega) ht
    exact Nat.le_trans (by rw [List.length_append];exact Nat.add_le_add (encN_len _) this) (by simp only [List.length_cons];omega)
theorem escNorm_size (s:ByteArray):(escNorm s).1.size≤180:=by
 unfold escNorm
 split
 ·exact Nat.zero_le _
 ·unfold escO
  split
  ·rename_i h1 _ r h
   have:=esc_len _ _ _ (Nat.le_refl _) h
   rw [ofL_size]
   rw [L_size] at this
   omega
  ·exact Nat.zero_le _
def body:List ByteArray→ByteArray
 | []=>⟨#[47]⟩
 | p :: r=>r.foldl (fun a q=>(a++⟨#[47]⟩)++q) ((⟨#[47]⟩:ByteArray)++p)
def pathB (parts:List ByteArray) (asks:Bool) (ask:ByteArray):ByteArray:=if asks=true then (body parts++⟨#[63]⟩)++ask else body parts
def textB (house:ByteArray) (parts:List ByteArray) (asks:Bool) (ask:ByteArray):ByteArray:=((⟨#[47,47]⟩:ByteArray)++house)++pathB parts asks ask
def partOk (p:ByteArray):Bool:=isNorm p && !(p.toList == []) && !(p.toList == [46]) && !(p.toList == [46,46])
def smallFrom (s:ByteArray):Nat→Nat→Bool
 | 0,_=>true
 | d+1,i=>if bt s i < 97 then false else if bt s i > 122 then false else smallFrom s d (i+1)
def isSmall (s:ByteArray):Bool:=smallFrom s s.size 0
def isHouse (s:ByteArray):Bool:=decide (1≤s.size) && decide (s.size≤5) && isSmall s
def addrOk (house:ByteArray) (parts:List ByteArray) (asks:Bool) (ask:ByteArray):Bool:=
 isHouse house && decide (parts.length≤5) && isNorm ask && (asks || ask.toList == []) && parts.all partOk && decide ((textB house parts asks ask).size≤60)
def addrText (house:ByteArray) (parts:List ByteArray) (asks:Bool) (ask:ByteArray):ByteArray:=if addrOk house parts asks ask=true then textB house parts asks ask else ⟨#[]⟩
theorem isNorm_size {s:ByteArray} (h:isNorm s=true):s.size≤60:=by
 unfold isNorm escNorm at h
 split at h
 ·simp at h
 ·omega
def sm (b:UInt8):UInt8:=if 65≤b.toNat∧b.toNat≤90 then b+32 else b
def smallB (s:ByteArray):ByteArray:=ofL ((L s).map sm)
end Go.Proofs.YtpomhjkbgbociaaGreatDoor.Ad
end
section
namespace Go.Proofs.YtpomhjkbgbociaaGreatDoor.P
open Go.RowKit Go.Proofs.YtpomhjkbgbociaaGreatDoorW.PrintWords Go.Proofs.YtpomhjkbgbociaaGreatDoorW.PrintLast Go.Proofs.YtpomhjkbgbociaaGreatDoorW.PrintMore Go.Proofs.YtpomhjkbgbociaaGreatDoor.B Go.Proofs.YtpomhjkbgbociaaGreatDoor.Ad
set_option linter.unusedVariables false
set_option linter.unusedSimpArgs false
set_option maxHeartbeats 8000000
set_option maxRecDepth 100000
def stringslite_Index.f (a0:ByteArray) (a1:ByteArray):Option (Int):=match L a1 with
 | [c]=>some (Lib.indexByte (L a0) c)
 | _=>none
theorem one_of_L {a:ByteArray} {c:UInt8} (h:L a=[c]):a=⟨#[c]⟩:=L_inj (by rw [h])
theorem stringslite_Index.calls (a0:ByteArray) (a1:ByteArray) (r:Int) (w:World) (h:stringslite_Index.f a0 a1=some r) :
  Calls Tryz.prog 78 #[.string a0,.string a1] w fun e w'=>e=.returned (.int .i64 r)∧Below w.heap.size w w':=by
 unfold stringslite_Index.f at h
 split at h
 ·rename_i c hc
  obtain rfl:=sI h;obtain rfl:=one_of_L hc;exact (Tryz.stringslite_Index_one a0 c w).mono fun e w' ⟨he,hw⟩=>⟨he,hw ▸ Below.refl _ _⟩
 ·cases h
def strings_Count.f (a0:ByteArray) (a1:ByteArray):Option (Int):=match L a1 with
 | [c]=>some (Lib.countByte (L a0) c)
 | _=>none
theorem strings_Count.calls (a0:ByteArray) (a1:ByteArray) (r:Int) (w:World) (h:strings_Count.f a0 a1=some r) :
  Calls Tryz.prog 126 #[.string a0,.string a1] w fun e w'=>e=.returned (.int .i64 r)∧Below w.heap.size w w':=by
 unfold strings_Count.f at h
 split at h
 ·rename_i c hc
  obtain rfl:=sI h;obtain rfl:=one_of_L hc;exact (Tryz.strings_Count_one a0 c w).mono fun e w' ⟨he,hw⟩=>⟨he,hw ▸ Below.refl _ _⟩
 ·cases h
theorem row_at {w:World} {A:Option Addr} {xs:List ByteArray} (h:Kd.C Kd.string w A xs.length xs) (hn:0 < xs.length) :
  ∃ bk o,A=some ⟨bk,o,none⟩∧bk < w.heap.size∧∀ (j:Nat) x,xs[j]?=some x→w.cell? ⟨bk,o+j,none⟩=some (.string x):=by
 obtain ⟨_,_,h3⟩:=h;obtain ⟨ad,rfl,hc⟩:=h3 hn;have cells:∀ (j:Nat) x,xs[j]?=some x→w.cell? (ad.add j)=some (.string x):=by
  intro j x hx;obtain ⟨c,hl,hk,hcell⟩:=hc j x hx;have hk':c=[Value.string x]:=hk;subst hk';have:=hcell 0 (.string x) rfl;rw [show j * Kd.string.sz+0=j from (by show j * 1+0=j;omega)] at this;exact this
 have h0:=cells 0 xs[0] (List.getElem?_eq_getElem hn);obtain ⟨bk,o,sp⟩:=ad;have h0':w.cell? ⟨bk,o,sp⟩=some (.string xs[0]):=h0;have hsp:sp=none:=by
  cases sp with
  | none=>rfl
  | some y=>
   unfold World.cell? at h0'
   simp at h0'
   split at h0' <;> simp at h0'
 subst hsp;refine ⟨bk,o,rfl,?_,fun j x hx=>?_⟩
 ·rcases Nat.lt_or_ge bk w.heap.size with h|h
  ·exact h
  ·unfold World.cell? at h0'
   simp [Array.getElem?_eq_none h] at h0'
 ·have:=cells j x hx
  unfold Addr.add at this
  split at this
  ·rename_i hj;subst hj;exact this
  ·exact this
def strings_Join.f (l0:List ByteArray) (a1:ByteArray):Option (ByteArray):=
 if l0.length≤140737488355328∧(Lib.join (l0.map L) (L a1)).length≤140737488355328 then some (ofL (Lib.join (l0.map L) (L a1))) else none
theorem strings_Join.calls (A0:Option Addr) (c0:Nat) (l0:List ByteArray) (a1:ByteArray) (r:ByteArray) (w:World) (hr0:Kd.C Kd.string w A0 l0.length l0) (hc0:l0.length≤c0) (h:strings_Join.f l0 a1=some r) :
  Calls Tryz.prog 92 #[.slice A0 l0.length c0,.string a1] w fun e w'=>e=.returned (.string r)∧Below w.heap.size w w':=by
 unfold strings_Join.f at h
 split at h
 ·rename_i hh
  obtain rfl:=sI h;rcases Nat.eq_zero_or_pos l0.length with h0|h0
  ·obtain rfl:l0=[]:=List.length_eq_zero_iff.1 h0
   exact (Tryz.strings_Join_none A0 c0 a1 w).mono fun e w' ⟨he,hw⟩=>⟨he,hw ▸ Below.refl _ _⟩
  ·obtain ⟨bk,o,rfl,hb,hcells⟩:=row_at hr0 h0
   exact Tryz.strings_Join bk o c0 l0 a1 w hcells hb hh.1 hc0 hh.2
 ·cases h
def slices_Clone_string_string.f (l0:List ByteArray):Option (List ByteArray):=if l0.length * 16≤140737488355328 then some l0 else none
theorem slices_Clone_string_string.calls (A0:Option Addr) (c0:Nat) (l0:List ByteArray) (r:List ByteArray) (w:World) (hr0:Kd.C Kd.string w A0 l0.length l0) (hc0:l0.length≤c0) (h:slices_Clone_string_string.f l0=some r) :
  Calls Tryz.prog 62 #[.slice A0 l0.length c0] w fun e w'=>∃ v0_:Value,e=.returned (v0_)∧Kd.R Kd.string 9 w' w.heap.size (fun _=>True) v0_ r∧Below w.heap.size w w':=by
 unfold slices_Clone_string_string.f at h
 split at h
 ·rename_i hh
  obtain rfl:=sI h;rcases Nat.eq_zero_or_pos l0.length with h0|h0
  ·obtain rfl:l0=[]:=List.length_eq_zero_iff.1 h0
   cases A0 with
   | none=>exact (Tryz.slices_Clone_string_nil 0 c0 w).mono fun e w' ⟨he,hw⟩=>⟨_,he,Kd.R_nil _ _ _ _ _,hw ▸ Below.refl _ _⟩
   | some a=>exact (Tryz.slices_Clone_string_zero a c0 w).mono fun e w' ⟨v,he,ho,_,hb⟩=>⟨v,he,Kd.R_of_own ho (fun _ _=>trivial),hb⟩
  ·obtain ⟨bk,o,rfl,hb,hcells⟩:=row_at hr0 h0
   refine (Tryz.slices_Clone_string bk o l0.length c0 l0 w (Nat.le_refl _) hh (fun j hj=>?_)).mono fun e w' ⟨v,he,ho,_,hb'⟩=>⟨v,he,Kd.R_of_own ?_ (fun _ _=>trivial),hb'⟩
   ·rw [List.getD_eq_getElem?_getD,List.getElem?_eq_getElem hj]
    exact hcells j _ (List.getElem?_eq_getElem hj)
   ·rw [List.take_length] at ho
    exact ho
 ·cases h
end Go.Proofs.YtpomhjkbgbociaaGreatDoor.P
end
section
namespace Go.Proofs.YtpomhjkbgbociaaGreatDoor.P
open Go.RowKit Go.Proofs.YtpomhjkbgbociaaGreatDoorW.PrintWords Go.Proofs.YtpomhjkbgbociaaGreatDoorW.PrintLast Go.Proofs.YtpomhjkbgbociaaGreatDoorW.PrintMore Go.Proofs.YtpomhjkbgbociaaGreatDoor.B Go.Proofs.YtpomhjkbgbociaaGreatDoor.Ad
set_option linter.unusedVariables false
set_option linter.unusedSimpArgs false
def SmRow (b:Nat) (s:ByteArray) (i:Nat) (w:World):Prop:=
 b < w.heap.size∧∀ j,j < s.size→w.cell? ⟨b,j,none⟩=some (.int .u8 ((if j < i then sm ((L s).getD j 0) else (L s).getD j 0).toNat:Nat))∧w.frozen? ⟨b,j,none⟩=false
theorem sm_start (w:World) (e:TypeId) (s:ByteArray):SmRow w.heap.size s 0 (Lib.bytesWorld w e s):=by
 refine ⟨by rw [Lib.bytesWorld_size];omega,fun j hj=>⟨?_,?_⟩⟩
 ·rw [Lib.bytesWorld_cell w e s j hj];simp [L]
 ·have hk:s.size≤(Lib.bytesCells w e s).size:=by rw [Lib.bytesCells];simp
  simp only [World.frozen?,Lib.bytesWorld_at_new]
  simp
  omega
theorem sm_below (w:World) (e:TypeId) (s:ByteArray):Below w.heap.size w (Lib.bytesWorld w e s):=by
 refine ⟨rfl,rfl,rfl,by rw [Lib.bytesWorld_size];omega,fun j hj=>Lib.bytesWorld_at_old w e s j hj⟩
theorem sm_set {b:Nat} {s:ByteArray} {i:Nat} {w:World} (h:SmRow b s i w) (hi:i < s.size):SmRow b s (i+1) (w.setCell ⟨b,i,none⟩ (.int .u8 ((sm ((L s).getD i 0)).toNat:Nat))):=by
 refine ⟨by rw [size_set];exact h.1,fun j hj=>⟨?_,by rw [World.frozen?_setCell];exact (h.2 j hj).2⟩⟩
 rcases Nat.lt_trichotomy j i with h1|h1|h1
 ·rw [World.cell?_setCell_other _ _ _ _ (by intro e;injection e with _ e;omega),(h.2 j hj).1,if_pos h1,if_pos (by omega)]
 ·subst h1;rw [World.cell?_setCell_same _ _ _ (h.2 j hj).1,if_pos (by omega)]
 ·rw [World.cell?_setCell_other _ _ _ _ (by intro e;injection e with _ e;omega),(h.2 j hj).1,if_neg (by omega),if_neg (by omega)]
theorem sm_skip {b:Nat} {s:ByteArray} {i:Nat} {w:World} (h:SmRow b s i w) (hi:i < s.size) (he:sm ((L s).getD i 0)=(L s).getD i 0):SmRow b s (i+1) w:=by
 refine ⟨h.1,fun j hj=>⟨?_,(h.2 j hj).2⟩⟩
 rw [(h.2 j hj).1]
 rcases Nat.lt_trichotomy j i with h1|h1|h1
 ·rw [if_pos h1,if_pos (by omega)]
 ·subst h1;rw [if_neg (by omega),if_pos (by omega),he]
 ·rw [if_neg (by omega),if_neg (by omega)]
end Go.Proofs.YtpomhjkbgbociaaGreatDoor.P
end
section
namespace Go.Proofs.YtpomhjkbgbociaaGreatDoor.P
open Go.RowKit Go.Proofs.YtpomhjkbgbociaaGreatDoorW.PrintWords Go.Proofs.YtpomhjkbgbociaaGreatDoorW.PrintLast Go.Proofs.YtpomhjkbgbociaaGreatDoorW.PrintMore Go.Proofs.YtpomhjkbgbociaaGreatDoor.B Go.Proofs.YtpomhjkbgbociaaGreatDoor.Ad
set_option linter.unusedVariables false
set_option linter.unusedSimpArgs false
set_option maxHeartbeats 8000000
set_option maxRecDepth 100000
def sq:ByteArray:=⟨#[47,63]⟩
theorem sq_at:sq.size=2∧(∀ h:0 < sq.size,(sq[0]'h).toNat=47)∧(∀ h:1 < sq.size,(sq[1]'h).toNat=63):=by decide +kernel
theorem valid_same (r:Int):Utf8.valid r=Lib.validRune r:=by
 unfold Utf8.valid Lib.validRune
 rw [Bool.eq_iff_iff];simp only [Bool.or_eq_true,Bool.and_eq_true,decide_eq_true_eq]
 omega
theorem decode_skip (s:ByteArray) (pos:Nat) (h:pos < s.size) (ha:128≤(s[pos]'h).toNat) :
  pos+(Utf8.decode s pos).2≤s.size∧∀ j,pos≤j→j < pos+(Utf8.decode s pos).2→∀ hj:j < s.size,128≤(s[j]'hj).toNat:=by
 have hn:¬ (s[pos]'h).toNat < 128:=by omega
 have one:pos+1≤s.size∧∀ j,pos≤j→j < pos+1→∀ hj:j < s.size,128≤(s[j]'hj).toNat:=by
  refine ⟨h,fun j h1 h2 hj=>?_⟩;obtain rfl:j=pos:=by omega
  exact ha
 have cont:∀ k,(decide (pos+k < s.size) && ((s.get! (pos+k)).toNat / 64 == 2))=true→pos+k < s.size∧∀ hj:pos+k < s.size,128≤(s[pos+k]'hj).toNat:=by
  intro k hk;simp only [Bool.and_eq_true,decide_eq_true_eq,beq_iff_eq] at hk
  refine ⟨hk.1,fun hj=>?_⟩;have e:=get_at s (pos+k) hj;rw [Nat.add_zero] at e;rw [e] at hk;omega
 simp only [Utf8.decode,get_at s pos h,hn,if_false]
 split
 ·rename_i h1
  simp only [Bool.and_eq_true] at h1
  obtain ⟨l1,b1⟩:=cont 1 (by simpa using h1.2);split
  ·refine ⟨(by show pos+2≤_;omega),fun j h2 h3 hj=>?_⟩
   have h3':j < pos+2:=h3;rcases (by omega:j=pos∨j=pos+1) with e|e
   ·subst e;exact ha
   ·subst e;exact b1 hj
  ·exact one
 ·split
  ·rename_i _ h1
   simp only [Bool.and_eq_true] at h1
   obtain ⟨l1,b1⟩:=cont 1 (by simpa using h1.1.2);obtain ⟨l2,b2⟩:=cont 2 (by simpa using h1.2);split
   ·refine ⟨(by show pos+3≤_;omega),fun j h2 h3 hj=>?_⟩
    have h3':j < pos+3:=h3;rcases (by omega:j=pos∨j=pos+1∨j=pos+2) with e|e|e
    ·subst e;exact ha
    ·subst e;exact b1 hj
    ·subst e;exact b2 hj
   ·exact one
  ·split
   ·rename_i _ _ h1
    simp only [Bool.and_eq_true] at h1
    obtain ⟨l1,b1⟩:=cont 1 (by simpa using h1.1.1.2);obtain ⟨l2,b2⟩:=cont 2 (by simpa using h1.1.2);obtain ⟨l3,b3⟩:=cont 3 (by simpa using h1.2);split
    ·refine ⟨(by show pos+4≤_;omega),fun j h2 h3 hj=>?_⟩
     have h3':j < pos+4:=h3;rcases (by omega:j=pos∨j=pos+1∨j=pos+2∨j=pos+3) with e|e|e|e
     ·subst e;exact ha
     ·subst e;exact b1 hj
     ·subst e;exact b2 hj
     ·subst e;exact b3 hj
    ·exact one
   ·exact one
theorem noAny_skip {s:ByteArray} {pos n:Nat} (h:Lib.NoAny (L s) (L sq) pos) (hb:∀ j,pos≤j→j < pos+n→∀ hj:j < s.size,128≤(s[j]'hj).toNat):Lib.NoAny (L s) (L sq) (pos+n):=by
 intro j b hj hx;rcases Nat.lt_or_ge j pos with hlt|hge
 ·exact h j b hlt hx
 ·obtain ⟨hl,he⟩:=List.getElem?_eq_some_iff.1 hx
  have hjs:j < s.size:=by rw [← L_size];exact hl
  have h1:=hb j hge hj hjs;have h2:(s[j]'hjs)=b:=by rw [← he];rfl
  rw [h2] at h1;have:L sq=[47,63]:=rfl;rw [this];simp only [List.contains_cons,List.contains_nil,Bool.or_false,Bool.or_eq_false_iff,beq_eq_false_iff_ne]
  constructor
  ·rintro rfl;exact absurd h1 (by decide)
  ·rintro rfl;exact absurd h1 (by decide)
theorem indexRune_far (r:Int) (w:World) (h0:128≤r) (h1:r≤2147483647) :
  Calls Tryz.prog 80 #[.string sq,.int .i32 r] w fun e w'=>e=.returned (.int .i64 (-1))∧Below w.heap.size w w':=by
 have g0:decide (0≤r)=true:=dT (by omega);have g1:decide (r < 128)=false:=dF (by omega);obtain ⟨hsz,hs0,hs1⟩:=sq_at;by_cases hr:r=65533
 ·subst hr
  have n0:=fun ty=>run_next_ascii (P:=Tryz.prog) w sq 0 ty (by rw [hsz];decide) (by rw [hs0];decide)
  have n1:=fun ty=>run_next_ascii (P:=Tryz.prog) w sq 1 ty (by rw [hsz];decide) (by rw [hs1];decide)
  rw [hs0] at n0;rw [hs1] at n1;have n2:=fun ty=>run_next_end (P:=Tryz.prog) w sq 2 ty (by rw [hsz];decide)
  clear hsz hs0 hs1 h0 h1 g0 g1;go_enter Tryz.func80,Tryz.ntmps80;go_wp2
  go_loopg [5,6] 2 (fun g _ _ wx=>∃ i:Nat,i+g=2∧wx=w.iter sq i)
  case atStart=>exact ⟨0,by omega,rfl⟩
  case round=>
   obtain ⟨i,hig,rfl⟩:=hrel;cases gk with
   | zero=>
    obtain rfl:i=2:=by omega
    go_wp2
    go_ret
    exact ⟨rfl,(Below.refl _ _).alloc (Nat.le_refl _) _⟩
   | succ g=>
    rcases (by omega:i=0∨i=1) with e|e
    ·subst e
     go_wp2
     go_roundg g
     case measure=>omega
     case rel=>exact ⟨1,by omega,rfl⟩
    ·subst e
     go_wp2
     go_roundg g
     case measure=>omega
     case rel=>exact ⟨2,by omega,rfl⟩
 ·have g2:(r == 65533)=false:=by simp [hr]
  cases hv:Lib.validRune r with
  | false=>
   go_enter Tryz.func80,Tryz.ntmps80;go_wp2_with (go_at_call 109;refine (Tryz.utf8_ValidRune _ _).mono ?_;rintro e w' ⟨rfl,hw⟩;rw [hw,hv])
   go_ret
   exact ⟨rfl,Below.refl _ _⟩
  | true=>
   obtain ⟨e1,e2,e3⟩:=encode_facts r (by rw [valid_same];exact hv) h0;go_enter Tryz.func80,Tryz.ntmps80;go_wp2_with (go_at_call 109;refine (Tryz.utf8_ValidRune _ _).mono ?_;rintro e w' ⟨rfl,hw⟩;rw [hw,hv])
   go_step3
   go_wp2
   generalize Utf8.encode r=nd at e1 e2 e3 ⊢;refine wp_loop_rounds 1 ?_;rw [rounds_succ];by_cases hn:nd.size=2
   ·obtain ⟨x,hx⟩:∃ x:UInt8,∀ h:1 < nd.size,nd[1]'h=x:=⟨nd[1]'(by omega),fun _=>rfl⟩
    have hx1:128≤x.toNat:=by
     have:=e3 (by omega);simp only [hn] at this
     rw [← hx (by omega)];exact this
    clear e3;have hne:((63:Int) != (x.toNat:Int))=true:=by simp;omega
    have hnz:((nd.size:Nat):Int) - 1=1:=by omega
    rw [hnz];have HN:=A_ hn;have hlt:(1:Int) < (nd.size:Int):=by omega
    clear hn hnz e1 e2;have hs1':=hs1 (by rw [hsz];decide);have hi1:(1:Int) < (sq.size:Int):=by rw [hsz];decide
    have hs2:(2:Int)≤(sq.size:Int):=by rw [hsz];decide
    go_wp2
    go_step3
    go_wp2
    go_quiet (fail)
    have HB:Aside0 (Below w.heap.size w (w.drewN nq)):=⟨pw_below_drewN (Below.refl _ _) nq⟩;generalize w.drewN nq=w1 at HB ⊢;have hib:Lib.indexByte (sq.extract 2 2).data.toList ((x.toNat:Int)).toNat.toUInt8=-1:=rfl;go_wp2
    go_quiet ((go_at_call 108;exact Calls.quiet_of_same (Tryz.strings_IndexByte _ _ _)))
    go_wp2
    rw [Exit.noGoto_ret];go_wp2
    rw [Exit.noGoto_ret];go_ret
    exact ⟨rfl,pw_below_drewN HB.out _⟩
   ·have hge:decide ((nd.size:Int) - 1 < 2)=false:=dF (by omega)
    go_wp2
    rw [Exit.noGoto_ret];go_ret
    exact ⟨rfl,Below.refl _ _⟩
def strings_IndexAny.f (a0 a1:ByteArray):Option Int:=if L a1=[47,63]∧a0.size < 4294967281 then some (Lib.indexAny (L a0) (L a1)) else none
def iterTo (w:World) (b:Nat) (s:ByteArray) (p:Nat):World:={ w with heap:=w.heap.setIfInBounds b (.stringIter s p) }
theorem iterTo_at {w:World} {b:Nat} {s:ByteArray} {p q:Nat} (h:w.heap[b]?=some (.stringIter s q)):(iterTo w b s p).heap[b]?=some (.stringIter s p):=by
 obtain ⟨hl,_⟩:=Array.getElem?_eq_some_iff.1 h;simp [iterTo,hl]
theorem iterTo_below {w0 w:World} {b:Nat} {s:ByteArray} {p:Nat} (h:Below w0.heap.size w0 w) (hb:w0.heap.size≤b):Below w0.heap.size w0 (iterTo w b s p):=
 ⟨h.os,h.tape,h.output,(by simp [iterTo];exact h.size),fun i hi=>by
  rw [← h.block i hi];simp only [iterTo]
  exact Array.getElem?_setIfInBounds_ne (by omega)⟩
theorem run_next_in {P:Program} (w:World) (b:Nat) (s:ByteArray) (pos:Nat) (hb:w.heap[b]?=some (.stringIter s pos)) (h:pos < s.size) (ty:TypeId) :
  (Instr.next (.pointer (some ⟨b,0,none⟩)) true ty).run P w=.ok (.tuple #[.bool true,.int .i64 pos,.int .i32 (Utf8.decode s pos).1]) (iterTo w b s (pos+(Utf8.decode s pos).2)):=by
 simp only [Instr.next,getObj,setObj,Sem.run_bind,Sem.run,hb,Result.andThen,h,if_true,iterTo]
 simp [goInt]
theorem run_next_out {P:Program} (w:World) (b:Nat) (s:ByteArray) (pos:Nat) (hb:w.heap[b]?=some (.stringIter s pos)) (h:¬ pos < s.size) (ty:TypeId) :
  (Instr.next (.pointer (some ⟨b,0,none⟩)) true ty).run P w=.ok (.tuple #[.bool false]) w:=by
 simp [Instr.next,getObj,Sem.run,hb,h]
theorem indexAny_few (s:ByteArray) (w:World) (h8:s.size≤8) :
  Calls Tryz.prog 54 #[.string s,.string sq] w fun e w'=>e=.returned (.int .i64 (Lib.indexAny (L s) (L sq)))∧Below w.heap.size w w':=by
 have hemp:sq.toList.isEmpty=false:=by decide +kernel
 have hn1:((sq.size:Int) == 1)=false:=by decide +kernel
 have h8z:decide ((8:Int) < (s.size:Int))=false:=dF (by omega);go_enter Tryz.func54,Tryz.ntmps54;go_wp2_with (go_at_call 81;refine (Tryz.strings_shouldUseASCIISet _ _).mono ?_;rintro e w' ⟨rfl,hw⟩;rw [hw,h8z])
 go_loopg [9,10] s.size (fun g _ _ wx=>∃ i:Nat,i+g=s.size∧Aside0 (wx.heap[w.heap.size]?=some (.stringIter s i))∧Aside0 (Lib.NoAny (L s) (L sq) i)∧Aside0 (Below w.heap.size w wx))
 case atStart=>exact ⟨0,by omega,⟨World.iter_heap w s 0⟩,⟨Lib.NoAny.zero _ _⟩,⟨(Below.refl _ _).alloc (Nat.le_refl _) _⟩⟩
 case round=>
  obtain ⟨i,hig,hI,HN,HB⟩:=hrel;cases gk with
  | zero=>
   obtain rfl:i=s.size:=by omega
   have hnx:=run_next_out (P:=Tryz.prog) wr w.heap.size s s.size hI.out (by omega);go_wp2
   go_ret
   exact ⟨(by rw [Lib.indexAny_none (by rw [L_size];exact HN.out)];rfl),HB.out⟩
  | succ g=>
   have hi:i < s.size:=by omega
   have hnx:=run_next_in (P:=Tryz.prog) wr w.heap.size s i hI.out hi;obtain ⟨x,hx⟩:∃ x:UInt8,s[i]'hi=x:=⟨_,rfl⟩;have Hx:Aside0 ((L s)[i]?=some x):=⟨(by rw [← hx];exact Lib.data_getElem? s i hi)⟩;by_cases hlt:x.toNat < 128
   ·have hd:=decode_ascii s i hi (by rw [hx];exact hlt)
    rw [hx] at hd;rw [hd] at hnx;clear hd;have HI2:Aside0 ((iterTo wr w.heap.size s (i+1)).heap[w.heap.size]?=some (.stringIter s (i+1))):=⟨iterTo_at hI.out⟩;have HB2:Aside0 (Below w.heap.size w (iterTo wr w.heap.size s (i+1))):=⟨iterTo_below HB.out (Nat.le_refl _)⟩;simp only at hnx
    have hcon:=Lib.contains_iff_indexByte (L sq) x;have hback:((x.toNat:Int)).toNat.toUInt8=x:=by simp
    obtain ⟨q,hq⟩:∃ q,Lib.indexByte sq.data.toList x=q:=⟨_,rfl⟩;have hcon:(L sq).contains x=decide (0≤q):=by rw [← hq];exact hcon
    clear hx HB hI;generalize iterTo wr w.heap.size s (i+1)=w2 at hnx HI2 HB2;cases hin:(L sq).contains x
    ·rw [hin] at hcon
     have hlt0:¬ ((0:Int)≤q):=of_decide_eq_false hcon.symm;clear hcon;have HS:Aside0 (Lib.NoAny (L s) (L sq) (i+1)):=⟨HN.out.succ Hx.out hin⟩;clear hin;go_wp2_with (go_at_call 80;refine (Tryz.strings_IndexRune_ascii _ _ _ (by omega) (by omega)).mono ?_;rintro e w' ⟨rfl,hw⟩;rw [hw,hback,hq])
     go_roundg g
     case measure=>omega
     case rel=>exact ⟨i+1,by omega,HI2,HS,HB2⟩
    ·rw [hin] at hcon
     have hge:(0:Int)≤q:=of_decide_eq_true hcon.symm;clear hcon;have HE:Aside0 (Lib.indexAny (L s) (L sq)=i):=⟨Lib.indexAny_hit HN.out Hx.out hin⟩;clear hin;go_wp2_with (go_at_call 80;refine (Tryz.strings_IndexRune_ascii _ _ _ (by omega) (by omega)).mono ?_;rintro e w' ⟨rfl,hw⟩;rw [hw,hback,hq])
     go_ret
     exact ⟨(by rw [HE.out];rfl),HB2.out⟩
   ·obtain ⟨hd1,hd2⟩:=decode_high s i hi (by rw [hx];omega)
    have hd3:=decode_le s i;obtain ⟨hk1,hk2⟩:=decode_skip s i hi (by rw [hx];omega);generalize (Utf8.decode s i).2=n at hnx hd2 hk1 hk2;generalize (Utf8.decode s i).1=c at hnx hd1 hd3;have HI2:Aside0 ((iterTo wr w.heap.size s (i+n)).heap[w.heap.size]?=some (.stringIter s (i+n))):=⟨iterTo_at hI.out⟩;have HB2:Aside0 (Below w.heap.size w (iterTo wr w.heap.size s (i+n))):=⟨iterTo_below HB.out (Nat.le_refl _)⟩;have HS:Aside0 (Lib.NoAny (L s) (L sq) (i+n)):=⟨noAny_skip HN.out hk2⟩;have hlo:(128:Int)≤(c:Int):=by omega
    have hhi:(c:Int)≤2147483647:=by omega
    have HK:=A_ hk1;have HD:=A_ hd2;clear hx HB hI HN Hx hk1 hk2 hd1 hd2 hd3 hlt;generalize iterTo wr w.heap.size s (i+n)=w2 at hnx HI2 HB2;go_wp2_with (go_at_call 80;refine (indexRune_far _ _ hlo hhi).mono ?_;rintro e w' ⟨rfl,hb⟩)
    have HC:=A_ hb;clear hb;go_roundg (g+1 - n)
    case measure=>have:=HK.out;have:=HD.out;omega
    case rel=>exact ⟨i+n,(zz3 HK),⟨(HC.out.block _ (by obtain ⟨hl,_⟩:=Array.getElem?_eq_some_iff.1 HI2.out;exact hl)).trans HI2.out⟩,HS,⟨HB2.out.trans (HC.out.mono HB2.out.size)⟩⟩
theorem strings_IndexAny.calls (a0 a1:ByteArray) (r:Int) (w:World) (h:strings_IndexAny.f a0 a1=some r) :
  Calls Tryz.prog 54 #[.string a0,.string a1] w fun e w'=>e=.returned (.int .i64 r)∧Below w.heap.size w w':=by
 unfold strings_IndexAny.f at h
 split at h
 ·rename_i hh
  obtain rfl:=sI h;obtain rfl:a1=sq:=L_inj (by rw [hh.1];rfl);rcases Nat.lt_or_ge 8 a0.size with h8|h8
  ·refine (Tryz.strings_IndexAny_long (fun w=>by kernel_rfl) a0 sq w (by decide +kernel) h8 hh.2 (by decide +kernel) (fun j b hb=>?_)).mono fun e w' ⟨he,hw⟩=>⟨he,hw ▸ ((Below.refl _ _).alloc (Nat.le_refl _) _).alloc (by simp) _⟩
   have hb':([47,63]:List UInt8)[j]?=some b:=hb;match j,hb' with
   | 0,hb'=>injection hb' with hb';subst hb';decide
   | 1,hb'=>injection hb' with hb';subst hb';decide
  ·exact indexAny_few a0 w h8
 ·cases h
end Go.Proofs.YtpomhjkbgbociaaGreatDoor.P
end
section
namespace Go.Proofs.YtpomhjkbgbociaaGreatDoor.P
open Go.RowKit Go.Proofs.YtpomhjkbgbociaaGreatDoorW.PrintWords Go.Proofs.YtpomhjkbgbociaaGreatDoorW.PrintLast Go.Proofs.YtpomhjkbgbociaaGreatDoorW.PrintMore
attribute [local go_sem] max2_int min2_int max_two min_two max_three min_three max_four min_four
set_option linter.unusedVariables false
set_option linter.unusedSimpArgs false
set_option maxHeartbeats 8000000
set_option maxRecDepth 100000
def stringslite_Cut.f (a0:ByteArray) (a1:ByteArray):Option (ByteArray×ByteArray×Bool):=(stringslite_Index.f a0 a1).bind fun t554=>(if t554 ≥ 0 then (if 0≤t554 then (if t554≤(a0.size:Int) then (if 0≤(wrap64 (t554+(a1.size:Int))) then (if (wrap64 (t554+(a1.size:Int)))≤(a0.size:Int) then (some (a0.extract 0 (t554:Int).toNat,a0.extract ((wrap64 (t554+(a1.size:Int))):Int).toNat a0.size,true)) else (none)) else (none)) else (none)) else (none)) else (some (a0,(⟨#[]⟩:ByteArray),false)))
theorem stringslite_Cut.calls (a0:ByteArray) (a1:ByteArray) (r1:ByteArray) (r2:ByteArray) (r3:Bool) (w:World) (h:stringslite_Cut.f a0 a1=some (r1,r2,r3)) :
  Calls Tryz.prog 52 #[.string a0,.string a1] w fun e w'=>e=.returned (.tuple #[.string r1,.string r2,.bool r3])∧Below w.heap.size w w':=by
 have HB:=A_ (Below.refl w.heap.size w);unfold stringslite_Cut.f at h
 have H:=h;clear h;replace H:=bindA H;obtain ⟨t554,A3,H⟩:=H;have HF4:=A_ H;clear H;go_enter Tryz.func52,Tryz.ntmps52;go_upto_if 12 with (first|(go_at_call 78;(with_reducible refine (stringslite_Index.calls a0 a1 t554 _ A3.out).mono ?_);rintro e w5 ⟨rfl,hb⟩;replace HB:=A_ (bS (zz5 HB) hb);(try clear hb)))
 repeat (go_quiet (first|(go_at_call 78;(with_reducible refine (stringslite_Index.calls a0 a1 t554 _ A3.out).mono ?_);rintro e w5 ⟨rfl,hb⟩;replace HB:=A_ (bS (zz5 HB) hb);(try clear hb)));go_upto_if 12 with (first|(go_at_call 78;(with_reducible refine (stringslite_Index.calls a0 a1 t554 _ A3.out).mono ?_);rintro e w5 ⟨rfl,hb⟩;replace HB:=A_ (bS (zz5 HB) hb);(try clear hb))))
 obtain ⟨H⟩:=HF4;replace H:=iteEe H;rcases H with ⟨c6b0,H⟩|⟨c6b0,H⟩
 ·(first|rw [c6b0]|(simp only [i64_w,i32_w];rw [c6b0])|skip)
  replace H:=iteN H;obtain ⟨c7,H⟩:=H;have c7b0:=eq_true c7;have c7b1:=dT c7;clear c7;replace H:=iteN H;obtain ⟨c8,H⟩:=H;have c8b0:=eq_true c8;have c8b1:=dT c8;clear c8;obtain ⟨ji9,hji9⟩:∃ j_:Int,(wrap64 (t554+(a1.size:Int)))=j_:=⟨_,rfl⟩;(first|rw [hji9] at H|simp only [hji9] at H)
  have hji9w:(IntKind.i64.wrap (t554+(a1.size:Int)))=ji9:=(i64_w _).trans hji9;replace H:=iteN H;obtain ⟨c10,H⟩:=H;have c10b0:=eq_true c10;have c10b1:=dT c10;clear c10;replace H:=iteN H;obtain ⟨c11,H⟩:=H;have c11b0:=eq_true c11;have c11b1:=dT c11;clear c11;simp only [Option.some.injEq,Prod.mk.injEq] at H
  obtain ⟨rfl,rfl,rfl⟩:=H;go_wp2
  repeat (go_quiet (fail);try go_wp2)
  go_ret3
  exact ⟨zz22,(zz5 HB)⟩
 ·(first|rw [c6b0]|(simp only [i64_w,i32_w];rw [c6b0])|skip)
  simp only [Option.some.injEq,Prod.mk.injEq] at H
  obtain ⟨rfl,rfl,rfl⟩:=H;go_wp2
  repeat (go_quiet (fail);try go_wp2)
  go_ret3
  exact ⟨zz12,(zz5 HB)⟩
def strings_Cut.f (a0:ByteArray) (a1:ByteArray):Option (ByteArray×ByteArray×Bool):=(stringslite_Cut.f a0 a1).bind fun bt555=>(some (bt555.1,bt555.2.1,bt555.2.2))
theorem strings_Cut.calls (a0:ByteArray) (a1:ByteArray) (r1:ByteArray) (r2:ByteArray) (r3:Bool) (w:World) (h:strings_Cut.f a0 a1=some (r1,r2,r3)) :
  Calls Tryz.prog 31 #[.string a0,.string a1] w fun e w'=>e=.returned (.tuple #[.string r1,.string r2,.bool r3])∧Below w.heap.size w w':=by
 have HB:=A_ (Below.refl w.heap.size w);unfold strings_Cut.f at h
 have H:=h;clear h;replace H:=bindA H;obtain ⟨⟨t555,t556,t557⟩,A3,H⟩:=H;try dsimp only at H
 simp only [Option.some.injEq,Prod.mk.injEq] at H
 obtain ⟨rfl,rfl,rfl⟩:=H;go_enter Tryz.func31,Tryz.ntmps31;go_wp2_with (first|(refine gR 52 (some 9) Tryz.func52 (stringslite_Cut.calls a0 a1 t555 t556 t557 _ A3.out) ?_;rintro w4 hb;replace HB:=A_ (bS (zz5 HB) hb);(try clear hb)))
 go_ret3
 exact ⟨zz12,(zz5 HB)⟩
def impl_writePath.f (a0_0:ByteArray) (l0_1:List ByteArray) (a0_2:Bool) (a0_3:ByteArray):Option (ByteArray):=(strings_Join.f l0_1 (⟨#[47]⟩:ByteArray)).bind fun t562=>(if 1+t562.size≤9223372036854775807 then (if a0_2=true then (if 1+a0_3.size≤9223372036854775807 then (if 1+t562.size+1+a0_3.size≤9223372036854775807 then (some (((⟨#[47]⟩:ByteArray)++t562)++((⟨#[63]⟩:ByteArray)++a0_3))) else (none)) else (none)) else (some ((⟨#[47]⟩:ByteArray)++t562))) else (none))
theorem impl_writePath.calls (a0_0:ByteArray) (A0_1:Option Addr) (c0_1:Nat) (l0_1:List ByteArray) (a0_2:Bool) (a0_3:ByteArray) (r:ByteArray) (w:World) (hr0_1:Kd.C Kd.string w A0_1 l0_1.length l0_1) (hc0_1:l0_1.length≤c0_1) (h:impl_writePath.f a0_0 l0_1 a0_2 a0_3=some r) :
  Calls Tryz.prog 64 #[.agg #[.string a0_0,.slice A0_1 l0_1.length c0_1,.bool a0_2,.string a0_3]] w fun e w'=>e=.returned (.string r)∧Below w.heap.size w w':=by
 have hu39:=Tryz.underlying39;have HR0_1:=A_ hr0_1;have HC0_1:=A_ hc0_1;clear hr0_1 hc0_1;have HB:=A_ (Below.refl w.heap.size w);unfold impl_writePath.f at h
 have H:=h;clear h;replace H:=bindA H;obtain ⟨t562,A2,H⟩:=H;replace H:=iteE H;rcases H with ⟨c3,H⟩|⟨c3,H⟩
 ·have c3b0:=eq_true c3
  have c3b1:=dT c3;try have c3b2:(9223372036854775807 < 1+t562.size)=False:=eq_false (Nat.not_lt.2 c3)
  have HF4:=A_ H;clear H;go_enter Tryz.func64,Tryz.ntmps64;go_upto_if 9 with (first|(refine boxF 1 #[.string a0_0,.slice A0_1 l0_1.length c0_1,.bool a0_2,.string a0_3] 39 ?_;intro gb561 hg w5 BK561 hb;have GE561:=geB hg (zz5 HB);replace HB:=A_ (bS (zz5 HB) hb);clear hb hg;obtain ⟨_,_,_,_,_,_,_,_⟩:=cf4 BK561)|(refine gR 92 (some 6) Tryz.func92 (strings_Join.calls _ _ l0_1 (⟨#[47]⟩:ByteArray) t562 _ ?side1 ?side2 A2.out) ?_;(case side1=>exact (zz98 HR0_1 HB));(case side2=>exact HC0_1.out);rintro w7 hb;replace BK561:=A_ (bB (zz15 BK561) hb);replace HB:=A_ (bS (zz16 HB GE561) hb);(try clear hb);obtain ⟨_,_,_,_,_,_,_,_⟩:=cf4 BK561))
  obtain ⟨H⟩:=HF4;replace H:=iteB H;rcases H with ⟨rfl,H⟩|⟨rfl,H⟩
  ·replace H:=iteN H
   obtain ⟨c10,H⟩:=H;have c10b0:=eq_true c10;have c10b1:=dT c10;try have c10b2:(9223372036854775807 < 1+a0_3.size)=False:=eq_false (Nat.not_lt.2 c10)
   replace H:=iteN H;obtain ⟨c11,H⟩:=H;have c11b0:=eq_true c11;have c11b1:=dT c11;try have c11b2:(9223372036854775807 < 1+t562.size+1+a0_3.size)=False:=eq_false (Nat.not_lt.2 c11)
   obtain rfl:=sI H;obtain ⟨_,_,_,_,_,_,_,_⟩:=cf4 BK561;go_wp2
   go_ret
   exact ⟨zz12,(zz16 HB GE561)⟩
  ·obtain rfl:=sI H
   go_wp2
   go_ret
   exact ⟨zz12,(zz16 HB GE561)⟩
 ·exact absurd H (by simp)
def impl_writeAddr.f (a0_0:ByteArray) (l0_1:List ByteArray) (a0_2:Bool) (a0_3:ByteArray):Option (ByteArray):=if 2+a0_0.size≤9223372036854775807 then ((impl_writePath.f a0_0 l0_1 a0_2 a0_3).bind fun t564=>(if 2+a0_0.size+t564.size≤9223372036854775807 then (some (((⟨#[47,47]⟩:ByteArray)++a0_0)++t564)) else (none))) else (none)
theorem impl_writeAddr.calls (a0_0:ByteArray) (A0_1:Option Addr) (c0_1:Nat) (l0_1:List ByteArray) (a0_2:Bool) (a0_3:ByteArray) (r:ByteArray) (w:World) (hr0_1:Kd.C Kd.string w A0_1 l0_1.length l0_1) (hc0_1:l0_1.length≤c0_1) (h:impl_writeAddr.f a0_0 l0_1 a0_2 a0_3=some r) :
  Calls Tryz.prog 38 #[.agg #[.string a0_0,.slice A0_1 l0_1.length c0_1,.bool a0_2,.string a0_3]] w fun e w'=>e=.returned (.string r)∧Below w.heap.size w w':=by
 have hu39:=Tryz.underlying39;have HR0_1:=A_ hr0_1;have HC0_1:=A_ hc0_1;clear hr0_1 hc0_1;have HB:=A_ (Below.refl w.heap.size w);unfold impl_writeAddr.f at h
 have H:=h;clear h;replace H:=iteE H;rcases H with ⟨c2,H⟩|⟨c2,H⟩
 ·have c2b0:=eq_true c2
  have c2b1:=dT c2;try have c2b2:(9223372036854775807 < 2+a0_0.size)=False:=eq_false (Nat.not_lt.2 c2)
  replace H:=bindA H;obtain ⟨t564,A3,H⟩:=H;replace H:=iteN H;obtain ⟨c4,H⟩:=H;have c4b0:=eq_true c4;have c4b1:=dT c4;try have c4b2:(9223372036854775807 < 2+a0_0.size+t564.size)=False:=eq_false (Nat.not_lt.2 c4)
  obtain rfl:=sI H;go_enter Tryz.func38,Tryz.ntmps38;try go_wp2_with (first|(refine boxF 1 #[.string a0_0,.slice A0_1 l0_1.length c0_1,.bool a0_2,.string a0_3] 39 ?_;intro gb563 hg w5 BK563 hb;have GE563:=geB hg (zz5 HB);replace HB:=A_ (bS (zz5 HB) hb);clear hb hg))
  replace BK563:=A_ (blk_drew BK563.out);replace HB:=A_ (below_drew1 HB.out);refine start_ (n:=7) (S:=fun w'=>w'.cell? ⟨gb563,0,none⟩=some (.string a0_0)∧w'.cell? ⟨gb563,1,none⟩=some (.slice A0_1 l0_1.length c0_1)∧w'.cell? ⟨gb563,2,none⟩=some (.bool a0_2)∧w'.cell? ⟨gb563,3,none⟩=some (.string a0_3)) (ds:=[]) #[yF,yF,yF,yF,yF,yF,yF] (by kernel_rfl) rfl rfl ⟨(blk_cell BK563.out 0).trans rfl,(blk_cell BK563.out 1).trans rfl,(blk_cell BK563.out 2).trans rfl,(blk_cell BK563.out 3).trans rfl⟩ (fun hHeld=>?_);generalize w5.drew=w6 at BK563 HB hHeld ⊢;refine pureY 0 (some 3) #[yT,yF,yF,yF,yF,yF,yF] ?_;refine takeY4 1 (some 4) #[yT,yT,yF,yF,yF,yF,yF] hHeld ?_;refine pureY 2 (some 5) #[yT,yT,yT,yF,yF,yF,yF] ?_;refine takeY4 3 (some 6) #[yT,yT,yT,yT,yF,yF,yF] hHeld ?_;refine one_ (i:=4) (N:=some 7) #[yT,yT,yT,yT,yT,yF,yF] rfl rfl (by kernel_rfl) (by decide) (fun K hK=>?_);refine goes_ Tryz.func64 (by kernel_rfl) rfl #[.agg #[.string a0_0,.slice A0_1 l0_1.length c0_1,.bool a0_2,.string a0_3]] (by rfl) rfl rfl zz27 ?_;with_reducible refine (impl_writePath.calls a0_0 _ _ l0_1 a0_2 a0_3 t564 _ ?side1 ?side2 A3.out).mono ?_
  (case side1=>exact (zz98 HR0_1 HB))
  (case side2=>exact HC0_1.out)
  rintro e w7 ⟨rfl,hb⟩;refine ⟨_,rfl,?_⟩;replace BK563:=A_ (bB (zz15 BK563) hb);replace HB:=A_ (bS (zz16 HB GE563) hb);(try clear hb)
  (try clear hb2)
  (try clear hk)
  (try clear hi)
  refine hK.out _ _ ⟨(blk_cell BK563.out 0).trans rfl,(blk_cell BK563.out 1).trans rfl,(blk_cell BK563.out 2).trans rfl,(blk_cell BK563.out 3).trans rfl⟩ (fun hHeld=>?_);clear hK K;refine nZ 7 ?_;refine pureY 5 (some 8) #[yT,yT,yT,yT,yT,yT,yF] ?_;refine pureY 6 (some 2) #[yT,yT,yT,yT,yT,yT,yT] ?_;refine done_ (by kernel_rfl) ?_;try go_wp2
  go_ret
  exact ⟨zz12,(zz16 HB GE563)⟩
 ·exact absurd H (by simp)
def strings_Index.f (a0:ByteArray) (a1:ByteArray):Option (Int):=(stringslite_Index.f a0 a1).bind fun t601=>(some t601)
theorem strings_Index.calls (a0:ByteArray) (a1:ByteArray) (r:Int) (w:World) (h:strings_Index.f a0 a1=some r) :
  Calls Tryz.prog 127 #[.string a0,.string a1] w fun e w'=>e=.returned (.int .i64 r)∧Below w.heap.size w w':=by
 have HB:=A_ (Below.refl w.heap.size w);unfold strings_Index.f at h
 have H:=h;clear h;replace H:=bindA H;obtain ⟨t601,A3,H⟩:=H;obtain rfl:=sI H;go_enter Tryz.func127,Tryz.ntmps127;go_wp2_with (first|(refine gR 78 (some 7) Tryz.func78 (stringslite_Index.calls a0 a1 t601 _ A3.out) ?_;rintro w4 hb;replace HB:=A_ (bS (zz5 HB) hb);(try clear hb)))
 go_ret
 exact ⟨zz12,(zz5 HB)⟩
mutual
def strings_genSplit.j0:Nat→ByteArray→ByteArray→Int→Int→Option (List ByteArray)
 | 0,_,_,_,_=>none
 | k+1,x0,x1,x2,x3=>if 0≤(mn x3 (wrap64 ((x0.size:Int)+1))) then (if (mn x3 (wrap64 ((x0.size:Int)+1)):Int).toNat≤17592186044416 then (strings_genSplit.l0 k x0 x1 x2 (wrap64 ((mn x3 (wrap64 ((x0.size:Int)+1))) - 1)) (List.replicate (mn x3 (wrap64 ((x0.size:Int)+1)):Int).toNat (⟨#[]⟩:ByteArray)) 0) else (none)) else (none)
def strings_genSplit.l0:Nat→ByteArray→ByteArray→Int→Int→List ByteArray→Int→Option (List ByteArray)
 | 0,_,_,_,_,_,_=>none
 | k+1,x0,x1,x2,x3,x9,x10=>if x10 < x3 then ((strings_Index.f x0 x1).bind fun t609=>(if t609 < 0 then (if 0≤x10 then (if x10 < (x9.length:Int) then (if 0≤(wrap64 (x10+1)) then (if (wrap64 (x10+1))≤(x9.length:Int) then (some ((x9.set (x10:Int).toNat x0).take ((wrap64 (x10+1)):Int).toNat)) else (none)) else (none)) else (none)) else (none)) else (if 0≤(wrap64 (t609+x2)) then (if (wrap64 (t609+x2))≤(x0.size:Int) then (if 0≤x10 then (if x10 < (x9.length:Int) then (if 0≤(wrap64 (t609+(x1.size:Int))) then (if (wrap64 (t609+(x1.size:Int)))≤(x0.size:Int) then (strings_genSplit.l0 k (x0.extract ((wrap64 (t609+(x1.size:Int))):Int).toNat x0.size) x1 x2 x3 (x9.set (x10:Int).toNat (x0.extract 0 ((wrap64 (t609+x2)):Int).toNat)) (wrap64 (x10+1))) else (none)) else (none)) else (none)) else (none)) else (none)) else (none)))) else (if 0≤x10 then (if x10 < (x9.length:Int) then (if 0≤(wrap64 (x10+1)) then (if (wrap64 (x10+1))≤(x9.length:Int) then (some ((x9.set (x10:Int).toNat x0).take ((wrap64 (x10+1)):Int).toNat)) else (none)) else (none)) else (none)) else (none))
end
def strings_genSplit.f (k:Nat) (a0:ByteArray) (a1:ByteArray) (a2:Int) (a3:Int):Option (List ByteArray):=if a3=0 then (some ([]:List ByteArray)) else (if a1.toList=([]:List UInt8) then ((strings_explode.f a0 a3).bind fun t602=>(some t602)) else (if a3 < 0 then ((strings_Count.f a0 a1).bind fun t605=>(strings_genSplit.j0 k a0 a1 a2 (wrap64 (t605+1)))) else (strings_genSplit.j0 k a0 a1 a2 a3)))
theorem strings_genSplit.mono_l:∀ k,(∀ y0 y1 y2 y3,LeO (strings_genSplit.j0 k y0 y1 y2 y3) (strings_genSplit.j0 (k+1) y0 y1 y2 y3))∧(∀ y0 y1 y2 y3 y4 y5,LeO (strings_genSplit.l0 k y0 y1 y2 y3 y4 y5) (strings_genSplit.l0 (k+1) y0 y1 y2 y3 y4 y5))
 | 0=>by refine ⟨?_,?_⟩ <;> (intros;intro r h;simp [strings_genSplit.j0,strings_genSplit.l0] at h)
 | k+1=>by
  obtain ⟨ih0,ih1⟩:=strings_genSplit.mono_l k;refine ⟨?_,?_⟩ <;> intros <;> (first|unfold strings_genSplit.j0|unfold strings_genSplit.l0) <;>
  repeat' first|(with_reducible first|exact ih0 _ _ _ _|exact ih1 _ _ _ _ _ _|exact LeO.refl _|exact LeO.none _|refine LeO.ite ?_ ?_|refine LeO.bind ?_ (fun _=>?_))|exact LeO.none _|refine LeO.ite ?_ ?_|refine LeO.bind ?_ (fun _=>?_)
theorem strings_genSplit.mono:∀ a0 a1 a2 a3 k,LeO (strings_genSplit.f k a0 a1 a2 a3) (strings_genSplit.f (k+1) a0 a1 a2 a3):=by
 intro a0 a1 a2 a3 k;obtain ⟨ih0,ih1⟩:=strings_genSplit.mono_l k;unfold strings_genSplit.f
 repeat' first|(with_reducible first|exact ih0 _ _ _ _|exact ih1 _ _ _ _ _ _|exact LeO.refl _|exact LeO.none _|refine LeO.ite ?_ ?_|refine LeO.bind ?_ (fun _=>?_))|exact LeO.none _|refine LeO.ite ?_ ?_|refine LeO.bind ?_ (fun _=>?_)
theorem strings_genSplit.calls (k:Nat) (a0:ByteArray) (a1:ByteArray) (a2:Int) (a3:Int) (r:List ByteArray) (w:World) (h:strings_genSplit.f k a0 a1 a2 a3=some r) :
  Calls Tryz.prog 112 #[.string a0,.string a1,.int .i64 a2,.int .i64 a3] w fun e w'=>∃ v0_:Value,e=.returned (v0_)∧Kd.R Kd.string 9 w' w.heap.size (fun _=>True) v0_ r∧Below w.heap.size w w':=by
 have HB:=A_ (Below.refl w.heap.size w);unfold strings_genSplit.f at h
 have H:=h;clear h;replace H:=iteEq H;rcases H with ⟨c5b0,c5b1,H⟩|⟨c5b0,c5b1,c5,H⟩
 ·obtain rfl:=sI H
  go_enter Tryz.func112,Tryz.ntmps112;go_wp2
  go_ret
  exact ⟨_,zz12,zz4,(zz5 HB)⟩
 ·replace H:=iteEq H
  rcases H with ⟨c6b0,c6b1,H⟩|⟨c6b0,c6b1,c6,H⟩
  ·replace H:=bindA H
   obtain ⟨t602,A7,H⟩:=H;obtain rfl:=sI H;go_enter Tryz.func112,Tryz.ntmps112;go_wp2_with (first|(refine gV 125 (some 18) Tryz.func125 (strings_explode.calls a0 a3 t602 _ A7.out) ?_;rintro v603 w8 ⟨ho0,hb⟩;have HO604:=A_ (Kd.R_lower ho0 (below_size (zz5 HB)));replace HB:=A_ (bS (zz5 HB) hb);(try clear hb ho0)))
   go_ret
   exact ⟨_,zz12,(zz8 HO604),(zz5 HB)⟩
  ·have HC9:=A_ H
   clear H;go_enter Tryz.func112,Tryz.ntmps112;go_upto_if 20 with (fail)
   go_cut [3] (fun v3 wc=>∃ (kq:Nat) (x3_8:Int),v3=.int .i64 x3_8∧Aside0 (strings_genSplit.j0 kq a0 a1 a2 x3_8=some r)∧Aside0 (kq≤k)∧Aside0 (Below w.heap.size w wc))
   case first=>
    obtain ⟨H⟩:=HC9;replace H:=iteEd H;rcases H with ⟨c10b0,H⟩|⟨c10b0,H⟩
    ·(first|rw [c10b0]|(simp only [i64_w,i32_w];rw [c10b0])|skip)
     replace H:=bindA H;obtain ⟨t605,A11,H⟩:=H;have H':=A_ H;clear H;go_wp2_with (first|(refine gR 126 (some 23) Tryz.func126 (strings_Count.calls a0 a1 t605 _ A11.out) ?_;rintro w12 hb;replace HB:=A_ (bS (zz5 HB) hb);(try clear hb)))
     go_meet
     case rel=>exact ⟨_,(wrap64 (t605+1)),zz0,H',⟨zz17⟩,⟨(zz5 HB)⟩⟩
    ·(first|rw [c10b0]|(simp only [i64_w,i32_w];rw [c10b0])|skip)
     have H':=A_ H;clear H;go_wp2
     go_meet
     case rel=>exact ⟨_,(a3),zz0,H',⟨zz17⟩,⟨(zz5 HB)⟩⟩
   case rest=>
    clear HC9;obtain ⟨kq,x3_8,rfl,HA,HJ8,HB⟩:=hcut;cases kq with
    | zero=>exact absurd HA.out (by simp [strings_genSplit.j0])
    | succ kj8=>
     obtain ⟨H⟩:=HA;simp only [strings_genSplit.j0] at H
     obtain ⟨ji13,hji13⟩:∃ j_:Int,(mn x3_8 (wrap64 ((a0.size:Int)+1)))=j_:=⟨_,rfl⟩;(first|rw [hji13] at H|simp only [hji13] at H)
     have hji13_:(if (wrap64 ((a0.size:Int)+1)) < x3_8 then (wrap64 ((a0.size:Int)+1)) else x3_8)=ji13:=hji13;replace H:=iteE H;rcases H with ⟨c14,H⟩|⟨c14,H⟩
     ·have c14b0:=eq_true c14
      have c14b1:=dT c14;clear c14;replace H:=iteN H;obtain ⟨c15,H⟩:=H;have c15b0:=eq_true c15;have c15b1:=dT c15;clear c15;obtain ⟨y606,Ny606⟩:=toY (List.replicate (ji13:Int).toNat (⟨#[]⟩:ByteArray));(first|with_reducible replace H:=bindZ Ny606 H|rw [← Ny606.out] at H|skip)
      have H':=A_ H;clear H;go_wp2_with (first|((with_reducible refine gD (N:=31) rfl ?_);refine Kd.R_make Kd.string _ 9 rfl (N:=31) rfl 35 _ _ rfl ji13 rfl rfl Tryz.underlying35 (.string ⟨#[]⟩) 16 info9 rfl (by decide) (by omega) (⟨#[]⟩:ByteArray) (ok:=fun _=>True) (okp:=fun _=>True) rfl (fun _ hk=>hk) trivial ofD (Nat.le_trans (Nat.mul_le_mul_right _ (ofD:ji13.toNat≤17592186044416)) (by omega)) (Below.refl _ _) (Nat.le_refl _) ?_;intro v607 w16 ho17 hb hg_ hnew_;clear hg_ hnew_;(first|rw [← Ny606.out] at ho17|(simp only [Int.reduceToNat] at ho17;rw [← Ny606.out] at ho17));have HO608:=A_ (Kd.R_lower ho17 (below_size (zz5 HB)));replace HB:=A_ (bS (zz5 HB) hb);clear hb ho17))
      go_loopg [0,10] kj8 (fun kq v0 v10 w'=>∃ (x0_2:ByteArray) (x9_2:List ByteArray) (x10_2:Int),v0=.string x0_2∧v10=.int .i64 x10_2∧Aside0 (strings_genSplit.l0 kq x0_2 a1 a2 (wrap64 ((ji13) - 1)) x9_2 x10_2=some r)∧Aside0 (kq≤kj8)∧Aside0 (Kd.R Kd.string 9 w' w.heap.size (fun _=>True) v607 x9_2)∧Aside0 (Below w.heap.size w w'))
      case atStart=>exact ⟨(a0),(y606),(0),zz0,zz0,H',⟨Nat.le_refl _⟩,⟨(zz8 HO608)⟩,⟨(zz5 HB)⟩⟩
      case round=>
       clear H';obtain ⟨x0_2,x9_2,x10_2,rfl,rfl,HA,HK2,HO_9,HB⟩:=hrel;cases gk with
       | zero=>exact absurd HA.out (by simp [strings_genSplit.l0])
       | succ k2=>
        obtain ⟨H⟩:=HA;simp only [strings_genSplit.l0] at H
        replace H:=iteEd H;rcases H with ⟨c18b0,H⟩|⟨c18b0,H⟩
        ·replace H:=bindA H
         obtain ⟨t609,A19,H⟩:=H;have HF20:=A_ H;clear H;go_upto_if 41 with (first|(refine gR 127 (some 39) Tryz.func127 (strings_Index.calls x0_2 a1 t609 _ A19.out) ?_;rintro w21 hb;replace HO_9:=A_ (rB (zz8 HO_9) hb);replace HB:=A_ (bS (zz5 HB) hb);(try clear hb)))
         obtain ⟨H⟩:=HF20;replace H:=iteEd H;rcases H with ⟨c22b0,H⟩|⟨c22b0,H⟩
         ·(first|rw [c22b0]|(simp only [i64_w,i32_w];rw [c22b0])|skip)
          replace H:=iteNd H;obtain ⟨c23b0,H⟩:=H;replace H:=iteNd H;obtain ⟨c24b0,H⟩:=H;obtain ⟨y610,hy610⟩:∃ y_:List ByteArray,y_=(x9_2.set (x10_2:Int).toNat x0_2):=⟨_,rfl⟩;replace H:(if 0≤(wrap64 (x10_2+1)) then (if (wrap64 (x10_2+1))≤(x9_2.length:Int) then (some (y610.take ((wrap64 (x10_2+1)):Int).toNat)) else (none)) else (none))=some r:=by first|(rw [hy610];with_reducible exact H)|(have H2_:=(Option.bind_some _ _).symm.trans H;rw [hy610];with_reducible exact H2_)|(have H2_:=(Option.bind_some _ _).symm.trans H;with_reducible exact H2_)|with_reducible exact H|(rw [hy610];exact H)|exact H
          have Ny610:=A_ hy610;have Ly610:y610.length≤x9_2.length∧x9_2.length≤y610.length:=by rw [hy610,List.length_set];exact ⟨Nat.le_refl _,Nat.le_refl _⟩
          have My610:=Ly610.1;replace Ly610:=Ly610.2;clear hy610;obtain ⟨ji26,hji26⟩:∃ j_:Int,(wrap64 (x10_2+1))=j_:=⟨_,rfl⟩;(first|rw [hji26] at H|simp only [hji26] at H)
          have hji26w:(IntKind.i64.wrap (x10_2+1))=ji26:=(i64_w _).trans hji26;replace H:=iteN H;obtain ⟨c27,H⟩:=H;have c27b0:=eq_true c27;have c27b1:=dT c27;clear c27;replace H:=iteN H;obtain ⟨c28,H⟩:=H;have c28b0:=eq_true c28;have c28b1:=dT c28;clear c28;obtain ⟨y611,Ny611⟩:=toY (y610.take ((ji26):Int).toNat);(first|with_reducible replace H:=bindZ Ny611 H|rw [← Ny611.out] at H|skip)
          obtain rfl:=sI H;have p25:0≤(x10_2:Int):=ofD;have q25:(x10_2:Int) < ((x9_2.length:Int):Int):=ofD;obtain ⟨go25,co25,eo25,gb25,gl25,cl25,HG25⟩:=Kd.R_form HO_9.out (by omega);(first|cases eo25|(injection eo25 with ea_ en_ ec_;(first|subst ea_|(injection ea_ with ea_;subst ea_));subst ec_;clear en_))
          have GB25:=A_ gb25;have GG25:=A_ HG25;clear gb25 gl25 HG25;obtain ⟨hx25_0,hf25_0⟩:=Kd.R_celln (⟨#[]⟩:ByteArray) HO_9.out (x10_2:Int) p25 q25;replace p25:=eq_true p25;replace q25:=eq_true q25;have HP29:=Kd.R_putg HO_9.out (x10_2:Int) x0_2;go_wp2_with (first|((with_reducible refine gate_store (t:=9) (p:=61) rfl ?_);refine store_event (t:=9) (p:=61) (v:=?vo_w30) (w1:=(w21.setCell ⟨go25,(x10_2:Int).toNat,none⟩ (.string x0_2))) ?hg ?ho ?hn ?hr ?_;(case ho=>rfl);(case hg=>rfl);(case hn=>rfl);(case hr=>exact zz26);intro w30 hw;have hg:w21.grownBy w30 (some go25):=(by rw [hw];exact HP29.2);have hp_:Kd.R Kd.string 9 w30 w.heap.size (fun _=>True) (.slice (some ⟨go25,0,none⟩) x9_2.length co25) y610:=(by rw [hw,Ny610.out];exact HP29.1);clear HP29;replace HO_9:=A_ (hp_);replace HB:=A_ ((by rw [hw];exact below_set (HB.out) GB25.out:Below w.heap.size w w30));clear hg hw hp_;have q31:((ji26):Int)≤((x9_2.length:Int):Int):=ofD;obtain ⟨i031,hi031,_,hsz31,_⟩:=info_parts info9;have hcut31:=cut_to (P:=Tryz.prog) 35 9 .i64 Tryz.underlying35 hi031 (some ⟨go25,0,none⟩) x9_2.length co25 (ji26) ofD q31 (Kd.R_reads' HO_9.out).2.1;have hr31:=Kd.R_take (m:=((ji26):Int).toNat) HO_9.out (by omega);have hy31:y611.length=((ji26):Int).toNat:=(by rw [Ny611.out,List.length_take];omega);rw [← Ny611.out] at hr31;rw [← hy31] at hr31 hcut31;clear hy31 hi031 hsz31 HO_9;have HO613:=A_ hr31;clear hr31;replace q31:=eq_true q31))
          go_ret
          exact ⟨_,(by first|rfl|(simp [errW_none,errW_some] <;> rfl)|(simp only [← hji13,← hji26];first|rfl|(simp [errW_none,errW_some] <;> rfl))|(simp [*,errW_none,errW_some] <;> rfl)),(zz8 HO613),(zz5 HB)⟩
         ·(first|rw [c22b0]|(simp only [i64_w,i32_w];rw [c22b0])|skip)
          obtain ⟨ji32,hji32⟩:∃ j_:Int,(wrap64 (t609+a2))=j_:=⟨_,rfl⟩;(first|rw [hji32] at H|simp only [hji32] at H)
          have hji32w:(IntKind.i64.wrap (t609+a2))=ji32:=(i64_w _).trans hji32;replace H:=iteN H;obtain ⟨c33,H⟩:=H;have c33b0:=eq_true c33;have c33b1:=dT c33;clear c33;replace H:=iteN H;obtain ⟨c34,H⟩:=H;have c34b0:=eq_true c34;have c34b1:=dT c34;clear c34;replace H:=iteNd H;obtain ⟨c35b0,H⟩:=H;replace H:=iteNd H;obtain ⟨c36b0,H⟩:=H;obtain ⟨y614,hy614⟩:∃ y_:List ByteArray,y_=(x9_2.set (x10_2:Int).toNat (x0_2.extract 0 ((ji32):Int).toNat)):=⟨_,rfl⟩;replace H:(if 0≤(wrap64 (t609+(a1.size:Int))) then (if (wrap64 (t609+(a1.size:Int)))≤(x0_2.size:Int) then (strings_genSplit.l0 k2 (x0_2.extract ((wrap64 (t609+(a1.size:Int))):Int).toNat x0_2.size) a1 a2 (wrap64 ((ji13) - 1)) y614 (wrap64 (x10_2+1))) else (none)) else (none))=some r:=by first|(rw [hy614];with_reducible exact H)|(have H2_:=(Option.bind_some _ _).symm.trans H;rw [hy614];with_reducible exact H2_)|(have H2_:=(Option.bind_some _ _).symm.trans H;with_reducible exact H2_)|with_reducible exact H|(rw [hy614];exact H)|exact H
          have Ny614:=A_ hy614;have Ly614:y614.length≤x9_2.length∧x9_2.length≤y614.length:=by rw [hy614,List.length_set];exact ⟨Nat.le_refl _,Nat.le_refl _⟩
          have My614:=Ly614.1;replace Ly614:=Ly614.2;clear hy614;obtain ⟨ji38,hji38⟩:∃ j_:Int,(wrap64 (t609+(a1.size:Int)))=j_:=⟨_,rfl⟩;(first|rw [hji38] at H|simp only [hji38] at H)
          have hji38w:(IntKind.i64.wrap (t609+(a1.size:Int)))=ji38:=(i64_w _).trans hji38;replace H:=iteN H;obtain ⟨c39,H⟩:=H;have c39b0:=eq_true c39;have c39b1:=dT c39;clear c39;replace H:=iteN H;obtain ⟨c40,H⟩:=H;have c40b0:=eq_true c40;have c40b1:=dT c40;clear c40;have H':=A_ H;clear H;have p37:0≤(x10_2:Int):=ofD;have q37:(x10_2:Int) < ((x9_2.length:Int):Int):=ofD;obtain ⟨go37,co37,eo37,gb37,gl37,cl37,HG37⟩:=Kd.R_form HO_9.out (by omega);(first|cases eo37|(injection eo37 with ea_ en_ ec_;(first|subst ea_|(injection ea_ with ea_;subst ea_));subst ec_;clear en_))
          have GB37:=A_ gb37;have GG37:=A_ HG37;clear gb37 gl37 HG37;obtain ⟨hx37_0,hf37_0⟩:=Kd.R_celln (⟨#[]⟩:ByteArray) HO_9.out (x10_2:Int) p37 q37;replace p37:=eq_true p37;replace q37:=eq_true q37;have HP41:=Kd.R_putg HO_9.out (x10_2:Int) (x0_2.extract 0 ((ji32):Int).toNat);go_wp2_with (first|((with_reducible refine gate_store (t:=9) (p:=49) rfl ?_);refine store_event (t:=9) (p:=49) (v:=?vo_w42) (w1:=(w21.setCell ⟨go37,(x10_2:Int).toNat,none⟩ (.string (x0_2.extract 0 ((ji32):Int).toNat)))) ?hg ?ho ?hn ?hr ?_;(case ho=>rfl);(case hg=>rfl);(case hn=>rfl);(case hr=>exact zz26);intro w42 hw;have hg:w21.grownBy w42 (some go37):=(by rw [hw];exact HP41.2);have hp_:Kd.R Kd.string 9 w42 w.heap.size (fun _=>True) (.slice (some ⟨go37,0,none⟩) x9_2.length co37) y614:=(by rw [hw,Ny614.out];exact HP41.1);clear HP41;replace HO_9:=A_ (hp_);replace HB:=A_ ((by rw [hw];exact below_set (HB.out) GB37.out:Below w.heap.size w w42));clear hg hw hp_))
          go_roundg k2
          case measure=>have:=HJ8.out;have:=HK2.out;omega
          case rel=>exact ⟨(x0_2.extract ((ji38):Int).toNat x0_2.size),(y614),(wrap64 (x10_2+1)),(by first|rfl|(simp only [i64_w,i32_w];done)|(simp only [aid_isEmpty,aid_isEmpty2];done)|(simp;done)|((simp only [← hji38] <;> (first|rfl|simp));done)|(simp [*];done)),zz0,H',⟨(zz10 HJ8 HK2)⟩,⟨(zz8 HO_9)⟩,⟨(zz5 HB)⟩⟩
        ·replace H:=iteNd H
         obtain ⟨c43b0,H⟩:=H;replace H:=iteNd H;obtain ⟨c44b0,H⟩:=H;obtain ⟨y615,hy615⟩:∃ y_:List ByteArray,y_=(x9_2.set (x10_2:Int).toNat x0_2):=⟨_,rfl⟩;replace H:(if 0≤(wrap64 (x10_2+1)) then (if (wrap64 (x10_2+1))≤(x9_2.length:Int) then (some (y615.take ((wrap64 (x10_2+1)):Int).toNat)) else (none)) else (none))=some r:=by first|(rw [hy615];with_reducible exact H)|(have H2_:=(Option.bind_some _ _).symm.trans H;rw [hy615];with_reducible exact H2_)|(have H2_:=(Option.bind_some _ _).symm.trans H;with_reducible exact H2_)|with_reducible exact H|(rw [hy615];exact H)|exact H
         have Ny615:=A_ hy615;have Ly615:y615.length≤x9_2.length∧x9_2.length≤y615.length:=by rw [hy615,List.length_set];exact ⟨Nat.le_refl _,Nat.le_refl _⟩
         have My615:=Ly615.1;replace Ly615:=Ly615.2;clear hy615;obtain ⟨ji46,hji46⟩:∃ j_:Int,(wrap64 (x10_2+1))=j_:=⟨_,rfl⟩;(first|rw [hji46] at H|simp only [hji46] at H)
         have hji46w:(IntKind.i64.wrap (x10_2+1))=ji46:=(i64_w _).trans hji46;replace H:=iteN H;obtain ⟨c47,H⟩:=H;have c47b0:=eq_true c47;have c47b1:=dT c47;clear c47;replace H:=iteN H;obtain ⟨c48,H⟩:=H;have c48b0:=eq_true c48;have c48b1:=dT c48;clear c48;obtain ⟨y616,Ny616⟩:=toY (y615.take ((ji46):Int).toNat);(first|with_reducible replace H:=bindZ Ny616 H|rw [← Ny616.out] at H|skip)
         obtain rfl:=sI H;have p45:0≤(x10_2:Int):=ofD;have q45:(x10_2:Int) < ((x9_2.length:Int):Int):=ofD;obtain ⟨go45,co45,eo45,gb45,gl45,cl45,HG45⟩:=Kd.R_form HO_9.out (by omega);(first|cases eo45|(injection eo45 with ea_ en_ ec_;(first|subst ea_|(injection ea_ with ea_;subst ea_));subst ec_;clear en_))
         have GB45:=A_ gb45;have GG45:=A_ HG45;clear gb45 gl45 HG45;obtain ⟨hx45_0,hf45_0⟩:=Kd.R_celln (⟨#[]⟩:ByteArray) HO_9.out (x10_2:Int) p45 q45;replace p45:=eq_true p45;replace q45:=eq_true q45;have HP49:=Kd.R_putg HO_9.out (x10_2:Int) x0_2;go_wp2_with (first|((with_reducible refine gate_store (t:=9) (p:=61) rfl ?_);refine store_event (t:=9) (p:=61) (v:=?vo_w50) (w1:=(wr.setCell ⟨go45,(x10_2:Int).toNat,none⟩ (.string x0_2))) ?hg ?ho ?hn ?hr ?_;(case ho=>rfl);(case hg=>rfl);(case hn=>rfl);(case hr=>exact zz26);intro w50 hw;have hg:wr.grownBy w50 (some go45):=(by rw [hw];exact HP49.2);have hp_:Kd.R Kd.string 9 w50 w.heap.size (fun _=>True) (.slice (some ⟨go45,0,none⟩) x9_2.length co45) y615:=(by rw [hw,Ny615.out];exact HP49.1);clear HP49;replace HO_9:=A_ (hp_);replace HB:=A_ ((by rw [hw];exact below_set (HB.out) GB45.out:Below w.heap.size w w50));clear hg hw hp_;have q51:((ji46):Int)≤((x9_2.length:Int):Int):=ofD;obtain ⟨i051,hi051,_,hsz51,_⟩:=info_parts info9;have hcut51:=cut_to (P:=Tryz.prog) 35 9 .i64 Tryz.underlying35 hi051 (some ⟨go45,0,none⟩) x9_2.length co45 (ji46) ofD q51 (Kd.R_reads' HO_9.out).2.1;have hr51:=Kd.R_take (m:=((ji46):Int).toNat) HO_9.out (by omega);have hy51:y616.length=((ji46):Int).toNat:=(by rw [Ny616.out,List.length_take];omega);rw [← Ny616.out] at hr51;rw [← hy51] at hr51 hcut51;clear hy51 hi051 hsz51 HO_9;have HO618:=A_ hr51;clear hr51;replace q51:=eq_true q51))
         go_ret
         exact ⟨_,(by first|rfl|(simp [errW_none,errW_some] <;> rfl)|(simp only [← hji13,← hji46];first|rfl|(simp [errW_none,errW_some] <;> rfl))|(simp [*,errW_none,errW_some] <;> rfl)),(zz8 HO618),(zz5 HB)⟩
     ·exact absurd H (by simp)
mutual
def spec_AddrOk.j0:Nat→Bool→ByteArray→List ByteArray→Bool→ByteArray→Option (Bool)
 | 0,_,_,_,_,_=>none
 | k+1,x29,x128000,x128001,x128002,x128003=>if x29=true then (some false) else (spec_AddrOk.l0 k 0 x128000 x128001 x128002 x128003)
def spec_AddrOk.l0:Nat→Int→ByteArray→List ByteArray→Bool→ByteArray→Option (Bool)
 | 0,_,_,_,_,_=>none
 | k+1,x3,x128000,x128001,x128002,x128003=>if x3 < (x128001.length:Int) then (if 0≤x3 then ((spec_l1Norm.f k (rdOf ByteArray.empty x128001 x3)).bind fun t131=>(if t131=true then (if (rdOf ByteArray.empty x128001 x3).toList=([]:List UInt8) then (some false) else (if (rdOf ByteArray.empty x128001 x3).toList=([46]:List UInt8) then (some false) else (if (rdOf ByteArray.empty x128001 x3).toList=([46,46]:List UInt8) then (some false) else (spec_AddrOk.l0 k (wrap64 (x3+1)) x128000 x128001 x128002 x128003)))) else (some false))) else (none)) else ((spec_l1Text.f k x128000 x128001 x128002 x128003).bind fun t135=>(some (decide ((t135.size:Int)≤60))))
end
def spec_AddrOk.f (k:Nat) (a0_0:ByteArray) (l0_1:List ByteArray) (a0_2:Bool) (a0_3:ByteArray):Option (Bool):=(spec_l1House.f k a0_0).bind fun t128=>(if t128=true then (if (l0_1.length:Int) > 5 then (spec_AddrOk.j0 k true a0_0 l0_1 a0_2 a0_3) else ((spec_l1Norm.f k a0_3).bind fun t129=>(if t129=true then (if a0_2=true then (spec_AddrOk.j0 k false a0_0 l0_1 a0_2 a0_3) else (spec_AddrOk.j0 k (a0_3.toList != ([]:List UInt8)) a0_0 l0_1 a0_2 a0_3)) else (spec_AddrOk.j0 k true a0_0 l0_1 a0_2 a0_3)))) else (spec_AddrOk.j0 k true a0_0 l0_1 a0_2 a0_3))
theorem spec_AddrOk.mono_l:∀ k,(∀ y0 y1 y2 y3 y4,LeO (spec_AddrOk.j0 k y0 y1 y2 y3 y4) (spec_AddrOk.j0 (k+1) y0 y1 y2 y3 y4))∧(∀ y0 y1 y2 y3 y4,LeO (spec_AddrOk.l0 k y0 y1 y2 y3 y4) (spec_AddrOk.l0 (k+1) y0 y1 y2 y3 y4))
 | 0=>by refine ⟨?_,?_⟩ <;> (intros;intro r h;simp [spec_AddrOk.j0,spec_AddrOk.l0] at h)
 | k+1=>by
  obtain ⟨ih0,ih1⟩:=spec_AddrOk.mono_l k;refine ⟨?_,?_⟩ <;> intros <;> (first|unfold spec_AddrOk.j0|unfold spec_AddrOk.l0) <;>
  repeat' first|(with_reducible first|exact ih0 _ _ _ _ _|exact ih1 _ _ _ _ _|exact spec_l1House.mono _ _|exact spec_l1Norm.mono _ _|exact spec_l1Text.mono _ _ _ _ _|exact LeO.refl _|exact LeO.none _|refine LeO.ite ?_ ?_|refine LeO.bind ?_ (fun _=>?_))|exact LeO.none _|refine LeO.ite ?_ ?_|refine LeO.bind ?_ (fun _=>?_)
theorem spec_AddrOk.mono:∀ a0 a1 a2 a3 k,LeO (spec_AddrOk.f k a0 a1 a2 a3) (spec_AddrOk.f (k+1) a0 a1 a2 a3):=by
 intro a0 a1 a2 a3 k;obtain ⟨ih0,ih1⟩:=spec_AddrOk.mono_l k;unfold spec_AddrOk.f
 repeat' first|(with_reducible first|exact ih0 _ _ _ _ _|exact ih1 _ _ _ _ _|exact spec_l1House.mono _ _|exact spec_l1Norm.mono _ _|exact spec_l1Text.mono _ _ _ _ _|exact LeO.refl _|exact LeO.none _|refine LeO.ite ?_ ?_|refine LeO.bind ?_ (fun _=>?_))|exact LeO.none _|refine LeO.ite ?_ ?_|refine LeO.bind ?_ (fun _=>?_)
theorem spec_AddrOk.calls (k:Nat) (a0_0:ByteArray) (A0_1:Option Addr) (c0_1:Nat) (l0_1:List ByteArray) (a0_2:Bool) (a0_3:ByteArray) (r:Bool) (w:World) (hr0_1:Kd.C Kd.string w A0_1 l0_1.length l0_1) (hc0_1:l0_1.length≤c0_1) (h:spec_AddrOk.f k a0_0 l0_1 a0_2 a0_3=some r) :
  Calls Tryz.prog 72 #[.agg #[.string a0_0,.slice A0_1 l0_1.length c0_1,.bool a0_2,.string a0_3]] w fun e w'=>e=.returned (.bool r)∧Below w.heap.size w w':=by
 have hu39:=Tryz.underlying39;have HR0_1:=A_ hr0_1;have HC0_1:=A_ hc0_1;clear hr0_1 hc0_1;have HB:=A_ (Below.refl w.heap.size w);unfold spec_AddrOk.f at h
 have H:=h;clear h;have HC2:=A_ H;clear H;go_enter Tryz.func72,Tryz.ntmps72;go_upto_region 1 with (first|((with_reducible refine gD (N:=1) rfl ?_);(try (refine gate_guard (by rfl) ?_;dsimp only));refine boxE 1 #[.string a0_0,.slice A0_1 l0_1.length c0_1,.bool a0_2,.string a0_3] 39 ?_;intro gb127 hg w3 hbox hb;have BK127:=A_ (hbox);have GE127:=geB hg (zz5 HB);replace HB:=A_ (bS (zz5 HB) hb);clear hb hbox hg))
 (try simp only [Act.put,List.setIfInBounds_toArray,List.set_cons_zero,List.set_cons_succ])
 go_cut [29] (fun v29 wc=>∃ (kq:Nat) (x29_1:Bool),v29=.bool x29_1∧Aside0 (spec_AddrOk.j0 kq x29_1 a0_0 l0_1 a0_2 a0_3=some r)∧Aside0 (kq≤k)∧Aside0 (wc.heap[gb127]?=some (.cells #[.string a0_0,(.slice A0_1 l0_1.length c0_1),.bool a0_2,.string a0_3] 39 (0,0)))∧Aside0 (Below w.heap.size w wc))
 case first=>
  obtain ⟨H⟩:=HC2;replace H:=bindA H;obtain ⟨t128,A4,H⟩:=H;have HF5:=A_ H;clear H;obtain ⟨_,_,_,_,_,_,_,_⟩:=cf4 BK127;go_wp2_with (first|(refine gR 98 (some 6) Tryz.func98 (spec_l1House.calls k a0_0 t128 _ A4.out) ?_;rintro w' ⟨nd,rfl⟩)|((with_reducible refine atG ?_ ?_ fun K_ hK_=>?_);rfl;exact undecG)|((with_reducible refine atI ?_ fun K_ hK_=>?_);exact undecI))
  refine unG hK_ ?_;clear hK_ K_;obtain ⟨H⟩:=HF5;replace H:=iteB H;rcases H with ⟨rfl,H⟩|⟨rfl,H⟩
  ·(first|refine iteT ?_|refine iteF ?_|skip)
   replace H:=iteE H;rcases H with ⟨c8,H⟩|⟨c8,H⟩
   ·have c8b0:=gtT c8
    have c8b1:decide (5 < l0_1.length)=true:=dT (by omega);clear c8;have H':=A_ H;clear H;obtain ⟨_,_,_,_,_,_,_,_⟩:=cf4 BK127;go_wp2
    go_meet
    case rel=>exact ⟨_,(true),zz0,H',⟨zz17⟩,⟨(zz15 BK127)⟩,⟨(zz16 HB GE127)⟩⟩
   ·have c8b0:=gtF c8
    have c8b1:decide (5 < l0_1.length)=false:=dF (by omega);clear c8;replace H:=bindA H;obtain ⟨t129,A10,H⟩:=H;have HF11:=A_ H;clear H;obtain ⟨_,_,_,_,_,_,_,_⟩:=cf4 BK127;go_wp2_with (first|(go_at_call 99;(with_reducible refine (spec_l1Norm.calls k a0_3 t129 _ A10.out).mono ?_);rintro e w13 ⟨rfl,hb⟩;replace BK127:=A_ (bB (zz15 BK127) hb);replace HB:=A_ (bS (zz16 HB GE127) hb);(try clear hb))|((with_reducible refine atG ?_ ?_ fun K_ hK_=>?_);rfl;exact undecG)|((with_reducible refine atI ?_ fun K_ hK_=>?_);exact undecI))
    refine unG hK_ ?_;clear hK_ K_;obtain ⟨H⟩:=HF11;replace H:=iteB H;rcases H with ⟨rfl,H⟩|⟨rfl,H⟩
    ·(first|refine iteT ?_|refine iteF ?_|skip)
     replace H:=iteB H;rcases H with ⟨rfl,H⟩|⟨rfl,H⟩
     ·have H':=A_ H
      clear H;obtain ⟨_,_,_,_,_,_,_,_⟩:=cf4 BK127;go_wp2
      go_meet
      case rel=>exact ⟨_,(false),zz0,H',⟨zz17⟩,⟨(zz15 BK127)⟩,⟨(zz16 HB GE127)⟩⟩
     ·have H':=A_ H
      clear H;obtain ⟨_,_,_,_,_,_,_,_⟩:=cf4 BK127;go_wp2
      go_meet
      case rel=>exact ⟨_,((a0_3.toList != ([]:List UInt8))),zz0,H',⟨zz17⟩,⟨(zz15 BK127)⟩,⟨(zz16 HB GE127)⟩⟩
    ·(first|refine iteT ?_|refine iteF ?_|skip)
     have H':=A_ H;clear H;(try ((with_reducible refine upS ?_);go_simp))
     go_wp2
     go_meet
     case rel=>exact ⟨_,(true),zz0,H',⟨zz17⟩,⟨(zz15 BK127)⟩,⟨(zz16 HB GE127)⟩⟩
  ·(first|refine iteT ?_|refine iteF ?_|skip)
   have H':=A_ H;clear H;(try ((with_reducible refine upS ?_);go_simp))
   go_wp2
   go_meet
   case rel=>exact ⟨_,(true),zz0,H',⟨zz17⟩,⟨(zz15 BK127)⟩,⟨(zz16 HB GE127)⟩⟩
 case rest=>
  clear HC2;obtain ⟨kq,x29_1,rfl,HA,HJ1,BK127,HB⟩:=hcut;cases kq with
  | zero=>exact absurd HA.out (by simp [spec_AddrOk.j0])
  | succ kj1=>
   obtain ⟨H⟩:=HA;simp only [spec_AddrOk.j0] at H
   replace H:=iteB H;rcases H with ⟨rfl,H⟩|⟨rfl,H⟩
   ·obtain rfl:=sI H
    go_wp2
    go_ret
    exact ⟨zz12,(zz16 HB GE127)⟩
   ·have H':=A_ H
    clear H;go_wp2
    go_loopg [3] kj1 (fun kq v3 w'=>∃ (x3_2:Int),v3=.int .i64 x3_2∧Aside0 (spec_AddrOk.l0 kq x3_2 a0_0 l0_1 a0_2 a0_3=some r)∧Aside0 (kq≤kj1)∧Aside0 (w'.heap[gb127]?=some (.cells #[.string a0_0,(.slice A0_1 l0_1.length c0_1),.bool a0_2,.string a0_3] 39 (0,0)))∧Aside0 (Below w.heap.size w w'))
    case atStart=>exact ⟨(0),zz0,H',⟨Nat.le_refl _⟩,⟨(zz15 BK127)⟩,⟨(zz16 HB GE127)⟩⟩
    case round=>
     clear H';obtain ⟨x3_2,rfl,HA,HK2,BK127,HB⟩:=hrel;cases gk with
     | zero=>exact absurd HA.out (by simp [spec_AddrOk.l0])
     | succ k2=>
      obtain ⟨H⟩:=HA;simp only [spec_AddrOk.l0] at H
      replace H:=iteEd H;rcases H with ⟨c19b0,H⟩|⟨c19b0,H⟩
      ·replace H:=iteNd H
       obtain ⟨c20b0,H⟩:=H;replace H:=bindA H;obtain ⟨t131,A21,H⟩:=H;have HF22:=A_ H;clear H;obtain ⟨_,_,_,_,_,_,_,_⟩:=cf4 BK127;obtain ⟨⟨ad130,e130,hx130_0⟩,p130,q130⟩:=atB (Kd.at_string HR0_1.out x3_2);cases e130
       replace hx130_0:=cbl HB hx130_0;go_wp2_with (first|(refine gR 99 (some 42) Tryz.func99 (spec_l1Norm.calls k2 (rdOf ByteArray.empty l0_1 x3_2) t131 _ A21.out) ?_;rintro w24 hb;replace BK127:=A_ (bB (zz15 BK127) hb);replace HB:=A_ (bS (zz16 HB GE127) hb);(try clear hb))|((with_reducible refine atG ?_ ?_ fun K_ hK_=>?_);rfl;exact undecG)|((with_reducible refine atI ?_ fun K_ hK_=>?_);exact undecI))
       refine unG hK_ ?_;clear hK_ K_;obtain ⟨H⟩:=HF22;replace H:=iteB H;rcases H with ⟨rfl,H⟩|⟨rfl,H⟩
       ·(first|refine iteT ?_|refine iteF ?_|skip)
        replace H:=iteEq H;rcases H with ⟨c26b0,c26b1,H⟩|⟨c26b0,c26b1,c26,H⟩
        ·obtain rfl:=sI H
         obtain ⟨_,_,_,_,_,_,_,_⟩:=cf4 BK127;obtain ⟨⟨ad132,e132,hx132_0⟩,p132,q132⟩:=atB (Kd.at_string HR0_1.out x3_2);obtain rfl:ad130=ad132:=(by injection e132);replace hx132_0:=cbl HB hx132_0;go_wp2
         go_ret
         exact ⟨zz12,(zz16 HB GE127)⟩
        ·replace H:=iteEq H
         rcases H with ⟨c28b0,c28b1,H⟩|⟨c28b0,c28b1,c28,H⟩
         ·obtain rfl:=sI H
          obtain ⟨_,_,_,_,_,_,_,_⟩:=cf4 BK127;obtain ⟨⟨ad132,e132,hx132_0⟩,p132,q132⟩:=atB (Kd.at_string HR0_1.out x3_2);obtain rfl:ad130=ad132:=(by injection e132);replace hx132_0:=cbl HB hx132_0;obtain ⟨⟨ad133,e133,hx133_0⟩,p133,q133⟩:=atB (Kd.at_string HR0_1.out x3_2);obtain rfl:ad130=ad133:=(by injection e133);replace hx133_0:=cbl HB hx133_0;go_wp2
          go_ret
          exact ⟨zz12,(zz16 HB GE127)⟩
         ·replace H:=iteEq H
          rcases H with ⟨c30b0,c30b1,H⟩|⟨c30b0,c30b1,c30,H⟩
          ·obtain rfl:=sI H
           obtain ⟨_,_,_,_,_,_,_,_⟩:=cf4 BK127;obtain ⟨⟨ad132,e132,hx132_0⟩,p132,q132⟩:=atB (Kd.at_string HR0_1.out x3_2);obtain rfl:ad130=ad132:=(by injection e132);replace hx132_0:=cbl HB hx132_0;obtain ⟨⟨ad133,e133,hx133_0⟩,p133,q133⟩:=atB (Kd.at_string HR0_1.out x3_2);obtain rfl:ad130=ad133:=(by injection e133);replace hx133_0:=cbl HB hx133_0;obtain ⟨⟨ad134,e134,hx134_0⟩,p134,q134⟩:=atB (Kd.at_string HR0_1.out x3_2);obtain rfl:ad130=ad134:=(by injection e134);replace hx134_0:=cbl HB hx134_0;go_wp2
           go_ret
           exact ⟨zz12,(zz16 HB GE127)⟩
          ·have H':=A_ H
           clear H;obtain ⟨_,_,_,_,_,_,_,_⟩:=cf4 BK127;obtain ⟨⟨ad132,e132,hx132_0⟩,p132,q132⟩:=atB (Kd.at_string HR0_1.out x3_2);obtain rfl:ad130=ad132:=(by injection e132);replace hx132_0:=cbl HB hx132_0;obtain ⟨⟨ad133,e133,hx133_0⟩,p133,q133⟩:=atB (Kd.at_string HR0_1.out x3_2);obtain rfl:ad130=ad133:=(by injection e133);replace hx133_0:=cbl HB hx133_0;obtain ⟨⟨ad134,e134,hx134_0⟩,p134,q134⟩:=atB (Kd.at_string HR0_1.out x3_2);obtain rfl:ad130=ad134:=(by injection e134);replace hx134_0:=cbl HB hx134_0;go_wp2
           go_roundg k2
           case measure=>have:=HJ1.out;have:=HK2.out;omega
           case rel=>exact ⟨(wrap64 (x3_2+1)),zz0,H',⟨(zz10 HJ1 HK2)⟩,⟨(zz15 BK127)⟩,⟨(zz16 HB GE127)⟩⟩
       ·(first|refine iteT ?_|refine iteF ?_|skip)
        obtain rfl:=sI H;(try ((with_reducible refine upS ?_);go_simp))
        go_wp2
        go_ret
        exact ⟨zz12,(zz16 HB GE127)⟩
      ·replace H:=bindA H
       obtain ⟨t135,A33,H⟩:=H;obtain rfl:=sI H;obtain ⟨_,_,_,_,_,_,_,_⟩:=cf4 BK127;go_wp2_with (first|(refine gR 73 (some 69) Tryz.func73 (spec_l1Text.calls k2 a0_0 _ _ l0_1 a0_2 a0_3 t135 _ ?side1 ?side2 A33.out) ?_;(case side1=>exact (zz98 HR0_1 HB));(case side2=>exact HC0_1.out);rintro w35 hb;replace BK127:=A_ (bB (zz15 BK127) hb);replace HB:=A_ (bS (zz16 HB GE127) hb);(try clear hb)))
       go_ret
       exact ⟨zz12,(zz16 HB GE127)⟩
def spec_AddrText.f (k:Nat) (a0_0:ByteArray) (l0_1:List ByteArray) (a0_2:Bool) (a0_3:ByteArray):Option (ByteArray):=(spec_AddrOk.f k a0_0 l0_1 a0_2 a0_3).bind fun t137=>(if t137=true then ((spec_l1Text.f k a0_0 l0_1 a0_2 a0_3).bind fun t138=>(some t138)) else (some (⟨#[]⟩:ByteArray)))
theorem spec_AddrText.mono:∀ a0 a1 a2 a3 k,LeO (spec_AddrText.f k a0 a1 a2 a3) (spec_AddrText.f (k+1) a0 a1 a2 a3):=by
 intro a0 a1 a2 a3 k;unfold spec_AddrText.f
 repeat' first|(with_reducible first|exact spec_AddrOk.mono _ _ _ _ _|exact spec_l1Text.mono _ _ _ _ _|exact LeO.refl _|exact LeO.none _|refine LeO.ite ?_ ?_|refine LeO.bind ?_ (fun _=>?_))|exact LeO.none _|refine LeO.ite ?_ ?_|refine LeO.bind ?_ (fun _=>?_)
theorem spec_AddrText.calls (k:Nat) (a0_0:ByteArray) (A0_1:Option Addr) (c0_1:Nat) (l0_1:List ByteArray) (a0_2:Bool) (a0_3:ByteArray) (r:ByteArray) (w:World) (hr0_1:Kd.C Kd.string w A0_1 l0_1.length l0_1) (hc0_1:l0_1.length≤c0_1) (h:spec_AddrText.f k a0_0 l0_1 a0_2 a0_3=some r) :
  Calls Tryz.prog 47 #[.agg #[.string a0_0,.slice A0_1 l0_1.length c0_1,.bool a0_2,.string a0_3]] w fun e w'=>e=.returned (.string r)∧Below w.heap.size w w':=by
 have hu39:=Tryz.underlying39;have HR0_1:=A_ hr0_1;have HC0_1:=A_ hc0_1;clear hr0_1 hc0_1;have HB:=A_ (Below.refl w.heap.size w);unfold spec_AddrText.f at h
 have H:=h;clear h;replace H:=bindA H;obtain ⟨t137,A2,H⟩:=H;have HF3:=A_ H;clear H;go_enter Tryz.func47,Tryz.ntmps47;go_upto_if 5 with (first|(refine boxF 1 #[.string a0_0,.slice A0_1 l0_1.length c0_1,.bool a0_2,.string a0_3] 39 ?_;intro gb136 hg w4 BK136 hb;have GE136:=geB hg (zz5 HB);replace HB:=A_ (bS (zz5 HB) hb);clear hb hg;obtain ⟨_,_,_,_,_,_,_,_⟩:=cf4 BK136)|(refine gR 72 (some 4) Tryz.func72 (spec_AddrOk.calls k a0_0 _ _ l0_1 a0_2 a0_3 t137 _ ?side1 ?side2 A2.out) ?_;(case side1=>exact (zz98 HR0_1 HB));(case side2=>exact HC0_1.out);rintro w6 hb;replace BK136:=A_ (bB (zz15 BK136) hb);replace HB:=A_ (bS (zz16 HB GE136) hb);(try clear hb)))
 obtain ⟨H⟩:=HF3;replace H:=iteB H;rcases H with ⟨rfl,H⟩|⟨rfl,H⟩
 ·replace H:=bindA H
  obtain ⟨t138,A8,H⟩:=H;obtain rfl:=sI H;obtain ⟨_,_,_,_,_,_,_,_⟩:=cf4 BK136;go_wp2_with (first|(refine gR 73 (some 7) Tryz.func73 (spec_l1Text.calls k a0_0 _ _ l0_1 a0_2 a0_3 t138 _ ?side1 ?side2 A8.out) ?_;(case side1=>exact (zz98 HR0_1 HB));(case side2=>exact HC0_1.out);rintro w10 hb;replace BK136:=A_ (bB (zz15 BK136) hb);replace HB:=A_ (bS (zz16 HB GE136) hb);(try clear hb)))
  go_ret
  exact ⟨zz12,(zz16 HB GE136)⟩
 ·obtain rfl:=sI H
  go_wp2
  go_ret
  exact ⟨zz12,(zz16 HB GE136)⟩
def spec_l71Addr.l0:Nat→Int→List Int→Int→ByteArray→List ByteArray→Bool→ByteArray→Option (ByteArray×Int)
 | 0,_,_,_,_,_,_,_=>none
 | k+1,x4,x1000,x1001,x149000,x149001,x149002,x149003=>if x4 > 0 then ((spec_l6Rd_of.f k x1000 x1001 (([(⟨#[97]⟩:ByteArray),(⟨#[98]⟩:ByteArray),(⟨#[99]⟩:ByteArray),(⟨#[110,111,116,105,99,101]⟩:ByteArray)]:List ByteArray))).bind fun bt154=>(if x149001.length < 8796093022208 then (spec_l71Addr.l0 k (wrap64 (x4 - 1)) x1000 bt154.2 x149000 (x149001++[bt154.1]) x149002 x149003) else (none))) else ((spec_l6Rd_pick.f k x1000 x1001 8).bind fun bt159=>(if bt159.1=0 then ((spec_l6Rd_of.f k x1000 bt159.2 (([(⟨#[]⟩:ByteArray),(⟨#[97]⟩:ByteArray),(⟨#[98,37,51,68]⟩:ByteArray)]:List ByteArray))).bind fun bt164=>((spec_AddrText.f k x149000 x149001 true bt164.1).bind fun t166=>(some (t166,bt164.2)))) else ((spec_AddrText.f k x149000 x149001 x149002 x149003).bind fun t167=>(some (t167,bt159.2)))))
def spec_l71Addr.f (k:Nat) (s0_0:List Int) (s0_1:Int):Option (ByteArray×Int):=(spec_l71Houses.f).bind fun t142=>((spec_l6Rd_pick.f k s0_0 s0_1 4).bind fun bt145=>(if 0≤bt145.1 then (if bt145.1 < (t142.length:Int) then ((spec_l6Rd_pick.f k s0_0 bt145.2 3).bind fun bt149=>(spec_l71Addr.l0 k bt149.1 s0_0 bt149.2 (rdOf ByteArray.empty t142 bt145.1) ([]:List ByteArray) false (⟨#[]⟩:ByteArray))) else (none)) else (none)))
theorem spec_l71Addr.mono_l:∀ k,(∀ y0 y1 y2 y3 y4 y5 y6,LeO (spec_l71Addr.l0 k y0 y1 y2 y3 y4 y5 y6) (spec_l71Addr.l0 (k+1) y0 y1 y2 y3 y4 y5 y6))
 | 0=>by intros;intro r h;simp [spec_l71Addr.l0] at h
 | k+1=>by
  have ih0:=spec_l71Addr.mono_l k;intros;unfold spec_l71Addr.l0;repeat' first|(with_reducible first|exact ih0 _ _ _ _ _ _ _|exact spec_AddrText.mono _ _ _ _ _|exact spec_l6Rd_of.mono _ _ _ _|exact spec_l6Rd_pick.mono _ _ _ _|exact LeO.refl _|exact LeO.none _|refine LeO.ite ?_ ?_|refine LeO.bind ?_ (fun _=>?_))|exact LeO.none _|refine LeO.ite ?_ ?_|refine LeO.bind ?_ (fun _=>?_)
theorem spec_l71Addr.mono:∀ a0 a1 k,LeO (spec_l71Addr.f k a0 a1) (spec_l71Addr.f (k+1) a0 a1):=by
 intro a0 a1 k;have ih0:=spec_l71Addr.mono_l k;unfold spec_l71Addr.f
 repeat' first|(with_reducible first|exact ih0 _ _ _ _ _ _ _|exact spec_AddrText.mono _ _ _ _ _|exact spec_l6Rd_of.mono _ _ _ _|exact spec_l6Rd_pick.mono _ _ _ _|exact LeO.refl _|exact LeO.none _|refine LeO.ite ?_ ?_|refine LeO.bind ?_ (fun _=>?_))|exact LeO.none _|refine LeO.ite ?_ ?_|refine LeO.bind ?_ (fun _=>?_)
def spec_l71Addr.T5:Bool×List (List Nat×List Nat):=(true,[([],[]),([0],[0]),([],[]),([],[]),([2,3],[2,3]),([4],[4]),([1,5,4],[1,5]),([0,1,2,3,4,5,6],[]),([7,6,6,0,1,2,3,4,5,6],[6,7])])
def spec_l71Addr.B5:List Nat:=[0,1,0,0,12,28,63,127,255]
theorem spec_l71Addr.tab5:rtab .any (opsOf Tryz.f43 5)=spec_l71Addr.T5:=by kernel_rfl
theorem spec_l71Addr.bits5:waitsOk spec_l71Addr.T5.2 spec_l71Addr.B5=true:=by kernel_rfl
theorem spec_l71Addr.calls (k:Nat) (g:Nat) (s0_0:List Int) (s0_1:Int) (r1:ByteArray) (r2:Int) (w0 w:World) (hI:IsS68 w0 w g s0_0 s0_1) (hB:Below w0.heap.size w0 w) (h:spec_l71Addr.f k s0_0 s0_1=some (r1,r2)) :
  Calls Tryz.prog 43 #[.pointer (some ⟨g,0,none⟩)] w fun e w'=>e=.returned (.string r1)∧IsS68 w0 w' g s0_0 r2∧Below w0.heap.size w0 w'∧KeepBut w w' g none:=by
 have hu39:=Tryz.underlying39;have HI0:=A_ hI;have HK:=A_ (KeepBut.refl w g none);have HL:=A_ hB.size;clear hI;have HW0:=A_ hB.size;have HB:=A_ hB;clear hB;unfold spec_l71Addr.f at h
 have H:=h;clear h;replace H:=bindA H;obtain ⟨t142,A2,H⟩:=H;replace H:=bindA H;obtain ⟨⟨t145,t146⟩,A3,H⟩:=H;try dsimp only at H
 replace H:=iteE H;rcases H with ⟨c4,H⟩|⟨c4,H⟩
 ·have c4b0:=dT c4
  clear c4;replace H:=iteNd H;obtain ⟨c5b0,H⟩:=H;replace H:=bindA H;obtain ⟨⟨t149,t150⟩,A6,H⟩:=H;try dsimp only at H
  have H':=A_ H;clear H;go_enter Tryz.func43,Tryz.ntmps43;go_wp2_with (first|(refine gV 65 (some 5) Tryz.func65 (spec_l71Houses.calls  t142 _ A2.out) ?_;rintro v143 w7 ⟨ho0,hb⟩;have HO144:=A_ (Kd.R_lower ho0 (keep_size (w:=w) (g:=g) (row:=none) (zz19 HK)));replace HK:=A_ (KeepBut.trans (zz19 HK) (KeepBut.of_below hb g none) (.inl rfl));replace HB:=A_ (bS (zz20 HB HI0) hb);replace HI0:=A_ (IsS68.below (zz18 HI0) hb);(try clear hb ho0))|(refine gR 22 (some 7) Tryz.func22 (spec_l6Rd_pick.calls k g s0_0 s0_1 4 t145 t146 w0 _ ?side1 ?side2 A3.out) ?_;(case side1=>exact (zz18 HI0));(case side2=>exact (zz20 HB HI0));rintro w8 ⟨hi,hb,hk⟩;replace HO144:=A_ (Kd.R_mono (Kd.R_keep (IsS68.apart (show IsS68 w0 _ g s0_0 s0_1 from (zz18 HI0)) (zz8 HO144) (by decide)) hk (fun _ h=>h.2)) (fun _ h=>h.1));replace HK:=A_ (KeepBut.trans (zz19 HK) hk (.inl rfl));replace HB:=A_ (hb);replace HI0:=A_ (hi);(try clear hb hk hi);obtain ⟨Ao9,co9,eo9⟩:=Kd.R_slice HO144.out;subst eo9;have p147:0≤(t145:Int):=ofD;have q147:t145 < (t142.length:Int):=ofD;obtain ⟨ad147,e147,hx147_0⟩:=Kd.at_string (Kd.R_reads' HO144.out).2.2 t145 p147 q147;cases e147;replace p147:=eq_true p147;replace q147:=eq_true q147)|(refine boxF 3 #[.string (⟨#[]⟩:ByteArray),.slice none 0 0,.bool false,.string (⟨#[]⟩:ByteArray)] 39 ?_;intro gb148 hg w10 BK148 hb;replace HO144:=A_ (rB (zz8 HO144) hb);replace HB:=A_ (bS (zz20 HB HI0) hb);have GW148:=A_ ((by rw [hg];exact (keep_size (w:=w) (g:=g) (row:=none) (zz19 HK)):w.heap.size≤gb148));have GE148:=A_ ((Nat.le_trans HW0.out (by rw [hg];exact (keep_size (w:=w) (g:=g) (row:=none) (zz19 HK)):w.heap.size≤gb148):w0.heap.size≤gb148));replace HK:=A_ (KeepBut.trans (zz19 HK) (KeepBut.of_below hb g none) (.inl rfl));have NB0_148:=A_ ((by rw [hg];exact Nat.ne_of_lt (IsS68.lt (show IsS68 w0 _ g s0_0 t146 from (zz18 HI0))):g≠gb148));have NB148_0:=A_ ((by rw [hg];exact Nat.ne_of_gt (IsS68.lt (show IsS68 w0 _ g s0_0 t146 from (zz18 HI0))):gb148≠g));replace HI0:=A_ (IsS68.below (zz18 HI0) hb);clear hb hg;have hnb11:=NB148_0.out;have hnc11:=NB0_148.out;obtain ⟨_,_,_,_,_,_,_,_⟩:=cf4 BK148)|(refine gR 22 (some 12) Tryz.func22 (spec_l6Rd_pick.calls k g s0_0 t146 3 t149 t150 w0 _ ?side1 ?side2 A6.out) ?_;(case side1=>exact (zz37 HI0 NB0_148));(case side2=>exact (zz38 HB HI0 GE148));rintro w13 ⟨hi,hb,hk⟩;replace HO144:=A_ (Kd.R_mono (Kd.R_keep (IsS68.apart (show IsS68 w0 _ g s0_0 t146 from (zz37 HI0 NB0_148)) (by (with_reducible repeat (first|apply Kd.R_alloc|apply Kd.R_drewN|apply Kd.R_drew));exact (Kd.R_mono (Kd.R_far (p:=⟨gb148,3,none⟩) (Kd.R_far (p:=⟨gb148,2,none⟩) (Kd.R_far (p:=⟨gb148,1,none⟩) (Kd.R_far (p:=⟨gb148,0,none⟩) (Kd.R_types HO144.out BK148.out (by decide)) (fun _ hk=>hk.2) (.string (rdOf ByteArray.empty t142 t145))) (fun _ hk=>hk.2) (.slice none 0 0)) (fun _ hk=>hk.2) (.bool false)) (fun _ hk=>hk.2) (.string (⟨#[]⟩:ByteArray))) (fun _ h_=>h_.1))) (by decide)) hk (fun _ h=>h.2)) (fun _ h=>h.1));replace BK148:=A_ (KeepBut.blk hk (g':=gb148) (o:=.cells #[.string (rdOf ByteArray.empty t142 t145),.slice none 0 0,.bool false,.string (⟨#[]⟩:ByteArray)] 39 (0,0)) (zz32 BK148) NB148_0.out (by simp));replace HK:=A_ (KeepBut.trans (zz42 HK GW148) hk (.inl rfl));replace HB:=A_ (hb);replace HI0:=A_ (hi);(try clear hb hk hi)))
  go_loopg [4] k (fun kq v4 w'=>∃ (x4_1:Int) (x1001_1:Int) (x149001_1:List ByteArray) (u149001:Value),v4=.int .i64 x4_1∧Aside0 (spec_l71Addr.l0 kq x4_1 s0_0 x1001_1 (rdOf ByteArray.empty t142 t145) x149001_1 false (⟨#[]⟩:ByteArray)=some (r1,r2))∧Aside0 (kq≤k)∧Aside0 (Kd.R Kd.string 9 w' w.heap.size (fun _=>True) u149001 x149001_1)∧Aside0 (w'.heap[gb148]?=some (.cells #[.string (rdOf ByteArray.empty t142 t145),u149001,.bool false,.string (⟨#[]⟩:ByteArray)] 39 (0,0)))∧Aside0 (IsS68 w0 w' g s0_0 x1001_1)∧Aside0 (KeepBut w w' g none)∧Aside0 (Below w0.heap.size w0 w'))
  case atStart=>exact ⟨(t149),(t150),(([]:List ByteArray)),(.slice none 0 0),zz0,H',⟨Nat.le_refl _⟩,⟨zz4⟩,⟨(zz15 BK148)⟩,⟨(zz37 HI0 NB0_148)⟩,⟨(zz42 HK GW148)⟩,⟨(zz38 HB HI0 GE148)⟩⟩
  case round=>
   clear H';obtain ⟨x4_1,x1001_1,x149001_1,u149001,rfl,HA,HK1,HO_149001,BK148,HI0,HK,HB⟩:=hrel;cases gk with
   | zero=>exact absurd HA.out (by simp [spec_l71Addr.l0])
   | succ k1=>
    obtain ⟨H⟩:=HA;simp only [spec_l71Addr.l0] at H
    replace H:=iteEg H;rcases H with ⟨c14b0,H⟩|⟨c14b0,H⟩
    ·obtain ⟨y151,Ny151⟩:=toY (([(⟨#[97]⟩:ByteArray),(⟨#[98]⟩:ByteArray),(⟨#[99]⟩:ByteArray),(⟨#[110,111,116,105,99,101]⟩:ByteArray)]:List ByteArray))
     (first|with_reducible replace H:=bindZ Ny151 H|rw [← Ny151.out] at H|skip)
     replace H:=bindA H;obtain ⟨⟨t154,t155⟩,A15,H⟩:=H;try dsimp only at H
     replace H:=iteN H;obtain ⟨c16,H⟩:=H;have LMc16:=A_ c16;clear c16;obtain ⟨y156,Ny156⟩:=toY (x149001_1++[t154]);(first|with_reducible replace H:=bindZ Ny156 H|rw [← Ny156.out] at H|skip)
     have H':=A_ H;clear H;try go_wp2
     replace HO_149001:=A_ (Kd.R_drew HO_149001.out);replace BK148:=A_ (blk_drew BK148.out);replace HI0:=A_ (IsS68.drew HI0.out);replace HK:=A_ (keep_drew HK.out);replace HB:=A_ (below_drew1 HB.out);refine start_ (n:=9) (S:=fun w'=>w'.cell? ⟨gb148,0,none⟩=some (.string (rdOf ByteArray.empty t142 t145))∧w'.cell? ⟨gb148,1,none⟩=some (u149001)∧w'.cell? ⟨gb148,2,none⟩=some (.bool false)∧w'.cell? ⟨gb148,3,none⟩=some (.string (⟨#[]⟩:ByteArray))) (ds:=[8]) #[yF,yF,yF,yF,yF,yF,yF,yF,yF] (by kernel_rfl) rfl rfl ⟨(blk_cell BK148.out 0).trans rfl,(blk_cell BK148.out 1).trans rfl,(blk_cell BK148.out 2).trans rfl,(blk_cell BK148.out 3).trans rfl⟩ (fun hHeld=>?_);refine with_tabW spec_l71Addr.tab5 spec_l71Addr.bits5 (fun HT_ HW_=>?_);generalize wr.drew=w17 at HO_149001 BK148 HI0 HK HB hHeld ⊢;refine pureZ 0 (some 17) #[yT,yF,yF,yF,yF,yF,yF,yF,yF] ?_;refine pureZ 2 (some 19) #[yT,yF,yT,yF,yF,yF,yF,yF,yF] ?_;refine takeZ4 1 (some 18) #[yT,yT,yT,yF,yF,yF,yF,yF,yF] hHeld ?_;refine oneZ 3 (some 20) #[yT,yT,yT,yT,yF,yF,yF,yF,yF] (fun K hK=>?_);refine Kd.R_lit_step Kd.string _ 9 ?hg (N:=20) ?hd (xs:=([(⟨#[97]⟩:ByteArray),(⟨#[98]⟩:ByteArray),(⟨#[99]⟩:ByteArray),(⟨#[110,111,116,105,99,101]⟩:ByteArray)]:List ByteArray)) (inner:=[.string (⟨#[97]⟩:ByteArray),.string (⟨#[98]⟩:ByteArray),.string (⟨#[99]⟩:ByteArray),.string (⟨#[110,111,116,105,99,101]⟩:ByteArray)]) (ok:=fun _=>True) (okp:=fun _=>True) ?hr ?hp (fun _ hk=>hk) trivial (Below.refl _ _) (Nat.le_refl _) (by simp) ?_;(case hd=>rfl);(case hg=>rfl);(case hr=>exact zz26);(case hp=>exact (Reps.one (show Kd.M Kd.string _ _ _ (⟨#[97]⟩:ByteArray) [.string (⟨#[97]⟩:ByteArray)] from rfl) (Reps.one (show Kd.M Kd.string _ _ _ (⟨#[98]⟩:ByteArray) [.string (⟨#[98]⟩:ByteArray)] from rfl) (Reps.one (show Kd.M Kd.string _ _ _ (⟨#[99]⟩:ByteArray) [.string (⟨#[99]⟩:ByteArray)] from rfl) (Reps.one (show Kd.M Kd.string _ _ _ (⟨#[110,111,116,105,99,101]⟩:ByteArray) [.string (⟨#[110,111,116,105,99,101]⟩:ByteArray)] from rfl) (Reps.none _ _))))));intro v152 w18 ho19 hb hg_ hnew_;clear hg_ hnew_;(first|rw [← Ny151.out] at ho19|(simp only [Int.reduceToNat] at ho19;rw [← Ny151.out] at ho19))
     have HO153:=A_ (Kd.R_lower (Kd.R_new' ho19 (Kd.R_lt (zz8 HO_149001))) (keep_size (w:=w) (g:=g) (row:=none) (zz42 HK GW148)));replace HO_149001:=A_ (Kd.R_elder' (zz8 HO_149001) (Kd.R_base ho19) hb);replace BK148:=A_ (bB (zz15 BK148) hb);replace HK:=A_ (KeepBut.trans (zz42 HK GW148) (KeepBut.of_below hb g none) (.inl rfl));replace HB:=A_ (bS (zz38 HB HI0 GE148) hb);replace HI0:=A_ (IsS68.below (zz37 HI0 NB0_148) hb);clear hb ho19;obtain ⟨Ao20,co20,eo20⟩:=Kd.R_slice HO153.out;(first|subst eo20|(injection eo20 with f1_ f2_ f3_;have f4_:=f1_.symm;have f5_:=f3_.symm;clear f1_ f2_ f3_;subst f4_;subst f5_))
     refine hK.out _ _ ⟨(blk_cell BK148.out 0).trans rfl,(blk_cell BK148.out 1).trans rfl,(blk_cell BK148.out 2).trans rfl,(blk_cell BK148.out 3).trans rfl⟩ (fun hHeld=>?_);clear hK K;refine nZ 20 ?_;refine oneZ 4 (some 21) #[yT,yT,yT,yT,yT,yF,yF,yF,yF] (fun K hK=>?_);refine goes_ Tryz.func41 (by kernel_rfl) rfl #[.pointer (some ⟨g,0,none⟩),.slice Ao20 y151.length co20] (by rfl) rfl rfl zz27 ?_;with_reducible refine (spec_l6Rd_of.calls k1 g s0_0 x1001_1 _ _ y151 t154 t155 w0 _ ?side1 ?side2 ?side3 ?side4 ?side5 A15.out).mono ?_
     (case side1=>exact (zz37 HI0 NB0_148))
     (case side2=>exact (zz38 HB HI0 GE148))
     (case side3=>exact (zz33 HO153))
     (case side4=>exact (Kd.R_reads' HO153.out).2.1)
     (case side5=>exact far_slice (IsS68.own_ne HI0.out HO153.out (by decide)))
     rintro e w21 ⟨rfl,hi,hb,hk⟩;refine ⟨_,rfl,?_⟩;replace HO_149001:=A_ (Kd.R_mono (Kd.R_keep (IsS68.apart (show IsS68 w0 _ g s0_0 x1001_1 from (zz37 HI0 NB0_148)) (zz8 HO_149001) (by decide)) hk (fun _ h=>h.2)) (fun _ h=>h.1));replace BK148:=A_ (KeepBut.blk hk (g':=gb148) (o:=.cells #[.string (rdOf ByteArray.empty t142 t145),u149001,.bool false,.string (⟨#[]⟩:ByteArray)] 39 (0,0)) (zz15 BK148) NB148_0.out (by simp));replace HO153:=A_ (Kd.R_mono (Kd.R_keep (IsS68.apart (show IsS68 w0 _ g s0_0 x1001_1 from (zz37 HI0 NB0_148)) (zz8 HO153) (by decide)) hk (fun _ h=>h.2)) (fun _ h=>h.1));replace HK:=A_ (KeepBut.trans (zz42 HK GW148) hk (.inl rfl));replace HB:=A_ (hb);replace HI0:=A_ (hi);(try clear hb)
     (try clear hb2)
     (try clear hk)
     (try clear hi)
     refine hK.out _ _ ⟨(blk_cell BK148.out 0).trans rfl,(blk_cell BK148.out 1).trans rfl,(blk_cell BK148.out 2).trans rfl,(blk_cell BK148.out 3).trans rfl⟩ (fun hHeld=>?_);clear hK K;refine nZ 21 ?_;refine oneZ 5 (some 22) #[yT,yT,yT,yT,yT,yT,yF,yF,yF] (fun K hK=>?_);refine value_ (w1:=?_) (v:=?_) (by rfl) rfl ?_ ?_;rotate_left 2
     ·go_simp
      constructor
      ·rfl
      ·rfl
     refine hK.out _ _ ⟨(blk_cell (blk_alloc BK148.out _) 0).trans rfl,(blk_cell (blk_alloc BK148.out _) 1).trans rfl,(blk_cell (blk_alloc BK148.out _) 2).trans rfl,(blk_cell (blk_alloc BK148.out _) 3).trans rfl⟩ (fun hHeld=>?_);clear hK K;refine nZ 22 ?_;refine oneZ 6 (some 23) #[yT,yT,yT,yT,yT,yT,yT,yF,yF] (fun K hK=>?_);refine Kd.R_append_step Kd.string w.heap.size (by rfl) (.tmp 18) (.tmp 22) 35 9 (.string ⟨#[]⟩) 16 rfl Tryz.underlying35 info9 rfl (by decide) (by omega) u149001 x149001_1 t154 [.string t154] (fun k_=>some k_≠(.slice Ao20 y151.length co20:Value).ownBlock) (fun _=>False) rfl rfl ?aP (fun _ hk=>hk.elim) ?aF ?aO (Below.refl _ _) ?aS ?aL ?_;(case aP=>exact rfl)
     (case aF=>exact (fun k_ hk=>Kd.fresh' (Kd.R_lt (zz8 HO153)) k_ hk))
     (case aO=>exact (zz94 HO_149001))
     (case aS=>exact (keep_size (w:=w) (g:=g) (row:=none) (zz42 HK GW148)))
     (case aL=>exact (zz3 LMc16))
     intro v157 w22 ho hb hg hat;rw [← Ny156.out] at ho;replace BK148:=A_ (blk_grown (zz15 BK148) hg (Kd.R_ne HO_149001.out BK148.out (by decide)));replace HO153:=A_ (Kd.R_after (ok:=(fun _=>True)) (zz8 HO153) hg hat);replace HB:=A_ (below_weaken (zz38 HB HI0 GE148) HL.out hb);replace HI0:=A_ (IsS68.grown (zz37 HI0 NB0_148) hg (IsS68.own_ne HI0.out HO_149001.out (by decide)));replace HK:=A_ (KeepBut.trans (zz42 HK GW148) (KeepBut.of_grown hg g) (Kd.R_base2 HO_149001.out));have HO158:=A_ (ho);clear HO_149001;clear ho hb hg hat;obtain ⟨Ao23,co23,eo23⟩:=Kd.R_slice HO158.out;(first|subst eo23|(injection eo23 with f1_ f2_ f3_;have f4_:=f1_.symm;have f5_:=f3_.symm;clear f1_ f2_ f3_;subst f4_;subst f5_))
     refine hK.out _ _ ⟨(blk_cell BK148.out 0).trans rfl,(blk_cell BK148.out 1).trans rfl,(blk_cell BK148.out 2).trans rfl,(blk_cell BK148.out 3).trans rfl⟩ (fun hHeld=>?_);clear hK K;refine nZ 23 ?_;refine pureZ 7 (some 24) #[yT,yT,yT,yT,yT,yT,yT,yT,yF] ?_;refine last_ (i:=8) (N:=none) #[yT,yT,yT,yT,yT,yT,yT,yT,yT] rfl rfl (one_of HT_.out (by kernel_rfl)) (by decide) (fun K hK=>?_);have hs24:w22.cell? ⟨gb148,1,none⟩=some (u149001):=(blk_cell BK148.out 1).trans rfl;have hfs24:=blk_frozen BK148.out 1;refine skip_ (w1:=?_) (by rfl) rfl ?_ ?_;rotate_left
     ·go_simp
      rfl
     refine hK.out _ _ ?_;clear hK K;refine done_ (done_of HT_.out (by kernel_rfl)) ?_;try go_wp2
     go_roundg k1
     case measure=>have:=HK1.out;omega
     case rel=>exact ⟨(wrap64 (x4_1 - 1)),(t155),(y156),(.slice Ao23 y156.length co23),zz0,H',⟨(zz3 HK1)⟩,⟨(zz47 (rt HO158 BK148))⟩,⟨(zz134 BK148)⟩,⟨(zz37 HI0 NB0_148)⟩,⟨(zz42 HK GW148)⟩,⟨(zz38 HB HI0 GE148)⟩⟩
    ·replace H:=bindA H
     obtain ⟨⟨t159,t160⟩,A25,H⟩:=H;try dsimp only at H
     have HF26:=A_ H;clear H;go_upto_if 27 with (first|(refine gR 22 (some 26) Tryz.func22 (spec_l6Rd_pick.calls k1 g s0_0 x1001_1 8 t159 t160 w0 _ ?side1 ?side2 A25.out) ?_;(case side1=>exact (zz37 HI0 NB0_148));(case side2=>exact (zz38 HB HI0 GE148));rintro w27 ⟨hi,hb,hk⟩;replace HO_149001:=A_ (Kd.R_mono (Kd.R_keep (IsS68.apart (show IsS68 w0 _ g s0_0 x1001_1 from (zz37 HI0 NB0_148)) (zz8 HO_149001) (by decide)) hk (fun _ h=>h.2)) (fun _ h=>h.1));replace BK148:=A_ (KeepBut.blk hk (g':=gb148) (o:=.cells #[.string (rdOf ByteArray.empty t142 t145),u149001,.bool false,.string (⟨#[]⟩:ByteArray)] 39 (0,0)) (zz15 BK148) NB148_0.out (by simp));replace HK:=A_ (KeepBut.trans (zz42 HK GW148) hk (.inl rfl));replace HB:=A_ (hb);replace HI0:=A_ (hi);(try clear hb hk hi)))
     obtain ⟨H⟩:=HF26;replace H:=iteEq H;rcases H with ⟨c28b0,c28b1,H⟩|⟨c28b0,c28b1,c28,H⟩
     ·(first|rw [c28b0]|(simp only [i64_w,i32_w];rw [c28b0])|skip)
      obtain ⟨y161,Ny161⟩:=toY (([(⟨#[]⟩:ByteArray),(⟨#[97]⟩:ByteArray),(⟨#[98,37,51,68]⟩:ByteArray)]:List ByteArray));(first|with_reducible replace H:=bindZ Ny161 H|rw [← Ny161.out] at H|skip)
      replace H:=bindA H;obtain ⟨⟨t164,t165⟩,A29,H⟩:=H;try dsimp only at H
      replace H:=bindA H;obtain ⟨t166,A30,H⟩:=H;simp only [Option.some.injEq,Prod.mk.injEq] at H
      obtain ⟨rfl,rfl⟩:=H;have hnb31:=NB148_0.out;have hnc31:=NB0_148.out;obtain ⟨_,_,_,_,_,_,_,_⟩:=cf4 BK148;go_wp2_with (first|((with_reducible refine gD (N:=30) rfl ?_);refine Kd.R_lit Kd.string _ 9 ?hg (N:=30) ?hd (xs:=([(⟨#[]⟩:ByteArray),(⟨#[97]⟩:ByteArray),(⟨#[98,37,51,68]⟩:ByteArray)]:List ByteArray)) (inner:=[.string (⟨#[]⟩:ByteArray),.string (⟨#[97]⟩:ByteArray),.string (⟨#[98,37,51,68]⟩:ByteArray)]) (ok:=fun _=>True) (okp:=fun _=>True) ?hr ?hp (fun _ hk=>hk) trivial (Below.refl _ _) (Nat.le_refl _) (by simp) ?_;(case hd=>rfl);(case hg=>rfl);(case hr=>exact zz26);(case hp=>exact (Reps.one (show Kd.M Kd.string _ _ _ (⟨#[]⟩:ByteArray) [.string (⟨#[]⟩:ByteArray)] from rfl) (Reps.one (show Kd.M Kd.string _ _ _ (⟨#[97]⟩:ByteArray) [.string (⟨#[97]⟩:ByteArray)] from rfl) (Reps.one (show Kd.M Kd.string _ _ _ (⟨#[98,37,51,68]⟩:ByteArray) [.string (⟨#[98,37,51,68]⟩:ByteArray)] from rfl) (Reps.none _ _)))));intro v162 w33 ho34 hb hg_ hnew_;clear hg_ hnew_;(first|rw [← Ny161.out] at ho34|(simp only [Int.reduceToNat] at ho34;rw [← Ny161.out] at ho34));have HO163:=A_ (Kd.R_lower (Kd.R_new' ho34 (Kd.R_lt (zz135 HO_149001 BK148))) (keep_size (w:=w) (g:=g) (row:=none) (zz42 HK GW148)));replace HO_149001:=A_ (Kd.R_elder' (zz135 HO_149001 BK148) (Kd.R_base ho34) hb);replace BK148:=A_ (bB (g:=gb148) (o:=.cells #[.string (rdOf ByteArray.empty t142 t145),u149001,.bool true,.string (⟨#[]⟩:ByteArray)] 39 (0,0)) (zz136 BK148) hb);replace HK:=A_ (KeepBut.trans (zz42 HK GW148) (KeepBut.of_below hb g none) (.inl rfl));replace HB:=A_ (bS (zz38 HB HI0 GE148) hb);replace HI0:=A_ (IsS68.below (show IsS68 w0 (w27.setCell ⟨gb148,2,none⟩ (.bool true)) g s0_0 t160 from (zz37 HI0 NB0_148)) hb);clear hb ho34;obtain ⟨Ao35,co35,eo35⟩:=Kd.R_slice HO163.out;subst eo35)|(refine gR 41 (some 31) Tryz.func41 (spec_l6Rd_of.calls k1 g s0_0 t160 _ _ y161 t164 t165 w0 _ ?side1 ?side2 ?side3 ?side4 ?side5 A29.out) ?_;(case side1=>exact (zz37 HI0 NB0_148));(case side2=>exact (zz38 HB HI0 GE148));(case side3=>exact (zz33 HO163));(case side4=>exact (Kd.R_reads' HO163.out).2.1);(case side5=>exact far_slice (IsS68.own_ne HI0.out HO163.out (by decide)));rintro w36 ⟨hi,hb,hk⟩;replace HO_149001:=A_ (Kd.R_mono (Kd.R_keep (IsS68.apart (show IsS68 w0 _ g s0_0 t160 from (zz37 HI0 NB0_148)) (zz8 HO_149001) (by decide)) hk (fun _ h=>h.2)) (fun _ h=>h.1));replace BK148:=A_ (KeepBut.blk hk (g':=gb148) (o:=.cells #[.string (rdOf ByteArray.empty t142 t145),u149001,.bool true,.string (⟨#[]⟩:ByteArray)] 39 (0,0)) (zz15 BK148) NB148_0.out (by simp));replace HO163:=A_ (Kd.R_mono (Kd.R_keep (IsS68.apart (show IsS68 w0 _ g s0_0 t160 from (zz37 HI0 NB0_148)) (zz8 HO163) (by decide)) hk (fun _ h=>h.2)) (fun _ h=>h.1));replace HK:=A_ (KeepBut.trans (zz42 HK GW148) hk (.inl rfl));replace HB:=A_ (hb);replace HI0:=A_ (hi);(try clear hb hk hi);obtain ⟨_,_,_,_,_,_,_,_⟩:=cf4 BK148;obtain ⟨Ao38,co38,eo38⟩:=Kd.R_slice HO_149001.out;subst eo38)|((with_reducible refine gC (f:=47) rfl ?_);refine gsL (some 34) Tryz.func47 #[.agg #[.string (rdOf ByteArray.empty t142 t145),.slice Ao38 x149001_1.length co38,.bool true,.string t164]] ?_;(with_reducible refine (spec_AddrText.calls k1 (rdOf ByteArray.empty t142 t145) _ _ x149001_1 true t164 t166 _ ?side1 ?side2 A30.out).mono ?_);(case side1=>exact (by refine (Kd.R_reads' (e:=9) (base:=w.heap.size) (ok:=fun k_=>(True∧some k_≠(.slice Ao35 y161.length co35:Value).ownBlock)) (n:=x149001_1.length) (c:=co38) ?_).2.2;exact (zz137 HO_149001 BK148)));(case side2=>exact (Kd.R_reads' HO_149001.out).2.1);rintro e w39 ⟨rfl,hb⟩;refine ⟨_,rfl,?_⟩;replace HO_149001:=A_ (rB (zz137 HO_149001 BK148) hb);replace HO163:=A_ (rB (zz137 HO163 BK148) hb);replace BK148:=A_ (bB (g:=gb148) (o:=.cells #[.string (rdOf ByteArray.empty t142 t145),.slice Ao38 x149001_1.length co38,.bool true,.string t164] 39 (0,0)) (by first|((repeat (first|(with_reducible first|exact BK148.out|refine blk_drewN ?_ _|refine blk_drew ?_|refine blk_alloc ?_ _|apply blk_put)|exact BK148.out));all_goals rfl;done)|(apply blk_put (i:=3);exact BK148.out;all_goals rfl)) hb);replace HK:=A_ (KeepBut.trans (zz42 HK GW148) (KeepBut.of_below hb g none) (.inl rfl));replace HB:=A_ (bS (zz38 HB HI0 GE148) hb);replace HI0:=A_ (IsS68.below (show IsS68 w0 (w36.setCell ⟨gb148,3,none⟩ (.string t164)) g s0_0 t165 from (zz37 HI0 NB0_148)) hb);(try clear hb)))
      go_ret
      exact ⟨zz12,(zz37 HI0 NB0_148),(zz38 HB HI0 GE148),(zz42 HK GW148)⟩
     ·(first|rw [c28b0]|(simp only [i64_w,i32_w];rw [c28b0])|skip)
      replace H:=bindA H;obtain ⟨t167,A40,H⟩:=H;simp only [Option.some.injEq,Prod.mk.injEq] at H
      obtain ⟨rfl,rfl⟩:=H;have hnb41:=NB148_0.out;have hnc41:=NB0_148.out;obtain ⟨_,_,_,_,_,_,_,_⟩:=cf4 BK148;obtain ⟨Ao43,co43,eo43⟩:=Kd.R_slice HO_149001.out;subst eo43;go_wp2_with (first|(refine gR 47 (some 34) Tryz.func47 (spec_AddrText.calls k1 (rdOf ByteArray.empty t142 t145) _ _ x149001_1 false (⟨#[]⟩:ByteArray) t167 _ ?side1 ?side2 A40.out) ?_;(case side1=>exact (zz33 HO_149001));(case side2=>exact (Kd.R_reads' HO_149001.out).2.1);rintro w44 hb;replace HO_149001:=A_ (rB (zz8 HO_149001) hb);replace BK148:=A_ (bB (zz15 BK148) hb);replace HK:=A_ (KeepBut.trans (zz42 HK GW148) (KeepBut.of_below hb g none) (.inl rfl));replace HB:=A_ (bS (zz38 HB HI0 GE148) hb);replace HI0:=A_ (IsS68.below (zz37 HI0 NB0_148) hb);(try clear hb)))
      go_ret
      exact ⟨zz12,(zz37 HI0 NB0_148),(zz38 HB HI0 GE148),(zz42 HK GW148)⟩
 ·exact absurd H (by simp)
def spec_l71Ref.j0:Nat→Int→Bool→List Int→Int→Option (ByteArray×Int)
 | 0,_,_,_,_=>none
 | k+1,x4,x5,x1000,x1001=>if x5=true then ((spec_l71Addr.f k x1000 x1001).bind fun bt284=>(some (bt284.1,bt284.2))) else (if x4=2 then ((spec_l6Rd_of.f k x1000 x1001 (([(⟨#[97]⟩:ByteArray),(⟨#[98]⟩:ByteArray),(⟨#[97,47,98]⟩:ByteArray),(⟨#[99,47,46,46,47,98]⟩:ByteArray),(⟨#[]⟩:ByteArray),(⟨#[120,47,46,47,99]⟩:ByteArray)]:List ByteArray))).bind fun bt289=>(if 1+bt289.1.size≤9223372036854775807 then (some ((⟨#[47]⟩:ByteArray)++bt289.1,bt289.2)) else (none))) else (if x4=3 then ((spec_l6Rd_of.f k x1000 x1001 (([(⟨#[46,46]⟩:ByteArray),(⟨#[46,46,47,99]⟩:ByteArray),(⟨#[46,46,47,46,46,47,46,46]⟩:ByteArray),(⟨#[46]⟩:ByteArray),(⟨#[46,47,97]⟩:ByteArray)]:List ByteArray))).bind fun bt294=>(some (bt294.1,bt294.2))) else (if x4=4 then ((spec_l6Rd_of.f k x1000 x1001 (([(⟨#[63,97]⟩:ByteArray),(⟨#[63]⟩:ByteArray),(⟨#[35,116,111,112]⟩:ByteArray),(⟨#[]⟩:ByteArray),(⟨#[97,35,98]⟩:ByteArray),(⟨#[98,63,97]⟩:ByteArray)]:List ByteArray))).bind fun bt299=>(some (bt299.1,bt299.2))) else (if x4=5 then ((spec_l6Rd_of.f k x1000 x1001 (([(⟨#[47,47,65,66,47,97]⟩:ByteArray),(⟨#[47,47,99,100]⟩:ByteArray),(⟨#[47,47,99,100,63,120]⟩:ByteArray),(⟨#[47,47,97,98,47,37,54,49]⟩:ByteArray),(⟨#[47,47,116,111,111,108,111,110,103,47,97]⟩:ByteArray),(⟨#[47,47,97,49,47,98]⟩:ByteArray),(⟨#[47,47,47,97]⟩:ByteArray)]:List ByteArray))).bind fun bt304=>(some (bt304.1,bt304.2))) else ((spec_l6Rd_of.f k x1000 x1001 (([(⟨#[97]⟩:ByteArray),(⟨#[98]⟩:ByteArray),(⟨#[99]⟩:ByteArray),(⟨#[97,47,98]⟩:ByteArray)]:List ByteArray))).bind fun bt309=>(some (bt309.1,bt309.2)))))))
def spec_l71Ref.f (k:Nat) (s0_0:List Int) (s0_1:Int):Option (ByteArray×Int):=(spec_l6Rd_pick.f k s0_0 s0_1 8).bind fun bt282=>(if bt282.1=0 then (spec_l71Ref.j0 k bt282.1 (bt282.1 == 0) s0_0 bt282.2) else (spec_l71Ref.j0 k bt282.1 (bt282.1 == 1) s0_0 bt282.2))
theorem spec_l71Ref.mono_l:∀ k,(∀ y0 y1 y2 y3,LeO (spec_l71Ref.j0 k y0 y1 y2 y3) (spec_l71Ref.j0 (k+1) y0 y1 y2 y3))
 | 0=>by intros;intro r h;simp [spec_l71Ref.j0] at h
 | k+1=>by
  have ih0:=spec_l71Ref.mono_l k;intros;unfold spec_l71Ref.j0;repeat' first|(with_reducible first|exact ih0 _ _ _ _|exact spec_l6Rd_of.mono _ _ _ _|exact spec_l6Rd_pick.mono _ _ _ _|exact spec_l71Addr.mono _ _ _|exact LeO.refl _|exact LeO.none _|refine LeO.ite ?_ ?_|refine LeO.bind ?_ (fun _=>?_))|exact LeO.none _|refine LeO.ite ?_ ?_|refine LeO.bind ?_ (fun _=>?_)
theorem spec_l71Ref.mono:∀ a0 a1 k,LeO (spec_l71Ref.f k a0 a1) (spec_l71Ref.f (k+1) a0 a1):=by
 intro a0 a1 k;have ih0:=spec_l71Ref.mono_l k;unfold spec_l71Ref.f
 repeat' first|(with_reducible first|exact ih0 _ _ _ _|exact spec_l6Rd_of.mono _ _ _ _|exact spec_l6Rd_pick.mono _ _ _ _|exact spec_l71Addr.mono _ _ _|exact LeO.refl _|exact LeO.none _|refine LeO.ite ?_ ?_|refine LeO.bind ?_ (fun _=>?_))|exact LeO.none _|refine LeO.ite ?_ ?_|refine LeO.bind ?_ (fun _=>?_)
theorem spec_l71Ref.calls (k:Nat) (g:Nat) (s0_0:List Int) (s0_1:Int) (r1:ByteArray) (r2:Int) (w0 w:World) (hI:IsS68 w0 w g s0_0 s0_1) (hB:Below w0.heap.size w0 w) (h:spec_l71Ref.f k s0_0 s0_1=some (r1,r2)) :
  Calls Tryz.prog 95 #[.pointer (some ⟨g,0,none⟩)] w fun e w'=>e=.returned (.string r1)∧IsS68 w0 w' g s0_0 r2∧Below w0.heap.size w0 w'∧KeepBut w w' g none:=by
 have HI0:=A_ hI;have HK:=A_ (KeepBut.refl w g none);have HL:=A_ hB.size;clear hI;have HW0:=A_ hB.size;have HB:=A_ hB;clear hB;unfold spec_l71Ref.f at h
 have H:=h;clear h;replace H:=bindA H;obtain ⟨⟨t282,t283⟩,A2,H⟩:=H;try dsimp only at H
 have HC3:=A_ H;clear H;go_enter Tryz.func95,Tryz.ntmps95;go_upto_if 5 with (first|(refine gR 22 (some 4) Tryz.func22 (spec_l6Rd_pick.calls k g s0_0 s0_1 8 t282 t283 w0 _ ?side1 ?side2 A2.out) ?_;(case side1=>exact (zz18 HI0));(case side2=>exact (zz20 HB HI0));rintro w4 ⟨hi,hb,hk⟩;replace HK:=A_ (KeepBut.trans (zz19 HK) hk (.inl rfl));replace HB:=A_ (hb);replace HI0:=A_ (hi);(try clear hb hk hi)))
 (try simp only [Act.put,List.setIfInBounds_toArray,List.set_cons_zero,List.set_cons_succ])
 go_cut [5] (fun v5 wc=>∃ (kq:Nat) (x5_2:Bool),v5=.bool x5_2∧Aside0 (spec_l71Ref.j0 kq t282 x5_2 s0_0 t283=some (r1,r2))∧Aside0 (kq≤k)∧Aside0 (IsS68 w0 wc g s0_0 t283)∧Aside0 (KeepBut w wc g none)∧Aside0 (Below w0.heap.size w0 wc))
 case first=>
  obtain ⟨H⟩:=HC3;replace H:=iteEq H;rcases H with ⟨c5b0,c5b1,H⟩|⟨c5b0,c5b1,c5,H⟩
  ·(first|rw [c5b0]|(simp only [i64_w,i32_w];rw [c5b0])|skip)
   have H':=A_ H;clear H;go_wp2
   go_meet
   case rel=>exact ⟨_,((t282 == 0)),zz0,H',⟨zz17⟩,⟨(zz18 HI0)⟩,⟨(zz19 HK)⟩,⟨(zz20 HB HI0)⟩⟩
  ·(first|rw [c5b0]|(simp only [i64_w,i32_w];rw [c5b0])|skip)
   have H':=A_ H;clear H;go_wp2
   go_meet
   case rel=>exact ⟨_,((t282 == 1)),zz0,H',⟨zz17⟩,⟨(zz18 HI0)⟩,⟨(zz19 HK)⟩,⟨(zz20 HB HI0)⟩⟩
 case rest=>
  clear HC3;obtain ⟨kq,x5_2,rfl,HA,HJ2,HI0,HK,HB⟩:=hcut;cases kq with
  | zero=>exact absurd HA.out (by simp [spec_l71Ref.j0])
  | succ kj2=>
   obtain ⟨H⟩:=HA;simp only [spec_l71Ref.j0] at H
   replace H:=iteB H;rcases H with ⟨rfl,H⟩|⟨rfl,H⟩
   ·replace H:=bindA H
    obtain ⟨⟨t284,t285⟩,A7,H⟩:=H;try dsimp only at H
    simp only [Option.some.injEq,Prod.mk.injEq] at H
    obtain ⟨rfl,rfl⟩:=H;go_wp2_with (first|(refine gR 43 (some 9) Tryz.func43 (spec_l71Addr.calls kj2 g s0_0 t283 t284 t285 w0 _ ?side1 ?side2 A7.out) ?_;(case side1=>exact (zz18 HI0));(case side2=>exact (zz20 HB HI0));rintro w8 ⟨hi,hb,hk⟩;replace HK:=A_ (KeepBut.trans (zz19 HK) hk (.inl rfl));replace HB:=A_ (hb);replace HI0:=A_ (hi);(try clear hb hk hi)))
    go_ret
    exact ⟨zz12,(zz18 HI0),(zz20 HB HI0),(zz19 HK)⟩
   ·replace H:=iteE H
    rcases H with ⟨c9,H⟩|⟨c9,H⟩
    ·obtain ⟨c9b0,c9b1⟩:=eqT c9
     clear c9;obtain ⟨y286,Ny286⟩:=toY (([(⟨#[97]⟩:ByteArray),(⟨#[98]⟩:ByteArray),(⟨#[97,47,98]⟩:ByteArray),(⟨#[99,47,46,46,47,98]⟩:ByteArray),(⟨#[]⟩:ByteArray),(⟨#[120,47,46,47,99]⟩:ByteArray)]:List ByteArray));(first|with_reducible replace H:=bindZ Ny286 H|rw [← Ny286.out] at H|skip)
     replace H:=bindA H;obtain ⟨⟨t289,t290⟩,A10,H⟩:=H;try dsimp only at H
     replace H:=iteN H;obtain ⟨c11,H⟩:=H;have c11b0:=eq_true c11;have c11b1:=dT c11;try have c11b2:(9223372036854775807 < 1+t289.size)=False:=eq_false (Nat.not_lt.2 c11)
     simp only [Option.some.injEq,Prod.mk.injEq] at H
     obtain ⟨rfl,rfl⟩:=H;go_wp2_with (first|((with_reducible refine gD (N:=13) rfl ?_);refine Kd.R_lit Kd.string _ 9 ?hg (N:=13) ?hd (xs:=([(⟨#[97]⟩:ByteArray),(⟨#[98]⟩:ByteArray),(⟨#[97,47,98]⟩:ByteArray),(⟨#[99,47,46,46,47,98]⟩:ByteArray),(⟨#[]⟩:ByteArray),(⟨#[120,47,46,47,99]⟩:ByteArray)]:List ByteArray)) (inner:=[.string (⟨#[97]⟩:ByteArray),.string (⟨#[98]⟩:ByteArray),.string (⟨#[97,47,98]⟩:ByteArray),.string (⟨#[99,47,46,46,47,98]⟩:ByteArray),.string (⟨#[]⟩:ByteArray),.string (⟨#[120,47,46,47,99]⟩:ByteArray)]) (ok:=fun _=>True) (okp:=fun _=>True) ?hr ?hp (fun _ hk=>hk) trivial (Below.refl _ _) (Nat.le_refl _) (by simp) ?_;(case hd=>rfl);(case hg=>rfl);(case hr=>exact zz26);(case hp=>exact (Reps.one (show Kd.M Kd.string _ _ _ (⟨#[97]⟩:ByteArray) [.string (⟨#[97]⟩:ByteArray)] from rfl) (Reps.one (show Kd.M Kd.string _ _ _ (⟨#[98]⟩:ByteArray) [.string (⟨#[98]⟩:ByteArray)] from rfl) (Reps.one (show Kd.M Kd.string _ _ _ (⟨#[97,47,98]⟩:ByteArray) [.string (⟨#[97,47,98]⟩:ByteArray)] from rfl) (Reps.one (show Kd.M Kd.string _ _ _ (⟨#[99,47,46,46,47,98]⟩:ByteArray) [.string (⟨#[99,47,46,46,47,98]⟩:ByteArray)] from rfl) (Reps.one (show Kd.M Kd.string _ _ _ (⟨#[]⟩:ByteArray) [.string (⟨#[]⟩:ByteArray)] from rfl) (Reps.one (show Kd.M Kd.string _ _ _ (⟨#[120,47,46,47,99]⟩:ByteArray) [.string (⟨#[120,47,46,47,99]⟩:ByteArray)] from rfl) (Reps.none _ _))))))));intro v287 w12 ho13 hb hg_ hnew_;clear hg_ hnew_;(first|rw [← Ny286.out] at ho13|(simp only [Int.reduceToNat] at ho13;rw [← Ny286.out] at ho13));have HO288:=A_ (Kd.R_lower ho13 (keep_size (w:=w) (g:=g) (row:=none) (zz19 HK)));replace HK:=A_ (KeepBut.trans (zz19 HK) (KeepBut.of_below hb g none) (.inl rfl));replace HB:=A_ (bS (zz20 HB HI0) hb);replace HI0:=A_ (IsS68.below (zz18 HI0) hb);clear hb ho13;obtain ⟨Ao14,co14,eo14⟩:=Kd.R_slice HO288.out;subst eo14)|(refine gR 41 (some 14) Tryz.func41 (spec_l6Rd_of.calls kj2 g s0_0 t283 _ _ y286 t289 t290 w0 _ ?side1 ?side2 ?side3 ?side4 ?side5 A10.out) ?_;(case side1=>exact (zz18 HI0));(case side2=>exact (zz20 HB HI0));(case side3=>exact (zz33 HO288));(case side4=>exact (Kd.R_reads' HO288.out).2.1);(case side5=>exact far_slice (IsS68.own_ne HI0.out HO288.out (by decide)));rintro w15 ⟨hi,hb,hk⟩;replace HO288:=A_ (Kd.R_mono (Kd.R_keep (IsS68.apart (show IsS68 w0 _ g s0_0 t283 from (zz18 HI0)) (zz8 HO288) (by decide)) hk (fun _ h=>h.2)) (fun _ h=>h.1));replace HK:=A_ (KeepBut.trans (zz19 HK) hk (.inl rfl));replace HB:=A_ (hb);replace HI0:=A_ (hi);(try clear hb hk hi)))
     go_ret
     exact ⟨zz12,(zz18 HI0),(zz20 HB HI0),(zz19 HK)⟩
    ·obtain ⟨c9b0,c9b1⟩:=eqF c9
     replace H:=iteEq H;rcases H with ⟨c16b0,c16b1,H⟩|⟨c16b0,c16b1,c16,H⟩
     ·obtain ⟨y291,Ny291⟩:=toY (([(⟨#[46,46]⟩:ByteArray),(⟨#[46,46,47,99]⟩:ByteArray),(⟨#[46,46,47,46,46,47,46,46]⟩:ByteArray),(⟨#[46]⟩:ByteArray),(⟨#[46,47,97]⟩:ByteArray)]:List ByteArray))
      (first|with_reducible replace H:=bindZ Ny291 H|rw [← Ny291.out] at H|skip)
      replace H:=bindA H;obtain ⟨⟨t294,t295⟩,A17,H⟩:=H;try dsimp only at H
      simp only [Option.some.injEq,Prod.mk.injEq] at H
      obtain ⟨rfl,rfl⟩:=H;go_wp2_with (first|((with_reducible refine gD (N:=19) rfl ?_);refine Kd.R_lit Kd.string _ 9 ?hg (N:=19) ?hd (xs:=([(⟨#[46,46]⟩:ByteArray),(⟨#[46,46,47,99]⟩:ByteArray),(⟨#[46,46,47,46,46,47,46,46]⟩:ByteArray),(⟨#[46]⟩:ByteArray),(⟨#[46,47,97]⟩:ByteArray)]:List ByteArray)) (inner:=[.string (⟨#[46,46]⟩:ByteArray),.string (⟨#[46,46,47,99]⟩:ByteArray),.string (⟨#[46,46,47,46,46,47,46,46]⟩:ByteArray),.string (⟨#[46]⟩:ByteArray),.string (⟨#[46,47,97]⟩:ByteArray)]) (ok:=fun _=>True) (okp:=fun _=>True) ?hr ?hp (fun _ hk=>hk) trivial (Below.refl _ _) (Nat.le_refl _) (by simp) ?_;(case hd=>rfl);(case hg=>rfl);(case hr=>exact zz26);(case hp=>exact (Reps.one (show Kd.M Kd.string _ _ _ (⟨#[46,46]⟩:ByteArray) [.string (⟨#[46,46]⟩:ByteArray)] from rfl) (Reps.one (show Kd.M Kd.string _ _ _ (⟨#[46,46,47,99]⟩:ByteArray) [.string (⟨#[46,46,47,99]⟩:ByteArray)] from rfl) (Reps.one (show Kd.M Kd.string _ _ _ (⟨#[46,46,47,46,46,47,46,46]⟩:ByteArray) [.string (⟨#[46,46,47,46,46,47,46,46]⟩:ByteArray)] from rfl) (Reps.one (show Kd.M Kd.string _ _ _ (⟨#[46]⟩:ByteArray) [.string (⟨#[46]⟩:ByteArray)] from rfl) (Reps.one (show Kd.M Kd.string _ _ _ (⟨#[46,47,97]⟩:ByteArray) [.string (⟨#[46,47,97]⟩:ByteArray)] from rfl) (Reps.none _ _)))))));intro v292 w18 ho19 hb hg_ hnew_;clear hg_ hnew_;(first|rw [← Ny291.out] at ho19|(simp only [Int.reduceToNat] at ho19;rw [← Ny291.out] at ho19));have HO293:=A_ (Kd.R_lower ho19 (keep_size (w:=w) (g:=g) (row:=none) (zz19 HK)));replace HK:=A_ (KeepBut.trans (zz19 HK) (KeepBut.of_below hb g none) (.inl rfl));replace HB:=A_ (bS (zz20 HB HI0) hb);replace HI0:=A_ (IsS68.below (zz18 HI0) hb);clear hb ho19;obtain ⟨Ao20,co20,eo20⟩:=Kd.R_slice HO293.out;subst eo20)|(refine gR 41 (some 20) Tryz.func41 (spec_l6Rd_of.calls kj2 g s0_0 t283 _ _ y291 t294 t295 w0 _ ?side1 ?side2 ?side3 ?side4 ?side5 A17.out) ?_;(case side1=>exact (zz18 HI0));(case side2=>exact (zz20 HB HI0));(case side3=>exact (zz33 HO293));(case side4=>exact (Kd.R_reads' HO293.out).2.1);(case side5=>exact far_slice (IsS68.own_ne HI0.out HO293.out (by decide)));rintro w21 ⟨hi,hb,hk⟩;replace HO293:=A_ (Kd.R_mono (Kd.R_keep (IsS68.apart (show IsS68 w0 _ g s0_0 t283 from (zz18 HI0)) (zz8 HO293) (by decide)) hk (fun _ h=>h.2)) (fun _ h=>h.1));replace HK:=A_ (KeepBut.trans (zz19 HK) hk (.inl rfl));replace HB:=A_ (hb);replace HI0:=A_ (hi);(try clear hb hk hi)))
      go_ret
      exact ⟨zz12,(zz18 HI0),(zz20 HB HI0),(zz19 HK)⟩
     ·replace H:=iteEq H
      rcases H with ⟨c22b0,c22b1,H⟩|⟨c22b0,c22b1,c22,H⟩
      ·obtain ⟨y296,Ny296⟩:=toY (([(⟨#[63,97]⟩:ByteArray),(⟨#[63]⟩:ByteArray),(⟨#[35,116,111,112]⟩:ByteArray),(⟨#[]⟩:ByteArray),(⟨#[97,35,98]⟩:ByteArray),(⟨#[98,63,97]⟩:ByteArray)]:List ByteArray))
       (first|with_reducible replace H:=bindZ Ny296 H|rw [← Ny296.out] at H|skip)
       replace H:=bindA H;obtain ⟨⟨t299,t300⟩,A23,H⟩:=H;try dsimp only at H
       simp only [Option.some.injEq,Prod.mk.injEq] at H
       obtain ⟨rfl,rfl⟩:=H;go_wp2_with (first|((with_reducible refine gD (N:=24) rfl ?_);refine Kd.R_lit Kd.string _ 9 ?hg (N:=24) ?hd (xs:=([(⟨#[63,97]⟩:ByteArray),(⟨#[63]⟩:ByteArray),(⟨#[35,116,111,112]⟩:ByteArray),(⟨#[]⟩:ByteArray),(⟨#[97,35,98]⟩:ByteArray),(⟨#[98,63,97]⟩:ByteArray)]:List ByteArray)) (inner:=[.string (⟨#[63,97]⟩:ByteArray),.string (⟨#[63]⟩:ByteArray),.string (⟨#[35,116,111,112]⟩:ByteArray),.string (⟨#[]⟩:ByteArray),.string (⟨#[97,35,98]⟩:ByteArray),.string (⟨#[98,63,97]⟩:ByteArray)]) (ok:=fun _=>True) (okp:=fun _=>True) ?hr ?hp (fun _ hk=>hk) trivial (Below.refl _ _) (Nat.le_refl _) (by simp) ?_;(case hd=>rfl);(case hg=>rfl);(case hr=>exact zz26);(case hp=>exact (Reps.one (show Kd.M Kd.string _ _ _ (⟨#[63,97]⟩:ByteArray) [.string (⟨#[63,97]⟩:ByteArray)] from rfl) (Reps.one (show Kd.M Kd.string _ _ _ (⟨#[63]⟩:ByteArray) [.string (⟨#[63]⟩:ByteArray)] from rfl) (Reps.one (show Kd.M Kd.string _ _ _ (⟨#[35,116,111,112]⟩:ByteArray) [.string (⟨#[35,116,111,112]⟩:ByteArray)] from rfl) (Reps.one (show Kd.M Kd.string _ _ _ (⟨#[]⟩:ByteArray) [.string (⟨#[]⟩:ByteArray)] from rfl) (Reps.one (show Kd.M Kd.string _ _ _ (⟨#[97,35,98]⟩:ByteArray) [.string (⟨#[97,35,98]⟩:ByteArray)] from rfl) (Reps.one (show Kd.M Kd.string _ _ _ (⟨#[98,63,97]⟩:ByteArray) [.string (⟨#[98,63,97]⟩:ByteArray)] from rfl) (Reps.none _ _))))))));intro v297 w24 ho25 hb hg_ hnew_;clear hg_ hnew_;(first|rw [← Ny296.out] at ho25|(simp only [Int.reduceToNat] at ho25;rw [← Ny296.out] at ho25));have HO298:=A_ (Kd.R_lower ho25 (keep_size (w:=w) (g:=g) (row:=none) (zz19 HK)));replace HK:=A_ (KeepBut.trans (zz19 HK) (KeepBut.of_below hb g none) (.inl rfl));replace HB:=A_ (bS (zz20 HB HI0) hb);replace HI0:=A_ (IsS68.below (zz18 HI0) hb);clear hb ho25;obtain ⟨Ao26,co26,eo26⟩:=Kd.R_slice HO298.out;subst eo26)|(refine gR 41 (some 25) Tryz.func41 (spec_l6Rd_of.calls kj2 g s0_0 t283 _ _ y296 t299 t300 w0 _ ?side1 ?side2 ?side3 ?side4 ?side5 A23.out) ?_;(case side1=>exact (zz18 HI0));(case side2=>exact (zz20 HB HI0));(case side3=>exact (zz33 HO298));(case side4=>exact (Kd.R_reads' HO298.out).2.1);(case side5=>exact far_slice (IsS68.own_ne HI0.out HO298.out (by decide)));rintro w27 ⟨hi,hb,hk⟩;replace HO298:=A_ (Kd.R_mono (Kd.R_keep (IsS68.apart (show IsS68 w0 _ g s0_0 t283 from (zz18 HI0)) (zz8 HO298) (by decide)) hk (fun _ h=>h.2)) (fun _ h=>h.1));replace HK:=A_ (KeepBut.trans (zz19 HK) hk (.inl rfl));replace HB:=A_ (hb);replace HI0:=A_ (hi);(try clear hb hk hi)))
       go_ret
       exact ⟨zz12,(zz18 HI0),(zz20 HB HI0),(zz19 HK)⟩
      ·replace H:=iteEq H
       rcases H with ⟨c28b0,c28b1,H⟩|⟨c28b0,c28b1,c28,H⟩
       ·obtain ⟨y301,Ny301⟩:=toY (([(⟨#[47,47,65,66,47,97]⟩:ByteArray),(⟨#[47,47,99,100]⟩:ByteArray),(⟨#[47,47,99,100,63,120]⟩:ByteArray),(⟨#[47,47,97,98,47,37,54,49]⟩:ByteArray),(⟨#[47,47,116,111,111,108,111,110,103,47,97]⟩:ByteArray),(⟨#[47,47,97,49,47,98]⟩:ByteArray),(⟨#[47,47,47,97]⟩:ByteArray)]:List ByteArray))
        (first|with_reducible replace H:=bindZ Ny301 H|rw [← Ny301.out] at H|skip)
        replace H:=bindA H;obtain ⟨⟨t304,t305⟩,A29,H⟩:=H;try dsimp only at H
        simp only [Option.some.injEq,Prod.mk.injEq] at H
        obtain ⟨rfl,rfl⟩:=H;go_wp2_with (first|((with_reducible refine gD (N:=29) rfl ?_);refine Kd.R_lit Kd.string _ 9 ?hg (N:=29) ?hd (xs:=([(⟨#[47,47,65,66,47,97]⟩:ByteArray),(⟨#[47,47,99,100]⟩:ByteArray),(⟨#[47,47,99,100,63,120]⟩:ByteArray),(⟨#[47,47,97,98,47,37,54,49]⟩:ByteArray),(⟨#[47,47,116,111,111,108,111,110,103,47,97]⟩:ByteArray),(⟨#[47,47,97,49,47,98]⟩:ByteArray),(⟨#[47,47,47,97]⟩:ByteArray)]:List ByteArray)) (inner:=[.string (⟨#[47,47,65,66,47,97]⟩:ByteArray),.string (⟨#[47,47,99,100]⟩:ByteArray),.string (⟨#[47,47,99,100,63,120]⟩:ByteArray),.string (⟨#[47,47,97,98,47,37,54,49]⟩:ByteArray),.string (⟨#[47,47,116,111,111,108,111,110,103,47,97]⟩:ByteArray),.string (⟨#[47,47,97,49,47,98]⟩:ByteArray),.string (⟨#[47,47,47,97]⟩:ByteArray)]) (ok:=fun _=>True) (okp:=fun _=>True) ?hr ?hp (fun _ hk=>hk) trivial (Below.refl _ _) (Nat.le_refl _) (by simp) ?_;(case hd=>rfl);(case hg=>rfl);(case hr=>exact zz26);(case hp=>exact (Reps.one (show Kd.M Kd.string _ _ _ (⟨#[47,47,65,66,47,97]⟩:ByteArray) [.string (⟨#[47,47,65,66,47,97]⟩:ByteArray)] from rfl) (Reps.one (show Kd.M Kd.string _ _ _ (⟨#[47,47,99,100]⟩:ByteArray) [.string (⟨#[47,47,99,100]⟩:ByteArray)] from rfl) (Reps.one (show Kd.M Kd.string _ _ _ (⟨#[47,47,99,100,63,120]⟩:ByteArray) [.string (⟨#[47,47,99,100,63,120]⟩:ByteArray)] from rfl) (Reps.one (show Kd.M Kd.string _ _ _ (⟨#[47,47,97,98,47,37,54,49]⟩:ByteArray) [.string (⟨#[47,47,97,98,47,37,54,49]⟩:ByteArray)] from rfl) (Reps.one (show Kd.M Kd.string _ _ _ (⟨#[47,47,116,111,111,108,111,110,103,47,97]⟩:ByteArray) [.string (⟨#[47,47,116,111,111,108,111,110,103,47,97]⟩:ByteArray)] from rfl) (Reps.one (show Kd.M Kd.string _ _ _ (⟨#[47,47,97,49,47,98]⟩:ByteArray) [.string (⟨#[47,47,97,49,47,98]⟩:ByteArray)] from rfl) (Reps.one (show Kd.M Kd.string _ _ _ (⟨#[47,47,47,97]⟩:ByteArray) [.string (⟨#[47,47,47,97]⟩:ByteArray)] from rfl) (Reps.none _ _)))))))));intro v302 w30 ho31 hb hg_ hnew_;clear hg_ hnew_;(first|rw [← Ny301.out] at ho31|(simp only [Int.reduceToNat] at ho31;rw [← Ny301.out] at ho31));have HO303:=A_ (Kd.R_lower ho31 (keep_size (w:=w) (g:=g) (row:=none) (zz19 HK)));replace HK:=A_ (KeepBut.trans (zz19 HK) (KeepBut.of_below hb g none) (.inl rfl));replace HB:=A_ (bS (zz20 HB HI0) hb);replace HI0:=A_ (IsS68.below (zz18 HI0) hb);clear hb ho31;obtain ⟨Ao32,co32,eo32⟩:=Kd.R_slice HO303.out;subst eo32)|(refine gR 41 (some 30) Tryz.func41 (spec_l6Rd_of.calls kj2 g s0_0 t283 _ _ y301 t304 t305 w0 _ ?side1 ?side2 ?side3 ?side4 ?side5 A29.out) ?_;(case side1=>exact (zz18 HI0));(case side2=>exact (zz20 HB HI0));(case side3=>exact (zz33 HO303));(case side4=>exact (Kd.R_reads' HO303.out).2.1);(case side5=>exact far_slice (IsS68.own_ne HI0.out HO303.out (by decide)));rintro w33 ⟨hi,hb,hk⟩;replace HO303:=A_ (Kd.R_mono (Kd.R_keep (IsS68.apart (show IsS68 w0 _ g s0_0 t283 from (zz18 HI0)) (zz8 HO303) (by decide)) hk (fun _ h=>h.2)) (fun _ h=>h.1));replace HK:=A_ (KeepBut.trans (zz19 HK) hk (.inl rfl));replace HB:=A_ (hb);replace HI0:=A_ (hi);(try clear hb hk hi)))
        go_ret
        exact ⟨zz12,(zz18 HI0),(zz20 HB HI0),(zz19 HK)⟩
       ·obtain ⟨y306,Ny306⟩:=toY (([(⟨#[97]⟩:ByteArray),(⟨#[98]⟩:ByteArray),(⟨#[99]⟩:ByteArray),(⟨#[97,47,98]⟩:ByteArray)]:List ByteArray))
        (first|with_reducible replace H:=bindZ Ny306 H|rw [← Ny306.out] at H|skip)
        replace H:=bindA H;obtain ⟨⟨t309,t310⟩,A34,H⟩:=H;try dsimp only at H
        simp only [Option.some.injEq,Prod.mk.injEq] at H
        obtain ⟨rfl,rfl⟩:=H;go_wp2_with (first|((with_reducible refine gD (N:=32) rfl ?_);refine Kd.R_lit Kd.string _ 9 ?hg (N:=32) ?hd (xs:=([(⟨#[97]⟩:ByteArray),(⟨#[98]⟩:ByteArray),(⟨#[99]⟩:ByteArray),(⟨#[97,47,98]⟩:ByteArray)]:List ByteArray)) (inner:=[.string (⟨#[97]⟩:ByteArray),.string (⟨#[98]⟩:ByteArray),.string (⟨#[99]⟩:ByteArray),.string (⟨#[97,47,98]⟩:ByteArray)]) (ok:=fun _=>True) (okp:=fun _=>True) ?hr ?hp (fun _ hk=>hk) trivial (Below.refl _ _) (Nat.le_refl _) (by simp) ?_;(case hd=>rfl);(case hg=>rfl);(case hr=>exact zz26);(case hp=>exact (Reps.one (show Kd.M Kd.string _ _ _ (⟨#[97]⟩:ByteArray) [.string (⟨#[97]⟩:ByteArray)] from rfl) (Reps.one (show Kd.M Kd.string _ _ _ (⟨#[98]⟩:ByteArray) [.string (⟨#[98]⟩:ByteArray)] from rfl) (Reps.one (show Kd.M Kd.string _ _ _ (⟨#[99]⟩:ByteArray) [.string (⟨#[99]⟩:ByteArray)] from rfl) (Reps.one (show Kd.M Kd.string _ _ _ (⟨#[97,47,98]⟩:ByteArray) [.string (⟨#[97,47,98]⟩:ByteArray)] from rfl) (Reps.none _ _))))));intro v307 w35 ho36 hb hg_ hnew_;clear hg_ hnew_;(first|rw [← Ny306.out] at ho36|(simp only [Int.reduceToNat] at ho36;rw [← Ny306.out] at ho36));have HO308:=A_ (Kd.R_lower ho36 (keep_size (w:=w) (g:=g) (row:=none) (zz19 HK)));replace HK:=A_ (KeepBut.trans (zz19 HK) (KeepBut.of_below hb g none) (.inl rfl));replace HB:=A_ (bS (zz20 HB HI0) hb);replace HI0:=A_ (IsS68.below (zz18 HI0) hb);clear hb ho36;obtain ⟨Ao37,co37,eo37⟩:=Kd.R_slice HO308.out;subst eo37)|(refine gR 41 (some 33) Tryz.func41 (spec_l6Rd_of.calls kj2 g s0_0 t283 _ _ y306 t309 t310 w0 _ ?side1 ?side2 ?side3 ?side4 ?side5 A34.out) ?_;(case side1=>exact (zz18 HI0));(case side2=>exact (zz20 HB HI0));(case side3=>exact (zz33 HO308));(case side4=>exact (Kd.R_reads' HO308.out).2.1);(case side5=>exact far_slice (IsS68.own_ne HI0.out HO308.out (by decide)));rintro w38 ⟨hi,hb,hk⟩;replace HO308:=A_ (Kd.R_mono (Kd.R_keep (IsS68.apart (show IsS68 w0 _ g s0_0 t283 from (zz18 HI0)) (zz8 HO308) (by decide)) hk (fun _ h=>h.2)) (fun _ h=>h.1));replace HK:=A_ (KeepBut.trans (zz19 HK) hk (.inl rfl));replace HB:=A_ (hb);replace HI0:=A_ (hi);(try clear hb hk hi)))
        go_ret
        exact ⟨zz12,(zz18 HI0),(zz20 HB HI0),(zz19 HK)⟩
def spec_l71Page.l0:Nat→ByteArray→Int→List Int→Int→Option (ByteArray×Int)
 | 0,_,_,_,_=>none
 | k+1,x3,x4,x1000,x1001=>if x4 > 0 then ((spec_l6Rd_pick.f k x1000 x1001 9).bind fun bt313=>(if bt313.1=0 then (if x3.size+1≤9223372036854775807 then ((spec_l71Ref.f k x1000 bt313.2).bind fun bt315=>(if x3.size+1+bt315.1.size≤9223372036854775807 then (if x3.size+1+bt315.1.size+1≤9223372036854775807 then ((spec_l71Ref.f k x1000 bt315.2).bind fun bt317=>(if x3.size+1+bt315.1.size+1+bt317.1.size≤9223372036854775807 then (if x3.size+1+bt315.1.size+1+bt317.1.size+2≤9223372036854775807 then (spec_l71Page.l0 k (((((x3++(⟨#[40]⟩:ByteArray))++bt315.1)++(⟨#[60]⟩:ByteArray))++bt317.1)++(⟨#[62,41]⟩:ByteArray)) (wrap64 (x4 - 1)) x1000 bt317.2) else (none)) else (none))) else (none)) else (none))) else (none)) else (if bt313.1=1 then (if x3.size+2≤9223372036854775807 then ((spec_l71Ref.f k x1000 bt313.2).bind fun bt319=>(if x3.size+2+bt319.1.size≤9223372036854775807 then (if x3.size+2+bt319.1.size+1≤9223372036854775807 then (spec_l71Page.l0 k (((x3++(⟨#[60,33]⟩:ByteArray))++bt319.1)++(⟨#[62]⟩:ByteArray)) (wrap64 (x4 - 1)) x1000 bt319.2) else (none)) else (none))) else (none)) else (if bt313.1=2 then (if x3.size+2≤9223372036854775807 then ((spec_l71Ref.f k x1000 bt313.2).bind fun bt321=>(if x3.size+2+bt321.1.size≤9223372036854775807 then (if x3.size+2+bt321.1.size+1≤9223372036854775807 then (spec_l71Page.l0 k (((x3++(⟨#[60,64]⟩:ByteArray))++bt321.1)++(⟨#[62]⟩:ByteArray)) (wrap64 (x4 - 1)) x1000 bt321.2) else (none)) else (none))) else (none)) else (if bt313.1=3 then ((spec_l6Rd_of.f k x1000 bt313.2 (([(⟨#[116,101,120,116,32]⟩:ByteArray),(⟨#[60]⟩:ByteArray),(⟨#[62]⟩:ByteArray),(⟨#[40]⟩:ByteArray),(⟨#[41]⟩:ByteArray),(⟨#[60,97]⟩:ByteArray)]:List ByteArray))).bind fun bt326=>(if x3.size+bt326.1.size≤9223372036854775807 then (spec_l71Page.l0 k (x3++bt326.1) (wrap64 (x4 - 1)) x1000 bt326.2) else (none))) else (if x3.size+1≤9223372036854775807 then ((spec_l71Ref.f k x1000 bt313.2).bind fun bt328=>(if x3.size+1+bt328.1.size≤9223372036854775807 then (if x3.size+1+bt328.1.size+1≤9223372036854775807 then (spec_l71Page.l0 k (((x3++(⟨#[60]⟩:ByteArray))++bt328.1)++(⟨#[62]⟩:ByteArray)) (wrap64 (x4 - 1)) x1000 bt328.2) else (none)) else (none))) else (none))))))) else (some (x3,x1001))
def spec_l71Page.f (k:Nat) (s0_0:List Int) (s0_1:Int):Option (ByteArray×Int):=(spec_l6Rd_pick.f k s0_0 s0_1 5).bind fun bt311=>(spec_l71Page.l0 k (⟨#[]⟩:ByteArray) bt311.1 s0_0 bt311.2)
theorem spec_l71Page.mono_l:∀ k,(∀ y0 y1 y2 y3,LeO (spec_l71Page.l0 k y0 y1 y2 y3) (spec_l71Page.l0 (k+1) y0 y1 y2 y3))
 | 0=>by intros;intro r h;simp [spec_l71Page.l0] at h
 | k+1=>by
  have ih0:=spec_l71Page.mono_l k;intros;unfold spec_l71Page.l0;repeat' first|(with_reducible first|exact ih0 _ _ _ _|exact spec_l6Rd_of.mono _ _ _ _|exact spec_l6Rd_pick.mono _ _ _ _|exact spec_l71Ref.mono _ _ _|exact LeO.refl _|exact LeO.none _|refine LeO.ite ?_ ?_|refine LeO.bind ?_ (fun _=>?_))|exact LeO.none _|refine LeO.ite ?_ ?_|refine LeO.bind ?_ (fun _=>?_)
theorem spec_l71Page.calls (k:Nat) (g:Nat) (s0_0:List Int) (s0_1:Int) (r1:ByteArray) (r2:Int) (w0 w:World) (hI:IsS68 w0 w g s0_0 s0_1) (hB:Below w0.heap.size w0 w) (h:spec_l71Page.f k s0_0 s0_1=some (r1,r2)) :
  Calls Tryz.prog 68 #[.pointer (some ⟨g,0,none⟩)] w fun e w'=>e=.returned (.string r1)∧IsS68 w0 w' g s0_0 r2∧Below w0.heap.size w0 w'∧KeepBut w w' g none:=by
 have HI0:=A_ hI;have HK:=A_ (KeepBut.refl w g none);have HL:=A_ hB.size;clear hI;have HW0:=A_ hB.size;have HB:=A_ hB;clear hB;unfold spec_l71Page.f at h
 have H:=h;clear h;replace H:=bindA H;obtain ⟨⟨t311,t312⟩,A2,H⟩:=H;try dsimp only at H
 have H':=A_ H;clear H;go_enter Tryz.func68,Tryz.ntmps68;go_wp2_with (first|(refine gR 22 (some 6) Tryz.func22 (spec_l6Rd_pick.calls k g s0_0 s0_1 5 t311 t312 w0 _ ?side1 ?side2 A2.out) ?_;(case side1=>exact (zz18 HI0));(case side2=>exact (zz20 HB HI0));rintro w3 ⟨hi,hb,hk⟩;replace HK:=A_ (KeepBut.trans (zz19 HK) hk (.inl rfl));replace HB:=A_ (hb);replace HI0:=A_ (hi);(try clear hb hk hi)))
 go_loopg [3,4] k (fun kq v3 v4 w'=>∃ (x3_1:ByteArray) (x4_1:Int) (x1001_1:Int),v3=.string x3_1∧v4=.int .i64 x4_1∧Aside0 (spec_l71Page.l0 kq x3_1 x4_1 s0_0 x1001_1=some (r1,r2))∧Aside0 (kq≤k)∧Aside0 (IsS68 w0 w' g s0_0 x1001_1)∧Aside0 (KeepBut w w' g none)∧Aside0 (Below w0.heap.size w0 w'))
 case atStart=>exact ⟨((⟨#[]⟩:ByteArray)),(t311),(t312),zz0,zz0,H',⟨Nat.le_refl _⟩,⟨(zz18 HI0)⟩,⟨(zz19 HK)⟩,⟨(zz20 HB HI0)⟩⟩
 case round=>
  clear H';obtain ⟨x3_1,x4_1,x1001_1,rfl,rfl,HA,HK1,HI0,HK,HB⟩:=hrel;cases gk with
  | zero=>exact absurd HA.out (by simp [spec_l71Page.l0])
  | succ k1=>
   obtain ⟨H⟩:=HA;simp only [spec_l71Page.l0] at H
   replace H:=iteEg H;rcases H with ⟨c4b0,H⟩|⟨c4b0,H⟩
   ·replace H:=bindA H
    obtain ⟨⟨t313,t314⟩,A5,H⟩:=H;try dsimp only at H
    have HF6:=A_ H;clear H;go_upto_if 19 with (first|(refine gR 22 (some 12) Tryz.func22 (spec_l6Rd_pick.calls k1 g s0_0 x1001_1 9 t313 t314 w0 _ ?side1 ?side2 A5.out) ?_;(case side1=>exact (zz18 HI0));(case side2=>exact (zz20 HB HI0));rintro w7 ⟨hi,hb,hk⟩;replace HK:=A_ (KeepBut.trans (zz19 HK) hk (.inl rfl));replace HB:=A_ (hb);replace HI0:=A_ (hi);(try clear hb hk hi)))
    obtain ⟨H⟩:=HF6;replace H:=iteEq H;rcases H with ⟨c8b0,c8b1,H⟩|⟨c8b0,c8b1,c8,H⟩
    ·(first|rw [c8b0]|(simp only [i64_w,i32_w];rw [c8b0])|skip)
     replace H:=iteN H;obtain ⟨c9,H⟩:=H;have c9b0:=eq_true c9;have c9b1:=dT c9;try have c9b2:(9223372036854775807 < x3_1.size+1)=False:=eq_false (Nat.not_lt.2 c9)
     replace H:=bindA H;obtain ⟨⟨t315,t316⟩,A10,H⟩:=H;try dsimp only at H
     replace H:=iteN H;obtain ⟨c11,H⟩:=H;have c11b0:=eq_true c11;have c11b1:=dT c11;try have c11b2:(9223372036854775807 < x3_1.size+1+t315.size)=False:=eq_false (Nat.not_lt.2 c11)
     replace H:=iteN H;obtain ⟨c12,H⟩:=H;have c12b0:=eq_true c12;have c12b1:=dT c12;try have c12b2:(9223372036854775807 < x3_1.size+1+t315.size+1)=False:=eq_false (Nat.not_lt.2 c12)
     replace H:=bindA H;obtain ⟨⟨t317,t318⟩,A13,H⟩:=H;try dsimp only at H
     replace H:=iteN H;obtain ⟨c14,H⟩:=H;have c14b0:=eq_true c14;have c14b1:=dT c14;try have c14b2:(9223372036854775807 < x3_1.size+1+t315.size+1+t317.size)=False:=eq_false (Nat.not_lt.2 c14)
     replace H:=iteN H;obtain ⟨c15,H⟩:=H;have c15b0:=eq_true c15;have c15b1:=dT c15;try have c15b2:(9223372036854775807 < x3_1.size+1+t315.size+1+t317.size+2)=False:=eq_false (Nat.not_lt.2 c15)
     have H':=A_ H;clear H;go_wp2_with (first|(refine gR 95 (some 24) Tryz.func95 (spec_l71Ref.calls k1 g s0_0 t314 t315 t316 w0 _ ?side1 ?side2 A10.out) ?_;(case side1=>exact (zz18 HI0));(case side2=>exact (zz20 HB HI0));rintro w16 ⟨hi,hb,hk⟩;replace HK:=A_ (KeepBut.trans (zz19 HK) hk (.inl rfl));replace HB:=A_ (hb);replace HI0:=A_ (hi);(try clear hb hk hi))|(refine gR 95 (some 28) Tryz.func95 (spec_l71Ref.calls k1 g s0_0 t316 t317 t318 w0 _ ?side1 ?side2 A13.out) ?_;(case side1=>exact (zz18 HI0));(case side2=>exact (zz20 HB HI0));rintro w17 ⟨hi,hb,hk⟩;replace HK:=A_ (KeepBut.trans (zz19 HK) hk (.inl rfl));replace HB:=A_ (hb);replace HI0:=A_ (hi);(try clear hb hk hi)))
     go_roundg k1
     case measure=>have:=HK1.out;omega
     case rel=>exact ⟨(((((x3_1++(⟨#[40]⟩:ByteArray))++t315)++(⟨#[60]⟩:ByteArray))++t317)++(⟨#[62,41]⟩:ByteArray)),(wrap64 (x4_1 - 1)),(t318),zz0,zz0,H',⟨(zz3 HK1)⟩,⟨(zz18 HI0)⟩,⟨(zz19 HK)⟩,⟨(zz20 HB HI0)⟩⟩
    ·(first|rw [c8b0]|(simp only [i64_w,i32_w];rw [c8b0])|skip)
     replace H:=iteEq H;rcases H with ⟨c18b0,c18b1,H⟩|⟨c18b0,c18b1,c18,H⟩
     ·replace H:=iteN H
      obtain ⟨c19,H⟩:=H;have c19b0:=eq_true c19;have c19b1:=dT c19;try have c19b2:(9223372036854775807 < x3_1.size+2)=False:=eq_false (Nat.not_lt.2 c19)
      replace H:=bindA H;obtain ⟨⟨t319,t320⟩,A20,H⟩:=H;try dsimp only at H
      replace H:=iteN H;obtain ⟨c21,H⟩:=H;have c21b0:=eq_true c21;have c21b1:=dT c21;try have c21b2:(9223372036854775807 < x3_1.size+2+t319.size)=False:=eq_false (Nat.not_lt.2 c21)
      replace H:=iteN H;obtain ⟨c22,H⟩:=H;have c22b0:=eq_true c22;have c22b1:=dT c22;try have c22b2:(9223372036854775807 < x3_1.size+2+t319.size+1)=False:=eq_false (Nat.not_lt.2 c22)
      have H':=A_ H;clear H;go_wp2_with (first|(refine gR 95 (some 36) Tryz.func95 (spec_l71Ref.calls k1 g s0_0 t314 t319 t320 w0 _ ?side1 ?side2 A20.out) ?_;(case side1=>exact (zz18 HI0));(case side2=>exact (zz20 HB HI0));rintro w23 ⟨hi,hb,hk⟩;replace HK:=A_ (KeepBut.trans (zz19 HK) hk (.inl rfl));replace HB:=A_ (hb);replace HI0:=A_ (hi);(try clear hb hk hi)))
      go_roundg k1
      case measure=>have:=HK1.out;omega
      case rel=>exact ⟨(((x3_1++(⟨#[60,33]⟩:ByteArray))++t319)++(⟨#[62]⟩:ByteArray)),(wrap64 (x4_1 - 1)),(t320),zz0,zz0,H',⟨(zz3 HK1)⟩,⟨(zz18 HI0)⟩,⟨(zz19 HK)⟩,⟨(zz20 HB HI0)⟩⟩
     ·replace H:=iteEq H
      rcases H with ⟨c24b0,c24b1,H⟩|⟨c24b0,c24b1,c24,H⟩
      ·replace H:=iteN H
       obtain ⟨c25,H⟩:=H;have c25b0:=eq_true c25;have c25b1:=dT c25;try have c25b2:(9223372036854775807 < x3_1.size+2)=False:=eq_false (Nat.not_lt.2 c25)
       replace H:=bindA H;obtain ⟨⟨t321,t322⟩,A26,H⟩:=H;try dsimp only at H
       replace H:=iteN H;obtain ⟨c27,H⟩:=H;have c27b0:=eq_true c27;have c27b1:=dT c27;try have c27b2:(9223372036854775807 < x3_1.size+2+t321.size)=False:=eq_false (Nat.not_lt.2 c27)
       replace H:=iteN H;obtain ⟨c28,H⟩:=H;have c28b0:=eq_true c28;have c28b1:=dT c28;try have c28b2:(9223372036854775807 < x3_1.size+2+t321.size+1)=False:=eq_false (Nat.not_lt.2 c28)
       have H':=A_ H;clear H;go_wp2_with (first|(refine gR 95 (some 44) Tryz.func95 (spec_l71Ref.calls k1 g s0_0 t314 t321 t322 w0 _ ?side1 ?side2 A26.out) ?_;(case side1=>exact (zz18 HI0));(case side2=>exact (zz20 HB HI0));rintro w29 ⟨hi,hb,hk⟩;replace HK:=A_ (KeepBut.trans (zz19 HK) hk (.inl rfl));replace HB:=A_ (hb);replace HI0:=A_ (hi);(try clear hb hk hi)))
       go_roundg k1
       case measure=>have:=HK1.out;omega
       case rel=>exact ⟨(((x3_1++(⟨#[60,64]⟩:ByteArray))++t321)++(⟨#[62]⟩:ByteArray)),(wrap64 (x4_1 - 1)),(t322),zz0,zz0,H',⟨(zz3 HK1)⟩,⟨(zz18 HI0)⟩,⟨(zz19 HK)⟩,⟨(zz20 HB HI0)⟩⟩
      ·replace H:=iteEq H
       rcases H with ⟨c30b0,c30b1,H⟩|⟨c30b0,c30b1,c30,H⟩
       ·obtain ⟨y323,Ny323⟩:=toY (([(⟨#[116,101,120,116,32]⟩:ByteArray),(⟨#[60]⟩:ByteArray),(⟨#[62]⟩:ByteArray),(⟨#[40]⟩:ByteArray),(⟨#[41]⟩:ByteArray),(⟨#[60,97]⟩:ByteArray)]:List ByteArray))
        (first|with_reducible replace H:=bindZ Ny323 H|rw [← Ny323.out] at H|skip)
        replace H:=bindA H;obtain ⟨⟨t326,t327⟩,A31,H⟩:=H;try dsimp only at H
        replace H:=iteN H;obtain ⟨c32,H⟩:=H;have c32b0:=eq_true c32;have c32b1:=dT c32;try have c32b2:(9223372036854775807 < x3_1.size+t326.size)=False:=eq_false (Nat.not_lt.2 c32)
        have H':=A_ H;clear H;go_wp2_with (first|((with_reducible refine gD (N:=51) rfl ?_);refine Kd.R_lit Kd.string _ 9 ?hg (N:=51) ?hd (xs:=([(⟨#[116,101,120,116,32]⟩:ByteArray),(⟨#[60]⟩:ByteArray),(⟨#[62]⟩:ByteArray),(⟨#[40]⟩:ByteArray),(⟨#[41]⟩:ByteArray),(⟨#[60,97]⟩:ByteArray)]:List ByteArray)) (inner:=[.string (⟨#[116,101,120,116,32]⟩:ByteArray),.string (⟨#[60]⟩:ByteArray),.string (⟨#[62]⟩:ByteArray),.string (⟨#[40]⟩:ByteArray),.string (⟨#[41]⟩:ByteArray),.string (⟨#[60,97]⟩:ByteArray)]) (ok:=fun _=>True) (okp:=fun _=>True) ?hr ?hp (fun _ hk=>hk) trivial (Below.refl _ _) (Nat.le_refl _) (by simp) ?_;(case hd=>rfl);(case hg=>rfl);(case hr=>exact zz26);(case hp=>exact (Reps.one (show Kd.M Kd.string _ _ _ (⟨#[116,101,120,116,32]⟩:ByteArray) [.string (⟨#[116,101,120,116,32]⟩:ByteArray)] from rfl) (Reps.one (show Kd.M Kd.string _ _ _ (⟨#[60]⟩:ByteArray) [.string (⟨#[60]⟩:ByteArray)] from rfl) (Reps.one (show Kd.M Kd.string _ _ _ (⟨#[62]⟩:ByteArray) [.string (⟨#[62]⟩:ByteArray)] from rfl) (Reps.one (show Kd.M Kd.string _ _ _ (⟨#[40]⟩:ByteArray) [.string (⟨#[40]⟩:ByteArray)] from rfl) (Reps.one (show Kd.M Kd.string _ _ _ (⟨#[41]⟩:ByteArray) [.string (⟨#[41]⟩:ByteArray)] from rfl) (Reps.one (show Kd.M Kd.string _ _ _ (⟨#[60,97]⟩:ByteArray) [.string (⟨#[60,97]⟩:ByteArray)] from rfl) (Reps.none _ _))))))));intro v324 w33 ho34 hb hg_ hnew_;clear hg_ hnew_;(first|rw [← Ny323.out] at ho34|(simp only [Int.reduceToNat] at ho34;rw [← Ny323.out] at ho34));have HO325:=A_ (Kd.R_lower ho34 (keep_size (w:=w) (g:=g) (row:=none) (zz19 HK)));replace HK:=A_ (KeepBut.trans (zz19 HK) (KeepBut.of_below hb g none) (.inl rfl));replace HB:=A_ (bS (zz20 HB HI0) hb);replace HI0:=A_ (IsS68.below (zz18 HI0) hb);clear hb ho34;obtain ⟨Ao35,co35,eo35⟩:=Kd.R_slice HO325.out;subst eo35)|(refine gR 41 (some 52) Tryz.func41 (spec_l6Rd_of.calls k1 g s0_0 t314 _ _ y323 t326 t327 w0 _ ?side1 ?side2 ?side3 ?side4 ?side5 A31.out) ?_;(case side1=>exact (zz18 HI0));(case side2=>exact (zz20 HB HI0));(case side3=>exact (zz33 HO325));(case side4=>exact (Kd.R_reads' HO325.out).2.1);(case side5=>exact far_slice (IsS68.own_ne HI0.out HO325.out (by decide)));rintro w36 ⟨hi,hb,hk⟩;replace HO325:=A_ (Kd.R_mono (Kd.R_keep (IsS68.apart (show IsS68 w0 _ g s0_0 t314 from (zz18 HI0)) (zz8 HO325) (by decide)) hk (fun _ h=>h.2)) (fun _ h=>h.1));replace HK:=A_ (KeepBut.trans (zz19 HK) hk (.inl rfl));replace HB:=A_ (hb);replace HI0:=A_ (hi);(try clear hb hk hi)))
        go_roundg k1
        case measure=>have:=HK1.out;omega
        case rel=>exact ⟨(x3_1++t326),(wrap64 (x4_1 - 1)),(t327),zz0,zz0,H',⟨(zz3 HK1)⟩,⟨(zz18 HI0)⟩,⟨(zz19 HK)⟩,⟨(zz20 HB HI0)⟩⟩
       ·replace H:=iteN H
        obtain ⟨c37,H⟩:=H;have c37b0:=eq_true c37;have c37b1:=dT c37;try have c37b2:(9223372036854775807 < x3_1.size+1)=False:=eq_false (Nat.not_lt.2 c37)
        replace H:=bindA H;obtain ⟨⟨t328,t329⟩,A38,H⟩:=H;try dsimp only at H
        replace H:=iteN H;obtain ⟨c39,H⟩:=H;have c39b0:=eq_true c39;have c39b1:=dT c39;try have c39b2:(9223372036854775807 < x3_1.size+1+t328.size)=False:=eq_false (Nat.not_lt.2 c39)
        replace H:=iteN H;obtain ⟨c40,H⟩:=H;have c40b0:=eq_true c40;have c40b1:=dT c40;try have c40b2:(9223372036854775807 < x3_1.size+1+t328.size+1)=False:=eq_false (Nat.not_lt.2 c40)
        have H':=A_ H;clear H;go_wp2_with (first|(refine gR 95 (some 16) Tryz.func95 (spec_l71Ref.calls k1 g s0_0 t314 t328 t329 w0 _ ?side1 ?side2 A38.out) ?_;(case side1=>exact (zz18 HI0));(case side2=>exact (zz20 HB HI0));rintro w41 ⟨hi,hb,hk⟩;replace HK:=A_ (KeepBut.trans (zz19 HK) hk (.inl rfl));replace HB:=A_ (hb);replace HI0:=A_ (hi);(try clear hb hk hi)))
        go_roundg k1
        case measure=>have:=HK1.out;omega
        case rel=>exact ⟨(((x3_1++(⟨#[60]⟩:ByteArray))++t328)++(⟨#[62]⟩:ByteArray)),(wrap64 (x4_1 - 1)),(t329),zz0,zz0,H',⟨(zz3 HK1)⟩,⟨(zz18 HI0)⟩,⟨(zz19 HK)⟩,⟨(zz20 HB HI0)⟩⟩
   ·simp only [Option.some.injEq,Prod.mk.injEq] at H
    obtain ⟨rfl,rfl⟩:=H;go_wp2
    go_ret
    exact ⟨zz12,(zz18 HI0),(zz20 HB HI0),(zz19 HK)⟩
end Go.Proofs.YtpomhjkbgbociaaGreatDoor.P
end
