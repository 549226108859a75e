/- Part 3 of the proof of FnWorldFrom: the plain functions of what it reaches, that Go comes to just their answers, what they answer, and the words that the walks use; conditions: each theorem's own. -/
import Derived.Test.YtpomhjkbgbociaaGreatDoorZFnWorldFromb
import Derived.Test.YtpomhjkbgbociaaGreatDoorZFnWorldFroma
import Derived.OneCell

section
namespace Go.Proofs.YtpomhjkbgbociaaGreatDoor.P
open Go.RowKit Go.Proofs.YtpomhjkbgbociaaGreatDoorW.PrintWords Go.Proofs.YtpomhjkbgbociaaGreatDoorW.PrintLast Go.Proofs.YtpomhjkbgbociaaGreatDoorW.PrintMore
attribute [local go_sem] max2_int min2_int max_two min_two max_three min_three max_four min_four
set_option linter.unusedVariables false
set_option linter.unusedSimpArgs false
set_option maxHeartbeats 8000000
set_option maxRecDepth 100000
mutual
def spec_EscNorm.l0:Nat→ByteArray→ByteArray→Int→Option (ByteArray×Bool)
 | 0,_,_,_=>none
 | k+1,x0,x4,x5=>if x5 < (x0.size:Int) then (if 0≤x5 then (if (bt x0 x5)=37 then (if (wrap64 (x5+2)) ≥ (x0.size:Int) then (spec_EscNorm.j1 k x0 x4 x5 true) else (if 0≤(wrap64 (x5+1)) then (if (wrap64 (x5+1)) < (x0.size:Int) then ((spec_l1Hex.f k (bt x0 (wrap64 (x5+1)))).bind fun t116=>(if t116 < 0 then (spec_EscNorm.j1 k x0 x4 x5 true) else (if 0≤(wrap64 (x5+2)) then (if (wrap64 (x5+2)) < (x0.size:Int) then ((spec_l1Hex.f k (bt x0 (wrap64 (x5+2)))).bind fun t117=>(spec_EscNorm.j1 k x0 x4 x5 (decide (t117 < 0)))) else (none)) else (none)))) else (none)) else (none))) else (spec_EscNorm.j2 k x0 x4 x5 (wrap64 (bt x0 x5)))) else (none)) else (some (x4,true))
def spec_EscNorm.j2:Nat→ByteArray→ByteArray→Int→Int→Option (ByteArray×Bool)
 | 0,_,_,_,_=>none
 | k+1,x0,x4,x5,x6=>(spec_l1Plain.f ((x6) % 256)).bind fun t120=>(if t120=true then ((some (([(x6) % 256]:List Int):List Int)).bind fun y121=>(if x4.size+(strOfNums y121).size≤9223372036854775807 then (spec_EscNorm.l0 k x0 (x4++(strOfNums y121)) (wrap64 (x5+1))) else (none))) else ((spec_l1Sign.f x6).bind fun t124=>(if x4.size+t124.size≤9223372036854775807 then (spec_EscNorm.l0 k x0 (x4++t124) (wrap64 (x5+1))) else (none))))
def spec_EscNorm.j1:Nat→ByteArray→ByteArray→Int→Bool→Option (ByteArray×Bool)
 | 0,_,_,_,_=>none
 | k+1,x0,x4,x5,x44=>if x44=true then (some ((⟨#[]⟩:ByteArray),false)) else (if 0≤(wrap64 (x5+1)) then (if (wrap64 (x5+1)) < (x0.size:Int) then ((spec_l1Hex.f k (bt x0 (wrap64 (x5+1)))).bind fun t118=>(if 0≤(wrap64 (x5+2)) then (if (wrap64 (x5+2)) < (x0.size:Int) then ((spec_l1Hex.f k (bt x0 (wrap64 (x5+2)))).bind fun t119=>(spec_EscNorm.j2 k x0 x4 (wrap64 (x5+2)) (wrap64 ((wrap64 (t118 * 16))+t119)))) else (none)) else (none))) else (none)) else (none))
end
def spec_EscNorm.f (k:Nat) (a0:ByteArray):Option (ByteArray×Bool):=if (a0.size:Int) > 60 then (some ((⟨#[]⟩:ByteArray),false)) else (spec_EscNorm.l0 k a0 (⟨#[]⟩:ByteArray) 0)
theorem spec_EscNorm.mono_l:∀ k,(∀ y0 y1 y2,LeO (spec_EscNorm.l0 k y0 y1 y2) (spec_EscNorm.l0 (k+1) y0 y1 y2))∧(∀ y0 y1 y2 y3,LeO (spec_EscNorm.j2 k y0 y1 y2 y3) (spec_EscNorm.j2 (k+1) y0 y1 y2 y3))∧(∀ y0 y1 y2 y3,LeO (spec_EscNorm.j1 k y0 y1 y2 y3) (spec_EscNorm.j1 (k+1) y0 y1 y2 y3))
 | 0=>by refine ⟨?_,?_,?_⟩ <;> (intros;intro r h;simp [spec_EscNorm.l0,spec_EscNorm.j2,spec_EscNorm.j1] at h)
 | k+1=>by
  obtain ⟨ih0,ih1,ih2⟩:=spec_EscNorm.mono_l k;refine ⟨?_,?_,?_⟩ <;> intros <;> (first|unfold spec_EscNorm.l0|unfold spec_EscNorm.j2|unfold spec_EscNorm.j1) <;>
  repeat' first|(with_reducible first|exact ih0 _ _ _|exact ih1 _ _ _ _|exact ih2 _ _ _ _|exact spec_l1Hex.mono _ _|exact LeO.refl _|exact LeO.none _|refine LeO.ite ?_ ?_|refine LeO.bind ?_ (fun _=>?_))|exact LeO.none _|refine LeO.ite ?_ ?_|refine LeO.bind ?_ (fun _=>?_)
theorem spec_EscNorm.mono:∀ a0 k,LeO (spec_EscNorm.f k a0) (spec_EscNorm.f (k+1) a0):=by
 intro a0 k;obtain ⟨ih0,ih1,ih2⟩:=spec_EscNorm.mono_l k;unfold spec_EscNorm.f
 repeat' first|(with_reducible first|exact ih0 _ _ _|exact ih1 _ _ _ _|exact ih2 _ _ _ _|exact spec_l1Hex.mono _ _|exact LeO.refl _|exact LeO.none _|refine LeO.ite ?_ ?_|refine LeO.bind ?_ (fun _=>?_))|exact LeO.none _|refine LeO.ite ?_ ?_|refine LeO.bind ?_ (fun _=>?_)
theorem spec_EscNorm.calls (k:Nat) (a0:ByteArray) (r1:ByteArray) (r2:Bool) (w:World) (h:spec_EscNorm.f k a0=some (r1,r2)) :
  Calls Tryz.prog 120 #[.string a0] w fun e w'=>e=.returned (.tuple #[.string r1,.bool r2])∧Below w.heap.size w w':=by
 have HB:=A_ (Below.refl w.heap.size w);unfold spec_EscNorm.f at h
 have H:=h;clear h;replace H:=iteE H;rcases H with ⟨c2,H⟩|⟨c2,H⟩
 ·have c2b0:=gtT c2
  have c2b1:decide (60 < a0.size)=true:=dT (by omega);clear c2;simp only [Option.some.injEq,Prod.mk.injEq] at H
  obtain ⟨rfl,rfl⟩:=H;go_enter Tryz.func120,Tryz.ntmps120;go_wp2
  repeat (go_quiet (fail);try go_wp2)
  go_ret2
  exact ⟨zz6,(zz0 HB)⟩
 ·have c2b0:=gtF c2
  have c2b1:decide (60 < a0.size)=false:=dF (by omega);clear c2;have H':=A_ H;clear H;go_enter Tryz.func120,Tryz.ntmps120;go_wp2
  repeat (go_quiet (fail);try go_wp2)
  go_loopg [4,5] k (fun kq v4 v5 w'=>∃ (x4_1:ByteArray) (x5_1:Int),v4=.string x4_1∧v5=.int .i64 x5_1∧Aside0 (spec_EscNorm.l0 kq a0 x4_1 x5_1=some (r1,r2))∧Aside0 (kq≤k)∧Aside0 (Below w.heap.size w w'))
  case atStart=>exact ⟨((⟨#[]⟩:ByteArray)),(0),zz1,zz1,H',⟨Nat.le_refl _⟩,⟨(zz0 HB)⟩⟩
  case round=>
   clear H';obtain ⟨x4_1,x5_1,rfl,rfl,HA,HK1,HB⟩:=hrel;cases gk with
   | zero=>exact absurd HA.out (by simp [spec_EscNorm.l0])
   | succ k1=>
    obtain ⟨H⟩:=HA;simp only [spec_EscNorm.l0] at H
    replace H:=iteEd H;rcases H with ⟨c3b0,H⟩|⟨c3b0,H⟩
    ·replace H:=iteNd H
     obtain ⟨c4b0,H⟩:=H;have HC7:=A_ H;clear H;have p5:0≤(x5_1:Int):=ofD;have q5:x5_1 < (a0.size:Int):=ofD;have hx5:=bt_at a0 x5_1;replace p5:=eq_true p5;replace q5:=eq_true q5;have p6:0≤(x5_1:Int):=ofD;have q6:x5_1 < (a0.size:Int):=ofD;have hx6:=bt_at a0 x5_1;replace p6:=eq_true p6;replace q6:=eq_true q6;go_upto_if 23 with (fail)
     repeat (go_quiet (fail);go_upto_if 23 with (fail))
     go_cut [5,6] (fun v5 v6 wc=>∃ (kq:Nat) (x5_6:Int) (x6_6:Int),v5=.int .i64 x5_6∧v6=.int .i64 x6_6∧Aside0 (spec_EscNorm.j2 kq a0 x4_1 x5_6 x6_6=some (r1,r2))∧Aside0 (kq≤k1)∧Aside0 (Below w.heap.size w wc))
     case first=>
      obtain ⟨H⟩:=HC7;replace H:=iteEq H;rcases H with ⟨c8b0,c8b1,H⟩|⟨c8b0,c8b1,c8,H⟩
      ·(first|rw [c8b0]|(simp only [i64_w,i32_w];rw [c8b0])|skip)
       have HC9:=A_ H;clear H;go_upto_region 9 with (fail)
       repeat (go_quiet (fail);go_upto_region 9 with (fail))
       go_cut [44] (fun v44 wc=>∃ (kq:Nat) (x44_8:Bool),v44=.bool x44_8∧Aside0 (spec_EscNorm.j1 kq a0 x4_1 x5_1 x44_8=some (r1,r2))∧Aside0 (kq≤k1)∧Aside0 (Below w.heap.size w wc))
       case first=>
        obtain ⟨H⟩:=HC9;replace H:=iteEe H;rcases H with ⟨c10b0,H⟩|⟨c10b0,H⟩
        ·(first|rw [c10b0]|(simp only [i64_w,i32_w];rw [c10b0])|skip)
         have H':=A_ H;clear H;go_wp2
         repeat (go_quiet (fail);try go_wp2)
         go_meet
         case rel=>exact ⟨_,(true),zz1,H',⟨(zz10 HK1)⟩,⟨(zz0 HB)⟩⟩
        ·(first|rw [c10b0]|(simp only [i64_w,i32_w];rw [c10b0])|skip)
         obtain ⟨ji11,hji11⟩:∃ j_:Int,(wrap64 (x5_1+1))=j_:=⟨_,rfl⟩;(first|rw [hji11] at H|simp only [hji11] at H)
         have hji11w:(IntKind.i64.wrap (x5_1+1))=ji11:=(i64_w _).trans hji11;replace H:=iteNd H;obtain ⟨c12b0,H⟩:=H;replace H:=iteNd H;obtain ⟨c13b0,H⟩:=H;replace H:=bindA H;obtain ⟨t116,A15,H⟩:=H;have HF16:=A_ H;clear H;have p14:0≤((ji11):Int):=ofD;have q14:(ji11) < (a0.size:Int):=ofD;have hx14:=bt_at a0 (ji11);replace p14:=eq_true p14;replace q14:=eq_true q14;go_wp2_with (first|(go_at_call 131;(with_reducible refine (spec_l1Hex.calls k1 (bt a0 (ji11)) t116 _ A15.out).mono ?_);rintro e w' ⟨rfl,⟨nd,rfl⟩⟩;(try first|exact ⟨rfl,_,World.drewN_drewN _ _ _⟩|exact ⟨rfl,_,Eq.trans (World.drewN_drewN _ _ _) (congrArg (World.drewN _) (Nat.add_assoc _ _ _))⟩))|((with_reducible refine atG ?_ ?_ fun K_ hK_=>?_);rfl;exact undecG)|((with_reducible refine atI ?_ fun K_ hK_=>?_);exact undecI))
         repeat (go_quiet (first|(go_at_call 131;(with_reducible refine (spec_l1Hex.calls k1 (bt a0 (ji11)) t116 _ A15.out).mono ?_);rintro e w' ⟨rfl,⟨nd,rfl⟩⟩;(try first|exact ⟨rfl,_,World.drewN_drewN _ _ _⟩|exact ⟨rfl,_,Eq.trans (World.drewN_drewN _ _ _) (congrArg (World.drewN _) (Nat.add_assoc _ _ _))⟩))|((with_reducible refine atG ?_ ?_ fun K_ hK_=>?_);rfl;exact undecG)|((with_reducible refine atI ?_ fun K_ hK_=>?_);exact undecI));go_wp2_with (first|(go_at_call 131;(with_reducible refine (spec_l1Hex.calls k1 (bt a0 (ji11)) t116 _ A15.out).mono ?_);rintro e w' ⟨rfl,⟨nd,rfl⟩⟩;(try first|exact ⟨rfl,_,World.drewN_drewN _ _ _⟩|exact ⟨rfl,_,Eq.trans (World.drewN_drewN _ _ _) (congrArg (World.drewN _) (Nat.add_assoc _ _ _))⟩))|((with_reducible refine atG ?_ ?_ fun K_ hK_=>?_);rfl;exact undecG)|((with_reducible refine atI ?_ fun K_ hK_=>?_);exact undecI)))
         refine unG hK_ ?_;clear hK_ K_;obtain ⟨H⟩:=HF16;replace H:=iteE H;rcases H with ⟨c17,H⟩|⟨c17,H⟩
         ·have c17b0:=dT c17
          (first|refine iteT ?_|refine iteF ?_|skip)
          clear c17;(first|rw [c17b0]|(simp only [i64_w,i32_w];rw [c17b0])|skip)
          have H':=A_ H;clear H;(try ((with_reducible refine upS ?_);go_simp))
          go_wp2
          repeat (go_quiet (fail);try go_wp2)
          go_meet
          case rel=>exact ⟨_,(true),zz1,H',⟨(zz10 HK1)⟩,⟨(zz0 HB)⟩⟩
         ·have c17b0:=dF c17
          (first|refine iteT ?_|refine iteF ?_|skip)
          clear c17;(first|rw [c17b0]|(simp only [i64_w,i32_w];rw [c17b0])|skip)
          obtain ⟨ji18,hji18⟩:∃ j_:Int,(wrap64 (x5_1+2))=j_:=⟨_,rfl⟩;(first|rw [hji18] at H|simp only [hji18] at H)
          (try rw [hji18] at c10b0)
          have hji18w:(IntKind.i64.wrap (x5_1+2))=ji18:=(i64_w _).trans hji18;replace H:=iteNd H;obtain ⟨c19b0,H⟩:=H;replace H:=iteNd H;obtain ⟨c20b0,H⟩:=H;replace H:=bindA H;obtain ⟨t117,A22,H⟩:=H;have H':=A_ H;clear H;have p21:0≤((ji18):Int):=ofD;have q21:(ji18) < (a0.size:Int):=ofD;have hx21:=bt_at a0 (ji18);replace p21:=eq_true p21;replace q21:=eq_true q21;go_wp2_with (first|(go_at_call 131;(with_reducible refine (spec_l1Hex.calls k1 (bt a0 (ji18)) t117 _ A22.out).mono ?_);rintro e w' ⟨rfl,⟨nd,rfl⟩⟩;(try first|exact ⟨rfl,_,World.drewN_drewN _ _ _⟩|exact ⟨rfl,_,Eq.trans (World.drewN_drewN _ _ _) (congrArg (World.drewN _) (Nat.add_assoc _ _ _))⟩)))
          repeat (go_quiet (first|(go_at_call 131;(with_reducible refine (spec_l1Hex.calls k1 (bt a0 (ji18)) t117 _ A22.out).mono ?_);rintro e w' ⟨rfl,⟨nd,rfl⟩⟩;(try first|exact ⟨rfl,_,World.drewN_drewN _ _ _⟩|exact ⟨rfl,_,Eq.trans (World.drewN_drewN _ _ _) (congrArg (World.drewN _) (Nat.add_assoc _ _ _))⟩)));try go_wp2_with (first|(go_at_call 131;(with_reducible refine (spec_l1Hex.calls k1 (bt a0 (ji18)) t117 _ A22.out).mono ?_);rintro e w' ⟨rfl,⟨nd,rfl⟩⟩;(try first|exact ⟨rfl,_,World.drewN_drewN _ _ _⟩|exact ⟨rfl,_,Eq.trans (World.drewN_drewN _ _ _) (congrArg (World.drewN _) (Nat.add_assoc _ _ _))⟩))))
          go_meet
          case rel=>exact ⟨_,(decide (t117 < 0)),zz1,H',⟨(zz10 HK1)⟩,⟨(zz0 HB)⟩⟩
       case rest=>
        clear HC9;obtain ⟨kq,x44_8,rfl,HA,HJ8,HB⟩:=hcut;cases kq with
        | zero=>exact absurd HA.out (by simp [spec_EscNorm.j1])
        | succ kj8=>
         obtain ⟨H⟩:=HA;simp only [spec_EscNorm.j1] at H
         replace H:=iteB H;rcases H with ⟨rfl,H⟩|⟨rfl,H⟩
         ·simp only [Option.some.injEq,Prod.mk.injEq] at H
          obtain ⟨rfl,rfl⟩:=H;go_wp2
          repeat (go_quiet (fail);try go_wp2)
          go_ret2
          exact ⟨zz6,(zz0 HB)⟩
         ·obtain ⟨ji24,hji24⟩:∃ j_:Int,(wrap64 (x5_1+1))=j_:=⟨_,rfl⟩
          (first|rw [hji24] at H|simp only [hji24] at H)
          have hji24w:(IntKind.i64.wrap (x5_1+1))=ji24:=(i64_w _).trans hji24;replace H:=iteNd H;obtain ⟨c25b0,H⟩:=H;replace H:=iteNd H;obtain ⟨c26b0,H⟩:=H;replace H:=bindA H;obtain ⟨t118,A28,H⟩:=H;obtain ⟨ji29,hji29⟩:∃ j_:Int,(wrap64 (x5_1+2))=j_:=⟨_,rfl⟩;(first|rw [hji29] at H|simp only [hji29] at H)
          (try rw [hji29] at A28)
          have hji29w:(IntKind.i64.wrap (x5_1+2))=ji29:=(i64_w _).trans hji29;replace H:=iteNd H;obtain ⟨c30b0,H⟩:=H;replace H:=iteNd H;obtain ⟨c31b0,H⟩:=H;replace H:=bindA H;obtain ⟨t119,A33,H⟩:=H;have H':=A_ H;clear H;have p27:0≤((ji24):Int):=ofD;have q27:(ji24) < (a0.size:Int):=ofD;have hx27:=bt_at a0 (ji24);replace p27:=eq_true p27;replace q27:=eq_true q27;go_wp2_with (first|(go_at_call 131;(with_reducible refine (spec_l1Hex.calls kj8 (bt a0 (ji24)) t118 _ A28.out).mono ?_);rintro e w' ⟨rfl,⟨nd,rfl⟩⟩;(try first|exact ⟨rfl,_,World.drewN_drewN _ _ _⟩|exact ⟨rfl,_,Eq.trans (World.drewN_drewN _ _ _) (congrArg (World.drewN _) (Nat.add_assoc _ _ _))⟩);have p32:0≤((ji29):Int):=ofD;have q32:(ji29) < (a0.size:Int):=ofD;have hx32:=bt_at a0 (ji29);replace p32:=eq_true p32;replace q32:=eq_true q32)|(go_at_call 131;(with_reducible refine (spec_l1Hex.calls kj8 (bt a0 (ji29)) t119 _ A33.out).mono ?_);rintro e w' ⟨rfl,⟨nd,rfl⟩⟩;(try first|exact ⟨rfl,_,World.drewN_drewN _ _ _⟩|exact ⟨rfl,_,Eq.trans (World.drewN_drewN _ _ _) (congrArg (World.drewN _) (Nat.add_assoc _ _ _))⟩)))
          repeat (go_quiet (first|(go_at_call 131;(with_reducible refine (spec_l1Hex.calls kj8 (bt a0 (ji24)) t118 _ A28.out).mono ?_);rintro e w' ⟨rfl,⟨nd,rfl⟩⟩;(try first|exact ⟨rfl,_,World.drewN_drewN _ _ _⟩|exact ⟨rfl,_,Eq.trans (World.drewN_drewN _ _ _) (congrArg (World.drewN _) (Nat.add_assoc _ _ _))⟩);have p32:0≤((ji29):Int):=ofD;have q32:(ji29) < (a0.size:Int):=ofD;have hx32:=bt_at a0 (ji29);replace p32:=eq_true p32;replace q32:=eq_true q32)|(go_at_call 131;(with_reducible refine (spec_l1Hex.calls kj8 (bt a0 (ji29)) t119 _ A33.out).mono ?_);rintro e w' ⟨rfl,⟨nd,rfl⟩⟩;(try first|exact ⟨rfl,_,World.drewN_drewN _ _ _⟩|exact ⟨rfl,_,Eq.trans (World.drewN_drewN _ _ _) (congrArg (World.drewN _) (Nat.add_assoc _ _ _))⟩)));try go_wp2_with (first|(go_at_call 131;(with_reducible refine (spec_l1Hex.calls kj8 (bt a0 (ji24)) t118 _ A28.out).mono ?_);rintro e w' ⟨rfl,⟨nd,rfl⟩⟩;(try first|exact ⟨rfl,_,World.drewN_drewN _ _ _⟩|exact ⟨rfl,_,Eq.trans (World.drewN_drewN _ _ _) (congrArg (World.drewN _) (Nat.add_assoc _ _ _))⟩);have p32:0≤((ji29):Int):=ofD;have q32:(ji29) < (a0.size:Int):=ofD;have hx32:=bt_at a0 (ji29);replace p32:=eq_true p32;replace q32:=eq_true q32)|(go_at_call 131;(with_reducible refine (spec_l1Hex.calls kj8 (bt a0 (ji29)) t119 _ A33.out).mono ?_);rintro e w' ⟨rfl,⟨nd,rfl⟩⟩;(try first|exact ⟨rfl,_,World.drewN_drewN _ _ _⟩|exact ⟨rfl,_,Eq.trans (World.drewN_drewN _ _ _) (congrArg (World.drewN _) (Nat.add_assoc _ _ _))⟩))))
          go_meet
          case rel=>exact ⟨_,(ji29),(wrap64 ((wrap64 (t118 * 16))+t119)),(by first|rfl|(simp only [i64_w,i32_w];done)|(simp only [aid_isEmpty,aid_isEmpty2];done)|(simp;done)|((simp only [← hji29] <;> (first|rfl|simp));done)|(simp [*];done)),zz1,H',⟨(by have:=HK1.out;have:=HJ8.out;first|omega|exact Nat.le_refl _)⟩,⟨(zz0 HB)⟩⟩
      ·(first|rw [c8b0]|(simp only [i64_w,i32_w];rw [c8b0])|skip)
       have H':=A_ H;clear H;go_wp2
       repeat (go_quiet (fail);try go_wp2)
       go_meet
       case rel=>exact ⟨_,(x5_1),(wrap64 (bt a0 x5_1)),zz1,zz1,H',⟨(zz10 HK1)⟩,⟨(zz0 HB)⟩⟩
     case rest=>
      clear HC7;obtain ⟨kq,x5_6,x6_6,rfl,rfl,HA,HJ6,HB⟩:=hcut;cases kq with
      | zero=>exact absurd HA.out (by simp [spec_EscNorm.j2])
      | succ kj6=>
       obtain ⟨H⟩:=HA;simp only [spec_EscNorm.j2] at H
       replace H:=bindA H;obtain ⟨t120,A34,H⟩:=H;have HF35:=A_ H;clear H;go_upto_if 61 with (first|(go_at_call 130;(with_reducible refine (spec_l1Plain.calls ((x6_6) % 256) t120 _ A34.out).mono ?_);rintro e w' ⟨rfl,⟨nd,rfl⟩⟩;(try first|exact ⟨rfl,_,World.drewN_drewN _ _ _⟩|exact ⟨rfl,_,Eq.trans (World.drewN_drewN _ _ _) (congrArg (World.drewN _) (Nat.add_assoc _ _ _))⟩)))
       repeat (go_quiet (first|(go_at_call 130;(with_reducible refine (spec_l1Plain.calls ((x6_6) % 256) t120 _ A34.out).mono ?_);rintro e w' ⟨rfl,⟨nd,rfl⟩⟩;(try first|exact ⟨rfl,_,World.drewN_drewN _ _ _⟩|exact ⟨rfl,_,Eq.trans (World.drewN_drewN _ _ _) (congrArg (World.drewN _) (Nat.add_assoc _ _ _))⟩)));go_upto_if 61 with (first|(go_at_call 130;(with_reducible refine (spec_l1Plain.calls ((x6_6) % 256) t120 _ A34.out).mono ?_);rintro e w' ⟨rfl,⟨nd,rfl⟩⟩;(try first|exact ⟨rfl,_,World.drewN_drewN _ _ _⟩|exact ⟨rfl,_,Eq.trans (World.drewN_drewN _ _ _) (congrArg (World.drewN _) (Nat.add_assoc _ _ _))⟩))))
       obtain ⟨H⟩:=HF35;replace H:=iteB H;rcases H with ⟨rfl,H⟩|⟨rfl,H⟩
       ·obtain ⟨y121,Ny121,H⟩:=bindY H
        replace H:=iteN H;obtain ⟨c37,H⟩:=H;have c37b0:=eq_true c37;have c37b1:=dT c37;try have c37b2:(9223372036854775807 < x4_1.size+(strOfNums y121).size)=False:=eq_false (Nat.not_lt.2 c37)
        have H':=A_ H;clear H;go_wp2_with (first|((with_reducible refine gD (N:=65) rfl ?_);refine Kd.R_lit (Kd.int .u8) _ 5 ?hg (N:=65) ?hd (xs:=([(x6_6) % 256]:List Int)) (inner:=[.int .u8 ((x6_6) % 256)]) (ok:=fun _=>True) (okp:=fun _=>True) ?hr ?hp (fun _ hk=>hk) trivial (Below.refl _ _) (Nat.le_refl _) (by simp) ?_;(case hd=>rfl);(case hg=>rfl);(case hr=>exact zz14);(case hp=>exact (Reps.one (show Kd.M (Kd.int .u8) _ _ _ ((x6_6) % 256) [.int .u8 ((x6_6) % 256)] from rfl) (Reps.none _ _)));intro v122 w38 ho39 hb hg_ hnew_;clear hg_ hnew_;(first|rw [← Ny121.out] at ho39|(simp only [Int.reduceToNat] at ho39;rw [← Ny121.out] at ho39));have HO123:=A_ (Kd.R_lower ho39 (below_size (zz0 HB)));replace HB:=A_ (bS (zz0 HB) hb);clear hb ho39;have hcv40:=own_string (P:=Tryz.prog) Tryz.underlying22 Tryz.underlying5 Tryz.underlying9 (Kd.own_of_R HO123.out)))
        repeat (go_quiet (first|((with_reducible refine gD (N:=65) rfl ?_);refine Kd.R_lit (Kd.int .u8) _ 5 ?hg (N:=65) ?hd (xs:=([(x6_6) % 256]:List Int)) (inner:=[.int .u8 ((x6_6) % 256)]) (ok:=fun _=>True) (okp:=fun _=>True) ?hr ?hp (fun _ hk=>hk) trivial (Below.refl _ _) (Nat.le_refl _) (by simp) ?_;(case hd=>rfl);(case hg=>rfl);(case hr=>exact zz14);(case hp=>exact (Reps.one (show Kd.M (Kd.int .u8) _ _ _ ((x6_6) % 256) [.int .u8 ((x6_6) % 256)] from rfl) (Reps.none _ _)));intro v122 w38 ho39 hb hg_ hnew_;clear hg_ hnew_;(first|rw [← Ny121.out] at ho39|(simp only [Int.reduceToNat] at ho39;rw [← Ny121.out] at ho39));have HO123:=A_ (Kd.R_lower ho39 (below_size (zz0 HB)));replace HB:=A_ (bS (zz0 HB) hb);clear hb ho39;have hcv40:=own_string (P:=Tryz.prog) Tryz.underlying22 Tryz.underlying5 Tryz.underlying9 (Kd.own_of_R HO123.out)));try go_wp2_with (first|((with_reducible refine gD (N:=65) rfl ?_);refine Kd.R_lit (Kd.int .u8) _ 5 ?hg (N:=65) ?hd (xs:=([(x6_6) % 256]:List Int)) (inner:=[.int .u8 ((x6_6) % 256)]) (ok:=fun _=>True) (okp:=fun _=>True) ?hr ?hp (fun _ hk=>hk) trivial (Below.refl _ _) (Nat.le_refl _) (by simp) ?_;(case hd=>rfl);(case hg=>rfl);(case hr=>exact zz14);(case hp=>exact (Reps.one (show Kd.M (Kd.int .u8) _ _ _ ((x6_6) % 256) [.int .u8 ((x6_6) % 256)] from rfl) (Reps.none _ _)));intro v122 w38 ho39 hb hg_ hnew_;clear hg_ hnew_;(first|rw [← Ny121.out] at ho39|(simp only [Int.reduceToNat] at ho39;rw [← Ny121.out] at ho39));have HO123:=A_ (Kd.R_lower ho39 (below_size (zz0 HB)));replace HB:=A_ (bS (zz0 HB) hb);clear hb ho39;have hcv40:=own_string (P:=Tryz.prog) Tryz.underlying22 Tryz.underlying5 Tryz.underlying9 (Kd.own_of_R HO123.out))))
        go_roundg kj6
        case measure=>have:=HK1.out;have:=HJ6.out;omega
        case rel=>exact ⟨(x4_1++(strOfNums y121)),(wrap64 (x5_6+1)),zz1,zz1,H',⟨(zz19 HK1 HJ6)⟩,⟨(zz0 HB)⟩⟩
       ·replace H:=bindA H
        obtain ⟨t124,A41,H⟩:=H;replace H:=iteN H;obtain ⟨c42,H⟩:=H;have c42b0:=eq_true c42;have c42b1:=dT c42;try have c42b2:(9223372036854775807 < x4_1.size+t124.size)=False:=eq_false (Nat.not_lt.2 c42)
        have H':=A_ H;clear H;go_wp2_with (first|(go_at_call 132;(with_reducible refine (spec_l1Sign.calls x6_6 t124 _ A41.out).mono ?_);rintro e w' ⟨rfl,⟨nd,rfl⟩⟩;(try first|exact ⟨rfl,_,World.drewN_drewN _ _ _⟩|exact ⟨rfl,_,Eq.trans (World.drewN_drewN _ _ _) (congrArg (World.drewN _) (Nat.add_assoc _ _ _))⟩)))
        repeat (go_quiet (first|(go_at_call 132;(with_reducible refine (spec_l1Sign.calls x6_6 t124 _ A41.out).mono ?_);rintro e w' ⟨rfl,⟨nd,rfl⟩⟩;(try first|exact ⟨rfl,_,World.drewN_drewN _ _ _⟩|exact ⟨rfl,_,Eq.trans (World.drewN_drewN _ _ _) (congrArg (World.drewN _) (Nat.add_assoc _ _ _))⟩)));try go_wp2_with (first|(go_at_call 132;(with_reducible refine (spec_l1Sign.calls x6_6 t124 _ A41.out).mono ?_);rintro e w' ⟨rfl,⟨nd,rfl⟩⟩;(try first|exact ⟨rfl,_,World.drewN_drewN _ _ _⟩|exact ⟨rfl,_,Eq.trans (World.drewN_drewN _ _ _) (congrArg (World.drewN _) (Nat.add_assoc _ _ _))⟩))))
        go_roundg kj6
        case measure=>have:=HK1.out;have:=HJ6.out;omega
        case rel=>exact ⟨(x4_1++t124),(wrap64 (x5_6+1)),zz1,zz1,H',⟨(zz19 HK1 HJ6)⟩,⟨(zz0 HB)⟩⟩
    ·simp only [Option.some.injEq,Prod.mk.injEq] at H
     obtain ⟨rfl,rfl⟩:=H;go_wp2
     repeat (go_quiet (fail);try go_wp2)
     go_ret2
     exact ⟨zz6,(zz0 HB)⟩
def spec_l2Name.l0:Nat→ByteArray→Int→Option (Bool)
 | 0,_,_=>none
 | k+1,x0,x3=>if x3 < (x0.size:Int) then (if 0≤x3 then (if (bt x0 x3) < 97 then (some false) else (if (bt x0 x3) > 122 then (some false) else (spec_l2Name.l0 k x0 (wrap64 (x3+1))))) else (none)) else ((spec_l6In.f (x0.size:Int) 1 8).bind fun t179=>(some t179))
def spec_l2Name.f (k:Nat) (a0:ByteArray):Option (Bool):=spec_l2Name.l0 k a0 0
theorem spec_l2Name.mono_l:∀ k,(∀ y0 y1,LeO (spec_l2Name.l0 k y0 y1) (spec_l2Name.l0 (k+1) y0 y1))
 | 0=>by intros;intro r h;simp [spec_l2Name.l0] at h
 | k+1=>by
  have ih0:=spec_l2Name.mono_l k;intros;unfold spec_l2Name.l0;repeat' first|(with_reducible first|exact ih0 _ _|exact LeO.refl _|exact LeO.none _|refine LeO.ite ?_ ?_|refine LeO.bind ?_ (fun _=>?_))|exact LeO.none _|refine LeO.ite ?_ ?_|refine LeO.bind ?_ (fun _=>?_)
theorem spec_l2Name.mono:∀ a0 k,LeO (spec_l2Name.f k a0) (spec_l2Name.f (k+1) a0):=by
 intro a0 k;have ih0:=spec_l2Name.mono_l k;unfold spec_l2Name.f
 repeat' first|(with_reducible first|exact ih0 _ _|exact LeO.refl _|exact LeO.none _|refine LeO.ite ?_ ?_|refine LeO.bind ?_ (fun _=>?_))|exact LeO.none _|refine LeO.ite ?_ ?_|refine LeO.bind ?_ (fun _=>?_)
theorem spec_l2Name.calls (k:Nat) (a0:ByteArray) (r:Bool) (w:World) (h:spec_l2Name.f k a0=some r) :
  Calls Tryz.prog 116 #[.string a0] w fun e w'=>e=.returned (.bool r)∧Drawn0 w w':=by
 unfold spec_l2Name.f at h
 have H:=h;clear h;have H':=A_ H;clear H;go_enter Tryz.func116,Tryz.ntmps116;go_wp2
 go_loopg [3] k (fun kq v3 w'=>∃ (x3_1:Int),v3=.int .i64 x3_1∧Aside0 (spec_l2Name.l0 kq a0 x3_1=some r)∧Aside0 (kq≤k)∧Drawn0 w w')
 case atStart=>exact ⟨(0),zz1,H',⟨Nat.le_refl _⟩,zz8⟩
 case round=>
  clear H';obtain ⟨x3_1,rfl,HA,HK1,⟨m1,rfl⟩⟩:=hrel;cases gk with
  | zero=>exact absurd HA.out (by simp [spec_l2Name.l0])
  | succ k1=>
   obtain ⟨H⟩:=HA;simp only [spec_l2Name.l0] at H
   replace H:=iteEd H;rcases H with ⟨c2b0,H⟩|⟨c2b0,H⟩
   ·replace H:=iteNd H
    obtain ⟨c3b0,H⟩:=H;replace H:=iteEd H;rcases H with ⟨c5b0,H⟩|⟨c5b0,H⟩
    ·obtain rfl:=sI H
     have p4:0≤(x3_1:Int):=ofD;have q4:x3_1 < (a0.size:Int):=ofD;have hx4:=bt_at a0 x3_1;replace p4:=eq_true p4;replace q4:=eq_true q4;go_wp2
     go_ret
     exact ⟨zz1,zz8⟩
    ·replace H:=iteEg H
     rcases H with ⟨c7b0,H⟩|⟨c7b0,H⟩
     ·obtain rfl:=sI H
      have p4:0≤(x3_1:Int):=ofD;have q4:x3_1 < (a0.size:Int):=ofD;have hx4:=bt_at a0 x3_1;replace p4:=eq_true p4;replace q4:=eq_true q4;have p6:0≤(x3_1:Int):=ofD;have q6:x3_1 < (a0.size:Int):=ofD;have hx6:=bt_at a0 x3_1;replace p6:=eq_true p6;replace q6:=eq_true q6;go_wp2
      go_ret
      exact ⟨zz1,zz8⟩
     ·have H':=A_ H
      clear H;have p4:0≤(x3_1:Int):=ofD;have q4:x3_1 < (a0.size:Int):=ofD;have hx4:=bt_at a0 x3_1;replace p4:=eq_true p4;replace q4:=eq_true q4;have p6:0≤(x3_1:Int):=ofD;have q6:x3_1 < (a0.size:Int):=ofD;have hx6:=bt_at a0 x3_1;replace p6:=eq_true p6;replace q6:=eq_true q6;go_wp2
      go_roundg k1
      case measure=>have:=HK1.out;omega
      case rel=>exact ⟨(wrap64 (x3_1+1)),zz1,H',⟨(zz5 HK1)⟩,zz8⟩
   ·replace H:=bindA H
    obtain ⟨t179,A8,H⟩:=H;obtain rfl:=sI H;go_wp2_with (first|(refine gR 27 (some 22) Tryz.func27 (spec_l6In.calls (a0.size:Int) 1 8 t179 _ A8.out) ?_;rintro w' ⟨nd,rfl⟩))
    go_ret
    exact ⟨zz1,zz8⟩
mutual
def spec_RuleOk.j0:Nat→ByteArray→Bool→Option (Bool)
 | 0,_,_=>none
 | k+1,x0,x16=>if x16=true then (some false) else (spec_RuleOk.l0 k x0 0)
def spec_RuleOk.l0:Nat→ByteArray→Int→Option (Bool)
 | 0,_,_=>none
 | k+1,x0,x3=>if x3 < (x0.size:Int) then (if 0≤x3 then ((spec_l1Plain.f (bt x0 x3)).bind fun t180=>(if t180=true then (spec_RuleOk.l0 k x0 (wrap64 (x3+1))) else (if (bt x0 x3)=47 then (spec_RuleOk.l0 k x0 (wrap64 (x3+1))) else (if (bt x0 x3)=42 then (spec_RuleOk.l0 k x0 (wrap64 (x3+1))) else (if (bt x0 x3)=63 then (spec_RuleOk.l0 k x0 (wrap64 (x3+1))) else (if (bt x0 x3)=37 then (spec_RuleOk.l0 k x0 (wrap64 (x3+1))) else (if (bt x0 x3) ≥ 65 then (if ((bt x0 x3)≤70) then (spec_RuleOk.l0 k x0 (wrap64 (x3+1))) else (if (bt x0 x3)=36 then (if (x3=(wrap64 ((x0.size:Int) - 1))) then (spec_RuleOk.l0 k x0 (wrap64 (x3+1))) else (some false)) else (some false))) else (if (bt x0 x3)=36 then (if (x3=(wrap64 ((x0.size:Int) - 1))) then (spec_RuleOk.l0 k x0 (wrap64 (x3+1))) else (some false)) else (some false))))))))) else (none)) else (some true)
end
def spec_RuleOk.f (k:Nat) (a0:ByteArray):Option (Bool):=if (a0.size:Int) > 16 then (spec_RuleOk.j0 k a0 true) else (if a0.toList=([]:List UInt8) then (spec_RuleOk.j0 k a0 true) else (if 0 < (a0.size:Int) then (spec_RuleOk.j0 k a0 ((bt a0 0) != 47)) else (none)))
theorem spec_RuleOk.calls (k:Nat) (a0:ByteArray) (r:Bool) (w:World) (h:spec_RuleOk.f k a0=some r) :
  Calls Tryz.prog 117 #[.string a0] w fun e w'=>e=.returned (.bool r)∧Drawn0 w w':=by
 unfold spec_RuleOk.f at h
 have H:=h;clear h;have HC2:=A_ H;clear H;go_enter Tryz.func117,Tryz.ntmps117;go_upto_region 1 with (fail)
 go_cut [16] (fun v16 wc=>∃ (kq:Nat) (x16_1:Bool),v16=.bool x16_1∧Aside0 (spec_RuleOk.j0 kq a0 x16_1=some r)∧Aside0 (kq≤k)∧Drawn0 w wc)
 case first=>
  obtain ⟨H⟩:=HC2;replace H:=iteE H;rcases H with ⟨c3,H⟩|⟨c3,H⟩
  ·have c3b0:=gtT c3
   have c3b1:decide (16 < a0.size)=true:=dT (by omega);clear c3;(first|rw [c3b0]|(simp only [i64_w,i32_w];rw [c3b0])|skip)
   have H':=A_ H;clear H;go_wp2
   go_meet
   case rel=>exact ⟨_,(true),zz1,H',⟨zz7⟩,zz8⟩
  ·have c3b0:=gtF c3
   have c3b1:decide (16 < a0.size)=false:=dF (by omega);clear c3;(first|rw [c3b0]|(simp only [i64_w,i32_w];rw [c3b0])|skip)
   replace H:=iteEq H;rcases H with ⟨c4b0,c4b1,H⟩|⟨c4b0,c4b1,c4,H⟩
   ·have H':=A_ H
    clear H;go_wp2
    go_meet
    case rel=>exact ⟨_,(true),zz1,H',⟨zz7⟩,zz8⟩
   ·replace H:=iteN H
    obtain ⟨c5,H⟩:=H;have c5b0:=dT c5;have c5b1:decide (0 < a0.size)=true:=dT (by omega);clear c5;have H':=A_ H;clear H;have p6:0≤(0:Int):=(by omega);have q6:0 < a0.size:=(by have:(0:Int) < (a0.size:Int):=ofD;omega);have hx6:∀ h:0 < a0.size,((a0[0]'h).toNat:Int)=bt a0 0:=bt_at a0 0;clear p6;have qi6:(0 < (a0.size:Int))=True:=eq_true ofD;replace q6:=eq_true q6;go_wp2
    go_meet
    case rel=>exact ⟨_,(((bt a0 0) != 47)),zz1,H',⟨zz7⟩,zz8⟩
 case rest=>
  clear HC2;obtain ⟨kq,x16_1,rfl,HA,HJ1,⟨mc1,rfl⟩⟩:=hcut;cases kq with
  | zero=>exact absurd HA.out (by simp [spec_RuleOk.j0])
  | succ kj1=>
   obtain ⟨H⟩:=HA;simp only [spec_RuleOk.j0] at H
   replace H:=iteB H;rcases H with ⟨rfl,H⟩|⟨rfl,H⟩
   ·obtain rfl:=sI H
    go_wp2
    go_ret
    exact ⟨zz1,zz8⟩
   ·have H':=A_ H
    clear H;go_wp2
    go_loopg [3] kj1 (fun kq v3 w'=>∃ (x3_2:Int),v3=.int .i64 x3_2∧Aside0 (spec_RuleOk.l0 kq a0 x3_2=some r)∧Aside0 (kq≤kj1)∧Drawn0 w w')
    case atStart=>exact ⟨(0),zz1,H',⟨Nat.le_refl _⟩,zz8⟩
    case round=>
     clear H';obtain ⟨x3_2,rfl,HA,HK2,⟨m2,rfl⟩⟩:=hrel;cases gk with
     | zero=>exact absurd HA.out (by simp [spec_RuleOk.l0])
     | succ k2=>
      obtain ⟨H⟩:=HA;simp only [spec_RuleOk.l0] at H
      replace H:=iteEd H;rcases H with ⟨c8b0,H⟩|⟨c8b0,H⟩
      ·replace H:=iteNd H
       obtain ⟨c9b0,H⟩:=H;replace H:=bindA H;obtain ⟨t180,A11,H⟩:=H;have HF12:=A_ H;clear H;have p10:0≤(x3_2:Int):=ofD;have q10:x3_2 < (a0.size:Int):=ofD;have hx10:=bt_at a0 x3_2;replace p10:=eq_true p10;replace q10:=eq_true q10;go_wp2_with (first|(refine gR 130 (some 27) Tryz.func130 (spec_l1Plain.calls (bt a0 x3_2) t180 _ A11.out) ?_;rintro w' ⟨nd,rfl⟩)|((with_reducible refine atG ?_ ?_ fun K_ hK_=>?_);rfl;exact undecG)|((with_reducible refine atI ?_ fun K_ hK_=>?_);exact undecI))
       refine unG hK_ ?_;clear hK_ K_;obtain ⟨H⟩:=HF12;replace H:=iteB H;rcases H with ⟨rfl,H⟩|⟨rfl,H⟩
       ·(first|refine iteT ?_|refine iteF ?_|skip)
        have H':=A_ H;clear H;(try ((with_reducible refine upS ?_);go_simp))
        go_wp2
        go_roundg k2
        case measure=>have:=HJ1.out;have:=HK2.out;omega
        case rel=>exact ⟨(wrap64 (x3_2+1)),zz1,H',⟨(zz19 HJ1 HK2)⟩,zz8⟩
       ·(first|refine iteT ?_|refine iteF ?_|skip)
        replace H:=iteEq H;rcases H with ⟨c14b0,c14b1,H⟩|⟨c14b0,c14b1,c14,H⟩
        ·have H':=A_ H
         clear H;go_wp2
         go_roundg k2
         case measure=>have:=HJ1.out;have:=HK2.out;omega
         case rel=>exact ⟨(wrap64 (x3_2+1)),zz1,H',⟨(zz19 HJ1 HK2)⟩,zz8⟩
        ·replace H:=iteEq H
         rcases H with ⟨c15b0,c15b1,H⟩|⟨c15b0,c15b1,c15,H⟩
         ·have H':=A_ H
          clear H;go_wp2
          go_roundg k2
          case measure=>have:=HJ1.out;have:=HK2.out;omega
          case rel=>exact ⟨(wrap64 (x3_2+1)),zz1,H',⟨(zz19 HJ1 HK2)⟩,zz8⟩
         ·replace H:=iteEq H
          rcases H with ⟨c16b0,c16b1,H⟩|⟨c16b0,c16b1,c16,H⟩
          ·have H':=A_ H
           clear H;go_wp2
           go_roundg k2
           case measure=>have:=HJ1.out;have:=HK2.out;omega
           case rel=>exact ⟨(wrap64 (x3_2+1)),zz1,H',⟨(zz19 HJ1 HK2)⟩,zz8⟩
          ·replace H:=iteEq H
           rcases H with ⟨c17b0,c17b1,H⟩|⟨c17b0,c17b1,c17,H⟩
           ·have H':=A_ H
            clear H;go_wp2
            go_roundg k2
            case measure=>have:=HJ1.out;have:=HK2.out;omega
            case rel=>exact ⟨(wrap64 (x3_2+1)),zz1,H',⟨(zz19 HJ1 HK2)⟩,zz8⟩
           ·replace H:=iteEe H
            rcases H with ⟨c18b0,H⟩|⟨c18b0,H⟩
            ·replace H:=iteE H
             rcases H with ⟨c19,H⟩|⟨c19,H⟩
             ·have c19b0:decide ((bt a0 x3_2)≤70)=true:=dT c19
              clear c19;have H':=A_ H;clear H;go_wp2
              go_roundg k2
              case measure=>have:=HJ1.out;have:=HK2.out;omega
              case rel=>exact ⟨(wrap64 (x3_2+1)),zz1,H',⟨(zz19 HJ1 HK2)⟩,zz8⟩
             ·have c19b0:decide ((bt a0 x3_2)≤70)=false:=dF c19
              clear c19;replace H:=iteEq H;rcases H with ⟨c20b0,c20b1,H⟩|⟨c20b0,c20b1,c20,H⟩
              ·replace H:=iteEq H
               rcases H with ⟨c21b0,c21b1,H⟩|⟨c21b0,c21b1,c21,H⟩
               ·have H':=A_ H
                clear H;go_wp2
                go_roundg k2
                case measure=>have:=HJ1.out;have:=HK2.out;omega
                case rel=>exact ⟨(wrap64 (x3_2+1)),zz1,H',⟨(zz19 HJ1 HK2)⟩,zz8⟩
               ·obtain rfl:=sI H
                go_wp2
                go_ret
                exact ⟨zz1,zz8⟩
              ·obtain rfl:=sI H
               go_wp2
               go_ret
               exact ⟨zz1,zz8⟩
            ·replace H:=iteEq H
             rcases H with ⟨c22b0,c22b1,H⟩|⟨c22b0,c22b1,c22,H⟩
             ·replace H:=iteEq H
              rcases H with ⟨c23b0,c23b1,H⟩|⟨c23b0,c23b1,c23,H⟩
              ·have H':=A_ H
               clear H;go_wp2
               go_roundg k2
               case measure=>have:=HJ1.out;have:=HK2.out;omega
               case rel=>exact ⟨(wrap64 (x3_2+1)),zz1,H',⟨(zz19 HJ1 HK2)⟩,zz8⟩
              ·obtain rfl:=sI H
               go_wp2
               go_ret
               exact ⟨zz1,zz8⟩
             ·obtain rfl:=sI H
              go_wp2
              go_ret
              exact ⟨zz1,zz8⟩
      ·obtain rfl:=sI H
       go_wp2
       go_ret
       exact ⟨zz1,zz8⟩
mutual
def spec_NoticeOk.l0:Nat→List (S106)→Int→Int→Option (Bool)
 | 0,_,_,_=>none
 | k+1,x0,x3,x4=>if x4 < (x0.length:Int) then (if 0≤x4 then (if (((rd_T106 x0 x4).f0).length:Int)=0 then (spec_NoticeOk.j1 k x0 x3 x4 true ((rd_T106 x0 x4).f0) ((rd_T106 x0 x4).f1) ((rd_T106 x0 x4).f2)) else (if (((rd_T106 x0 x4).f1).length:Int)=0 then (if ((rd_T106 x0 x4).f2)=0 then (spec_NoticeOk.j1 k x0 x3 x4 true ((rd_T106 x0 x4).f0) ((rd_T106 x0 x4).f1) ((rd_T106 x0 x4).f2)) else (if (((rd_T106 x0 x4).f1).length:Int) > 6 then (spec_NoticeOk.j1 k x0 x3 x4 true ((rd_T106 x0 x4).f0) ((rd_T106 x0 x4).f1) ((rd_T106 x0 x4).f2)) else ((spec_l6In.f ((rd_T106 x0 x4).f2) 0 20).bind fun t183=>(spec_NoticeOk.j1 k x0 x3 x4 (!t183) ((rd_T106 x0 x4).f0) ((rd_T106 x0 x4).f1) ((rd_T106 x0 x4).f2))))) else (if (((rd_T106 x0 x4).f1).length:Int) > 6 then (spec_NoticeOk.j1 k x0 x3 x4 true ((rd_T106 x0 x4).f0) ((rd_T106 x0 x4).f1) ((rd_T106 x0 x4).f2)) else ((spec_l6In.f ((rd_T106 x0 x4).f2) 0 20).bind fun t184=>(spec_NoticeOk.j1 k x0 x3 x4 (!t184) ((rd_T106 x0 x4).f0) ((rd_T106 x0 x4).f1) ((rd_T106 x0 x4).f2)))))) else (none)) else (some (decide (x3≤40)))
def spec_NoticeOk.j1:Nat→List (S106)→Int→Int→Bool→List ByteArray→List (S108)→Int→Option (Bool)
 | 0,_,_,_,_,_,_,_=>none
 | k+1,x0,x3,x4,x44,x183000,x183001,x183002=>if x44=true then (some false) else (spec_NoticeOk.l1 k x0 x3 x4 0 x183000 x183001 x183002)
def spec_NoticeOk.l1:Nat→List (S106)→Int→Int→Int→List ByteArray→List (S108)→Int→Option (Bool)
 | 0,_,_,_,_,_,_,_=>none
 | k+1,x0,x3,x4,x6,x183000,x183001,x183002=>if x6 < (x183000.length:Int) then (if 0≤x6 then (if (rdOf ByteArray.empty x183000 x6).toList=([42]:List UInt8) then (spec_NoticeOk.l1 k x0 x3 x4 (wrap64 (x6+1)) x183000 x183001 x183002) else ((spec_l2Name.f k (rdOf ByteArray.empty x183000 x6)).bind fun t187=>(if t187=true then (spec_NoticeOk.l1 k x0 x3 x4 (wrap64 (x6+1)) x183000 x183001 x183002) else (some false)))) else (none)) else (spec_NoticeOk.l2 k x0 x3 x4 0 x183000 x183001 x183002)
def spec_NoticeOk.l2:Nat→List (S106)→Int→Int→Int→List ByteArray→List (S108)→Int→Option (Bool)
 | 0,_,_,_,_,_,_,_=>none
 | k+1,x0,x3,x4,x7,x183000,x183001,x183002=>if x7 < (x183001.length:Int) then (if 0≤x7 then ((spec_RuleOk.f k ((rd_T108 x183001 x7).f1)).bind fun t189=>(if t189=true then (spec_NoticeOk.l2 k x0 x3 x4 (wrap64 (x7+1)) x183000 x183001 x183002) else (some false))) else (none)) else (spec_NoticeOk.l0 k x0 (wrap64 ((wrap64 ((wrap64 (x3+(x183000.length:Int)))+(x183001.length:Int)))+1)) (wrap64 (x4+1)))
end
def spec_NoticeOk.f (k:Nat) (l0:List (S106)):Option (Bool):=spec_NoticeOk.l0 k l0 0 0
theorem spec_NoticeOk.calls (k:Nat) (A0:Option Addr) (c0:Nat) (l0:List (S106)) (r:Bool) (w:World) (hr0:Kd.C k106 w A0 l0.length l0) (hc0:l0.length≤c0) (h:spec_NoticeOk.f k l0=some r) :
  Calls Tryz.prog 93 #[.slice A0 l0.length c0] w fun e w'=>e=.returned (.bool r)∧Below w.heap.size w w':=by
 have hu106:=Tryz.underlying106;have HR0:=A_ hr0;have HC0:=A_ hc0;clear hr0 hc0;have HB:=A_ (Below.refl w.heap.size w);unfold spec_NoticeOk.f at h
 have H:=h;clear h;have H':=A_ H;clear H;go_enter Tryz.func93,Tryz.ntmps93;go_wp2
 go_loopg [3,4] k (fun kq v3 v4 w'=>∃ (x3_1:Int) (x4_1:Int),v3=.int .i64 x3_1∧v4=.int .i64 x4_1∧Aside0 (spec_NoticeOk.l0 kq l0 x3_1 x4_1=some r)∧Aside0 (kq≤k)∧Aside0 (Below w.heap.size w w'))
 case atStart=>exact ⟨(0),(0),zz1,zz1,H',⟨Nat.le_refl _⟩,⟨(zz0 HB)⟩⟩
 case round=>
  clear H';obtain ⟨x3_1,x4_1,rfl,rfl,HA,HK1,HB⟩:=hrel;cases gk with
  | zero=>exact absurd HA.out (by simp [spec_NoticeOk.l0])
  | succ k1=>
   obtain ⟨H⟩:=HA;simp only [spec_NoticeOk.l0] at H
   replace H:=iteEd H;rcases H with ⟨c2b0,H⟩|⟨c2b0,H⟩
   ·replace H:=iteNd H
    obtain ⟨c3b0,H⟩:=H;have HC4:=A_ H;clear H;obtain ⟨⟨ad181,A181_0,c181_0,A181_1,c181_1,e181,hx181_0,hx181_1,hx181_2,hl181_0,hi181_0,hl181_1,hi181_1⟩,p181,q181⟩:=atB (at_T106 HR0.out x4_1);cases e181
    obtain ⟨hx181_0,hx181_1,hx181_2⟩:=cb3 HB hx181_0 hx181_1 hx181_2;have HR181_0:=A_ hi181_0;have HC181_0:=A_ hl181_0;clear hi181_0 hl181_0;have HR181_1:=A_ hi181_1;have HC181_1:=A_ hl181_1;clear hi181_1 hl181_1;go_upto_region 6 with (first|((with_reducible refine gD (N:=5) rfl ?_);(try (refine gate_guard (by rfl) ?_;dsimp only));refine boxE 5 #[.slice none 0 0,.slice none 0 0,.int .i64 0] 106 ?_;intro gb182 hg w5 hbox hb;have BK182:=A_ (hbox);have GE182:=geB hg (zz0 HB);replace HB:=A_ (bS (zz0 HB) hb);clear hb hbox hg;obtain ⟨_,_,_,_,_,_⟩:=cf3 BK182))
    (try simp only [Act.put,List.setIfInBounds_toArray,List.set_cons_zero,List.set_cons_succ])
    go_cut [44] (fun v44 wc=>∃ (kq:Nat) (x44_3:Bool),v44=.bool x44_3∧Aside0 (spec_NoticeOk.j1 kq l0 x3_1 x4_1 x44_3 ((rd_T106 l0 x4_1).f0) ((rd_T106 l0 x4_1).f1) ((rd_T106 l0 x4_1).f2)=some r)∧Aside0 (kq≤k1)∧Aside0 (wc.heap[gb182]?=some (.cells #[(.slice A181_0 ((rd_T106 l0 x4_1).f0).length c181_0),(.slice A181_1 ((rd_T106 l0 x4_1).f1).length c181_1),.int .i64 ((rd_T106 l0 x4_1).f2)] 106 (0,0)))∧Aside0 (Below w.heap.size w wc))
    case first=>
     obtain ⟨H⟩:=HC4;replace H:=iteEq H;rcases H with ⟨c7b0,c7b1,H⟩|⟨c7b0,c7b1,c7,H⟩
     ·(first|rw [c7b0]|(simp only [i64_w,i32_w];rw [c7b0])|skip)
      have H':=A_ H;clear H;obtain ⟨_,_,_,_,_,_⟩:=cf3 BK182;go_wp2
      go_meet
      case rel=>exact ⟨_,(true),zz1,H',⟨(zz10 HK1)⟩,⟨(zz46 BK182)⟩,⟨(zz3 HB GE182)⟩⟩
     ·have c7b2:¬ (((rd_T106 l0 x4_1).f0)=[]):=fun h_=>c7 (by rw [h_];rfl)
      (first|rw [c7b0]|(simp only [i64_w,i32_w];rw [c7b0])|skip)
      replace H:=iteEq H;rcases H with ⟨c9b0,c9b1,H⟩|⟨c9b0,c9b1,c9,H⟩
      ·replace H:=iteEq H
       rcases H with ⟨c10b0,c10b1,H⟩|⟨c10b0,c10b1,c10,H⟩
       ·have H':=A_ H
        clear H;obtain ⟨_,_,_,_,_,_⟩:=cf3 BK182;go_wp2
        go_meet
        case rel=>exact ⟨_,(true),zz1,H',⟨(zz10 HK1)⟩,⟨(zz46 BK182)⟩,⟨(zz3 HB GE182)⟩⟩
       ·replace H:=iteE H
        rcases H with ⟨c12,H⟩|⟨c12,H⟩
        ·have c12b0:=gtT c12
         have c12b1:decide (6 < ((rd_T106 l0 x4_1).f1).length)=true:=dT (by omega);clear c12;have H':=A_ H;clear H;obtain ⟨_,_,_,_,_,_⟩:=cf3 BK182;go_wp2
         go_meet
         case rel=>exact ⟨_,(true),zz1,H',⟨(zz10 HK1)⟩,⟨(zz46 BK182)⟩,⟨(zz3 HB GE182)⟩⟩
        ·have c12b0:=gtF c12
         have c12b1:decide (6 < ((rd_T106 l0 x4_1).f1).length)=false:=dF (by omega);clear c12;replace H:=bindA H;obtain ⟨t183,A14,H⟩:=H;have H':=A_ H;clear H;obtain ⟨_,_,_,_,_,_⟩:=cf3 BK182;go_wp2_with (first|(go_at_call 27;(with_reducible refine (spec_l6In.calls ((rd_T106 l0 x4_1).f2) 0 20 t183 _ A14.out).mono ?_);rintro e w' ⟨rfl,⟨nd,rfl⟩⟩))
         go_meet
         case rel=>exact ⟨_,(!t183),zz1,H',⟨(zz10 HK1)⟩,⟨(zz46 BK182)⟩,⟨(zz3 HB GE182)⟩⟩
      ·have c9b2:¬ (((rd_T106 l0 x4_1).f1)=[]):=fun h_=>c9 (by rw [h_];rfl)
       replace H:=iteE H;rcases H with ⟨c16,H⟩|⟨c16,H⟩
       ·have c16b0:=gtT c16
        have c16b1:decide (6 < ((rd_T106 l0 x4_1).f1).length)=true:=dT (by omega);clear c16;have H':=A_ H;clear H;obtain ⟨_,_,_,_,_,_⟩:=cf3 BK182;go_wp2
        go_meet
        case rel=>exact ⟨_,(true),zz1,H',⟨(zz10 HK1)⟩,⟨(zz46 BK182)⟩,⟨(zz3 HB GE182)⟩⟩
       ·have c16b0:=gtF c16
        have c16b1:decide (6 < ((rd_T106 l0 x4_1).f1).length)=false:=dF (by omega);clear c16;replace H:=bindA H;obtain ⟨t184,A18,H⟩:=H;have H':=A_ H;clear H;obtain ⟨_,_,_,_,_,_⟩:=cf3 BK182;go_wp2_with (first|(go_at_call 27;(with_reducible refine (spec_l6In.calls ((rd_T106 l0 x4_1).f2) 0 20 t184 _ A18.out).mono ?_);rintro e w' ⟨rfl,⟨nd,rfl⟩⟩))
        go_meet
        case rel=>exact ⟨_,(!t184),zz1,H',⟨(zz10 HK1)⟩,⟨(zz46 BK182)⟩,⟨(zz3 HB GE182)⟩⟩
    case rest=>
     clear HC4;obtain ⟨kq,x44_3,rfl,HA,HJ3,BK182,HB⟩:=hcut;cases kq with
     | zero=>exact absurd HA.out (by simp [spec_NoticeOk.j1])
     | succ kj3=>
      obtain ⟨H⟩:=HA;simp only [spec_NoticeOk.j1] at H
      replace H:=iteB H;rcases H with ⟨rfl,H⟩|⟨rfl,H⟩
      ·obtain rfl:=sI H
       go_wp2
       go_ret
       exact ⟨zz6,(zz3 HB GE182)⟩
      ·have H':=A_ H
       clear H;go_wp2
       go_loopg [6] kj3 (fun kq v6 w'=>∃ (x6_3:Int),v6=.int .i64 x6_3∧Aside0 (spec_NoticeOk.l1 kq l0 x3_1 x4_1 x6_3 ((rd_T106 l0 x4_1).f0) ((rd_T106 l0 x4_1).f1) ((rd_T106 l0 x4_1).f2)=some r)∧Aside0 (kq≤kj3)∧Aside0 (w'.heap[gb182]?=some (.cells #[(.slice A181_0 ((rd_T106 l0 x4_1).f0).length c181_0),(.slice A181_1 ((rd_T106 l0 x4_1).f1).length c181_1),.int .i64 ((rd_T106 l0 x4_1).f2)] 106 (0,0)))∧Aside0 (Below w.heap.size w w'))
       case atStart=>exact ⟨(0),zz1,H',⟨Nat.le_refl _⟩,⟨(zz2 BK182)⟩,⟨(zz3 HB GE182)⟩⟩
       case round=>
        clear H';obtain ⟨x6_3,rfl,HA,HK3,BK182,HB⟩:=hrel;cases gk with
        | zero=>exact absurd HA.out (by simp [spec_NoticeOk.l1])
        | succ k3=>
         obtain ⟨H⟩:=HA;simp only [spec_NoticeOk.l1] at H
         replace H:=iteEd H;rcases H with ⟨c21b0,H⟩|⟨c21b0,H⟩
         ·replace H:=iteNd H
          obtain ⟨c22b0,H⟩:=H;replace H:=iteEq H;rcases H with ⟨c23b0,c23b1,H⟩|⟨c23b0,c23b1,c23,H⟩
          ·have H':=A_ H
           clear H;obtain ⟨_,_,_,_,_,_⟩:=cf3 BK182;obtain ⟨⟨ad185,e185,hx185_0⟩,p185,q185⟩:=atB (Kd.at_string HR181_0.out x6_3);cases e185
           replace hx185_0:=cbl HB hx185_0;go_wp2
           go_roundg k3
           case measure=>have:=HK1.out;have:=HJ3.out;have:=HK3.out;omega
           case rel=>exact ⟨(wrap64 (x6_3+1)),zz1,H',⟨(zz63 HK1 HJ3 HK3)⟩,⟨(zz2 BK182)⟩,⟨(zz3 HB GE182)⟩⟩
          ·replace H:=bindA H
           obtain ⟨t187,A25,H⟩:=H;have HF26:=A_ H;clear H;obtain ⟨_,_,_,_,_,_⟩:=cf3 BK182;obtain ⟨⟨ad185,e185,hx185_0⟩,p185,q185⟩:=atB (Kd.at_string HR181_0.out x6_3);cases e185
           replace hx185_0:=cbl HB hx185_0;obtain ⟨⟨ad186,e186,hx186_0⟩,p186,q186⟩:=atB (Kd.at_string HR181_0.out x6_3);obtain rfl:ad185=ad186:=(by injection e186);replace hx186_0:=cbl HB hx186_0;go_upto_if 66 with (first|(go_at_call 116;(with_reducible refine (spec_l2Name.calls k3 (rdOf ByteArray.empty ((rd_T106 l0 x4_1).f0) x6_3) t187 _ A25.out).mono ?_);rintro e w' ⟨rfl,⟨nd,rfl⟩⟩))
           obtain ⟨H⟩:=HF26;replace H:=iteB H;rcases H with ⟨rfl,H⟩|⟨rfl,H⟩
           ·have H':=A_ H
            clear H;go_wp2
            go_roundg k3
            case measure=>have:=HK1.out;have:=HJ3.out;have:=HK3.out;omega
            case rel=>exact ⟨(wrap64 (x6_3+1)),zz1,H',⟨(zz63 HK1 HJ3 HK3)⟩,⟨(zz2 BK182)⟩,⟨(zz3 HB GE182)⟩⟩
           ·obtain rfl:=sI H
            go_wp2
            go_ret
            exact ⟨zz6,(zz3 HB GE182)⟩
         ·have H':=A_ H
          clear H;obtain ⟨_,_,_,_,_,_⟩:=cf3 BK182;go_wp2
          go_loopg [7] k3 (fun kq v7 w'=>∃ (x7_4:Int),v7=.int .i64 x7_4∧Aside0 (spec_NoticeOk.l2 kq l0 x3_1 x4_1 x7_4 ((rd_T106 l0 x4_1).f0) ((rd_T106 l0 x4_1).f1) ((rd_T106 l0 x4_1).f2)=some r)∧Aside0 (kq≤k3)∧Aside0 (w'.heap[gb182]?=some (.cells #[(.slice A181_0 ((rd_T106 l0 x4_1).f0).length c181_0),(.slice A181_1 ((rd_T106 l0 x4_1).f1).length c181_1),.int .i64 ((rd_T106 l0 x4_1).f2)] 106 (0,0)))∧Aside0 (Below w.heap.size w w'))
          case atStart=>exact ⟨(0),zz1,H',⟨Nat.le_refl _⟩,⟨(zz2 BK182)⟩,⟨(zz3 HB GE182)⟩⟩
          case round=>
           clear H';obtain ⟨x7_4,rfl,HA,HK4,BK182,HB⟩:=hrel;cases gk with
           | zero=>exact absurd HA.out (by simp [spec_NoticeOk.l2])
           | succ k4=>
            obtain ⟨H⟩:=HA;simp only [spec_NoticeOk.l2] at H
            replace H:=iteEd H;rcases H with ⟨c30b0,H⟩|⟨c30b0,H⟩
            ·replace H:=iteNd H
             obtain ⟨c31b0,H⟩:=H;replace H:=bindA H;obtain ⟨t189,A32,H⟩:=H;have HF33:=A_ H;clear H;obtain ⟨_,_,_,_,_,_⟩:=cf3 BK182;obtain ⟨⟨ad188,e188,hx188_0,hx188_1⟩,p188,q188⟩:=atB (at_T108 HR181_1.out x7_4);cases e188
             obtain ⟨hx188_0,hx188_1⟩:=cb2 HB hx188_0 hx188_1;go_upto_if 81 with (first|(refine gR 117 (some 80) Tryz.func117 (spec_RuleOk.calls k4 ((rd_T108 ((rd_T106 l0 x4_1).f1) x7_4).f1) t189 _ A32.out) ?_;rintro w' ⟨nd,rfl⟩))
             obtain ⟨H⟩:=HF33;replace H:=iteB H;rcases H with ⟨rfl,H⟩|⟨rfl,H⟩
             ·have H':=A_ H
              clear H;go_wp2
              go_roundg k4
              case measure=>have:=HK1.out;have:=HJ3.out;have:=HK3.out;have:=HK4.out;omega
              case rel=>exact ⟨(wrap64 (x7_4+1)),zz1,H',⟨(by have:=HK1.out;have:=HJ3.out;have:=HK3.out;have:=HK4.out;omega)⟩,⟨(zz2 BK182)⟩,⟨(zz3 HB GE182)⟩⟩
             ·obtain rfl:=sI H
              go_wp2
              go_ret
              exact ⟨zz6,(zz3 HB GE182)⟩
            ·have H':=A_ H
             clear H;obtain ⟨_,_,_,_,_,_⟩:=cf3 BK182;go_wp2
             go_roundg k4
             case measure=>have:=HK1.out;have:=HJ3.out;have:=HK3.out;have:=HK4.out;omega
             case rel=>exact ⟨(wrap64 ((wrap64 ((wrap64 (x3_1+(((rd_T106 l0 x4_1).f0).length:Int)))+(((rd_T106 l0 x4_1).f1).length:Int)))+1)),(wrap64 (x4_1+1)),zz1,zz1,H',⟨(by have:=HK1.out;have:=HJ3.out;have:=HK3.out;have:=HK4.out;omega)⟩,⟨(zz3 HB GE182)⟩⟩
   ·obtain rfl:=sI H
    go_wp2
    go_ret
    exact ⟨zz6,(zz0 HB)⟩
mutual
def spec_NoticeText.l0:Nat→List (S106)→ByteArray→Int→Option (ByteArray)
 | 0,_,_,_=>none
 | k+1,x0,x3,x4=>if x4 < (x0.length:Int) then (spec_NoticeText.l1 k x0 x3 x4 0) else (some x3)
def spec_NoticeText.l1:Nat→List (S106)→ByteArray→Int→Int→Option (ByteArray)
 | 0,_,_,_,_=>none
 | k+1,x0,x3,x4,x5=>if 0≤x4 then (if x4 < (x0.length:Int) then (if x5 < (((rd_T106 x0 x4).f0).length:Int) then (if x3.size+7≤9223372036854775807 then (if 0≤x5 then (if x3.size+7+(rdOf ByteArray.empty ((rd_T106 x0 x4).f0) x5).size≤9223372036854775807 then (if x3.size+7+(rdOf ByteArray.empty ((rd_T106 x0 x4).f0) x5).size+1≤9223372036854775807 then (spec_NoticeText.l1 k x0 (((x3++(⟨#[99,97,108,108,101,114,32]⟩:ByteArray))++(rdOf ByteArray.empty ((rd_T106 x0 x4).f0) x5))++(⟨#[10]⟩:ByteArray)) x4 (wrap64 (x5+1))) else (none)) else (none)) else (none)) else (none)) else (spec_NoticeText.l2 k x0 x3 x4 0)) else (none)) else (none)
def spec_NoticeText.l2:Nat→List (S106)→ByteArray→Int→Int→Option (ByteArray)
 | 0,_,_,_,_=>none
 | k+1,x0,x3,x4,x6=>if 0≤x4 then (if x4 < (x0.length:Int) then (if x6 < (((rd_T106 x0 x4).f1).length:Int) then (if 0≤x6 then (if (rd_T108 ((rd_T106 x0 x4).f1) x6).f0=true then (if x3.size+4≤9223372036854775807 then (if x3.size+4+((rd_T108 ((rd_T106 x0 x4).f1) x6).f1).size≤9223372036854775807 then (if x3.size+4+((rd_T108 ((rd_T106 x0 x4).f1) x6).f1).size+1≤9223372036854775807 then (spec_NoticeText.l2 k x0 (((x3++(⟨#[108,101,116,32]⟩:ByteArray))++((rd_T108 ((rd_T106 x0 x4).f1) x6).f1))++(⟨#[10]⟩:ByteArray)) x4 (wrap64 (x6+1))) else (none)) else (none)) else (none)) else (if x3.size+4≤9223372036854775807 then (if x3.size+4+((rd_T108 ((rd_T106 x0 x4).f1) x6).f1).size≤9223372036854775807 then (if x3.size+4+((rd_T108 ((rd_T106 x0 x4).f1) x6).f1).size+1≤9223372036854775807 then (spec_NoticeText.l2 k x0 (((x3++(⟨#[98,97,114,32]⟩:ByteArray))++((rd_T108 ((rd_T106 x0 x4).f1) x6).f1))++(⟨#[10]⟩:ByteArray)) x4 (wrap64 (x6+1))) else (none)) else (none)) else (none))) else (none)) else (if ((rd_T106 x0 x4).f2) > 0 then (if x3.size+5≤9223372036854775807 then ((spec_l6Dec.f k ((rd_T106 x0 x4).f2)).bind fun t203=>(if x3.size+5+t203.size≤9223372036854775807 then (if x3.size+5+t203.size+1≤9223372036854775807 then (spec_NoticeText.l0 k x0 (((x3++(⟨#[119,97,105,116,32]⟩:ByteArray))++t203)++(⟨#[10]⟩:ByteArray)) (wrap64 (x4+1))) else (none)) else (none))) else (none)) else (spec_NoticeText.l0 k x0 x3 (wrap64 (x4+1))))) else (none)) else (none)
end
def spec_NoticeText.f (k:Nat) (l0:List (S106)):Option (ByteArray):=(spec_NoticeOk.f k l0).bind fun t190=>(if t190=true then (spec_NoticeText.l0 k l0 (⟨#[]⟩:ByteArray) 0) else (some (⟨#[]⟩:ByteArray)))
theorem spec_NoticeText.calls (k:Nat) (A0:Option Addr) (c0:Nat) (l0:List (S106)) (r:ByteArray) (w:World) (hr0:Kd.C k106 w A0 l0.length l0) (hc0:l0.length≤c0) (h:spec_NoticeText.f k l0=some r) :
  Calls Tryz.prog 66 #[.slice A0 l0.length c0] w fun e w'=>e=.returned (.string r)∧Below w.heap.size w w':=by
 have HR0:=A_ hr0;have HC0:=A_ hc0;clear hr0 hc0;have HB:=A_ (Below.refl w.heap.size w);unfold spec_NoticeText.f at h
 have H:=h;clear h;replace H:=bindA H;obtain ⟨t190,A2,H⟩:=H;have HF3:=A_ H;clear H;go_enter Tryz.func66,Tryz.ntmps66;go_upto_if 10 with (first|(refine gR 93 (some 9) Tryz.func93 (spec_NoticeOk.calls k _ _ l0 t190 _ ?side1 ?side2 A2.out) ?_;(case side1=>exact (zz87 HR0));(case side2=>exact HC0.out);rintro w4 hb;replace HB:=A_ (bS (zz0 HB) hb);(try clear hb)))
 obtain ⟨H⟩:=HF3;replace H:=iteB H;rcases H with ⟨rfl,H⟩|⟨rfl,H⟩
 ·have H':=A_ H
  clear H;go_wp2
  go_loopg [3,4] k (fun kq v3 v4 w'=>∃ (x3_1:ByteArray) (x4_1:Int),v3=.string x3_1∧v4=.int .i64 x4_1∧Aside0 (spec_NoticeText.l0 kq l0 x3_1 x4_1=some r)∧Aside0 (kq≤k)∧Aside0 (Below w.heap.size w w'))
  case atStart=>exact ⟨((⟨#[]⟩:ByteArray)),(0),zz1,zz1,H',⟨Nat.le_refl _⟩,⟨(zz0 HB)⟩⟩
  case round=>
   clear H';obtain ⟨x3_1,x4_1,rfl,rfl,HA,HK1,HB⟩:=hrel;cases gk with
   | zero=>exact absurd HA.out (by simp [spec_NoticeText.l0])
   | succ k1=>
    obtain ⟨H⟩:=HA;simp only [spec_NoticeText.l0] at H
    replace H:=iteEd H;rcases H with ⟨c6b0,H⟩|⟨c6b0,H⟩
    ·(first|rw [c6b0]|(simp only [i64_w,i32_w];rw [c6b0])|skip)
     have H':=A_ H;clear H;go_wp2
     go_loopg [3,5] k1 (fun kq v3 v5 w'=>∃ (x3_2:ByteArray) (x5_2:Int),v3=.string x3_2∧v5=.int .i64 x5_2∧Aside0 (spec_NoticeText.l1 kq l0 x3_2 x4_1 x5_2=some r)∧Aside0 (kq≤k1)∧Aside0 (Below w.heap.size w w'))
     case atStart=>exact ⟨(x3_1),(0),zz1,zz1,H',⟨Nat.le_refl _⟩,⟨(zz0 HB)⟩⟩
     case round=>
      clear H';obtain ⟨x3_2,x5_2,rfl,rfl,HA,HK2,HB⟩:=hrel;cases gk with
      | zero=>exact absurd HA.out (by simp [spec_NoticeText.l1])
      | succ k2=>
       obtain ⟨H⟩:=HA;simp only [spec_NoticeText.l1] at H
       replace H:=iteNd H;obtain ⟨c7b0,H⟩:=H;replace H:=iteNd H;obtain ⟨c8b0,H⟩:=H;replace H:=iteEd H;rcases H with ⟨c9b0,H⟩|⟨c9b0,H⟩
       ·replace H:=iteN H
        obtain ⟨c10,H⟩:=H;have c10b0:=eq_true c10;have c10b1:=dT c10;try have c10b2:(9223372036854775807 < x3_2.size+7)=False:=eq_false (Nat.not_lt.2 c10)
        replace H:=iteNd H;obtain ⟨c11b0,H⟩:=H;replace H:=iteN H;obtain ⟨c12,H⟩:=H;have c12b0:=eq_true c12;have c12b1:=dT c12;try have c12b2:(9223372036854775807 < x3_2.size+7+(rdOf ByteArray.empty ((rd_T106 l0 x4_1).f0) x5_2).size)=False:=eq_false (Nat.not_lt.2 c12)
        replace H:=iteN H;obtain ⟨c13,H⟩:=H;have c13b0:=eq_true c13;have c13b1:=dT c13;try have c13b2:(9223372036854775807 < x3_2.size+7+(rdOf ByteArray.empty ((rd_T106 l0 x4_1).f0) x5_2).size+1)=False:=eq_false (Nat.not_lt.2 c13)
        have H':=A_ H;clear H;obtain ⟨⟨ad191,A191_0,c191_0,A191_1,c191_1,e191,hx191_0,hx191_1,hx191_2,hl191_0,hi191_0,hl191_1,hi191_1⟩,p191,q191⟩:=atB (at_T106 HR0.out x4_1);cases e191
        obtain ⟨hx191_0,hx191_1,hx191_2⟩:=cb3 HB hx191_0 hx191_1 hx191_2;have HR191_0:=A_ hi191_0;have HC191_0:=A_ hl191_0;clear hi191_0 hl191_0;have HR191_1:=A_ hi191_1;have HC191_1:=A_ hl191_1;clear hi191_1 hl191_1;obtain ⟨⟨ad192,A192_0,c192_0,A192_1,c192_1,e192,hx192_0,hx192_1,hx192_2,hl192_0,hi192_0,hl192_1,hi192_1⟩,p192,q192⟩:=atB (at_T106 HR0.out x4_1);obtain rfl:ad191=ad192:=(by injection e192);obtain ⟨hx192_0,hx192_1,hx192_2⟩:=cb3 HB hx192_0 hx192_1 hx192_2;have HR192_0:=A_ hi192_0;have HC192_0:=A_ hl192_0;clear hi192_0 hl192_0;have HR192_1:=A_ hi192_1;have HC192_1:=A_ hl192_1;clear hi192_1 hl192_1;have ea_:=sI (hx191_0.symm.trans hx192_0);injection ea_ with ea_ en_ ec_
        subst ea_;subst ec_;clear en_;have ea_:=sI (hx191_1.symm.trans hx192_1);injection ea_ with ea_ en_ ec_
        subst ea_;subst ec_;clear en_;obtain ⟨⟨ad193,e193,hx193_0⟩,p193,q193⟩:=atB (Kd.at_string HR192_0.out x5_2);cases e193
        replace hx193_0:=cbl HB hx193_0;go_wp2
        go_roundg k2
        case measure=>have:=HK1.out;have:=HK2.out;omega
        case rel=>exact ⟨(((x3_2++(⟨#[99,97,108,108,101,114,32]⟩:ByteArray))++(rdOf ByteArray.empty ((rd_T106 l0 x4_1).f0) x5_2))++(⟨#[10]⟩:ByteArray)),(wrap64 (x5_2+1)),zz1,zz1,H',⟨(zz19 HK1 HK2)⟩,⟨(zz0 HB)⟩⟩
       ·have H':=A_ H
        clear H;obtain ⟨⟨ad191,A191_0,c191_0,A191_1,c191_1,e191,hx191_0,hx191_1,hx191_2,hl191_0,hi191_0,hl191_1,hi191_1⟩,p191,q191⟩:=atB (at_T106 HR0.out x4_1);cases e191
        obtain ⟨hx191_0,hx191_1,hx191_2⟩:=cb3 HB hx191_0 hx191_1 hx191_2;have HR191_0:=A_ hi191_0;have HC191_0:=A_ hl191_0;clear hi191_0 hl191_0;have HR191_1:=A_ hi191_1;have HC191_1:=A_ hl191_1;clear hi191_1 hl191_1;go_wp2
        go_loopg [3,6] k2 (fun kq v3 v6 w'=>∃ (x3_3:ByteArray) (x6_3:Int),v3=.string x3_3∧v6=.int .i64 x6_3∧Aside0 (spec_NoticeText.l2 kq l0 x3_3 x4_1 x6_3=some r)∧Aside0 (kq≤k2)∧Aside0 (Below w.heap.size w w'))
        case atStart=>exact ⟨(x3_2),(0),zz1,zz1,H',⟨Nat.le_refl _⟩,⟨(zz0 HB)⟩⟩
        case round=>
         clear H';obtain ⟨x3_3,x6_3,rfl,rfl,HA,HK3,HB⟩:=hrel;cases gk with
         | zero=>exact absurd HA.out (by simp [spec_NoticeText.l2])
         | succ k3=>
          obtain ⟨H⟩:=HA;simp only [spec_NoticeText.l2] at H
          replace H:=iteNd H;obtain ⟨c14b0,H⟩:=H;replace H:=iteNd H;obtain ⟨c15b0,H⟩:=H;replace H:=iteEd H;rcases H with ⟨c16b0,H⟩|⟨c16b0,H⟩
          ·replace H:=iteNd H
           obtain ⟨c17b0,H⟩:=H;obtain ⟨bq18,hbq18⟩:∃ b_:Bool,b_=((rd_T108 ((rd_T106 l0 x4_1).f1) x6_3).f0):=⟨_,rfl⟩;rw [← hbq18] at H;have Nbq18:=A_ hbq18;clear hbq18;replace H:=iteB H;rcases H with ⟨rfl,H⟩|⟨rfl,H⟩
           ·replace H:=iteN H
            obtain ⟨c20,H⟩:=H;have c20b0:=eq_true c20;have c20b1:=dT c20;try have c20b2:(9223372036854775807 < x3_3.size+4)=False:=eq_false (Nat.not_lt.2 c20)
            replace H:=iteN H;obtain ⟨c21,H⟩:=H;have c21b0:=eq_true c21;have c21b1:=dT c21;try have c21b2:(9223372036854775807 < x3_3.size+4+((rd_T108 ((rd_T106 l0 x4_1).f1) x6_3).f1).size)=False:=eq_false (Nat.not_lt.2 c21)
            replace H:=iteN H;obtain ⟨c22,H⟩:=H;have c22b0:=eq_true c22;have c22b1:=dT c22;try have c22b2:(9223372036854775807 < x3_3.size+4+((rd_T108 ((rd_T106 l0 x4_1).f1) x6_3).f1).size+1)=False:=eq_false (Nat.not_lt.2 c22)
            have H':=A_ H;clear H;obtain ⟨⟨ad194,A194_0,c194_0,A194_1,c194_1,e194,hx194_0,hx194_1,hx194_2,hl194_0,hi194_0,hl194_1,hi194_1⟩,p194,q194⟩:=atB (at_T106 HR0.out x4_1);obtain rfl:ad191=ad194:=(by injection e194);obtain ⟨hx194_0,hx194_1,hx194_2⟩:=cb3 HB hx194_0 hx194_1 hx194_2;have HR194_0:=A_ hi194_0;have HC194_0:=A_ hl194_0;clear hi194_0 hl194_0;have HR194_1:=A_ hi194_1;have HC194_1:=A_ hl194_1;clear hi194_1 hl194_1;obtain ⟨⟨ad195,A195_0,c195_0,A195_1,c195_1,e195,hx195_0,hx195_1,hx195_2,hl195_0,hi195_0,hl195_1,hi195_1⟩,p195,q195⟩:=atB (at_T106 HR0.out x4_1);obtain rfl:ad191=ad195:=(by injection e195);obtain ⟨hx195_0,hx195_1,hx195_2⟩:=cb3 HB hx195_0 hx195_1 hx195_2;have HR195_0:=A_ hi195_0;have HC195_0:=A_ hl195_0;clear hi195_0 hl195_0;have HR195_1:=A_ hi195_1;have HC195_1:=A_ hl195_1;clear hi195_1 hl195_1;have ea_:=sI (hx194_0.symm.trans hx195_0);injection ea_ with ea_ en_ ec_
            subst ea_;subst ec_;clear en_;have ea_:=sI (hx194_1.symm.trans hx195_1);injection ea_ with ea_ en_ ec_
            subst ea_;subst ec_;clear en_;obtain ⟨⟨ad196,e196,hx196_0,hx196_1⟩,p196,q196⟩:=atB (at_T108 HR195_1.out x6_3);(try rw [← Nbq18.out] at hx196_0)
            cases e196
            obtain ⟨hx196_0,hx196_1⟩:=cb2 HB hx196_0 hx196_1;obtain ⟨⟨ad197,A197_0,c197_0,A197_1,c197_1,e197,hx197_0,hx197_1,hx197_2,hl197_0,hi197_0,hl197_1,hi197_1⟩,p197,q197⟩:=atB (at_T106 HR0.out x4_1);obtain rfl:ad191=ad197:=(by injection e197);obtain ⟨hx197_0,hx197_1,hx197_2⟩:=cb3 HB hx197_0 hx197_1 hx197_2;have HR197_0:=A_ hi197_0;have HC197_0:=A_ hl197_0;clear hi197_0 hl197_0;have HR197_1:=A_ hi197_1;have HC197_1:=A_ hl197_1;clear hi197_1 hl197_1;have ea_:=sI (hx194_0.symm.trans hx197_0);injection ea_ with ea_ en_ ec_
            subst ea_;subst ec_;clear en_;have ea_:=sI (hx194_1.symm.trans hx197_1);injection ea_ with ea_ en_ ec_
            subst ea_;subst ec_;clear en_;obtain ⟨⟨ad198,e198,hx198_0,hx198_1⟩,p198,q198⟩:=atB (at_T108 HR197_1.out x6_3);(try rw [← Nbq18.out] at hx198_0)
            cases e198
            obtain ⟨hx198_0,hx198_1⟩:=cb2 HB hx198_0 hx198_1;go_wp2
            go_roundg k3
            case measure=>have:=HK1.out;have:=HK2.out;have:=HK3.out;omega
            case rel=>exact ⟨(((x3_3++(⟨#[108,101,116,32]⟩:ByteArray))++((rd_T108 ((rd_T106 l0 x4_1).f1) x6_3).f1))++(⟨#[10]⟩:ByteArray)),(wrap64 (x6_3+1)),zz1,zz1,H',⟨(zz63 HK1 HK2 HK3)⟩,⟨(zz0 HB)⟩⟩
           ·replace H:=iteN H
            obtain ⟨c23,H⟩:=H;have c23b0:=eq_true c23;have c23b1:=dT c23;try have c23b2:(9223372036854775807 < x3_3.size+4)=False:=eq_false (Nat.not_lt.2 c23)
            replace H:=iteN H;obtain ⟨c24,H⟩:=H;have c24b0:=eq_true c24;have c24b1:=dT c24;try have c24b2:(9223372036854775807 < x3_3.size+4+((rd_T108 ((rd_T106 l0 x4_1).f1) x6_3).f1).size)=False:=eq_false (Nat.not_lt.2 c24)
            replace H:=iteN H;obtain ⟨c25,H⟩:=H;have c25b0:=eq_true c25;have c25b1:=dT c25;try have c25b2:(9223372036854775807 < x3_3.size+4+((rd_T108 ((rd_T106 l0 x4_1).f1) x6_3).f1).size+1)=False:=eq_false (Nat.not_lt.2 c25)
            have H':=A_ H;clear H;obtain ⟨⟨ad194,A194_0,c194_0,A194_1,c194_1,e194,hx194_0,hx194_1,hx194_2,hl194_0,hi194_0,hl194_1,hi194_1⟩,p194,q194⟩:=atB (at_T106 HR0.out x4_1);obtain rfl:ad191=ad194:=(by injection e194);obtain ⟨hx194_0,hx194_1,hx194_2⟩:=cb3 HB hx194_0 hx194_1 hx194_2;have HR194_0:=A_ hi194_0;have HC194_0:=A_ hl194_0;clear hi194_0 hl194_0;have HR194_1:=A_ hi194_1;have HC194_1:=A_ hl194_1;clear hi194_1 hl194_1;obtain ⟨⟨ad195,A195_0,c195_0,A195_1,c195_1,e195,hx195_0,hx195_1,hx195_2,hl195_0,hi195_0,hl195_1,hi195_1⟩,p195,q195⟩:=atB (at_T106 HR0.out x4_1);obtain rfl:ad191=ad195:=(by injection e195);obtain ⟨hx195_0,hx195_1,hx195_2⟩:=cb3 HB hx195_0 hx195_1 hx195_2;have HR195_0:=A_ hi195_0;have HC195_0:=A_ hl195_0;clear hi195_0 hl195_0;have HR195_1:=A_ hi195_1;have HC195_1:=A_ hl195_1;clear hi195_1 hl195_1;have ea_:=sI (hx194_0.symm.trans hx195_0);injection ea_ with ea_ en_ ec_
            subst ea_;subst ec_;clear en_;have ea_:=sI (hx194_1.symm.trans hx195_1);injection ea_ with ea_ en_ ec_
            subst ea_;subst ec_;clear en_;obtain ⟨⟨ad196,e196,hx196_0,hx196_1⟩,p196,q196⟩:=atB (at_T108 HR195_1.out x6_3);(try rw [← Nbq18.out] at hx196_0)
            cases e196
            obtain ⟨hx196_0,hx196_1⟩:=cb2 HB hx196_0 hx196_1;obtain ⟨⟨ad199,A199_0,c199_0,A199_1,c199_1,e199,hx199_0,hx199_1,hx199_2,hl199_0,hi199_0,hl199_1,hi199_1⟩,p199,q199⟩:=atB (at_T106 HR0.out x4_1);obtain rfl:ad191=ad199:=(by injection e199);obtain ⟨hx199_0,hx199_1,hx199_2⟩:=cb3 HB hx199_0 hx199_1 hx199_2;have HR199_0:=A_ hi199_0;have HC199_0:=A_ hl199_0;clear hi199_0 hl199_0;have HR199_1:=A_ hi199_1;have HC199_1:=A_ hl199_1;clear hi199_1 hl199_1;have ea_:=sI (hx194_0.symm.trans hx199_0);injection ea_ with ea_ en_ ec_
            subst ea_;subst ec_;clear en_;have ea_:=sI (hx194_1.symm.trans hx199_1);injection ea_ with ea_ en_ ec_
            subst ea_;subst ec_;clear en_;obtain ⟨⟨ad200,e200,hx200_0,hx200_1⟩,p200,q200⟩:=atB (at_T108 HR199_1.out x6_3);(try rw [← Nbq18.out] at hx200_0)
            cases e200
            obtain ⟨hx200_0,hx200_1⟩:=cb2 HB hx200_0 hx200_1;go_wp2
            go_roundg k3
            case measure=>have:=HK1.out;have:=HK2.out;have:=HK3.out;omega
            case rel=>exact ⟨(((x3_3++(⟨#[98,97,114,32]⟩:ByteArray))++((rd_T108 ((rd_T106 l0 x4_1).f1) x6_3).f1))++(⟨#[10]⟩:ByteArray)),(wrap64 (x6_3+1)),zz1,zz1,H',⟨(zz63 HK1 HK2 HK3)⟩,⟨(zz0 HB)⟩⟩
          ·replace H:=iteEg H
           rcases H with ⟨c26b0,H⟩|⟨c26b0,H⟩
           ·replace H:=iteN H
            obtain ⟨c27,H⟩:=H;have c27b0:=eq_true c27;have c27b1:=dT c27;try have c27b2:(9223372036854775807 < x3_3.size+5)=False:=eq_false (Nat.not_lt.2 c27)
            replace H:=bindA H;obtain ⟨t203,A28,H⟩:=H;replace H:=iteN H;obtain ⟨c29,H⟩:=H;have c29b0:=eq_true c29;have c29b1:=dT c29;try have c29b2:(9223372036854775807 < x3_3.size+5+t203.size)=False:=eq_false (Nat.not_lt.2 c29)
            replace H:=iteN H;obtain ⟨c30,H⟩:=H;have c30b0:=eq_true c30;have c30b1:=dT c30;try have c30b2:(9223372036854775807 < x3_3.size+5+t203.size+1)=False:=eq_false (Nat.not_lt.2 c30)
            have H':=A_ H;clear H;obtain ⟨⟨ad194,A194_0,c194_0,A194_1,c194_1,e194,hx194_0,hx194_1,hx194_2,hl194_0,hi194_0,hl194_1,hi194_1⟩,p194,q194⟩:=atB (at_T106 HR0.out x4_1);obtain rfl:ad191=ad194:=(by injection e194);obtain ⟨hx194_0,hx194_1,hx194_2⟩:=cb3 HB hx194_0 hx194_1 hx194_2;have HR194_0:=A_ hi194_0;have HC194_0:=A_ hl194_0;clear hi194_0 hl194_0;have HR194_1:=A_ hi194_1;have HC194_1:=A_ hl194_1;clear hi194_1 hl194_1;obtain ⟨⟨ad201,A201_0,c201_0,A201_1,c201_1,e201,hx201_0,hx201_1,hx201_2,hl201_0,hi201_0,hl201_1,hi201_1⟩,p201,q201⟩:=atB (at_T106 HR0.out x4_1);obtain rfl:ad191=ad201:=(by injection e201);obtain ⟨hx201_0,hx201_1,hx201_2⟩:=cb3 HB hx201_0 hx201_1 hx201_2;have HR201_0:=A_ hi201_0;have HC201_0:=A_ hl201_0;clear hi201_0 hl201_0;have HR201_1:=A_ hi201_1;have HC201_1:=A_ hl201_1;clear hi201_1 hl201_1;have ea_:=sI (hx194_0.symm.trans hx201_0);injection ea_ with ea_ en_ ec_
            subst ea_;subst ec_;clear en_;have ea_:=sI (hx194_1.symm.trans hx201_1);injection ea_ with ea_ en_ ec_
            subst ea_;subst ec_;clear en_;obtain ⟨⟨ad202,A202_0,c202_0,A202_1,c202_1,e202,hx202_0,hx202_1,hx202_2,hl202_0,hi202_0,hl202_1,hi202_1⟩,p202,q202⟩:=atB (at_T106 HR0.out x4_1);obtain rfl:ad191=ad202:=(by injection e202);obtain ⟨hx202_0,hx202_1,hx202_2⟩:=cb3 HB hx202_0 hx202_1 hx202_2;have HR202_0:=A_ hi202_0;have HC202_0:=A_ hl202_0;clear hi202_0 hl202_0;have HR202_1:=A_ hi202_1;have HC202_1:=A_ hl202_1;clear hi202_1 hl202_1;have ea_:=sI (hx194_0.symm.trans hx202_0);injection ea_ with ea_ en_ ec_
            subst ea_;subst ec_;clear en_;have ea_:=sI (hx194_1.symm.trans hx202_1);injection ea_ with ea_ en_ ec_
            subst ea_;subst ec_;clear en_;go_wp2_with (first|(refine gR 42 (some 85) Tryz.func42 (spec_l6Dec.calls k3 ((rd_T106 l0 x4_1).f2) t203 _ A28.out) ?_;rintro w31 hb;replace HB:=A_ (bS (zz0 HB) hb);(try clear hb)))
            go_roundg k3
            case measure=>have:=HK1.out;have:=HK2.out;have:=HK3.out;omega
            case rel=>exact ⟨(((x3_3++(⟨#[119,97,105,116,32]⟩:ByteArray))++t203)++(⟨#[10]⟩:ByteArray)),(wrap64 (x4_1+1)),zz1,zz1,H',⟨(zz63 HK1 HK2 HK3)⟩,⟨(zz0 HB)⟩⟩
           ·have H':=A_ H
            clear H;obtain ⟨⟨ad194,A194_0,c194_0,A194_1,c194_1,e194,hx194_0,hx194_1,hx194_2,hl194_0,hi194_0,hl194_1,hi194_1⟩,p194,q194⟩:=atB (at_T106 HR0.out x4_1);obtain rfl:ad191=ad194:=(by injection e194);obtain ⟨hx194_0,hx194_1,hx194_2⟩:=cb3 HB hx194_0 hx194_1 hx194_2;have HR194_0:=A_ hi194_0;have HC194_0:=A_ hl194_0;clear hi194_0 hl194_0;have HR194_1:=A_ hi194_1;have HC194_1:=A_ hl194_1;clear hi194_1 hl194_1;obtain ⟨⟨ad201,A201_0,c201_0,A201_1,c201_1,e201,hx201_0,hx201_1,hx201_2,hl201_0,hi201_0,hl201_1,hi201_1⟩,p201,q201⟩:=atB (at_T106 HR0.out x4_1);obtain rfl:ad191=ad201:=(by injection e201);obtain ⟨hx201_0,hx201_1,hx201_2⟩:=cb3 HB hx201_0 hx201_1 hx201_2;have HR201_0:=A_ hi201_0;have HC201_0:=A_ hl201_0;clear hi201_0 hl201_0;have HR201_1:=A_ hi201_1;have HC201_1:=A_ hl201_1;clear hi201_1 hl201_1;have ea_:=sI (hx194_0.symm.trans hx201_0);injection ea_ with ea_ en_ ec_
            subst ea_;subst ec_;clear en_;have ea_:=sI (hx194_1.symm.trans hx201_1);injection ea_ with ea_ en_ ec_
            subst ea_;subst ec_;clear en_;go_wp2
            go_roundg k3
            case measure=>have:=HK1.out;have:=HK2.out;have:=HK3.out;omega
            case rel=>exact ⟨(x3_3),(wrap64 (x4_1+1)),zz1,zz1,H',⟨(zz63 HK1 HK2 HK3)⟩,⟨(zz0 HB)⟩⟩
    ·(first|rw [c6b0]|(simp only [i64_w,i32_w];rw [c6b0])|skip)
     obtain rfl:=sI H;go_wp2
     go_ret
     exact ⟨zz6,(zz0 HB)⟩
 ·obtain rfl:=sI H
  go_wp2
  go_ret
  exact ⟨zz6,(zz0 HB)⟩
def spec_PageBase.l0:Nat→List ByteArray→Int→Option (ByteArray×Bool)
 | 0,_,_=>none
 | k+1,x4,x5=>if x5 < (x4.length:Int) then (if 0≤x5 then ((spec_l3Head.f (rdOf ByteArray.empty x4 x5)).bind fun t850=>(if t850=64 then (if 1≤((rdOf ByteArray.empty x4 x5).size:Int) then (some ((rdOf ByteArray.empty x4 x5).extract 1 (rdOf ByteArray.empty x4 x5).size,true)) else (none)) else (spec_PageBase.l0 k x4 (wrap64 (x5+1))))) else (none)) else (some ((⟨#[]⟩:ByteArray),false))
def spec_PageBase.f (k:Nat) (a0:ByteArray):Option (ByteArray×Bool):=(spec_l3Marks.f k a0).bind fun t846=>(spec_PageBase.l0 k t846 0)
theorem spec_PageBase.mono_l:∀ k,(∀ y0 y1,LeO (spec_PageBase.l0 k y0 y1) (spec_PageBase.l0 (k+1) y0 y1))
 | 0=>by intros;intro r h;simp [spec_PageBase.l0] at h
 | k+1=>by
  have ih0:=spec_PageBase.mono_l k;intros;unfold spec_PageBase.l0;repeat' first|(with_reducible first|exact ih0 _ _|exact spec_l3Marks.mono _ _|exact LeO.refl _|exact LeO.none _|refine LeO.ite ?_ ?_|refine LeO.bind ?_ (fun _=>?_))|exact LeO.none _|refine LeO.ite ?_ ?_|refine LeO.bind ?_ (fun _=>?_)
theorem spec_PageBase.calls (k:Nat) (a0:ByteArray) (r1:ByteArray) (r2:Bool) (w:World) (h:spec_PageBase.f k a0=some (r1,r2)) :
  Calls Tryz.prog 74 #[.string a0] w fun e w'=>e=.returned (.tuple #[.string r1,.bool r2])∧Below w.heap.size w w':=by
 have HB:=A_ (Below.refl w.heap.size w);unfold spec_PageBase.f at h
 have H:=h;clear h;replace H:=bindA H;obtain ⟨t846,A2,H⟩:=H;have H':=A_ H;clear H;go_enter Tryz.func74,Tryz.ntmps74;go_wp2_with (first|(refine gV 101 (some 7) Tryz.func101 (spec_l3Marks.calls k a0 t846 _ A2.out) ?_;rintro v847 w3 ⟨ho0,hb⟩;have HO848:=A_ (Kd.R_lower ho0 (below_size (zz0 HB)));replace HB:=A_ (bS (zz0 HB) hb);(try clear hb ho0)))
 go_loopg [5] k (fun kq v5 w'=>∃ (x5_1:Int),v5=.int .i64 x5_1∧Aside0 (spec_PageBase.l0 kq t846 x5_1=some (r1,r2))∧Aside0 (kq≤k)∧Aside0 (Kd.R Kd.string 9 w' w.heap.size (fun _=>True) v847 t846)∧Aside0 (Below w.heap.size w w'))
 case atStart=>exact ⟨(0),zz1,H',⟨Nat.le_refl _⟩,⟨(zz15 HO848)⟩,⟨(zz0 HB)⟩⟩
 case round=>
  clear H';obtain ⟨x5_1,rfl,HA,HK1,HO_4,HB⟩:=hrel;cases gk with
  | zero=>exact absurd HA.out (by simp [spec_PageBase.l0])
  | succ k1=>
   obtain ⟨H⟩:=HA;simp only [spec_PageBase.l0] at H
   replace H:=iteEd H;rcases H with ⟨c4b0,H⟩|⟨c4b0,H⟩
   ·replace H:=iteNd H
    obtain ⟨c5b0,H⟩:=H;replace H:=bindA H;obtain ⟨t850,A6,H⟩:=H;have HF7:=A_ H;clear H;obtain ⟨Ao8,co8,eo8⟩:=Kd.R_slice HO_4.out;subst eo8;obtain ⟨⟨ad849,e849,hx849_0⟩,p849,q849⟩:=atB (Kd.at_string (Kd.R_reads' HO_4.out).2.2 x5_1);cases e849
    go_upto_if 19 with (first|(refine gR 102 (some 18) Tryz.func102 (spec_l3Head.calls (rdOf ByteArray.empty t846 x5_1) t850 _ A6.out) ?_;rintro w' ⟨nd,rfl⟩))
    obtain ⟨H⟩:=HF7;replace H:=iteEq H;rcases H with ⟨c9b0,c9b1,H⟩|⟨c9b0,c9b1,c9,H⟩
    ·(first|rw [c9b0]|(simp only [i64_w,i32_w];rw [c9b0])|skip)
     replace H:=iteN H;obtain ⟨c10,H⟩:=H;have c10b0:=eq_true c10;have c10b1:=dT c10;clear c10;simp only [Option.some.injEq,Prod.mk.injEq] at H
     obtain ⟨rfl,rfl⟩:=H;obtain ⟨⟨ad851,e851,hx851_0⟩,p851,q851⟩:=atB (Kd.at_string (Kd.R_reads' HO_4.out).2.2 x5_1);obtain rfl:ad849=ad851:=(by injection e851);go_wp2
     go_ret2
     exact ⟨zz6,(zz0 HB)⟩
    ·(first|rw [c9b0]|(simp only [i64_w,i32_w];rw [c9b0])|skip)
     have H':=A_ H;clear H;go_wp2
     go_roundg k1
     case measure=>have:=HK1.out;omega
     case rel=>exact ⟨(wrap64 (x5_1+1)),zz1,H',⟨(zz5 HK1)⟩,⟨(zz15 HO_4)⟩,⟨(zz0 HB)⟩⟩
   ·simp only [Option.some.injEq,Prod.mk.injEq] at H
    obtain ⟨rfl,rfl⟩:=H;obtain ⟨Ao11,co11,eo11⟩:=Kd.R_slice HO_4.out;subst eo11;go_wp2
    go_ret2
    exact ⟨zz6,(zz0 HB)⟩
def spec_PageLinks.l0:Nat→List ByteArray→List ByteArray→Int→Option (List ByteArray)
 | 0,_,_,_=>none
 | k+1,x3,x4,x5=>if x5 < (x3.length:Int) then (if 0≤x5 then ((spec_l3Head.f (rdOf ByteArray.empty x3 x5)).bind fun t914=>(if t914=33 then (spec_PageLinks.l0 k x3 x4 (wrap64 (x5+1))) else ((spec_l3Head.f (rdOf ByteArray.empty x3 x5)).bind fun t916=>(if t916=64 then (spec_PageLinks.l0 k x3 x4 (wrap64 (x5+1))) else (if x4.length < 8796093022208 then (spec_PageLinks.l0 k x3 (x4++[rdOf ByteArray.empty x3 x5]) (wrap64 (x5+1))) else (none)))))) else (none)) else (some x4)
def spec_PageLinks.f (k:Nat) (a0:ByteArray):Option (List ByteArray):=(spec_l3Marks.f k a0).bind fun t907=>(spec_PageLinks.l0 k t907 (([]:List ByteArray)) 0)
theorem spec_PageLinks.mono_l:∀ k,(∀ y0 y1 y2,LeO (spec_PageLinks.l0 k y0 y1 y2) (spec_PageLinks.l0 (k+1) y0 y1 y2))
 | 0=>by intros;intro r h;simp [spec_PageLinks.l0] at h
 | k+1=>by
  have ih0:=spec_PageLinks.mono_l k;intros;unfold spec_PageLinks.l0;repeat' first|(with_reducible first|exact ih0 _ _ _|exact spec_l3Marks.mono _ _|exact LeO.refl _|exact LeO.none _|refine LeO.ite ?_ ?_|refine LeO.bind ?_ (fun _=>?_))|exact LeO.none _|refine LeO.ite ?_ ?_|refine LeO.bind ?_ (fun _=>?_)
theorem spec_PageLinks.calls (k:Nat) (a0:ByteArray) (r:List ByteArray) (w:World) (h:spec_PageLinks.f k a0=some r) :
  Calls Tryz.prog 76 #[.string a0] w fun e w'=>∃ v0_:Value,e=.returned (v0_)∧Kd.R Kd.string 9 w' w.heap.size (fun _=>True) v0_ r∧Below w.heap.size w w':=by
 have HB:=A_ (Below.refl w.heap.size w);unfold spec_PageLinks.f at h
 have H:=h;clear h;replace H:=bindA H;obtain ⟨t907,A2,H⟩:=H;obtain ⟨y910,Ny910⟩:=toY (([]:List ByteArray));(first|with_reducible replace H:=bindZ Ny910 H|rw [← Ny910.out] at H|skip)
 have H':=A_ H;clear H;go_enter Tryz.func76,Tryz.ntmps76;go_wp2_with (first|(refine gV 101 (some 7) Tryz.func101 (spec_l3Marks.calls k a0 t907 _ A2.out) ?_;rintro v908 w3 ⟨ho0,hb⟩;have HO909:=A_ (Kd.R_lower ho0 (below_size (zz0 HB)));replace HB:=A_ (bS (zz0 HB) hb);(try clear hb ho0))|((with_reducible refine gD (N:=8) rfl ?_);refine Kd.R_lit Kd.string _ 9 ?hg (N:=8) ?hd (xs:=([]:List ByteArray)) (inner:=[]) (ok:=fun _=>True) (okp:=fun _=>True) ?hr ?hp (fun _ hk=>hk) trivial (Below.refl _ _) (Nat.le_refl _) (by simp) ?_;(case hd=>rfl);(case hg=>rfl);(case hr=>exact zz14);(case hp=>exact (Reps.none _ _));intro v911 w4 ho5 hb hg_ hnew_;clear hg_ hnew_;(first|rw [← Ny910.out] at ho5|(simp only [Int.reduceToNat] at ho5;rw [← Ny910.out] at ho5));have HO912:=A_ (Kd.R_lower (Kd.R_new' ho5 (Kd.R_lt (zz15 HO909))) (below_size (zz0 HB)));replace HO909:=A_ (Kd.R_elder' (zz15 HO909) (Kd.R_base ho5) hb);replace HB:=A_ (bS (zz0 HB) hb);clear hb ho5))
 go_loopg [4,5] k (fun kq v4 v5 w'=>∃ (x4_1:List ByteArray) (x5_1:Int),v5=.int .i64 x5_1∧Aside0 (spec_PageLinks.l0 kq t907 x4_1 x5_1=some r)∧Aside0 (kq≤k)∧Aside0 (Kd.R Kd.string 9 w' w.heap.size (fun k_=>some k_≠(v4:Value).ownBlock) v908 t907)∧Aside0 (Kd.R Kd.string 9 w' w.heap.size (fun k_=>some k_≠(v908:Value).ownBlock) v4 x4_1)∧Aside0 (Below w.heap.size w w'))
 case atStart=>exact ⟨(y910),(0),zz1,H',⟨Nat.le_refl _⟩,⟨(zz92 HO909)⟩,⟨(zz92 HO912)⟩,⟨(zz0 HB)⟩⟩
 case round=>
  clear H';obtain ⟨x4_1,x5_1,rfl,HA,HK1,HO_3,HO_4,HB⟩:=hrel;cases gk with
  | zero=>exact absurd HA.out (by simp [spec_PageLinks.l0])
  | succ k1=>
   obtain ⟨H⟩:=HA;simp only [spec_PageLinks.l0] at H
   replace H:=iteEd H;rcases H with ⟨c6b0,H⟩|⟨c6b0,H⟩
   ·replace H:=iteNd H
    obtain ⟨c7b0,H⟩:=H;replace H:=bindA H;obtain ⟨t914,A8,H⟩:=H;have HF9:=A_ H;clear H;obtain ⟨Ao10,co10,eo10⟩:=Kd.R_slice HO_3.out;subst eo10;obtain ⟨⟨ad913,e913,hx913_0⟩,p913,q913⟩:=atB (Kd.at_string (Kd.R_reads' HO_3.out).2.2 x5_1);cases e913
    go_wp2_with (first|(refine gR 102 (some 19) Tryz.func102 (spec_l3Head.calls (rdOf ByteArray.empty t907 x5_1) t914 _ A8.out) ?_;rintro w' ⟨nd,rfl⟩)|((with_reducible refine atG ?_ ?_ fun K_ hK_=>?_);rfl;exact undecG)|((with_reducible refine atI ?_ fun K_ hK_=>?_);exact undecI))
    refine unG hK_ ?_;clear hK_ K_;obtain ⟨H⟩:=HF9;replace H:=iteE H;rcases H with ⟨c11,H⟩|⟨c11,H⟩
    ·obtain ⟨c11b0,c11b1⟩:=eqT c11
     (first|refine iteT ?_|refine iteF ?_|skip)
     clear c11;(first|rw [c11b0]|(simp only [i64_w,i32_w];rw [c11b0])|skip)
     have H':=A_ H;clear H;(try ((with_reducible refine upS ?_);go_simp))
     go_wp2
     go_roundg k1
     case measure=>have:=HK1.out;omega
     case rel=>exact ⟨(x4_1),(wrap64 (x5_1+1)),zz1,H',⟨(zz5 HK1)⟩,⟨(zz15 HO_3)⟩,⟨(zz15 HO_4)⟩,⟨(zz0 HB)⟩⟩
    ·obtain ⟨c11b0,c11b1⟩:=eqF c11
     (first|refine iteT ?_|refine iteF ?_|skip)
     (first|rw [c11b0]|(simp only [i64_w,i32_w];rw [c11b0])|skip)
     replace H:=bindA H;obtain ⟨t916,A12,H⟩:=H;have HF13:=A_ H;clear H;obtain ⟨⟨ad915,e915,hx915_0⟩,p915,q915⟩:=atB (Kd.at_string (Kd.R_reads' HO_3.out).2.2 x5_1);obtain rfl:ad913=ad915:=(by injection e915);(try ((with_reducible refine upS ?_);go_simp))
     go_upto_if 28 with (first|(go_at_call 102;(with_reducible refine (spec_l3Head.calls (rdOf ByteArray.empty t907 x5_1) t916 _ A12.out).mono ?_);rintro e w' ⟨rfl,⟨nd,rfl⟩⟩))
     obtain ⟨H⟩:=HF13;replace H:=iteEq H;rcases H with ⟨c14b0,c14b1,H⟩|⟨c14b0,c14b1,c14,H⟩
     ·(first|rw [c14b0]|(simp only [i64_w,i32_w];rw [c14b0])|skip)
      have H':=A_ H;clear H;go_wp2
      go_roundg k1
      case measure=>have:=HK1.out;omega
      case rel=>exact ⟨(x4_1),(wrap64 (x5_1+1)),zz1,H',⟨(zz5 HK1)⟩,⟨(zz15 HO_3)⟩,⟨(zz15 HO_4)⟩,⟨(zz0 HB)⟩⟩
     ·(first|rw [c14b0]|(simp only [i64_w,i32_w];rw [c14b0])|skip)
      replace H:=iteN H;obtain ⟨c15,H⟩:=H;have LMc15:=A_ c15;clear c15;obtain ⟨y918,Ny918⟩:=toY (x4_1++[rdOf ByteArray.empty t907 x5_1]);(first|with_reducible replace H:=bindZ Ny918 H|rw [← Ny918.out] at H|skip)
      have H':=A_ H;clear H;obtain ⟨⟨ad917,e917,hx917_0⟩,p917,q917⟩:=atB (Kd.at_string (Kd.R_reads' HO_3.out).2.2 x5_1);obtain rfl:ad913=ad917:=(by injection e917);go_wp2_with (first|((with_reducible refine gate_builtin (b:=.append) (xs:=#[.tmp 29,.tmp 34]) rfl ?_);at_builtin;refine Kd.R_append Kd.string (w0:=w) w.heap.size rfl (.tmp 29) (.tmp 34) 35 9 (.string ⟨#[]⟩) 16 rfl Tryz.underlying35 info9 rfl (by decide) (by omega) u4 x4_1 (rdOf ByteArray.empty t907 x5_1) [.string (rdOf ByteArray.empty t907 x5_1)] (fun k_=>some k_≠(.slice (some ad913) t907.length co10:Value).ownBlock) (fun _=>False) rfl rfl ?aP (fun _ hk=>hk.elim) ?aF ?aO ?aB ?aS ?aL ?_;(case aP=>exact rfl);(case aB=>exact (zz0 HB));(case aF=>exact (fun k_ hk=>Kd.fresh' (Kd.R_lt (zz15 HO_3)) k_ hk));(case aO=>exact (zz15 HO_4));(case aS=>exact (below_size (zz0 HB)));(case aL=>exact (zz5 LMc15));intro v919 w16 ho hb hg hat;rw [← Ny918.out] at ho;replace HO_3:=A_ (Kd.R_after (ok:=(fun _=>True)) (zz94 HO_3) hg hat);replace HB:=A_ (hb);have HO920:=A_ (ho);clear HO_4;clear ho hb hg hat))
      go_roundg k1
      case measure=>have:=HK1.out;omega
      case rel=>exact ⟨(y918),(wrap64 (x5_1+1)),zz1,H',⟨(zz5 HK1)⟩,⟨(zz92 HO_3)⟩,⟨(zz15 HO920)⟩,⟨(zz0 HB)⟩⟩
   ·obtain rfl:=sI H
    obtain ⟨Ao17,co17,eo17⟩:=Kd.R_slice HO_3.out;subst eo17;go_wp2
    go_ret
    exact ⟨_,zz6,(zz95 HO_4),(zz0 HB)⟩
def spec_l1Text.f (k:Nat) (a0_0:ByteArray) (l0_1:List ByteArray) (a0_2:Bool) (a0_3:ByteArray):Option (ByteArray):=if 2+a0_0.size≤9223372036854775807 then ((spec_l1Path.f k a0_0 l0_1 a0_2 a0_3).bind fun t114=>(if 2+a0_0.size+t114.size≤9223372036854775807 then (some (((⟨#[47,47]⟩:ByteArray)++a0_0)++t114)) else (none))) else (none)
theorem spec_l1Text.mono:∀ a0 a1 a2 a3 k,LeO (spec_l1Text.f k a0 a1 a2 a3) (spec_l1Text.f (k+1) a0 a1 a2 a3):=by
 intro a0 a1 a2 a3 k;unfold spec_l1Text.f
 repeat' first|(with_reducible first|exact spec_l1Path.mono _ _ _ _ _|exact LeO.refl _|exact LeO.none _|refine LeO.ite ?_ ?_|refine LeO.bind ?_ (fun _=>?_))|exact LeO.none _|refine LeO.ite ?_ ?_|refine LeO.bind ?_ (fun _=>?_)
theorem spec_l1Text.calls (k:Nat) (a0_0:ByteArray) (A0_1:Option Addr) (c0_1:Nat) (l0_1:List ByteArray) (a0_2:Bool) (a0_3:ByteArray) (r:ByteArray) (w:World) (hr0_1:Kd.C Kd.string w A0_1 l0_1.length l0_1) (hc0_1:l0_1.length≤c0_1) (h:spec_l1Text.f k a0_0 l0_1 a0_2 a0_3=some r) :
  Calls Tryz.prog 73 #[.agg #[.string a0_0,.slice A0_1 l0_1.length c0_1,.bool a0_2,.string a0_3]] w fun e w'=>e=.returned (.string r)∧Below w.heap.size w w':=by
 have hu39:=Tryz.underlying39;have HR0_1:=A_ hr0_1;have HC0_1:=A_ hc0_1;clear hr0_1 hc0_1;have HB:=A_ (Below.refl w.heap.size w);unfold spec_l1Text.f at h
 have H:=h;clear h;replace H:=iteE H;rcases H with ⟨c2,H⟩|⟨c2,H⟩
 ·have c2b0:=eq_true c2
  have c2b1:=dT c2;try have c2b2:(9223372036854775807 < 2+a0_0.size)=False:=eq_false (Nat.not_lt.2 c2)
  replace H:=bindA H;obtain ⟨t114,A3,H⟩:=H;replace H:=iteN H;obtain ⟨c4,H⟩:=H;have c4b0:=eq_true c4;have c4b1:=dT c4;try have c4b2:(9223372036854775807 < 2+a0_0.size+t114.size)=False:=eq_false (Nat.not_lt.2 c4)
  obtain rfl:=sI H;go_enter Tryz.func73,Tryz.ntmps73;try go_wp2_with (first|(refine boxF 1 #[.string a0_0,.slice A0_1 l0_1.length c0_1,.bool a0_2,.string a0_3] 39 ?_;intro gb113 hg w5 BK113 hb;have GE113:=geB hg (zz0 HB);replace HB:=A_ (bS (zz0 HB) hb);clear hb hg))
  replace BK113:=A_ (blk_drew BK113.out);replace HB:=A_ (below_drew1 HB.out);refine start_ (n:=7) (S:=fun w'=>w'.cell? ⟨gb113,0,none⟩=some (.string a0_0)∧w'.cell? ⟨gb113,1,none⟩=some (.slice A0_1 l0_1.length c0_1)∧w'.cell? ⟨gb113,2,none⟩=some (.bool a0_2)∧w'.cell? ⟨gb113,3,none⟩=some (.string a0_3)) (ds:=[]) #[yF,yF,yF,yF,yF,yF,yF] (by kernel_rfl) rfl rfl ⟨(blk_cell BK113.out 0).trans rfl,(blk_cell BK113.out 1).trans rfl,(blk_cell BK113.out 2).trans rfl,(blk_cell BK113.out 3).trans rfl⟩ (fun hHeld=>?_);generalize w5.drew=w6 at BK113 HB hHeld ⊢;refine pureY 0 (some 3) #[yT,yF,yF,yF,yF,yF,yF] ?_;refine takeY4 1 (some 4) #[yT,yT,yF,yF,yF,yF,yF] hHeld ?_;refine pureY 2 (some 5) #[yT,yT,yT,yF,yF,yF,yF] ?_;refine takeY4 3 (some 6) #[yT,yT,yT,yT,yF,yF,yF] hHeld ?_;refine one_ (i:=4) (N:=some 7) #[yT,yT,yT,yT,yT,yF,yF] rfl rfl (by kernel_rfl) (by decide) (fun K hK=>?_);refine goes_ Tryz.func100 (by kernel_rfl) rfl #[.agg #[.string a0_0,.slice A0_1 l0_1.length c0_1,.bool a0_2,.string a0_3]] (by rfl) rfl rfl zz35 ?_;with_reducible refine (spec_l1Path.calls k a0_0 _ _ l0_1 a0_2 a0_3 t114 _ ?side1 ?side2 A3.out).mono ?_
  (case side1=>exact (zz96 HR0_1 HB))
  (case side2=>exact HC0_1.out)
  rintro e w7 ⟨rfl,hb⟩;refine ⟨_,rfl,?_⟩;replace BK113:=A_ (bB (zz2 BK113) hb);replace HB:=A_ (bS (zz3 HB GE113) hb);(try clear hb)
  (try clear hb2)
  (try clear hk)
  (try clear hi)
  refine hK.out _ _ ⟨(blk_cell BK113.out 0).trans rfl,(blk_cell BK113.out 1).trans rfl,(blk_cell BK113.out 2).trans rfl,(blk_cell BK113.out 3).trans rfl⟩ (fun hHeld=>?_);clear hK K;refine nZ 7 ?_;refine pureY 5 (some 8) #[yT,yT,yT,yT,yT,yT,yF] ?_;refine pureY 6 (some 2) #[yT,yT,yT,yT,yT,yT,yT] ?_;refine done_ (by kernel_rfl) ?_;try go_wp2
  go_ret
  exact ⟨zz6,(zz3 HB GE113)⟩
 ·exact absurd H (by simp)
def spec_l1Norm.f (k:Nat) (a0:ByteArray):Option (Bool):=(spec_EscNorm.f k a0).bind fun bt125=>(if bt125.2=true then (some (bt125.1.toList == a0.toList)) else (some false))
theorem spec_l1Norm.mono:∀ a0 k,LeO (spec_l1Norm.f k a0) (spec_l1Norm.f (k+1) a0):=by
 intro a0 k;unfold spec_l1Norm.f
 repeat' first|(with_reducible first|exact spec_EscNorm.mono _ _|exact LeO.refl _|exact LeO.none _|refine LeO.ite ?_ ?_|refine LeO.bind ?_ (fun _=>?_))|exact LeO.none _|refine LeO.ite ?_ ?_|refine LeO.bind ?_ (fun _=>?_)
theorem spec_l1Norm.calls (k:Nat) (a0:ByteArray) (r:Bool) (w:World) (h:spec_l1Norm.f k a0=some r) :
  Calls Tryz.prog 99 #[.string a0] w fun e w'=>e=.returned (.bool r)∧Below w.heap.size w w':=by
 have HB:=A_ (Below.refl w.heap.size w);unfold spec_l1Norm.f at h
 have H:=h;clear h;replace H:=bindA H;obtain ⟨⟨t125,t126⟩,A2,H⟩:=H;try dsimp only at H
 have HF3:=A_ H;clear H;go_enter Tryz.func99,Tryz.ntmps99;go_wp2_with (first|(refine gR 120 (some 7) Tryz.func120 (spec_EscNorm.calls k a0 t125 t126 _ A2.out) ?_;rintro w4 hb;replace HB:=A_ (bS (zz0 HB) hb);(try clear hb))|((with_reducible refine atG ?_ ?_ fun K_ hK_=>?_);rfl;exact undecG)|((with_reducible refine atI ?_ fun K_ hK_=>?_);exact undecI))
 refine unG hK_ ?_;clear hK_ K_;obtain ⟨H⟩:=HF3;replace H:=iteB H;rcases H with ⟨rfl,H⟩|⟨rfl,H⟩
 ·(first|refine iteT ?_|refine iteF ?_|skip)
  obtain rfl:=sI H;(try ((with_reducible refine upS ?_);go_simp))
  go_wp2
  go_ret
  exact ⟨zz6,(zz0 HB)⟩
 ·(first|refine iteT ?_|refine iteF ?_|skip)
  obtain rfl:=sI H;(try ((with_reducible refine upS ?_);go_simp))
  go_wp2
  go_ret
  exact ⟨zz6,(zz0 HB)⟩
def impl_isHouse.f (k:Nat) (a0:ByteArray):Option (Bool):=if (a0.size:Int) ≥ 1 then (if (a0.size:Int)≤5 then ((impl_allSmallLetters.f k a0).bind fun t565=>(some t565)) else (some false)) else (some false)
theorem impl_isHouse.mono:∀ a0 k,LeO (impl_isHouse.f k a0) (impl_isHouse.f (k+1) a0):=by
 intro a0 k;unfold impl_isHouse.f
 repeat' first|(with_reducible first|exact impl_allSmallLetters.mono _ _|exact LeO.refl _|exact LeO.none _|refine LeO.ite ?_ ?_|refine LeO.bind ?_ (fun _=>?_))|exact LeO.none _|refine LeO.ite ?_ ?_|refine LeO.bind ?_ (fun _=>?_)
theorem impl_isHouse.calls (k:Nat) (a0:ByteArray) (r:Bool) (w:World) (h:impl_isHouse.f k a0=some r) :
  Calls Tryz.prog 57 #[.string a0] w fun e w'=>e=.returned (.bool r)∧Drawn0 w w':=by
 unfold impl_isHouse.f at h
 have H:=h;clear h;replace H:=iteE H;rcases H with ⟨c2,H⟩|⟨c2,H⟩
 ·have c2b0:=geT c2
  have c2b1:decide (1≤a0.size)=true:=dT (by omega);clear c2;replace H:=iteE H;rcases H with ⟨c3,H⟩|⟨c3,H⟩
  ·have c3b0:=dT c3
   have c3b1:decide (a0.size≤5)=true:=dT (by omega);clear c3;replace H:=bindA H;obtain ⟨t565,A4,H⟩:=H;obtain rfl:=sI H;go_enter Tryz.func57,Tryz.ntmps57;go_wp2_with (first|(go_at_call 87;(with_reducible refine (impl_allSmallLetters.calls k a0 t565 _ A4.out).mono ?_);rintro e w' ⟨rfl,⟨nd,rfl⟩⟩))
   go_ret
   exact ⟨zz1,zz8⟩
  ·have c3b0:=dF c3
   have c3b1:decide (a0.size≤5)=false:=dF (by omega);clear c3;obtain rfl:=sI H;go_enter Tryz.func57,Tryz.ntmps57;go_wp2
   go_ret
   exact ⟨zz1,zz8⟩
 ·have c2b0:=geF c2
  have c2b1:decide (1≤a0.size)=false:=dF (by omega);clear c2;obtain rfl:=sI H;go_enter Tryz.func57,Tryz.ntmps57;go_wp2
  go_ret
  exact ⟨zz1,zz8⟩
def slices_Contains_string_string.f (k:Nat) (l0:List ByteArray) (a1:ByteArray):Option (Bool):=(slices_Index_string_string.f k l0 a1).bind fun t798=>(some (decide (t798 ≥ 0)))
theorem slices_Contains_string_string.calls (k:Nat) (A0:Option Addr) (c0:Nat) (l0:List ByteArray) (a1:ByteArray) (r:Bool) (w:World) (hr0:Kd.C Kd.string w A0 l0.length l0) (hc0:l0.length≤c0) (h:slices_Contains_string_string.f k l0 a1=some r) :
  Calls Tryz.prog 37 #[.slice A0 l0.length c0,.string a1] w fun e w'=>e=.returned (.bool r)∧Drawn0 w w':=by
 have HR0:=A_ hr0;have HC0:=A_ hc0;clear hr0 hc0;unfold slices_Contains_string_string.f at h
 have H:=h;clear h;replace H:=bindA H;obtain ⟨t798,A3,H⟩:=H;obtain rfl:=sI H;go_enter Tryz.func37,Tryz.ntmps37;go_wp2_with (first|(refine gR 63 (some 7) Tryz.func63 (slices_Index_string_string.calls k _ _ l0 a1 t798 _ ?side1 ?side2 A3.out) ?_;(case side1=>exact (zz87 HR0));(case side2=>exact HC0.out);rintro w' ⟨nd,rfl⟩))
 go_ret
 exact ⟨zz1,zz8⟩
def spec_l11Get.f (k:Nat) (l0:List (S30)) (a1:ByteArray) (a2:Int):Option (Int×ByteArray):=(spec_l11At.f k l0 a1).bind fun bt545=>(if bt545.2.2.2.2=true then (if a2 < bt545.2.2.2.1 then (some (3,(⟨#[]⟩:ByteArray))) else (if bt545.2.2.1.toList=([]:List UInt8) then (some (1,bt545.2.1)) else (some (2,bt545.2.2.1)))) else (some (0,(⟨#[]⟩:ByteArray))))
theorem spec_l11Get.calls (k:Nat) (A0:Option Addr) (c0:Nat) (l0:List (S30)) (a1:ByteArray) (a2:Int) (r1:Int) (r2:ByteArray) (w:World) (hr0:Kd.C k30 w A0 l0.length l0) (hc0:l0.length≤c0) (h:spec_l11Get.f k l0 a1 a2=some (r1,r2)) :
  Calls Tryz.prog 23 #[.slice A0 l0.length c0,.string a1,.int .i64 a2] w fun e w'=>e=.returned (.tuple #[.int .i64 r1,.string r2])∧Below w.heap.size w w':=by
 have hu30:=Tryz.underlying30;have HR0:=A_ hr0;have HC0:=A_ hc0;clear hr0 hc0;have HB:=A_ (Below.refl w.heap.size w);unfold spec_l11Get.f at h
 have H:=h;clear h;replace H:=bindA H;obtain ⟨⟨t545,t546,t547,t548,t549⟩,A4,H⟩:=H;try dsimp only at H
 have HF5:=A_ H;clear H;go_enter Tryz.func23,Tryz.ntmps23;go_upto_if 16 with (first|(go_at_call 44;(with_reducible refine (spec_l11At.calls k _ _ l0 a1 t545 t546 t547 t548 t549 _ ?side1 ?side2 A4.out).mono ?_);(case side1=>exact (zz87 HR0));(case side2=>exact HC0.out);rintro e w6 ⟨rfl,hb⟩;replace HB:=A_ (bS (zz0 HB) hb);(try clear hb))|(refine boxF 8 #[.string (⟨#[]⟩:ByteArray),.string (⟨#[]⟩:ByteArray),.string (⟨#[]⟩:ByteArray),.int .i64 0] 30 ?_;intro gb550 hg w7 BK550 hb;have GE550:=geB hg (zz0 HB);replace HB:=A_ (bS (zz0 HB) hb);clear hb hg;obtain ⟨_,_,_,_,_,_,_,_⟩:=cf4 BK550)|((with_reducible refine gate_store (t:=30) (p:=8) rfl ?_);(try (rw [drewN_self w7];generalize hq_:World.drewN w7 _=w7;have HB:=A_ (below_at hq_ HB.out);clear hq_ BK550 HB;have BK550:=A_ (blk_at hq_ BK550.out)));refine store_event (t:=30) (p:=8) (v:=?vo_w9) (w1:=((((w7.setCell ⟨gb550,0,none⟩ (.string t545)).setCell ⟨gb550,1,none⟩ (.string t546)).setCell ⟨gb550,2,none⟩ (.string t547)).setCell ⟨gb550,3,none⟩ (.int .i64 t548))) ?hg ?ho ?hn ?hr ?_;(case ho=>rfl);(case hg=>rfl);(case hn=>rfl);(case hr=>exact zz14);intro w9 hw;have n0_:Aside0 (w9.heap[gb550]?=some (.cells #[.string t545,.string t546,.string t547,.int .i64 t548] 30 (0,0))):=⟨(by rw [hw];exact (zz37 BK550))⟩;have n1_:Aside0 (Below w.heap.size w w9):=⟨(by rw [hw];exact (zz3 HB GE550))⟩;clear hw;clear BK550;clear HB;have BK550:=n0_;have HB:=n1_;clear n0_ n1_))
 repeat (go_quiet (first|(go_at_call 44;(with_reducible refine (spec_l11At.calls k _ _ l0 a1 t545 t546 t547 t548 t549 _ ?side1 ?side2 A4.out).mono ?_);(case side1=>exact (zz87 HR0));(case side2=>exact HC0.out);rintro e w6 ⟨rfl,hb⟩;replace HB:=A_ (bS (zz0 HB) hb);(try clear hb))|(refine boxF 8 #[.string (⟨#[]⟩:ByteArray),.string (⟨#[]⟩:ByteArray),.string (⟨#[]⟩:ByteArray),.int .i64 0] 30 ?_;intro gb550 hg w7 BK550 hb;have GE550:=geB hg (zz0 HB);replace HB:=A_ (bS (zz0 HB) hb);clear hb hg;obtain ⟨_,_,_,_,_,_,_,_⟩:=cf4 BK550)|((with_reducible refine gate_store (t:=30) (p:=8) rfl ?_);(try (rw [drewN_self w7];generalize hq_:World.drewN w7 _=w7;have HB:=A_ (below_at hq_ HB.out);clear hq_ BK550 HB;have BK550:=A_ (blk_at hq_ BK550.out)));refine store_event (t:=30) (p:=8) (v:=?vo_w9) (w1:=((((w7.setCell ⟨gb550,0,none⟩ (.string t545)).setCell ⟨gb550,1,none⟩ (.string t546)).setCell ⟨gb550,2,none⟩ (.string t547)).setCell ⟨gb550,3,none⟩ (.int .i64 t548))) ?hg ?ho ?hn ?hr ?_;(case ho=>rfl);(case hg=>rfl);(case hn=>rfl);(case hr=>exact zz14);intro w9 hw;have n0_:Aside0 (w9.heap[gb550]?=some (.cells #[.string t545,.string t546,.string t547,.int .i64 t548] 30 (0,0))):=⟨(by rw [hw];exact (zz37 BK550))⟩;have n1_:Aside0 (Below w.heap.size w w9):=⟨(by rw [hw];exact (zz3 HB GE550))⟩;clear hw;clear BK550;clear HB;have BK550:=n0_;have HB:=n1_;clear n0_ n1_));go_upto_if 16 with (first|(go_at_call 44;(with_reducible refine (spec_l11At.calls k _ _ l0 a1 t545 t546 t547 t548 t549 _ ?side1 ?side2 A4.out).mono ?_);(case side1=>exact (zz87 HR0));(case side2=>exact HC0.out);rintro e w6 ⟨rfl,hb⟩;replace HB:=A_ (bS (zz0 HB) hb);(try clear hb))|(refine boxF 8 #[.string (⟨#[]⟩:ByteArray),.string (⟨#[]⟩:ByteArray),.string (⟨#[]⟩:ByteArray),.int .i64 0] 30 ?_;intro gb550 hg w7 BK550 hb;have GE550:=geB hg (zz0 HB);replace HB:=A_ (bS (zz0 HB) hb);clear hb hg;obtain ⟨_,_,_,_,_,_,_,_⟩:=cf4 BK550)|((with_reducible refine gate_store (t:=30) (p:=8) rfl ?_);(try (rw [drewN_self w7];generalize hq_:World.drewN w7 _=w7;have HB:=A_ (below_at hq_ HB.out);clear hq_ BK550 HB;have BK550:=A_ (blk_at hq_ BK550.out)));refine store_event (t:=30) (p:=8) (v:=?vo_w9) (w1:=((((w7.setCell ⟨gb550,0,none⟩ (.string t545)).setCell ⟨gb550,1,none⟩ (.string t546)).setCell ⟨gb550,2,none⟩ (.string t547)).setCell ⟨gb550,3,none⟩ (.int .i64 t548))) ?hg ?ho ?hn ?hr ?_;(case ho=>rfl);(case hg=>rfl);(case hn=>rfl);(case hr=>exact zz14);intro w9 hw;have n0_:Aside0 (w9.heap[gb550]?=some (.cells #[.string t545,.string t546,.string t547,.int .i64 t548] 30 (0,0))):=⟨(by rw [hw];exact (zz37 BK550))⟩;have n1_:Aside0 (Below w.heap.size w w9):=⟨(by rw [hw];exact (zz3 HB GE550))⟩;clear hw;clear BK550;clear HB;have BK550:=n0_;have HB:=n1_;clear n0_ n1_)))
 obtain ⟨H⟩:=HF5;replace H:=iteB H;rcases H with ⟨rfl,H⟩|⟨rfl,H⟩
 ·replace H:=iteE H
  rcases H with ⟨c11,H⟩|⟨c11,H⟩
  ·have c11b0:=dT c11
   clear c11;(first|rw [c11b0]|(simp only [i64_w,i32_w];rw [c11b0])|skip)
   simp only [Option.some.injEq,Prod.mk.injEq] at H
   obtain ⟨rfl,rfl⟩:=H;obtain ⟨_,_,_,_,_,_,_,_⟩:=cf4 BK550;go_wp2
   repeat (go_quiet (fail);try go_wp2)
   go_ret2
   exact ⟨zz6,(zz3 HB GE550)⟩
  ·have c11b0:=dF c11
   clear c11;(first|rw [c11b0]|(simp only [i64_w,i32_w];rw [c11b0])|skip)
   replace H:=iteEq H;rcases H with ⟨c13b0,c13b1,H⟩|⟨c13b0,c13b1,c13,H⟩
   ·simp only [Option.some.injEq,Prod.mk.injEq] at H
    obtain ⟨rfl,rfl⟩:=H;obtain ⟨_,_,_,_,_,_,_,_⟩:=cf4 BK550;go_wp2
    repeat (go_quiet (fail);try go_wp2)
    go_ret2
    exact ⟨zz6,(zz3 HB GE550)⟩
   ·simp only [Option.some.injEq,Prod.mk.injEq] at H
    obtain ⟨rfl,rfl⟩:=H;obtain ⟨_,_,_,_,_,_,_,_⟩:=cf4 BK550;go_wp2
    repeat (go_quiet (fail);try go_wp2)
    go_ret2
    exact ⟨zz6,(zz3 HB GE550)⟩
 ·simp only [Option.some.injEq,Prod.mk.injEq] at H
  obtain ⟨rfl,rfl⟩:=H;go_wp2
  repeat (go_quiet (fail);try go_wp2)
  go_ret2
  exact ⟨zz6,(zz3 HB GE550)⟩
def spec_l11Last.f (k:Nat) (l0:List (S30)) (a1:ByteArray):Option (Int×ByteArray):=(spec_l11Get.f k l0 a1 2).bind fun bt838=>(some (bt838.1,bt838.2))
theorem spec_l11Last.calls (k:Nat) (A0:Option Addr) (c0:Nat) (l0:List (S30)) (a1:ByteArray) (r1:Int) (r2:ByteArray) (w:World) (hr0:Kd.C k30 w A0 l0.length l0) (hc0:l0.length≤c0) (h:spec_l11Last.f k l0 a1=some (r1,r2)) :
  Calls Tryz.prog 29 #[.slice A0 l0.length c0,.string a1] w fun e w'=>e=.returned (.tuple #[.int .i64 r1,.string r2])∧Below w.heap.size w w':=by
 have HR0:=A_ hr0;have HC0:=A_ hc0;clear hr0 hc0;have HB:=A_ (Below.refl w.heap.size w);unfold spec_l11Last.f at h
 have H:=h;clear h;replace H:=bindA H;obtain ⟨⟨t838,t839⟩,A3,H⟩:=H;try dsimp only at H
 simp only [Option.some.injEq,Prod.mk.injEq] at H
 obtain ⟨rfl,rfl⟩:=H;go_enter Tryz.func29,Tryz.ntmps29;go_wp2_with (first|(refine gR 23 (some 8) Tryz.func23 (spec_l11Get.calls k _ _ l0 a1 2 t838 t839 _ ?side1 ?side2 A3.out) ?_;(case side1=>exact (zz87 HR0));(case side2=>exact HC0.out);rintro w4 hb;replace HB:=A_ (bS (zz0 HB) hb);(try clear hb)))
 go_ret2
 exact ⟨zz6,(zz0 HB)⟩
end Go.Proofs.YtpomhjkbgbociaaGreatDoor.P
end
section
namespace Go.Proofs.YtpomhjkbgbociaaGreatDoor.P
open Go.RowKit Go.Proofs.YtpomhjkbgbociaaGreatDoorW.PrintWords Go.Proofs.YtpomhjkbgbociaaGreatDoorW.PrintLast Go.Proofs.YtpomhjkbgbociaaGreatDoorW.PrintMore
set_option linter.unusedVariables false
section
variable {P:Program} {ops:Array Oper} {Q:Exit→Act→World→Prop}
theorem callv_ {oi:Oper} {N:Option Tmp} {a:Act} {w:World} {K:Act→World→Prop} {f:FuncId} {fn:Func} {as1:Array Operand} {ts:Array TypeId} {cap:Array Value} (hf:P.funcs[f]?=some fn) (hname:(fn.name == "runtime.NumGoroutine")=false) (hb:fn.body.isSome=true) (args:Array Value)
  (hw:Region.wanted oi (yielded ops a.tmps)=true) (hN:oi.dst=N) (t:Operand) (hop:oi.op=.call { callee:=.value t,args:=as1,argTypes:=ts }) (hv:a.eval t=.func (.func f) #[] cap) (hargs:as1.map a.eval++cap=args)
  (h:Calls P f args w fun e w'=>∃ v,e=.returned v∧K (a.put N v) w'):if Region.wanted oi (yielded ops a.tmps)=true then Oper.wp P oi a w K Q else K (a.put N undef) w:=by
 refine call_ f args hw hN ?_ h
 have he:=enters_ hf hname hb args w
 unfold execOp
 simp [hop,resolve,hv,Deferred.ofValue,invoke,hargs,he]
end
theorem heap_set_ne (w:World) (p:Addr) (u:Value) (k:Nat) (h:k≠p.block):(w.setCell p u).heap[k]?=w.heap[k]?:=Below.heap_setCell w p u k h
theorem size_set (w:World) (p:Addr) (u:Value):(w.setCell p u).heap.size=w.heap.size:=by simp
end Go.Proofs.YtpomhjkbgbociaaGreatDoor.P
end
section
namespace Go.Proofs.YtpomhjkbgbociaaGreatDoor.P
open Go.RowKit Go.Proofs.YtpomhjkbgbociaaGreatDoorW.PrintWords Go.Proofs.YtpomhjkbgbociaaGreatDoorW.PrintLast Go.Proofs.YtpomhjkbgbociaaGreatDoorW.PrintMore
set_option linter.unusedVariables false
def strings_explode.f (a0:ByteArray) (a1:Int):Option (List ByteArray):=none
theorem strings_explode.calls (a0:ByteArray) (a1:Int) (r:List ByteArray) (w:World) (h:strings_explode.f a0 a1=some r) :
  Calls Tryz.prog 125 #[.string a0,.int .i64 a1] w fun e w'=>∃ v0_:Value,e=.returned (v0_)∧Kd.R Kd.string 9 w' w.heap.size (fun _=>True) v0_ r∧Below w.heap.size w w':=by
 cases h
end Go.Proofs.YtpomhjkbgbociaaGreatDoor.P
end
section
namespace Go.Proofs.YtpomhjkbgbociaaGreatDoor.P
open Go.RowKit Go.Proofs.YtpomhjkbgbociaaGreatDoorW.PrintWords Go.Proofs.YtpomhjkbgbociaaGreatDoorW.PrintLast Go.Proofs.YtpomhjkbgbociaaGreatDoorW.PrintMore
attribute [local go_sem] max2_int min2_int max_two min_two max_three min_three max_four min_four
set_option linter.unusedVariables false
set_option linter.unusedSimpArgs false
set_option maxHeartbeats 8000000
set_option maxRecDepth 100000
mutual
def spec_AddrOk.j0:Nat→Bool→ByteArray→List ByteArray→Bool→ByteArray→Option (Bool)
 | 0,_,_,_,_,_=>none
 | k+1,x29,x128000,x128001,x128002,x128003=>if x29=true then (some false) else (spec_AddrOk.l0 k 0 x128000 x128001 x128002 x128003)
def spec_AddrOk.l0:Nat→Int→ByteArray→List ByteArray→Bool→ByteArray→Option (Bool)
 | 0,_,_,_,_,_=>none
 | k+1,x3,x128000,x128001,x128002,x128003=>if x3 < (x128001.length:Int) then (if 0≤x3 then ((spec_l1Norm.f k (rdOf ByteArray.empty x128001 x3)).bind fun t131=>(if t131=true then (if (rdOf ByteArray.empty x128001 x3).toList=([]:List UInt8) then (some false) else (if (rdOf ByteArray.empty x128001 x3).toList=([46]:List UInt8) then (some false) else (if (rdOf ByteArray.empty x128001 x3).toList=([46,46]:List UInt8) then (some false) else (spec_AddrOk.l0 k (wrap64 (x3+1)) x128000 x128001 x128002 x128003)))) else (some false))) else (none)) else ((spec_l1Text.f k x128000 x128001 x128002 x128003).bind fun t135=>(some (decide ((t135.size:Int)≤60))))
end
def spec_AddrOk.f (k:Nat) (a0_0:ByteArray) (l0_1:List ByteArray) (a0_2:Bool) (a0_3:ByteArray):Option (Bool):=(spec_l1House.f k a0_0).bind fun t128=>(if t128=true then (if (l0_1.length:Int) > 5 then (spec_AddrOk.j0 k true a0_0 l0_1 a0_2 a0_3) else ((spec_l1Norm.f k a0_3).bind fun t129=>(if t129=true then (if a0_2=true then (spec_AddrOk.j0 k false a0_0 l0_1 a0_2 a0_3) else (spec_AddrOk.j0 k (a0_3.toList != ([]:List UInt8)) a0_0 l0_1 a0_2 a0_3)) else (spec_AddrOk.j0 k true a0_0 l0_1 a0_2 a0_3)))) else (spec_AddrOk.j0 k true a0_0 l0_1 a0_2 a0_3))
theorem spec_AddrOk.mono_l:∀ k,(∀ y0 y1 y2 y3 y4,LeO (spec_AddrOk.j0 k y0 y1 y2 y3 y4) (spec_AddrOk.j0 (k+1) y0 y1 y2 y3 y4))∧(∀ y0 y1 y2 y3 y4,LeO (spec_AddrOk.l0 k y0 y1 y2 y3 y4) (spec_AddrOk.l0 (k+1) y0 y1 y2 y3 y4))
 | 0=>by refine ⟨?_,?_⟩ <;> (intros;intro r h;simp [spec_AddrOk.j0,spec_AddrOk.l0] at h)
 | k+1=>by
  obtain ⟨ih0,ih1⟩:=spec_AddrOk.mono_l k;refine ⟨?_,?_⟩ <;> intros <;> (first|unfold spec_AddrOk.j0|unfold spec_AddrOk.l0) <;>
  repeat' first|(with_reducible first|exact ih0 _ _ _ _ _|exact ih1 _ _ _ _ _|exact spec_l1House.mono _ _|exact spec_l1Norm.mono _ _|exact spec_l1Text.mono _ _ _ _ _|exact LeO.refl _|exact LeO.none _|refine LeO.ite ?_ ?_|refine LeO.bind ?_ (fun _=>?_))|exact LeO.none _|refine LeO.ite ?_ ?_|refine LeO.bind ?_ (fun _=>?_)
theorem spec_AddrOk.mono:∀ a0 a1 a2 a3 k,LeO (spec_AddrOk.f k a0 a1 a2 a3) (spec_AddrOk.f (k+1) a0 a1 a2 a3):=by
 intro a0 a1 a2 a3 k;obtain ⟨ih0,ih1⟩:=spec_AddrOk.mono_l k;unfold spec_AddrOk.f
 repeat' first|(with_reducible first|exact ih0 _ _ _ _ _|exact ih1 _ _ _ _ _|exact spec_l1House.mono _ _|exact spec_l1Norm.mono _ _|exact spec_l1Text.mono _ _ _ _ _|exact LeO.refl _|exact LeO.none _|refine LeO.ite ?_ ?_|refine LeO.bind ?_ (fun _=>?_))|exact LeO.none _|refine LeO.ite ?_ ?_|refine LeO.bind ?_ (fun _=>?_)
theorem spec_AddrOk.calls (k:Nat) (a0_0:ByteArray) (A0_1:Option Addr) (c0_1:Nat) (l0_1:List ByteArray) (a0_2:Bool) (a0_3:ByteArray) (r:Bool) (w:World) (hr0_1:Kd.C Kd.string w A0_1 l0_1.length l0_1) (hc0_1:l0_1.length≤c0_1) (h:spec_AddrOk.f k a0_0 l0_1 a0_2 a0_3=some r) :
  Calls Tryz.prog 72 #[.agg #[.string a0_0,.slice A0_1 l0_1.length c0_1,.bool a0_2,.string a0_3]] w fun e w'=>e=.returned (.bool r)∧Below w.heap.size w w':=by
 have hu39:=Tryz.underlying39;have HR0_1:=A_ hr0_1;have HC0_1:=A_ hc0_1;clear hr0_1 hc0_1;have HB:=A_ (Below.refl w.heap.size w);unfold spec_AddrOk.f at h
 have H:=h;clear h;have HC2:=A_ H;clear H;go_enter Tryz.func72,Tryz.ntmps72;go_upto_region 1 with (first|((with_reducible refine gD (N:=1) rfl ?_);(try (refine gate_guard (by rfl) ?_;dsimp only));refine boxE 1 #[.string a0_0,.slice A0_1 l0_1.length c0_1,.bool a0_2,.string a0_3] 39 ?_;intro gb127 hg w3 hbox hb;have BK127:=A_ (hbox);have GE127:=geB hg (zz0 HB);replace HB:=A_ (bS (zz0 HB) hb);clear hb hbox hg))
 (try simp only [Act.put,List.setIfInBounds_toArray,List.set_cons_zero,List.set_cons_succ])
 go_cut [29] (fun v29 wc=>∃ (kq:Nat) (x29_1:Bool),v29=.bool x29_1∧Aside0 (spec_AddrOk.j0 kq x29_1 a0_0 l0_1 a0_2 a0_3=some r)∧Aside0 (kq≤k)∧Aside0 (wc.heap[gb127]?=some (.cells #[.string a0_0,(.slice A0_1 l0_1.length c0_1),.bool a0_2,.string a0_3] 39 (0,0)))∧Aside0 (Below w.heap.size w wc))
 case first=>
  obtain ⟨H⟩:=HC2;replace H:=bindA H;obtain ⟨t128,A4,H⟩:=H;have HF5:=A_ H;clear H;obtain ⟨_,_,_,_,_,_,_,_⟩:=cf4 BK127;go_wp2_with (first|(refine gR 98 (some 6) Tryz.func98 (spec_l1House.calls k a0_0 t128 _ A4.out) ?_;rintro w' ⟨nd,rfl⟩)|((with_reducible refine atG ?_ ?_ fun K_ hK_=>?_);rfl;exact undecG)|((with_reducible refine atI ?_ fun K_ hK_=>?_);exact undecI))
  refine unG hK_ ?_;clear hK_ K_;obtain ⟨H⟩:=HF5;replace H:=iteB H;rcases H with ⟨rfl,H⟩|⟨rfl,H⟩
  ·(first|refine iteT ?_|refine iteF ?_|skip)
   replace H:=iteE H;rcases H with ⟨c8,H⟩|⟨c8,H⟩
   ·have c8b0:=gtT c8
    have c8b1:decide (5 < l0_1.length)=true:=dT (by omega);clear c8;have H':=A_ H;clear H;obtain ⟨_,_,_,_,_,_,_,_⟩:=cf4 BK127;go_wp2
    go_meet
    case rel=>exact ⟨_,(true),zz1,H',⟨zz7⟩,⟨(zz2 BK127)⟩,⟨(zz3 HB GE127)⟩⟩
   ·have c8b0:=gtF c8
    have c8b1:decide (5 < l0_1.length)=false:=dF (by omega);clear c8;replace H:=bindA H;obtain ⟨t129,A10,H⟩:=H;have HF11:=A_ H;clear H;obtain ⟨_,_,_,_,_,_,_,_⟩:=cf4 BK127;go_wp2_with (first|(go_at_call 99;(with_reducible refine (spec_l1Norm.calls k a0_3 t129 _ A10.out).mono ?_);rintro e w13 ⟨rfl,hb⟩;replace BK127:=A_ (bB (zz2 BK127) hb);replace HB:=A_ (bS (zz3 HB GE127) hb);(try clear hb))|((with_reducible refine atG ?_ ?_ fun K_ hK_=>?_);rfl;exact undecG)|((with_reducible refine atI ?_ fun K_ hK_=>?_);exact undecI))
    refine unG hK_ ?_;clear hK_ K_;obtain ⟨H⟩:=HF11;replace H:=iteB H;rcases H with ⟨rfl,H⟩|⟨rfl,H⟩
    ·(first|refine iteT ?_|refine iteF ?_|skip)
     replace H:=iteB H;rcases H with ⟨rfl,H⟩|⟨rfl,H⟩
     ·have H':=A_ H
      clear H;obtain ⟨_,_,_,_,_,_,_,_⟩:=cf4 BK127;go_wp2
      go_meet
      case rel=>exact ⟨_,(false),zz1,H',⟨zz7⟩,⟨(zz2 BK127)⟩,⟨(zz3 HB GE127)⟩⟩
     ·have H':=A_ H
      clear H;obtain ⟨_,_,_,_,_,_,_,_⟩:=cf4 BK127;go_wp2
      go_meet
      case rel=>exact ⟨_,((a0_3.toList != ([]:List UInt8))),zz1,H',⟨zz7⟩,⟨(zz2 BK127)⟩,⟨(zz3 HB GE127)⟩⟩
    ·(first|refine iteT ?_|refine iteF ?_|skip)
     have H':=A_ H;clear H;(try ((with_reducible refine upS ?_);go_simp))
     go_wp2
     go_meet
     case rel=>exact ⟨_,(true),zz1,H',⟨zz7⟩,⟨(zz2 BK127)⟩,⟨(zz3 HB GE127)⟩⟩
  ·(first|refine iteT ?_|refine iteF ?_|skip)
   have H':=A_ H;clear H;(try ((with_reducible refine upS ?_);go_simp))
   go_wp2
   go_meet
   case rel=>exact ⟨_,(true),zz1,H',⟨zz7⟩,⟨(zz2 BK127)⟩,⟨(zz3 HB GE127)⟩⟩
 case rest=>
  clear HC2;obtain ⟨kq,x29_1,rfl,HA,HJ1,BK127,HB⟩:=hcut;cases kq with
  | zero=>exact absurd HA.out (by simp [spec_AddrOk.j0])
  | succ kj1=>
   obtain ⟨H⟩:=HA;simp only [spec_AddrOk.j0] at H
   replace H:=iteB H;rcases H with ⟨rfl,H⟩|⟨rfl,H⟩
   ·obtain rfl:=sI H
    go_wp2
    go_ret
    exact ⟨zz6,(zz3 HB GE127)⟩
   ·have H':=A_ H
    clear H;go_wp2
    go_loopg [3] kj1 (fun kq v3 w'=>∃ (x3_2:Int),v3=.int .i64 x3_2∧Aside0 (spec_AddrOk.l0 kq x3_2 a0_0 l0_1 a0_2 a0_3=some r)∧Aside0 (kq≤kj1)∧Aside0 (w'.heap[gb127]?=some (.cells #[.string a0_0,(.slice A0_1 l0_1.length c0_1),.bool a0_2,.string a0_3] 39 (0,0)))∧Aside0 (Below w.heap.size w w'))
    case atStart=>exact ⟨(0),zz1,H',⟨Nat.le_refl _⟩,⟨(zz2 BK127)⟩,⟨(zz3 HB GE127)⟩⟩
    case round=>
     clear H';obtain ⟨x3_2,rfl,HA,HK2,BK127,HB⟩:=hrel;cases gk with
     | zero=>exact absurd HA.out (by simp [spec_AddrOk.l0])
     | succ k2=>
      obtain ⟨H⟩:=HA;simp only [spec_AddrOk.l0] at H
      replace H:=iteEd H;rcases H with ⟨c19b0,H⟩|⟨c19b0,H⟩
      ·replace H:=iteNd H
       obtain ⟨c20b0,H⟩:=H;replace H:=bindA H;obtain ⟨t131,A21,H⟩:=H;have HF22:=A_ H;clear H;obtain ⟨_,_,_,_,_,_,_,_⟩:=cf4 BK127;obtain ⟨⟨ad130,e130,hx130_0⟩,p130,q130⟩:=atB (Kd.at_string HR0_1.out x3_2);cases e130
       replace hx130_0:=cbl HB hx130_0;go_wp2_with (first|(refine gR 99 (some 42) Tryz.func99 (spec_l1Norm.calls k2 (rdOf ByteArray.empty l0_1 x3_2) t131 _ A21.out) ?_;rintro w24 hb;replace BK127:=A_ (bB (zz2 BK127) hb);replace HB:=A_ (bS (zz3 HB GE127) hb);(try clear hb))|((with_reducible refine atG ?_ ?_ fun K_ hK_=>?_);rfl;exact undecG)|((with_reducible refine atI ?_ fun K_ hK_=>?_);exact undecI))
       refine unG hK_ ?_;clear hK_ K_;obtain ⟨H⟩:=HF22;replace H:=iteB H;rcases H with ⟨rfl,H⟩|⟨rfl,H⟩
       ·(first|refine iteT ?_|refine iteF ?_|skip)
        replace H:=iteEq H;rcases H with ⟨c26b0,c26b1,H⟩|⟨c26b0,c26b1,c26,H⟩
        ·obtain rfl:=sI H
         obtain ⟨_,_,_,_,_,_,_,_⟩:=cf4 BK127;obtain ⟨⟨ad132,e132,hx132_0⟩,p132,q132⟩:=atB (Kd.at_string HR0_1.out x3_2);obtain rfl:ad130=ad132:=(by injection e132);replace hx132_0:=cbl HB hx132_0;go_wp2
         go_ret
         exact ⟨zz6,(zz3 HB GE127)⟩
        ·replace H:=iteEq H
         rcases H with ⟨c28b0,c28b1,H⟩|⟨c28b0,c28b1,c28,H⟩
         ·obtain rfl:=sI H
          obtain ⟨_,_,_,_,_,_,_,_⟩:=cf4 BK127;obtain ⟨⟨ad132,e132,hx132_0⟩,p132,q132⟩:=atB (Kd.at_string HR0_1.out x3_2);obtain rfl:ad130=ad132:=(by injection e132);replace hx132_0:=cbl HB hx132_0;obtain ⟨⟨ad133,e133,hx133_0⟩,p133,q133⟩:=atB (Kd.at_string HR0_1.out x3_2);obtain rfl:ad130=ad133:=(by injection e133);replace hx133_0:=cbl HB hx133_0;go_wp2
          go_ret
          exact ⟨zz6,(zz3 HB GE127)⟩
         ·replace H:=iteEq H
          rcases H with ⟨c30b0,c30b1,H⟩|⟨c30b0,c30b1,c30,H⟩
          ·obtain rfl:=sI H
           obtain ⟨_,_,_,_,_,_,_,_⟩:=cf4 BK127;obtain ⟨⟨ad132,e132,hx132_0⟩,p132,q132⟩:=atB (Kd.at_string HR0_1.out x3_2);obtain rfl:ad130=ad132:=(by injection e132);replace hx132_0:=cbl HB hx132_0;obtain ⟨⟨ad133,e133,hx133_0⟩,p133,q133⟩:=atB (Kd.at_string HR0_1.out x3_2);obtain rfl:ad130=ad133:=(by injection e133);replace hx133_0:=cbl HB hx133_0;obtain ⟨⟨ad134,e134,hx134_0⟩,p134,q134⟩:=atB (Kd.at_string HR0_1.out x3_2);obtain rfl:ad130=ad134:=(by injection e134);replace hx134_0:=cbl HB hx134_0;go_wp2
           go_ret
           exact ⟨zz6,(zz3 HB GE127)⟩
          ·have H':=A_ H
           clear H;obtain ⟨_,_,_,_,_,_,_,_⟩:=cf4 BK127;obtain ⟨⟨ad132,e132,hx132_0⟩,p132,q132⟩:=atB (Kd.at_string HR0_1.out x3_2);obtain rfl:ad130=ad132:=(by injection e132);replace hx132_0:=cbl HB hx132_0;obtain ⟨⟨ad133,e133,hx133_0⟩,p133,q133⟩:=atB (Kd.at_string HR0_1.out x3_2);obtain rfl:ad130=ad133:=(by injection e133);replace hx133_0:=cbl HB hx133_0;obtain ⟨⟨ad134,e134,hx134_0⟩,p134,q134⟩:=atB (Kd.at_string HR0_1.out x3_2);obtain rfl:ad130=ad134:=(by injection e134);replace hx134_0:=cbl HB hx134_0;go_wp2
           go_roundg k2
           case measure=>have:=HJ1.out;have:=HK2.out;omega
           case rel=>exact ⟨(wrap64 (x3_2+1)),zz1,H',⟨(zz19 HJ1 HK2)⟩,⟨(zz2 BK127)⟩,⟨(zz3 HB GE127)⟩⟩
       ·(first|refine iteT ?_|refine iteF ?_|skip)
        obtain rfl:=sI H;(try ((with_reducible refine upS ?_);go_simp))
        go_wp2
        go_ret
        exact ⟨zz6,(zz3 HB GE127)⟩
      ·replace H:=bindA H
       obtain ⟨t135,A33,H⟩:=H;obtain rfl:=sI H;obtain ⟨_,_,_,_,_,_,_,_⟩:=cf4 BK127;go_wp2_with (first|(refine gR 73 (some 69) Tryz.func73 (spec_l1Text.calls k2 a0_0 _ _ l0_1 a0_2 a0_3 t135 _ ?side1 ?side2 A33.out) ?_;(case side1=>exact (zz96 HR0_1 HB));(case side2=>exact HC0_1.out);rintro w35 hb;replace BK127:=A_ (bB (zz2 BK127) hb);replace HB:=A_ (bS (zz3 HB GE127) hb);(try clear hb)))
       go_ret
       exact ⟨zz6,(zz3 HB GE127)⟩
def spec_AddrText.f (k:Nat) (a0_0:ByteArray) (l0_1:List ByteArray) (a0_2:Bool) (a0_3:ByteArray):Option (ByteArray):=(spec_AddrOk.f k a0_0 l0_1 a0_2 a0_3).bind fun t137=>(if t137=true then ((spec_l1Text.f k a0_0 l0_1 a0_2 a0_3).bind fun t138=>(some t138)) else (some (⟨#[]⟩:ByteArray)))
theorem spec_AddrText.mono:∀ a0 a1 a2 a3 k,LeO (spec_AddrText.f k a0 a1 a2 a3) (spec_AddrText.f (k+1) a0 a1 a2 a3):=by
 intro a0 a1 a2 a3 k;unfold spec_AddrText.f
 repeat' first|(with_reducible first|exact spec_AddrOk.mono _ _ _ _ _|exact spec_l1Text.mono _ _ _ _ _|exact LeO.refl _|exact LeO.none _|refine LeO.ite ?_ ?_|refine LeO.bind ?_ (fun _=>?_))|exact LeO.none _|refine LeO.ite ?_ ?_|refine LeO.bind ?_ (fun _=>?_)
theorem spec_AddrText.calls (k:Nat) (a0_0:ByteArray) (A0_1:Option Addr) (c0_1:Nat) (l0_1:List ByteArray) (a0_2:Bool) (a0_3:ByteArray) (r:ByteArray) (w:World) (hr0_1:Kd.C Kd.string w A0_1 l0_1.length l0_1) (hc0_1:l0_1.length≤c0_1) (h:spec_AddrText.f k a0_0 l0_1 a0_2 a0_3=some r) :
  Calls Tryz.prog 47 #[.agg #[.string a0_0,.slice A0_1 l0_1.length c0_1,.bool a0_2,.string a0_3]] w fun e w'=>e=.returned (.string r)∧Below w.heap.size w w':=by
 have hu39:=Tryz.underlying39;have HR0_1:=A_ hr0_1;have HC0_1:=A_ hc0_1;clear hr0_1 hc0_1;have HB:=A_ (Below.refl w.heap.size w);unfold spec_AddrText.f at h
 have H:=h;clear h;replace H:=bindA H;obtain ⟨t137,A2,H⟩:=H;have HF3:=A_ H;clear H;go_enter Tryz.func47,Tryz.ntmps47;go_upto_if 5 with (first|(refine boxF 1 #[.string a0_0,.slice A0_1 l0_1.length c0_1,.bool a0_2,.string a0_3] 39 ?_;intro gb136 hg w4 BK136 hb;have GE136:=geB hg (zz0 HB);replace HB:=A_ (bS (zz0 HB) hb);clear hb hg;obtain ⟨_,_,_,_,_,_,_,_⟩:=cf4 BK136)|(refine gR 72 (some 4) Tryz.func72 (spec_AddrOk.calls k a0_0 _ _ l0_1 a0_2 a0_3 t137 _ ?side1 ?side2 A2.out) ?_;(case side1=>exact (zz96 HR0_1 HB));(case side2=>exact HC0_1.out);rintro w6 hb;replace BK136:=A_ (bB (zz2 BK136) hb);replace HB:=A_ (bS (zz3 HB GE136) hb);(try clear hb)))
 obtain ⟨H⟩:=HF3;replace H:=iteB H;rcases H with ⟨rfl,H⟩|⟨rfl,H⟩
 ·replace H:=bindA H
  obtain ⟨t138,A8,H⟩:=H;obtain rfl:=sI H;obtain ⟨_,_,_,_,_,_,_,_⟩:=cf4 BK136;go_wp2_with (first|(refine gR 73 (some 7) Tryz.func73 (spec_l1Text.calls k a0_0 _ _ l0_1 a0_2 a0_3 t138 _ ?side1 ?side2 A8.out) ?_;(case side1=>exact (zz96 HR0_1 HB));(case side2=>exact HC0_1.out);rintro w10 hb;replace BK136:=A_ (bB (zz2 BK136) hb);replace HB:=A_ (bS (zz3 HB GE136) hb);(try clear hb)))
  go_ret
  exact ⟨zz6,(zz3 HB GE136)⟩
 ·obtain rfl:=sI H
  go_wp2
  go_ret
  exact ⟨zz6,(zz3 HB GE136)⟩
def spec_l1Way.l0:Nat→ByteArray→Bool→List ByteArray→List ByteArray→Int→ByteArray→List ByteArray→Bool→ByteArray→Option (ByteArray×List ByteArray×Bool×ByteArray×Bool)
 | 0,_,_,_,_,_,_,_,_,_=>none
 | k+1,x6,x7,x8,x9,x10,x463000,x463001,x463002,x463003=>if x10 < (x9.length:Int) then (if 0≤x10 then ((spec_EscNorm.f k (rdOf ByteArray.empty x9 x10)).bind fun bt477=>(if bt477.2=true then (if x8.length < 8796093022208 then (spec_l1Way.l0 k x6 x7 (x8++[bt477.1]) x9 (wrap64 (x10+1)) x463000 x463001 x463002 x463003) else (none)) else (some ((⟨#[]⟩:ByteArray),([]:List ByteArray),false,(⟨#[]⟩:ByteArray),false)))) else (none)) else ((spec_EscNorm.f k x6).bind fun bt482=>((spec_PathClean.f k x8).bind fun t484=>(if bt482.2=true then ((spec_AddrOk.f k x463000 t484 x7 bt482.1).bind fun t488=>(if t488=true then (some (x463000,t484,x7,bt482.1,true)) else (some ((⟨#[]⟩:ByteArray),([]:List ByteArray),false,(⟨#[]⟩:ByteArray),false)))) else (some ((⟨#[]⟩:ByteArray),([]:List ByteArray),false,(⟨#[]⟩:ByteArray),false)))))
def spec_l1Way.f (k:Nat) (a0_0:ByteArray) (l0_1:List ByteArray) (a0_2:Bool) (a0_3:ByteArray) (a1:ByteArray):Option (ByteArray×List ByteArray×Bool×ByteArray×Bool):=(spec_l1Cut.f k a1 63).bind fun bt464=>((some (([]:List ByteArray):List ByteArray)).bind fun y467=>(if y467.length+l0_1.length < 8796093022208 then ((spec_l1Split.f k bt464.1 47).bind fun t473=>(spec_l1Way.l0 k bt464.2.1 bt464.2.2 (y467++l0_1) t473 0 a0_0 l0_1 a0_2 a0_3)) else (none)))
def spec_l1Way.T12:Bool×List (List Nat×List Nat):=(true,[([],[]),([0],[0]),([],[]),([2],[2]),([],[]),([],[]),([1,3,4,5],[1,3,4,5]),([],[]),([7,6,3,0,1,2,3,4,5,6,7],[6,7])])
def spec_l1Way.B12:List Nat:=[0,1,0,4,0,0,63,0,255]
theorem spec_l1Way.tab12:rtab .any (opsOf Tryz.f96 12)=spec_l1Way.T12:=by kernel_rfl
theorem spec_l1Way.bits12:waitsOk spec_l1Way.T12.2 spec_l1Way.B12=true:=by kernel_rfl
theorem spec_l1Way.calls (k:Nat) (a0_0:ByteArray) (A0_1:Option Addr) (c0_1:Nat) (l0_1:List ByteArray) (a0_2:Bool) (a0_3:ByteArray) (a1:ByteArray) (r1:ByteArray) (r2:List ByteArray) (r3:Bool) (r4:ByteArray) (r5:Bool) (w:World) (hr0_1:Kd.C Kd.string w A0_1 l0_1.length l0_1) (hc0_1:l0_1.length≤c0_1) (h:spec_l1Way.f k a0_0 l0_1 a0_2 a0_3 a1=some (r1,r2,r3,r4,r5)) :
  Calls Tryz.prog 96 #[.agg #[.string a0_0,.slice A0_1 l0_1.length c0_1,.bool a0_2,.string a0_3],.string a1] w fun e w'=>∃ v1_:Value,e=.returned (.tuple #[.agg #[.string r1,v1_,.bool r3,.string r4],.bool r5])∧Kd.R Kd.string 9 w' w.heap.size (fun _=>True) v1_ r2∧Below w.heap.size w w':=by
 have hu39:=Tryz.underlying39;have HR0_1:=A_ hr0_1;have HC0_1:=A_ hc0_1;clear hr0_1 hc0_1;have HB:=A_ (Below.refl w.heap.size w);unfold spec_l1Way.f at h
 have H:=h;clear h;replace H:=bindA H;obtain ⟨⟨t464,t465,t466⟩,A3,H⟩:=H;try dsimp only at H
 obtain ⟨y467,Ny467,H⟩:=bindY H;replace H:=iteE H;rcases H with ⟨c4,H⟩|⟨c4,H⟩
 ·have LMc4:=A_ c4
  clear c4;obtain ⟨y470,Ny470⟩:=toY (y467++l0_1);(first|with_reducible replace H:=bindZ Ny470 H|rw [← Ny470.out] at H|skip)
  replace H:=bindA H;obtain ⟨t473,A5,H⟩:=H;have H':=A_ H;clear H;go_enter Tryz.func96,Tryz.ntmps96;go_wp2_with (first|(refine boxF 2 #[.string a0_0,.slice A0_1 l0_1.length c0_1,.bool a0_2,.string a0_3] 39 ?_;intro gb462 hg w6 BK462 hb;have GE462:=geB hg (zz0 HB);replace HB:=A_ (bS (zz0 HB) hb);clear hb hg)|(refine boxF 4 #[.string (⟨#[]⟩:ByteArray),.slice none 0 0,.bool false,.string (⟨#[]⟩:ByteArray)] 39 ?_;intro gb463 hg w7 BK463 hb;have GE463:=geB hg (zz3 HB GE462);replace HB:=A_ (bS (zz3 HB GE462) hb);have NB462_463:=A_ ((by rw [hg];exact Nat.ne_of_lt (blk_lt (zz2 BK462)):gb462≠gb463));have NB463_462:=A_ ((by rw [hg];exact Nat.ne_of_gt (blk_lt (zz2 BK462)):gb463≠gb462));replace BK462:=A_ (bB (zz2 BK462) hb);clear hb hg)|(refine gR 70 (some 18) Tryz.func70 (spec_l1Cut.calls k a1 63 t464 t465 t466 _ A3.out) ?_;rintro w' ⟨nd,rfl⟩)|((with_reducible refine gD (N:=22) rfl ?_);refine Kd.R_lit Kd.string _ 9 ?hg (N:=22) ?hd (xs:=([]:List ByteArray)) (inner:=[]) (ok:=fun _=>True) (okp:=fun _=>True) ?hr ?hp (fun _ hk=>hk) trivial (Below.refl _ _) (Nat.le_refl _) (by simp) ?_;(case hd=>rfl);(case hg=>rfl);(case hr=>exact zz14);(case hp=>exact (Reps.none _ _));intro v468 w8 ho9 hb hg_ hnew_;clear hg_ hnew_;(first|rw [← Ny467.out] at ho9|(simp only [Int.reduceToNat] at ho9;rw [← Ny467.out] at ho9));have HO469:=A_ (Kd.R_lower ho9 (below_size (zz70 HB GE462 GE463)));replace BK462:=A_ (bB (zz2 BK462) hb);replace BK463:=A_ (bB (zz2 BK463) hb);replace HB:=A_ (bS (zz70 HB GE462 GE463) hb);clear hb ho9;have hnb10:=NB462_463.out;have hnc10:=NB463_462.out;obtain ⟨_,_,_,_,_,_,_,_⟩:=cf4 BK462)|((with_reducible refine gate_builtin (b:=.append) (xs:=#[.tmp 22,.tmp 24]) rfl ?_);at_builtin;refine Kd.R_append_rows Kd.string (w0:=w) w.heap.size rfl (.tmp 22) (.tmp 24) 35 9 (.string ⟨#[]⟩) 16 rfl Tryz.underlying35 info9 rfl (by decide) (by omega) v468 y467 l0_1 _ _ _ (fun _=>True) (fun _=>False) rfl rfl ?aO ?aR (fun _ _ h=>h) (fun _ h=>h.elim) ?aF ?aB ?aS ?aL ?_;(case aR=>exact (zz96 HR0_1 HB));(case aB=>exact (zz70 HB GE462 GE463));(case aF=>exact (fun _ _=>trivial));(case aO=>exact (zz15 HO469));(case aS=>exact (below_size (zz70 HB GE462 GE463)));(case aL=>exact (zz5 LMc4));intro v471 w12 ho hb hg hat;rw [← Ny470.out] at ho;replace BK462:=A_ (blk_grown (zz2 BK462) hg (Kd.R_ne HO469.out BK462.out (by decide)));replace BK463:=A_ (blk_grown (zz2 BK463) hg (Kd.R_ne HO469.out BK463.out (by decide)));replace HB:=A_ (hb);have HO472:=A_ (ho);clear HO469;clear ho hb hg hat)|(refine gV 119 (some 27) Tryz.func119 (spec_l1Split.calls k t464 47 t473 _ A5.out) ?_;rintro v474 w13 ⟨ho0,hb⟩;have HO475:=A_ (Kd.R_lower (Kd.R_new' ho0 (Kd.R_lt (zz15 HO472))) (below_size (zz70 HB GE462 GE463)));replace HO472:=A_ (Kd.R_elder' (zz15 HO472) (Kd.R_base ho0) hb);replace BK462:=A_ (bB (zz2 BK462) hb);replace BK463:=A_ (bB (zz2 BK463) hb);replace HB:=A_ (bS (zz70 HB GE462 GE463) hb);(try clear hb ho0)))
  go_loopg [8,10] k (fun kq v8 v10 w'=>∃ (x8_1:List ByteArray) (x10_1:Int) (x464000_1:ByteArray) (x464002_1:Bool) (x464003_1:ByteArray),v10=.int .i64 x10_1∧Aside0 (spec_l1Way.l0 kq t465 t466 x8_1 t473 x10_1 a0_0 l0_1 a0_2 a0_3=some (r1,r2,r3,r4,r5))∧Aside0 (kq≤k)∧Aside0 (Kd.R Kd.string 9 w' w.heap.size (fun k_=>some k_≠(v474:Value).ownBlock) v8 x8_1)∧Aside0 (Kd.R Kd.string 9 w' w.heap.size (fun k_=>some k_≠(v8:Value).ownBlock) v474 t473)∧Aside0 (w'.heap[gb462]?=some (.cells #[.string a0_0,(.slice A0_1 l0_1.length c0_1),.bool a0_2,.string a0_3] 39 (0,0)))∧Aside0 (w'.heap[gb463]?=some (.cells #[.string x464000_1,(.slice none 0 0),.bool x464002_1,.string x464003_1] 39 (0,0)))∧Aside0 (Below w.heap.size w w'))
  case atStart=>exact ⟨(y470),(0),((⟨#[]⟩:ByteArray)),(false),((⟨#[]⟩:ByteArray)),zz1,H',⟨Nat.le_refl _⟩,⟨(zz92 HO472)⟩,⟨(zz92 HO475)⟩,⟨(zz2 BK462)⟩,⟨(zz2 BK463)⟩,⟨(zz70 HB GE462 GE463)⟩⟩
  case round=>
   clear H';obtain ⟨x8_1,x10_1,x464000_1,x464002_1,x464003_1,rfl,HA,HK1,HO_8,HO_9,BK462,BK463,HB⟩:=hrel;cases gk with
   | zero=>exact absurd HA.out (by simp [spec_l1Way.l0])
   | succ k1=>
    obtain ⟨H⟩:=HA;simp only [spec_l1Way.l0] at H
    replace H:=iteEd H;rcases H with ⟨c14b0,H⟩|⟨c14b0,H⟩
    ·replace H:=iteNd H
     obtain ⟨c15b0,H⟩:=H;replace H:=bindA H;obtain ⟨⟨t477,t478⟩,A16,H⟩:=H;try dsimp only at H
     have HF17:=A_ H;clear H;obtain ⟨Ao18,co18,eo18⟩:=Kd.R_slice HO_9.out;subst eo18;obtain ⟨⟨ad476,e476,hx476_0⟩,p476,q476⟩:=atB (Kd.at_string (Kd.R_reads' HO_9.out).2.2 x10_1);cases e476
     go_upto_if 43 with (first|(refine gR 120 (some 39) Tryz.func120 (spec_EscNorm.calls k1 (rdOf ByteArray.empty t473 x10_1) t477 t478 _ A16.out) ?_;rintro w19 hb;replace HO_8:=A_ (rB (zz15 HO_8) hb);replace HO_9:=A_ (rB (zz15 HO_9) hb);replace BK462:=A_ (bB (zz2 BK462) hb);replace BK463:=A_ (bB (zz2 BK463) hb);replace HB:=A_ (bS (zz70 HB GE462 GE463) hb);(try clear hb)))
     obtain ⟨H⟩:=HF17;replace H:=iteB H;rcases H with ⟨rfl,H⟩|⟨rfl,H⟩
     ·replace H:=iteN H
      obtain ⟨c21,H⟩:=H;have LMc21:=A_ c21;clear c21;obtain ⟨y479,Ny479⟩:=toY (x8_1++[t477]);(first|with_reducible replace H:=bindZ Ny479 H|rw [← Ny479.out] at H|skip)
      have H':=A_ H;clear H;go_wp2_with (first|((with_reducible refine gate_builtin (b:=.append) (xs:=#[.tmp 45,.tmp 47]) rfl ?_);at_builtin;refine Kd.R_append Kd.string (w0:=w) w.heap.size rfl (.tmp 45) (.tmp 47) 35 9 (.string ⟨#[]⟩) 16 rfl Tryz.underlying35 info9 rfl (by decide) (by omega) u8 x8_1 t477 [.string t477] (fun k_=>some k_≠(.slice (some ad476) t473.length co18:Value).ownBlock) (fun _=>False) rfl rfl ?aP (fun _ hk=>hk.elim) ?aF ?aO ?aB ?aS ?aL ?_;(case aP=>exact rfl);(case aB=>exact (zz70 HB GE462 GE463));(case aF=>exact (fun k_ hk=>Kd.fresh' (Kd.R_lt (zz15 HO_9)) k_ hk));(case aO=>exact (zz15 HO_8));(case aS=>exact (below_size (zz70 HB GE462 GE463)));(case aL=>exact (zz5 LMc21));intro v480 w22 ho hb hg hat;rw [← Ny479.out] at ho;replace HO_9:=A_ (Kd.R_after (ok:=(fun _=>True)) (zz94 HO_9) hg hat);replace BK462:=A_ (blk_grown (zz2 BK462) hg (Kd.R_ne HO_8.out BK462.out (by decide)));replace BK463:=A_ (blk_grown (zz2 BK463) hg (Kd.R_ne HO_8.out BK463.out (by decide)));replace HB:=A_ (hb);have HO481:=A_ (ho);clear HO_8;clear ho hb hg hat))
      go_roundg k1
      case measure=>have:=HK1.out;omega
      case rel=>exact ⟨(y479),(wrap64 (x10_1+1)),(x464000_1),(x464002_1),(x464003_1),zz1,H',⟨(zz5 HK1)⟩,⟨(zz15 HO481)⟩,⟨(zz92 HO_9)⟩,⟨(zz2 BK462)⟩,⟨(zz2 BK463)⟩,⟨(zz70 HB GE462 GE463)⟩⟩
     ·simp only [Option.some.injEq,Prod.mk.injEq] at H
      obtain ⟨rfl,rfl,rfl,rfl,rfl⟩:=H;have hnb23:=NB463_462.out;have hnc23:=NB462_463.out;obtain ⟨_,_,_,_,_,_,_,_⟩:=cf4 BK463;go_wp2
      refine pR (results_ct rfl _ _ gb463 39 #[.string (⟨#[]⟩:ByteArray),.slice none 0 0,.bool false,.string (⟨#[]⟩:ByteArray)] (0,0) _ rfl (zz37 BK463) Tryz.underlying39 rfl (by kernel_rfl)) rfl ?_;exact ⟨_,zz6,zz22,(zz70 HB GE462 GE463)⟩
    ·replace H:=bindA H
     obtain ⟨⟨t482,t483⟩,A25,H⟩:=H;try dsimp only at H
     replace H:=bindA H;obtain ⟨t484,A26,H⟩:=H;have HF27:=A_ H;clear H;obtain ⟨Ao28,co28,eo28⟩:=Kd.R_slice HO_9.out;subst eo28;try go_wp2_with (first|(refine gR 120 (some 51) Tryz.func120 (spec_EscNorm.calls k1 t465 t482 t483 _ A25.out) ?_;rintro w29 hb;replace HO_8:=A_ (rB (zz15 HO_8) hb);replace HO_9:=A_ (rB (zz15 HO_9) hb);replace BK462:=A_ (bB (zz2 BK462) hb);replace BK463:=A_ (bB (zz2 BK463) hb);replace HB:=A_ (bS (zz70 HB GE462 GE463) hb);(try clear hb);obtain ⟨Ao30,co30,eo30⟩:=Kd.R_slice HO_8.out;subst eo30))
     replace HO_8:=A_ (Kd.R_drew HO_8.out);replace HO_9:=A_ (Kd.R_drew HO_9.out);replace BK462:=A_ (blk_drew BK462.out);replace BK463:=A_ (blk_drew BK463.out);replace HB:=A_ (below_drew1 HB.out);refine start_ (n:=9) (S:=fun w'=>w'.cell? ⟨gb462,0,none⟩=some (.string a0_0)∧w'.cell? ⟨gb462,1,none⟩=some (.slice A0_1 l0_1.length c0_1)∧w'.cell? ⟨gb462,2,none⟩=some (.bool a0_2)∧w'.cell? ⟨gb462,3,none⟩=some (.string a0_3)) (ds:=[]) #[yF,yF,yF,yF,yF,yF,yF,yF,yF] (by kernel_rfl) rfl rfl ⟨(blk_cell BK462.out 0).trans rfl,(blk_cell BK462.out 1).trans rfl,(blk_cell BK462.out 2).trans rfl,(blk_cell BK462.out 3).trans rfl⟩ (fun hHeld=>?_);refine with_tabW spec_l1Way.tab12 spec_l1Way.bits12 (fun HT_ HW_=>?_);generalize w29.drew=w31 at HO_8 HO_9 BK462 BK463 HB hHeld ⊢;refine pureZ 0 (some 54) #[yT,yF,yF,yF,yF,yF,yF,yF,yF] ?_;refine pureZ 2 (some 56) #[yT,yF,yT,yF,yF,yF,yF,yF,yF] ?_;refine pureZ 4 (some 58) #[yT,yF,yT,yF,yT,yF,yF,yF,yF] ?_;refine pureZ 5 (some 59) #[yT,yF,yT,yF,yT,yT,yF,yF,yF] ?_;refine takeZ4 1 (some 55) #[yT,yT,yT,yF,yT,yT,yF,yF,yF] hHeld ?_;refine join_ (σ:=Value×Nat) 1 #[yT,yT,yT,yT,yT,yT,yT,yT,yF] (fun s_=>[(57,s_.1),(15,.pointer (some ⟨s_.2,0,none⟩)),(60,.agg #[.string a0_0,s_.1,.bool t466,.string t482])]) (fun s_ w'=>(w'.cell? ⟨gb462,0,none⟩=some (.string a0_0)∧w'.cell? ⟨gb462,1,none⟩=some (.slice A0_1 l0_1.length c0_1)∧w'.cell? ⟨gb462,2,none⟩=some (.bool a0_2)∧w'.cell? ⟨gb462,3,none⟩=some (.string a0_3))∧(Kd.R Kd.string 9 w' w.heap.size (fun k_=>some k_≠(.slice Ao30 x8_1.length co30:Value).ownBlock∧some k_≠(.slice Ao28 t473.length co28:Value).ownBlock) s_.1 t484)∧(Kd.R Kd.string 9 w' w.heap.size (fun k_=>some k_≠(s_.1:Value).ownBlock∧some k_≠(.slice Ao28 t473.length co28:Value).ownBlock) (.slice Ao30 x8_1.length co30) x8_1)∧(Kd.R Kd.string 9 w' w.heap.size (fun k_=>some k_≠(s_.1:Value).ownBlock∧some k_≠(.slice Ao30 x8_1.length co30:Value).ownBlock) (.slice Ao28 t473.length co28) t473)∧(w'.heap[gb462]?=some (.cells #[.string a0_0,.slice A0_1 l0_1.length c0_1,.bool a0_2,.string a0_3] 39 (0,0)))∧(w'.heap[gb463]?=some (.cells #[.string x464000_1,.slice none 0 0,.bool x464002_1,.string x464003_1] 39 (0,0)))∧(w'.heap[s_.2]?=some (.cells #[.string (⟨#[]⟩:ByteArray),.slice none 0 0,.bool false,.string (⟨#[]⟩:ByteArray)] 39 (0,0)))∧(w.heap.size≤s_.2)∧(w.heap.size≤s_.2)∧(gb462≠s_.2)∧(s_.2≠gb462)∧(gb463≠s_.2)∧(s_.2≠gb463)∧(Below w.heap.size w w')) ?_ ?_;rotate_left
     ·intro hCont
      refine twoZ 3 7 (some 57) (some 15) #[yT,yT,yT,yT,yT,yT,yF,yF,yF] #[yT,yT,yT,yF,yT,yT,yF,yT,yF] (fun K hK=>?_) (fun K hK=>?_)
      ·skip
       refine goes_ Tryz.func121 (by kernel_rfl) rfl #[.slice Ao30 x8_1.length co30] (by rfl) rfl rfl zz35 ?_;with_reducible refine (spec_PathClean.calls k1 _ _ x8_1 t484 _ ?side1 ?side2 A26.out).mono ?_
       (case side1=>exact (zz38 HO_8))
       (case side2=>exact (Kd.R_reads' HO_8.out).2.1)
       rintro e w32 ⟨v485,rfl,ho0,hb⟩;refine ⟨_,rfl,?_⟩;have HO486:=A_ (Kd.R_lower (Kd.R_new' (Kd.R_new' ho0 (Kd.R_lt (zz15 HO_8))) (Kd.R_lt (zz15 HO_9))) (below_size (zz70 HB GE462 GE463)));replace HO_8:=A_ (Kd.R_elder' (zz15 HO_8) (Kd.R_base ho0) hb);replace HO_9:=A_ (Kd.R_elder' (zz15 HO_9) (Kd.R_base ho0) hb);replace BK462:=A_ (bB (zz2 BK462) hb);replace BK463:=A_ (bB (zz2 BK463) hb);replace HB:=A_ (bS (zz70 HB GE462 GE463) hb);(try clear hb)
       (try clear hb2)
       (try clear hk)
       (try clear hi)
       (try clear ho0)
       obtain ⟨Ao33,co33,eo33⟩:=Kd.R_slice HO486.out;(first|subst eo33|(injection eo33 with f1_ f2_ f3_;have f4_:=f1_.symm;have f5_:=f3_.symm;clear f1_ f2_ f3_;subst f4_;subst f5_))
       refine hK.out _ _ ⟨(blk_cell BK462.out 0).trans rfl,(blk_cell BK462.out 1).trans rfl,(blk_cell BK462.out 2).trans rfl,(blk_cell BK462.out 3).trans rfl⟩ (fun hHeld=>?_);clear hK K;refine nZ 57 ?_;refine pureZ 6 (some 60) #[yT,yT,yT,yT,yT,yT,yT,yF,yF] ?_;refine oneZ 7 (some 15) #[yT,yT,yT,yT,yT,yT,yT,yT,yF] (fun K hK=>?_);refine box_step ?hg (N:=15) ?hd (cs:=#[.string (⟨#[]⟩:ByteArray),.slice none 0 0,.bool false,.string (⟨#[]⟩:ByteArray)]) (t:=39) ?hr ?_;(case hd=>rfl);(case hg=>rfl);(case hr=>exact zz14);intro gb487 hg w34 hbox hb;replace HO_8:=A_ (rB (zz15 HO_8) hb);replace HO_9:=A_ (rB (zz15 HO_9) hb);replace HO486:=A_ (rB (zz15 HO486) hb);have BK487:=A_ (hbox);have GW487:=A_ ((by rw [hg];exact (below_size (zz70 HB GE462 GE463)):w.heap.size≤gb487));have GE487:=A_ ((by rw [hg];exact (below_size (zz70 HB GE462 GE463)):w.heap.size≤gb487));replace HB:=A_ (bS (zz70 HB GE462 GE463) hb);have NB462_487:=A_ ((by rw [hg];exact Nat.ne_of_lt (blk_lt (zz2 BK462)):gb462≠gb487));have NB487_462:=A_ ((by rw [hg];exact Nat.ne_of_gt (blk_lt (zz2 BK462)):gb487≠gb462));replace BK462:=A_ (bB (zz2 BK462) hb);have NB463_487:=A_ ((by rw [hg];exact Nat.ne_of_lt (blk_lt (zz2 BK463)):gb463≠gb487));have NB487_463:=A_ ((by rw [hg];exact Nat.ne_of_gt (blk_lt (zz2 BK463)):gb487≠gb463));replace BK463:=A_ (bB (zz2 BK463) hb);clear hb hbox hg;refine hK.out _ _ ⟨(blk_cell BK462.out 0).trans rfl,(blk_cell BK462.out 1).trans rfl,(blk_cell BK462.out 2).trans rfl,(blk_cell BK462.out 3).trans rfl⟩ (fun hHeld=>?_);clear hK K;refine nZ 15 ?_;exact norm_ viaP (hCont (.slice Ao33 t484.length co33,gb487) _ ⟨hHeld,(zz48 HO486),(zz102 HO_8),(zz102 HO_9),(zz2 BK462),(zz2 BK463),(zz2 BK487),GW487.out,GE487.out,NB462_487.out,NB487_462.out,NB463_487.out,NB487_463.out,(zz103 HB GE462 GE463 GE487)⟩)
      ·skip
       refine box_step ?hg (N:=15) ?hd (cs:=#[.string (⟨#[]⟩:ByteArray),.slice none 0 0,.bool false,.string (⟨#[]⟩:ByteArray)]) (t:=39) ?hr ?_;(case hd=>rfl);(case hg=>rfl);(case hr=>exact zz14);intro gb487 hg w32 hbox hb;replace HO_8:=A_ (rB (zz15 HO_8) hb);replace HO_9:=A_ (rB (zz15 HO_9) hb);have BK487:=A_ (hbox);have GW487:=A_ ((by rw [hg];exact (below_size (zz70 HB GE462 GE463)):w.heap.size≤gb487));have GE487:=A_ ((by rw [hg];exact (below_size (zz70 HB GE462 GE463)):w.heap.size≤gb487));replace HB:=A_ (bS (zz70 HB GE462 GE463) hb);have NB462_487:=A_ ((by rw [hg];exact Nat.ne_of_lt (blk_lt (zz2 BK462)):gb462≠gb487));have NB487_462:=A_ ((by rw [hg];exact Nat.ne_of_gt (blk_lt (zz2 BK462)):gb487≠gb462));replace BK462:=A_ (bB (zz2 BK462) hb);have NB463_487:=A_ ((by rw [hg];exact Nat.ne_of_lt (blk_lt (zz2 BK463)):gb463≠gb487));have NB487_463:=A_ ((by rw [hg];exact Nat.ne_of_gt (blk_lt (zz2 BK463)):gb487≠gb463));replace BK463:=A_ (bB (zz2 BK463) hb);clear hb hbox hg;refine hK.out _ _ ⟨(blk_cell BK462.out 0).trans rfl,(blk_cell BK462.out 1).trans rfl,(blk_cell BK462.out 2).trans rfl,(blk_cell BK462.out 3).trans rfl⟩ (fun hHeld=>?_);clear hK K;refine nZ 15 ?_;refine oneZ 3 (some 57) #[yT,yT,yT,yT,yT,yT,yF,yT,yF] (fun K hK=>?_);refine goes_ Tryz.func121 (by kernel_rfl) rfl #[.slice Ao30 x8_1.length co30] (by rfl) rfl rfl zz35 ?_;with_reducible refine (spec_PathClean.calls k1 _ _ x8_1 t484 _ ?side1 ?side2 A26.out).mono ?_
       (case side1=>exact (zz38 HO_8))
       (case side2=>exact (Kd.R_reads' HO_8.out).2.1)
       rintro e w33 ⟨v485,rfl,ho0,hb⟩;refine ⟨_,rfl,?_⟩;have HO486:=A_ (Kd.R_lower (Kd.R_new' (Kd.R_new' ho0 (Kd.R_lt (zz15 HO_8))) (Kd.R_lt (zz15 HO_9))) (below_size (zz103 HB GE462 GE463 GE487)));replace HO_8:=A_ (Kd.R_elder' (zz15 HO_8) (Kd.R_base ho0) hb);replace HO_9:=A_ (Kd.R_elder' (zz15 HO_9) (Kd.R_base ho0) hb);replace BK462:=A_ (bB (zz2 BK462) hb);replace BK463:=A_ (bB (zz2 BK463) hb);replace BK487:=A_ (bB (zz2 BK487) hb);replace HB:=A_ (bS (zz103 HB GE462 GE463 GE487) hb);(try clear hb)
       (try clear hb2)
       (try clear hk)
       (try clear hi)
       (try clear ho0)
       obtain ⟨Ao34,co34,eo34⟩:=Kd.R_slice HO486.out;(first|subst eo34|(injection eo34 with f1_ f2_ f3_;have f4_:=f1_.symm;have f5_:=f3_.symm;clear f1_ f2_ f3_;subst f4_;subst f5_))
       refine hK.out _ _ ⟨(blk_cell BK462.out 0).trans rfl,(blk_cell BK462.out 1).trans rfl,(blk_cell BK462.out 2).trans rfl,(blk_cell BK462.out 3).trans rfl⟩ (fun hHeld=>?_);clear hK K;refine nZ 57 ?_;refine pureZ 6 (some 60) #[yT,yT,yT,yT,yT,yT,yT,yT,yF] ?_;exact norm_ viaP (hCont (.slice Ao34 t484.length co34,gb487) _ ⟨hHeld,(zz48 HO486),(zz102 HO_8),(zz102 HO_9),(zz2 BK462),(zz2 BK463),(zz2 BK487),GW487.out,GE487.out,NB462_487.out,NB487_462.out,NB463_487.out,NB487_463.out,(zz103 HB GE462 GE463 GE487)⟩)
     rintro ⟨v485,gb487⟩ w35 ⟨hS_,h0_,h1_,h2_,h3_,h4_,h5_,h6_,h7_,h8_,h9_,h10_,h11_,h12_⟩;have n0_:=A_ h0_;have n1_:=A_ h1_;have n2_:=A_ h2_;have n3_:=A_ h3_;have n4_:=A_ h4_;have n5_:=A_ h5_;have n6_:=A_ h6_;have n7_:=A_ h7_;have n8_:=A_ h8_;have n9_:=A_ h9_;have n10_:=A_ h10_;have n11_:=A_ h11_;have n12_:=A_ h12_;(try dsimp only at n0_ n1_ n2_ n3_ n4_ n5_ n6_ n7_ n8_ n9_ n10_ n11_ n12_)
     clear HO_8;clear HO_9;clear BK462;clear BK463;clear HB;clear h0_ h1_ h2_ h3_ h4_ h5_ h6_ h7_ h8_ h9_ h10_ h11_ h12_;have HO486:=n0_;have HO_8:=n1_;have HO_9:=n2_;have BK462:=n3_;have BK463:=n4_;have BK487:=n5_;have GW487:=n6_;have GE487:=n7_;have NB462_487:=n8_;have NB487_462:=n9_;have NB463_487:=n10_;have NB487_463:=n11_;have HB:=n12_;clear n0_ n1_ n2_ n3_ n4_ n5_ n6_ n7_ n8_ n9_ n10_ n11_ n12_;have hHeld:w35.cell? ⟨gb462,0,none⟩=some (.string a0_0)∧w35.cell? ⟨gb462,1,none⟩=some (.slice A0_1 l0_1.length c0_1)∧w35.cell? ⟨gb462,2,none⟩=some (.bool a0_2)∧w35.cell? ⟨gb462,3,none⟩=some (.string a0_3):=hS_;obtain ⟨Ao36,co36,eo36⟩:=Kd.R_slice HO486.out;(first|subst eo36|(injection eo36 with f1_ f2_ f3_;have f4_:=f1_.symm;have f5_:=f3_.symm;clear f1_ f2_ f3_;subst f4_;subst f5_))
     refine norm_ (a':=?_) ?_ ?_;rotate_left
     ·simp only [putAll,Act.put,List.setIfInBounds_toArray,List.set_cons_zero,List.set_cons_succ]
      rfl
     refine oneZ 8 (none) #[yT,yT,yT,yT,yT,yT,yT,yT,yT] (fun K hK=>?_);have hs37:w35.cell? ⟨gb487,0,none⟩=some (.string (⟨#[]⟩:ByteArray)):=(blk_cell BK487.out 0).trans rfl;have hfs37:=blk_frozen BK487.out 0;have hns37_0:=NB462_487.out;have hns37_1:=NB463_487.out;have hms37_0:=NB487_462.out;have hms37_1:=NB487_463.out;have hs38:w35.cell? ⟨gb487,1,none⟩=some (.slice none 0 0):=(blk_cell BK487.out 1).trans rfl;have hfs38:=blk_frozen BK487.out 1;have hns38_0:=NB462_487.out;have hns38_1:=NB463_487.out;have hms38_0:=NB487_462.out;have hms38_1:=NB487_463.out;have hs39:w35.cell? ⟨gb487,2,none⟩=some (.bool false):=(blk_cell BK487.out 2).trans rfl;have hfs39:=blk_frozen BK487.out 2;have hns39_0:=NB462_487.out;have hns39_1:=NB463_487.out;have hms39_0:=NB487_462.out;have hms39_1:=NB487_463.out;have hs40:w35.cell? ⟨gb487,3,none⟩=some (.string (⟨#[]⟩:ByteArray)):=(blk_cell BK487.out 3).trans rfl;have hfs40:=blk_frozen BK487.out 3;have hns40_0:=NB462_487.out;have hns40_1:=NB463_487.out;have hms40_0:=NB487_462.out;have hms40_1:=NB487_463.out;refine skip_ (w1:=?_) (by rfl) rfl ?_ ?_;rotate_left
     ·go_simp
      rfl
     refine hK.out _ _ ⟨((cell_far (p:=⟨gb487,_,none⟩) NB462_487.out _).trans (((cell_far (p:=⟨gb487,_,none⟩) NB462_487.out _).trans (((cell_far (p:=⟨gb487,_,none⟩) NB462_487.out _).trans (((cell_far (p:=⟨gb487,_,none⟩) NB462_487.out _).trans (hHeld.1)))))))),((cell_far (p:=⟨gb487,_,none⟩) NB462_487.out _).trans (((cell_far (p:=⟨gb487,_,none⟩) NB462_487.out _).trans (((cell_far (p:=⟨gb487,_,none⟩) NB462_487.out _).trans (((cell_far (p:=⟨gb487,_,none⟩) NB462_487.out _).trans (hHeld.2.1)))))))),((cell_far (p:=⟨gb487,_,none⟩) NB462_487.out _).trans (((cell_far (p:=⟨gb487,_,none⟩) NB462_487.out _).trans (((cell_far (p:=⟨gb487,_,none⟩) NB462_487.out _).trans (((cell_far (p:=⟨gb487,_,none⟩) NB462_487.out _).trans (hHeld.2.2.1)))))))),((cell_far (p:=⟨gb487,_,none⟩) NB462_487.out _).trans (((cell_far (p:=⟨gb487,_,none⟩) NB462_487.out _).trans (((cell_far (p:=⟨gb487,_,none⟩) NB462_487.out _).trans (((cell_far (p:=⟨gb487,_,none⟩) NB462_487.out _).trans (hHeld.2.2.2))))))))⟩ (fun hHeld=>?_);clear hK K;refine done_ (done_of HT_.out (by kernel_rfl)) ?_;have n0_:Aside0 (Kd.R Kd.string 9 ((((w35.setCell ⟨gb487,0,none⟩ (.string a0_0)).setCell ⟨gb487,1,none⟩ (.slice Ao36 t484.length co36)).setCell ⟨gb487,2,none⟩ (.bool t466)).setCell ⟨gb487,3,none⟩ (.string t482)) w.heap.size (fun k_=>some k_≠(.slice Ao28 t473.length co28:Value).ownBlock∧some k_≠(.slice Ao36 t484.length co36:Value).ownBlock) (.slice Ao30 x8_1.length co30) x8_1):=⟨(zz52 (rt HO_8 BK487))⟩;have n1_:Aside0 (Kd.R Kd.string 9 ((((w35.setCell ⟨gb487,0,none⟩ (.string a0_0)).setCell ⟨gb487,1,none⟩ (.slice Ao36 t484.length co36)).setCell ⟨gb487,2,none⟩ (.bool t466)).setCell ⟨gb487,3,none⟩ (.string t482)) w.heap.size (fun k_=>some k_≠(.slice Ao30 x8_1.length co30:Value).ownBlock∧some k_≠(.slice Ao36 t484.length co36:Value).ownBlock) (.slice Ao28 t473.length co28) t473):=⟨(zz52 (rt HO_9 BK487))⟩;have n2_:Aside0 (Kd.R Kd.string 9 ((((w35.setCell ⟨gb487,0,none⟩ (.string a0_0)).setCell ⟨gb487,1,none⟩ (.slice Ao36 t484.length co36)).setCell ⟨gb487,2,none⟩ (.bool t466)).setCell ⟨gb487,3,none⟩ (.string t482)) w.heap.size (fun k_=>some k_≠(.slice Ao30 x8_1.length co30:Value).ownBlock∧some k_≠(.slice Ao28 t473.length co28:Value).ownBlock) (.slice Ao36 t484.length co36) t484):=⟨(zz52 (rt HO486 BK487))⟩;have n3_:Aside0 (((((w35.setCell ⟨gb487,0,none⟩ (.string a0_0)).setCell ⟨gb487,1,none⟩ (.slice Ao36 t484.length co36)).setCell ⟨gb487,2,none⟩ (.bool t466)).setCell ⟨gb487,3,none⟩ (.string t482)).heap[gb462]?=some (.cells #[.string a0_0,.slice A0_1 l0_1.length c0_1,.bool a0_2,.string a0_3] 39 (0,0))):=⟨(zz104 BK462 NB462_487)⟩;have n4_:Aside0 (((((w35.setCell ⟨gb487,0,none⟩ (.string a0_0)).setCell ⟨gb487,1,none⟩ (.slice Ao36 t484.length co36)).setCell ⟨gb487,2,none⟩ (.bool t466)).setCell ⟨gb487,3,none⟩ (.string t482)).heap[gb463]?=some (.cells #[.string x464000_1,.slice none 0 0,.bool x464002_1,.string x464003_1] 39 (0,0))):=⟨(zz104 BK463 NB463_487)⟩;have n5_:Aside0 (((((w35.setCell ⟨gb487,0,none⟩ (.string a0_0)).setCell ⟨gb487,1,none⟩ (.slice Ao36 t484.length co36)).setCell ⟨gb487,2,none⟩ (.bool t466)).setCell ⟨gb487,3,none⟩ (.string t482)).heap[gb487]?=some (.cells #[.string a0_0,.slice Ao36 t484.length co36,.bool t466,.string t482] 39 (0,0))):=⟨(zz37 BK487)⟩;have n6_:Aside0 (Below w.heap.size w ((((w35.setCell ⟨gb487,0,none⟩ (.string a0_0)).setCell ⟨gb487,1,none⟩ (.slice Ao36 t484.length co36)).setCell ⟨gb487,2,none⟩ (.bool t466)).setCell ⟨gb487,3,none⟩ (.string t482))):=⟨(zz103 HB GE462 GE463 GE487)⟩;(try clear HO_8)
     (try clear HO_9)
     (try clear HO486)
     (try clear BK462)
     (try clear BK463)
     (try clear BK487)
     (try clear HB)
     generalize ((((w35.setCell ⟨gb487,0,none⟩ (.string a0_0)).setCell ⟨gb487,1,none⟩ (.slice Ao36 t484.length co36)).setCell ⟨gb487,2,none⟩ (.bool t466)).setCell ⟨gb487,3,none⟩ (.string t482))=w41 at n0_ n1_ n2_ n3_ n4_ n5_ n6_ ⊢;have HO_8:=n0_;have HO_9:=n1_;have HO486:=n2_;have BK462:=n3_;have BK463:=n4_;have BK487:=n5_;have HB:=n6_;clear n0_ n1_ n2_ n3_ n4_ n5_ n6_;go_wp2_with (first|((with_reducible refine atG ?_ ?_ fun K_ hK_=>?_);rfl;exact undecG)|((with_reducible refine atI ?_ fun K_ hK_=>?_);exact undecI))
     refine unG hK_ ?_;clear hK_ K_;obtain ⟨H⟩:=HF27;replace H:=iteB H;rcases H with ⟨rfl,H⟩|⟨rfl,H⟩
     ·(first|refine iteT ?_|refine iteF ?_|skip)
      replace H:=bindA H;obtain ⟨t488,A43,H⟩:=H;have HF44:=A_ H;clear H;have hnb45:=NB487_462.out;have hnc45:=NB462_487.out;have hnb46:=NB487_463.out;have hnc46:=NB463_487.out;obtain ⟨_,_,_,_,_,_,_,_⟩:=cf4 BK487;(try ((with_reducible refine upS ?_);go_simp))
      go_upto_if 67 with (first|(go_at_call 72;(with_reducible refine (spec_AddrOk.calls k1 a0_0 _ _ t484 t466 t482 t488 _ ?side1 ?side2 A43.out).mono ?_);(case side1=>exact (zz38 HO486));(case side2=>exact (Kd.R_reads' HO486.out).2.1);rintro e w48 ⟨rfl,hb⟩;replace HO_8:=A_ (rB (zz15 HO_8) hb);replace HO_9:=A_ (rB (zz15 HO_9) hb);replace HO486:=A_ (rB (zz15 HO486) hb);replace BK462:=A_ (bB (zz2 BK462) hb);replace BK463:=A_ (bB (zz2 BK463) hb);replace BK487:=A_ (bB (zz2 BK487) hb);replace HB:=A_ (bS (zz103 HB GE462 GE463 GE487) hb);(try clear hb)))
      obtain ⟨H⟩:=HF44;replace H:=iteB H;rcases H with ⟨rfl,H⟩|⟨rfl,H⟩
      ·simp only [Option.some.injEq,Prod.mk.injEq] at H
       obtain ⟨rfl,rfl,rfl,rfl,rfl⟩:=H;have hnb50:=NB487_462.out;have hnc50:=NB462_487.out;have hnb51:=NB487_463.out;have hnc51:=NB463_487.out;obtain ⟨_,_,_,_,_,_,_,_⟩:=cf4 BK487;have hnb53:=NB463_462.out;have hnc53:=NB462_463.out;obtain ⟨_,_,_,_,_,_,_,_⟩:=cf4 BK463;go_wp2
       refine pR (results_ct rfl _ _ gb463 39 #[.string a0_0,.slice Ao36 t484.length co36,.bool t466,.string t482] (0,0) _ rfl (zz37 BK463) Tryz.underlying39 rfl (by kernel_rfl)) rfl ?_;exact ⟨_,zz6,(zz52 (rt HO486 BK463)),(zz103 HB GE462 GE463 GE487)⟩
      ·simp only [Option.some.injEq,Prod.mk.injEq] at H
       obtain ⟨rfl,rfl,rfl,rfl,rfl⟩:=H;have hnb55:=NB463_462.out;have hnc55:=NB462_463.out;have hnb56:=NB463_487.out;have hnc56:=NB487_463.out;obtain ⟨_,_,_,_,_,_,_,_⟩:=cf4 BK463;go_wp2
       refine pR (results_ct rfl _ _ gb463 39 #[.string (⟨#[]⟩:ByteArray),.slice none 0 0,.bool false,.string (⟨#[]⟩:ByteArray)] (0,0) _ rfl (zz37 BK463) Tryz.underlying39 rfl (by kernel_rfl)) rfl ?_;exact ⟨_,zz6,zz22,(zz103 HB GE462 GE463 GE487)⟩
     ·(first|refine iteT ?_|refine iteF ?_|skip)
      simp only [Option.some.injEq,Prod.mk.injEq] at H
      obtain ⟨rfl,rfl,rfl,rfl,rfl⟩:=H;have hnb58:=NB463_462.out;have hnc58:=NB462_463.out;have hnb59:=NB463_487.out;have hnc59:=NB487_463.out;obtain ⟨_,_,_,_,_,_,_,_⟩:=cf4 BK463;(try ((with_reducible refine upS ?_);go_simp))
      go_wp2
      refine pR (results_ct rfl _ _ gb463 39 #[.string (⟨#[]⟩:ByteArray),.slice none 0 0,.bool false,.string (⟨#[]⟩:ByteArray)] (0,0) _ rfl (zz37 BK463) Tryz.underlying39 rfl (by kernel_rfl)) rfl ?_;exact ⟨_,zz6,zz22,(zz103 HB GE462 GE463 GE487)⟩
 ·exact absurd H (by simp)
def spec_l71Addr.l0:Nat→Int→List Int→Int→ByteArray→List ByteArray→Bool→ByteArray→Option (ByteArray×Int)
 | 0,_,_,_,_,_,_,_=>none
 | k+1,x4,x1000,x1001,x149000,x149001,x149002,x149003=>if x4 > 0 then ((spec_l6Rd_of.f k x1000 x1001 (([(⟨#[97]⟩:ByteArray),(⟨#[98]⟩:ByteArray),(⟨#[99]⟩:ByteArray),(⟨#[110,111,116,105,99,101]⟩:ByteArray)]:List ByteArray))).bind fun bt154=>(if x149001.length < 8796093022208 then (spec_l71Addr.l0 k (wrap64 (x4 - 1)) x1000 bt154.2 x149000 (x149001++[bt154.1]) x149002 x149003) else (none))) else ((spec_l6Rd_pick.f k x1000 x1001 8).bind fun bt159=>(if bt159.1=0 then ((spec_l6Rd_of.f k x1000 bt159.2 (([(⟨#[]⟩:ByteArray),(⟨#[97]⟩:ByteArray),(⟨#[98,37,51,68]⟩:ByteArray)]:List ByteArray))).bind fun bt164=>((spec_AddrText.f k x149000 x149001 true bt164.1).bind fun t166=>(some (t166,bt164.2)))) else ((spec_AddrText.f k x149000 x149001 x149002 x149003).bind fun t167=>(some (t167,bt159.2)))))
def spec_l71Addr.f (k:Nat) (s0_0:List Int) (s0_1:Int):Option (ByteArray×Int):=(spec_l71Houses.f).bind fun t142=>((spec_l6Rd_pick.f k s0_0 s0_1 4).bind fun bt145=>(if 0≤bt145.1 then (if bt145.1 < (t142.length:Int) then ((spec_l6Rd_pick.f k s0_0 bt145.2 3).bind fun bt149=>(spec_l71Addr.l0 k bt149.1 s0_0 bt149.2 (rdOf ByteArray.empty t142 bt145.1) ([]:List ByteArray) false (⟨#[]⟩:ByteArray))) else (none)) else (none)))
theorem spec_l71Addr.mono_l:∀ k,(∀ y0 y1 y2 y3 y4 y5 y6,LeO (spec_l71Addr.l0 k y0 y1 y2 y3 y4 y5 y6) (spec_l71Addr.l0 (k+1) y0 y1 y2 y3 y4 y5 y6))
 | 0=>by intros;intro r h;simp [spec_l71Addr.l0] at h
 | k+1=>by
  have ih0:=spec_l71Addr.mono_l k;intros;unfold spec_l71Addr.l0;repeat' first|(with_reducible first|exact ih0 _ _ _ _ _ _ _|exact spec_AddrText.mono _ _ _ _ _|exact spec_l6Rd_of.mono _ _ _ _|exact spec_l6Rd_pick.mono _ _ _ _|exact LeO.refl _|exact LeO.none _|refine LeO.ite ?_ ?_|refine LeO.bind ?_ (fun _=>?_))|exact LeO.none _|refine LeO.ite ?_ ?_|refine LeO.bind ?_ (fun _=>?_)
theorem spec_l71Addr.mono:∀ a0 a1 k,LeO (spec_l71Addr.f k a0 a1) (spec_l71Addr.f (k+1) a0 a1):=by
 intro a0 a1 k;have ih0:=spec_l71Addr.mono_l k;unfold spec_l71Addr.f
 repeat' first|(with_reducible first|exact ih0 _ _ _ _ _ _ _|exact spec_AddrText.mono _ _ _ _ _|exact spec_l6Rd_of.mono _ _ _ _|exact spec_l6Rd_pick.mono _ _ _ _|exact LeO.refl _|exact LeO.none _|refine LeO.ite ?_ ?_|refine LeO.bind ?_ (fun _=>?_))|exact LeO.none _|refine LeO.ite ?_ ?_|refine LeO.bind ?_ (fun _=>?_)
def spec_l71Addr.T5:Bool×List (List Nat×List Nat):=(true,[([],[]),([0],[0]),([],[]),([],[]),([2,3],[2,3]),([4],[4]),([1,5,4],[1,5]),([0,1,2,3,4,5,6],[]),([7,6,6,0,1,2,3,4,5,6],[6,7])])
def spec_l71Addr.B5:List Nat:=[0,1,0,0,12,28,63,127,255]
theorem spec_l71Addr.tab5:rtab .any (opsOf Tryz.f43 5)=spec_l71Addr.T5:=by kernel_rfl
theorem spec_l71Addr.bits5:waitsOk spec_l71Addr.T5.2 spec_l71Addr.B5=true:=by kernel_rfl
theorem spec_l71Addr.calls (k:Nat) (g:Nat) (s0_0:List Int) (s0_1:Int) (r1:ByteArray) (r2:Int) (w0 w:World) (hI:IsS68 w0 w g s0_0 s0_1) (hB:Below w0.heap.size w0 w) (h:spec_l71Addr.f k s0_0 s0_1=some (r1,r2)) :
  Calls Tryz.prog 43 #[.pointer (some ⟨g,0,none⟩)] w fun e w'=>e=.returned (.string r1)∧IsS68 w0 w' g s0_0 r2∧Below w0.heap.size w0 w'∧KeepBut w w' g none:=by
 have hu39:=Tryz.underlying39;have HI0:=A_ hI;have HK:=A_ (KeepBut.refl w g none);have HL:=A_ hB.size;clear hI;have HW0:=A_ hB.size;have HB:=A_ hB;clear hB;unfold spec_l71Addr.f at h
 have H:=h;clear h;replace H:=bindA H;obtain ⟨t142,A2,H⟩:=H;replace H:=bindA H;obtain ⟨⟨t145,t146⟩,A3,H⟩:=H;try dsimp only at H
 replace H:=iteE H;rcases H with ⟨c4,H⟩|⟨c4,H⟩
 ·have c4b0:=dT c4
  clear c4;replace H:=iteNd H;obtain ⟨c5b0,H⟩:=H;replace H:=bindA H;obtain ⟨⟨t149,t150⟩,A6,H⟩:=H;try dsimp only at H
  have H':=A_ H;clear H;go_enter Tryz.func43,Tryz.ntmps43;go_wp2_with (first|(refine gV 65 (some 5) Tryz.func65 (spec_l71Houses.calls  t142 _ A2.out) ?_;rintro v143 w7 ⟨ho0,hb⟩;have HO144:=A_ (Kd.R_lower ho0 (keep_size (w:=w) (g:=g) (row:=none) (zz28 HK)));replace HK:=A_ (KeepBut.trans (zz28 HK) (KeepBut.of_below hb g none) (.inl rfl));replace HB:=A_ (bS (zz29 HB HI0) hb);replace HI0:=A_ (IsS68.below (zz27 HI0) hb);(try clear hb ho0))|(refine gR 22 (some 7) Tryz.func22 (spec_l6Rd_pick.calls k g s0_0 s0_1 4 t145 t146 w0 _ ?side1 ?side2 A3.out) ?_;(case side1=>exact (zz27 HI0));(case side2=>exact (zz29 HB HI0));rintro w8 ⟨hi,hb,hk⟩;replace HO144:=A_ (Kd.R_mono (Kd.R_keep (IsS68.apart (show IsS68 w0 _ g s0_0 s0_1 from (zz27 HI0)) (zz15 HO144) (by decide)) hk (fun _ h=>h.2)) (fun _ h=>h.1));replace HK:=A_ (KeepBut.trans (zz28 HK) hk (.inl rfl));replace HB:=A_ (hb);replace HI0:=A_ (hi);(try clear hb hk hi);obtain ⟨Ao9,co9,eo9⟩:=Kd.R_slice HO144.out;subst eo9;have p147:0≤(t145:Int):=ofD;have q147:t145 < (t142.length:Int):=ofD;obtain ⟨ad147,e147,hx147_0⟩:=Kd.at_string (Kd.R_reads' HO144.out).2.2 t145 p147 q147;cases e147;replace p147:=eq_true p147;replace q147:=eq_true q147)|(refine boxF 3 #[.string (⟨#[]⟩:ByteArray),.slice none 0 0,.bool false,.string (⟨#[]⟩:ByteArray)] 39 ?_;intro gb148 hg w10 BK148 hb;replace HO144:=A_ (rB (zz15 HO144) hb);replace HB:=A_ (bS (zz29 HB HI0) hb);have GW148:=A_ ((by rw [hg];exact (keep_size (w:=w) (g:=g) (row:=none) (zz28 HK)):w.heap.size≤gb148));have GE148:=A_ ((Nat.le_trans HW0.out (by rw [hg];exact (keep_size (w:=w) (g:=g) (row:=none) (zz28 HK)):w.heap.size≤gb148):w0.heap.size≤gb148));replace HK:=A_ (KeepBut.trans (zz28 HK) (KeepBut.of_below hb g none) (.inl rfl));have NB0_148:=A_ ((by rw [hg];exact Nat.ne_of_lt (IsS68.lt (show IsS68 w0 _ g s0_0 t146 from (zz27 HI0))):g≠gb148));have NB148_0:=A_ ((by rw [hg];exact Nat.ne_of_gt (IsS68.lt (show IsS68 w0 _ g s0_0 t146 from (zz27 HI0))):gb148≠g));replace HI0:=A_ (IsS68.below (zz27 HI0) hb);clear hb hg;have hnb11:=NB148_0.out;have hnc11:=NB0_148.out;obtain ⟨_,_,_,_,_,_,_,_⟩:=cf4 BK148)|(refine gR 22 (some 12) Tryz.func22 (spec_l6Rd_pick.calls k g s0_0 t146 3 t149 t150 w0 _ ?side1 ?side2 A6.out) ?_;(case side1=>exact (zz42 HI0 NB0_148));(case side2=>exact (zz43 HB HI0 GE148));rintro w13 ⟨hi,hb,hk⟩;replace HO144:=A_ (Kd.R_mono (Kd.R_keep (IsS68.apart (show IsS68 w0 _ g s0_0 t146 from (zz42 HI0 NB0_148)) (by (with_reducible repeat (first|apply Kd.R_alloc|apply Kd.R_drewN|apply Kd.R_drew));exact (Kd.R_mono (Kd.R_far (p:=⟨gb148,3,none⟩) (Kd.R_far (p:=⟨gb148,2,none⟩) (Kd.R_far (p:=⟨gb148,1,none⟩) (Kd.R_far (p:=⟨gb148,0,none⟩) (Kd.R_types HO144.out BK148.out (by decide)) (fun _ hk=>hk.2) (.string (rdOf ByteArray.empty t142 t145))) (fun _ hk=>hk.2) (.slice none 0 0)) (fun _ hk=>hk.2) (.bool false)) (fun _ hk=>hk.2) (.string (⟨#[]⟩:ByteArray))) (fun _ h_=>h_.1))) (by decide)) hk (fun _ h=>h.2)) (fun _ h=>h.1));replace BK148:=A_ (KeepBut.blk hk (g':=gb148) (o:=.cells #[.string (rdOf ByteArray.empty t142 t145),.slice none 0 0,.bool false,.string (⟨#[]⟩:ByteArray)] 39 (0,0)) (zz37 BK148) NB148_0.out (by simp));replace HK:=A_ (KeepBut.trans (zz47 HK GW148) hk (.inl rfl));replace HB:=A_ (hb);replace HI0:=A_ (hi);(try clear hb hk hi)))
  go_loopg [4] k (fun kq v4 w'=>∃ (x4_1:Int) (x1001_1:Int) (x149001_1:List ByteArray) (u149001:Value),v4=.int .i64 x4_1∧Aside0 (spec_l71Addr.l0 kq x4_1 s0_0 x1001_1 (rdOf ByteArray.empty t142 t145) x149001_1 false (⟨#[]⟩:ByteArray)=some (r1,r2))∧Aside0 (kq≤k)∧Aside0 (Kd.R Kd.string 9 w' w.heap.size (fun _=>True) u149001 x149001_1)∧Aside0 (w'.heap[gb148]?=some (.cells #[.string (rdOf ByteArray.empty t142 t145),u149001,.bool false,.string (⟨#[]⟩:ByteArray)] 39 (0,0)))∧Aside0 (IsS68 w0 w' g s0_0 x1001_1)∧Aside0 (KeepBut w w' g none)∧Aside0 (Below w0.heap.size w0 w'))
  case atStart=>exact ⟨(t149),(t150),(([]:List ByteArray)),(.slice none 0 0),zz1,H',⟨Nat.le_refl _⟩,⟨zz22⟩,⟨(zz2 BK148)⟩,⟨(zz42 HI0 NB0_148)⟩,⟨(zz47 HK GW148)⟩,⟨(zz43 HB HI0 GE148)⟩⟩
  case round=>
   clear H';obtain ⟨x4_1,x1001_1,x149001_1,u149001,rfl,HA,HK1,HO_149001,BK148,HI0,HK,HB⟩:=hrel;cases gk with
   | zero=>exact absurd HA.out (by simp [spec_l71Addr.l0])
   | succ k1=>
    obtain ⟨H⟩:=HA;simp only [spec_l71Addr.l0] at H
    replace H:=iteEg H;rcases H with ⟨c14b0,H⟩|⟨c14b0,H⟩
    ·obtain ⟨y151,Ny151⟩:=toY (([(⟨#[97]⟩:ByteArray),(⟨#[98]⟩:ByteArray),(⟨#[99]⟩:ByteArray),(⟨#[110,111,116,105,99,101]⟩:ByteArray)]:List ByteArray))
     (first|with_reducible replace H:=bindZ Ny151 H|rw [← Ny151.out] at H|skip)
     replace H:=bindA H;obtain ⟨⟨t154,t155⟩,A15,H⟩:=H;try dsimp only at H
     replace H:=iteN H;obtain ⟨c16,H⟩:=H;have LMc16:=A_ c16;clear c16;obtain ⟨y156,Ny156⟩:=toY (x149001_1++[t154]);(first|with_reducible replace H:=bindZ Ny156 H|rw [← Ny156.out] at H|skip)
     have H':=A_ H;clear H;try go_wp2
     replace HO_149001:=A_ (Kd.R_drew HO_149001.out);replace BK148:=A_ (blk_drew BK148.out);replace HI0:=A_ (IsS68.drew HI0.out);replace HK:=A_ (keep_drew HK.out);replace HB:=A_ (below_drew1 HB.out);refine start_ (n:=9) (S:=fun w'=>w'.cell? ⟨gb148,0,none⟩=some (.string (rdOf ByteArray.empty t142 t145))∧w'.cell? ⟨gb148,1,none⟩=some (u149001)∧w'.cell? ⟨gb148,2,none⟩=some (.bool false)∧w'.cell? ⟨gb148,3,none⟩=some (.string (⟨#[]⟩:ByteArray))) (ds:=[8]) #[yF,yF,yF,yF,yF,yF,yF,yF,yF] (by kernel_rfl) rfl rfl ⟨(blk_cell BK148.out 0).trans rfl,(blk_cell BK148.out 1).trans rfl,(blk_cell BK148.out 2).trans rfl,(blk_cell BK148.out 3).trans rfl⟩ (fun hHeld=>?_);refine with_tabW spec_l71Addr.tab5 spec_l71Addr.bits5 (fun HT_ HW_=>?_);generalize wr.drew=w17 at HO_149001 BK148 HI0 HK HB hHeld ⊢;refine pureZ 0 (some 17) #[yT,yF,yF,yF,yF,yF,yF,yF,yF] ?_;refine pureZ 2 (some 19) #[yT,yF,yT,yF,yF,yF,yF,yF,yF] ?_;refine takeZ4 1 (some 18) #[yT,yT,yT,yF,yF,yF,yF,yF,yF] hHeld ?_;refine oneZ 3 (some 20) #[yT,yT,yT,yT,yF,yF,yF,yF,yF] (fun K hK=>?_);refine Kd.R_lit_step Kd.string _ 9 ?hg (N:=20) ?hd (xs:=([(⟨#[97]⟩:ByteArray),(⟨#[98]⟩:ByteArray),(⟨#[99]⟩:ByteArray),(⟨#[110,111,116,105,99,101]⟩:ByteArray)]:List ByteArray)) (inner:=[.string (⟨#[97]⟩:ByteArray),.string (⟨#[98]⟩:ByteArray),.string (⟨#[99]⟩:ByteArray),.string (⟨#[110,111,116,105,99,101]⟩:ByteArray)]) (ok:=fun _=>True) (okp:=fun _=>True) ?hr ?hp (fun _ hk=>hk) trivial (Below.refl _ _) (Nat.le_refl _) (by simp) ?_;(case hd=>rfl);(case hg=>rfl);(case hr=>exact zz14);(case hp=>exact (Reps.one (show Kd.M Kd.string _ _ _ (⟨#[97]⟩:ByteArray) [.string (⟨#[97]⟩:ByteArray)] from rfl) (Reps.one (show Kd.M Kd.string _ _ _ (⟨#[98]⟩:ByteArray) [.string (⟨#[98]⟩:ByteArray)] from rfl) (Reps.one (show Kd.M Kd.string _ _ _ (⟨#[99]⟩:ByteArray) [.string (⟨#[99]⟩:ByteArray)] from rfl) (Reps.one (show Kd.M Kd.string _ _ _ (⟨#[110,111,116,105,99,101]⟩:ByteArray) [.string (⟨#[110,111,116,105,99,101]⟩:ByteArray)] from rfl) (Reps.none _ _))))));intro v152 w18 ho19 hb hg_ hnew_;clear hg_ hnew_;(first|rw [← Ny151.out] at ho19|(simp only [Int.reduceToNat] at ho19;rw [← Ny151.out] at ho19))
     have HO153:=A_ (Kd.R_lower (Kd.R_new' ho19 (Kd.R_lt (zz15 HO_149001))) (keep_size (w:=w) (g:=g) (row:=none) (zz47 HK GW148)));replace HO_149001:=A_ (Kd.R_elder' (zz15 HO_149001) (Kd.R_base ho19) hb);replace BK148:=A_ (bB (zz2 BK148) hb);replace HK:=A_ (KeepBut.trans (zz47 HK GW148) (KeepBut.of_below hb g none) (.inl rfl));replace HB:=A_ (bS (zz43 HB HI0 GE148) hb);replace HI0:=A_ (IsS68.below (zz42 HI0 NB0_148) hb);clear hb ho19;obtain ⟨Ao20,co20,eo20⟩:=Kd.R_slice HO153.out;(first|subst eo20|(injection eo20 with f1_ f2_ f3_;have f4_:=f1_.symm;have f5_:=f3_.symm;clear f1_ f2_ f3_;subst f4_;subst f5_))
     refine hK.out _ _ ⟨(blk_cell BK148.out 0).trans rfl,(blk_cell BK148.out 1).trans rfl,(blk_cell BK148.out 2).trans rfl,(blk_cell BK148.out 3).trans rfl⟩ (fun hHeld=>?_);clear hK K;refine nZ 20 ?_;refine oneZ 4 (some 21) #[yT,yT,yT,yT,yT,yF,yF,yF,yF] (fun K hK=>?_);refine goes_ Tryz.func41 (by kernel_rfl) rfl #[.pointer (some ⟨g,0,none⟩),.slice Ao20 y151.length co20] (by rfl) rfl rfl zz35 ?_;with_reducible refine (spec_l6Rd_of.calls k1 g s0_0 x1001_1 _ _ y151 t154 t155 w0 _ ?side1 ?side2 ?side3 ?side4 ?side5 A15.out).mono ?_
     (case side1=>exact (zz42 HI0 NB0_148))
     (case side2=>exact (zz43 HB HI0 GE148))
     (case side3=>exact (zz38 HO153))
     (case side4=>exact (Kd.R_reads' HO153.out).2.1)
     (case side5=>exact far_slice (IsS68.own_ne HI0.out HO153.out (by decide)))
     rintro e w21 ⟨rfl,hi,hb,hk⟩;refine ⟨_,rfl,?_⟩;replace HO_149001:=A_ (Kd.R_mono (Kd.R_keep (IsS68.apart (show IsS68 w0 _ g s0_0 x1001_1 from (zz42 HI0 NB0_148)) (zz15 HO_149001) (by decide)) hk (fun _ h=>h.2)) (fun _ h=>h.1));replace BK148:=A_ (KeepBut.blk hk (g':=gb148) (o:=.cells #[.string (rdOf ByteArray.empty t142 t145),u149001,.bool false,.string (⟨#[]⟩:ByteArray)] 39 (0,0)) (zz2 BK148) NB148_0.out (by simp));replace HO153:=A_ (Kd.R_mono (Kd.R_keep (IsS68.apart (show IsS68 w0 _ g s0_0 x1001_1 from (zz42 HI0 NB0_148)) (zz15 HO153) (by decide)) hk (fun _ h=>h.2)) (fun _ h=>h.1));replace HK:=A_ (KeepBut.trans (zz47 HK GW148) hk (.inl rfl));replace HB:=A_ (hb);replace HI0:=A_ (hi);(try clear hb)
     (try clear hb2)
     (try clear hk)
     (try clear hi)
     refine hK.out _ _ ⟨(blk_cell BK148.out 0).trans rfl,(blk_cell BK148.out 1).trans rfl,(blk_cell BK148.out 2).trans rfl,(blk_cell BK148.out 3).trans rfl⟩ (fun hHeld=>?_);clear hK K;refine nZ 21 ?_;refine oneZ 5 (some 22) #[yT,yT,yT,yT,yT,yT,yF,yF,yF] (fun K hK=>?_);refine value_ (w1:=?_) (v:=?_) (by rfl) rfl ?_ ?_;rotate_left 2
     ·go_simp
      constructor
      ·rfl
      ·rfl
     refine hK.out _ _ ⟨(blk_cell (blk_alloc BK148.out _) 0).trans rfl,(blk_cell (blk_alloc BK148.out _) 1).trans rfl,(blk_cell (blk_alloc BK148.out _) 2).trans rfl,(blk_cell (blk_alloc BK148.out _) 3).trans rfl⟩ (fun hHeld=>?_);clear hK K;refine nZ 22 ?_;refine oneZ 6 (some 23) #[yT,yT,yT,yT,yT,yT,yT,yF,yF] (fun K hK=>?_);refine Kd.R_append_step Kd.string w.heap.size (by rfl) (.tmp 18) (.tmp 22) 35 9 (.string ⟨#[]⟩) 16 rfl Tryz.underlying35 info9 rfl (by decide) (by omega) u149001 x149001_1 t154 [.string t154] (fun k_=>some k_≠(.slice Ao20 y151.length co20:Value).ownBlock) (fun _=>False) rfl rfl ?aP (fun _ hk=>hk.elim) ?aF ?aO (Below.refl _ _) ?aS ?aL ?_;(case aP=>exact rfl)
     (case aF=>exact (fun k_ hk=>Kd.fresh' (Kd.R_lt (zz15 HO153)) k_ hk))
     (case aO=>exact (zz92 HO_149001))
     (case aS=>exact (keep_size (w:=w) (g:=g) (row:=none) (zz47 HK GW148)))
     (case aL=>exact (zz5 LMc16))
     intro v157 w22 ho hb hg hat;rw [← Ny156.out] at ho;replace BK148:=A_ (blk_grown (zz2 BK148) hg (Kd.R_ne HO_149001.out BK148.out (by decide)));replace HO153:=A_ (Kd.R_after (ok:=(fun _=>True)) (zz15 HO153) hg hat);replace HB:=A_ (below_weaken (zz43 HB HI0 GE148) HL.out hb);replace HI0:=A_ (IsS68.grown (zz42 HI0 NB0_148) hg (IsS68.own_ne HI0.out HO_149001.out (by decide)));replace HK:=A_ (KeepBut.trans (zz47 HK GW148) (KeepBut.of_grown hg g) (Kd.R_base2 HO_149001.out));have HO158:=A_ (ho);clear HO_149001;clear ho hb hg hat;obtain ⟨Ao23,co23,eo23⟩:=Kd.R_slice HO158.out;(first|subst eo23|(injection eo23 with f1_ f2_ f3_;have f4_:=f1_.symm;have f5_:=f3_.symm;clear f1_ f2_ f3_;subst f4_;subst f5_))
     refine hK.out _ _ ⟨(blk_cell BK148.out 0).trans rfl,(blk_cell BK148.out 1).trans rfl,(blk_cell BK148.out 2).trans rfl,(blk_cell BK148.out 3).trans rfl⟩ (fun hHeld=>?_);clear hK K;refine nZ 23 ?_;refine pureZ 7 (some 24) #[yT,yT,yT,yT,yT,yT,yT,yT,yF] ?_;refine last_ (i:=8) (N:=none) #[yT,yT,yT,yT,yT,yT,yT,yT,yT] rfl rfl (one_of HT_.out (by kernel_rfl)) (by decide) (fun K hK=>?_);have hs24:w22.cell? ⟨gb148,1,none⟩=some (u149001):=(blk_cell BK148.out 1).trans rfl;have hfs24:=blk_frozen BK148.out 1;refine skip_ (w1:=?_) (by rfl) rfl ?_ ?_;rotate_left
     ·go_simp
      rfl
     refine hK.out _ _ ?_;clear hK K;refine done_ (done_of HT_.out (by kernel_rfl)) ?_;try go_wp2
     go_roundg k1
     case measure=>have:=HK1.out;omega
     case rel=>exact ⟨(wrap64 (x4_1 - 1)),(t155),(y156),(.slice Ao23 y156.length co23),zz1,H',⟨(zz5 HK1)⟩,⟨(zz52 (rt HO158 BK148))⟩,⟨(zz107 BK148)⟩,⟨(zz42 HI0 NB0_148)⟩,⟨(zz47 HK GW148)⟩,⟨(zz43 HB HI0 GE148)⟩⟩
    ·replace H:=bindA H
     obtain ⟨⟨t159,t160⟩,A25,H⟩:=H;try dsimp only at H
     have HF26:=A_ H;clear H;go_upto_if 27 with (first|(refine gR 22 (some 26) Tryz.func22 (spec_l6Rd_pick.calls k1 g s0_0 x1001_1 8 t159 t160 w0 _ ?side1 ?side2 A25.out) ?_;(case side1=>exact (zz42 HI0 NB0_148));(case side2=>exact (zz43 HB HI0 GE148));rintro w27 ⟨hi,hb,hk⟩;replace HO_149001:=A_ (Kd.R_mono (Kd.R_keep (IsS68.apart (show IsS68 w0 _ g s0_0 x1001_1 from (zz42 HI0 NB0_148)) (zz15 HO_149001) (by decide)) hk (fun _ h=>h.2)) (fun _ h=>h.1));replace BK148:=A_ (KeepBut.blk hk (g':=gb148) (o:=.cells #[.string (rdOf ByteArray.empty t142 t145),u149001,.bool false,.string (⟨#[]⟩:ByteArray)] 39 (0,0)) (zz2 BK148) NB148_0.out (by simp));replace HK:=A_ (KeepBut.trans (zz47 HK GW148) hk (.inl rfl));replace HB:=A_ (hb);replace HI0:=A_ (hi);(try clear hb hk hi)))
     obtain ⟨H⟩:=HF26;replace H:=iteEq H;rcases H with ⟨c28b0,c28b1,H⟩|⟨c28b0,c28b1,c28,H⟩
     ·(first|rw [c28b0]|(simp only [i64_w,i32_w];rw [c28b0])|skip)
      obtain ⟨y161,Ny161⟩:=toY (([(⟨#[]⟩:ByteArray),(⟨#[97]⟩:ByteArray),(⟨#[98,37,51,68]⟩:ByteArray)]:List ByteArray));(first|with_reducible replace H:=bindZ Ny161 H|rw [← Ny161.out] at H|skip)
      replace H:=bindA H;obtain ⟨⟨t164,t165⟩,A29,H⟩:=H;try dsimp only at H
      replace H:=bindA H;obtain ⟨t166,A30,H⟩:=H;simp only [Option.some.injEq,Prod.mk.injEq] at H
      obtain ⟨rfl,rfl⟩:=H;have hnb31:=NB148_0.out;have hnc31:=NB0_148.out;obtain ⟨_,_,_,_,_,_,_,_⟩:=cf4 BK148;go_wp2_with (first|((with_reducible refine gD (N:=30) rfl ?_);refine Kd.R_lit Kd.string _ 9 ?hg (N:=30) ?hd (xs:=([(⟨#[]⟩:ByteArray),(⟨#[97]⟩:ByteArray),(⟨#[98,37,51,68]⟩:ByteArray)]:List ByteArray)) (inner:=[.string (⟨#[]⟩:ByteArray),.string (⟨#[97]⟩:ByteArray),.string (⟨#[98,37,51,68]⟩:ByteArray)]) (ok:=fun _=>True) (okp:=fun _=>True) ?hr ?hp (fun _ hk=>hk) trivial (Below.refl _ _) (Nat.le_refl _) (by simp) ?_;(case hd=>rfl);(case hg=>rfl);(case hr=>exact zz14);(case hp=>exact (Reps.one (show Kd.M Kd.string _ _ _ (⟨#[]⟩:ByteArray) [.string (⟨#[]⟩:ByteArray)] from rfl) (Reps.one (show Kd.M Kd.string _ _ _ (⟨#[97]⟩:ByteArray) [.string (⟨#[97]⟩:ByteArray)] from rfl) (Reps.one (show Kd.M Kd.string _ _ _ (⟨#[98,37,51,68]⟩:ByteArray) [.string (⟨#[98,37,51,68]⟩:ByteArray)] from rfl) (Reps.none _ _)))));intro v162 w33 ho34 hb hg_ hnew_;clear hg_ hnew_;(first|rw [← Ny161.out] at ho34|(simp only [Int.reduceToNat] at ho34;rw [← Ny161.out] at ho34));have HO163:=A_ (Kd.R_lower (Kd.R_new' ho34 (Kd.R_lt (zz108 HO_149001 BK148))) (keep_size (w:=w) (g:=g) (row:=none) (zz47 HK GW148)));replace HO_149001:=A_ (Kd.R_elder' (zz108 HO_149001 BK148) (Kd.R_base ho34) hb);replace BK148:=A_ (bB (g:=gb148) (o:=.cells #[.string (rdOf ByteArray.empty t142 t145),u149001,.bool true,.string (⟨#[]⟩:ByteArray)] 39 (0,0)) (zz109 BK148) hb);replace HK:=A_ (KeepBut.trans (zz47 HK GW148) (KeepBut.of_below hb g none) (.inl rfl));replace HB:=A_ (bS (zz43 HB HI0 GE148) hb);replace HI0:=A_ (IsS68.below (show IsS68 w0 (w27.setCell ⟨gb148,2,none⟩ (.bool true)) g s0_0 t160 from (zz42 HI0 NB0_148)) hb);clear hb ho34;obtain ⟨Ao35,co35,eo35⟩:=Kd.R_slice HO163.out;subst eo35)|(refine gR 41 (some 31) Tryz.func41 (spec_l6Rd_of.calls k1 g s0_0 t160 _ _ y161 t164 t165 w0 _ ?side1 ?side2 ?side3 ?side4 ?side5 A29.out) ?_;(case side1=>exact (zz42 HI0 NB0_148));(case side2=>exact (zz43 HB HI0 GE148));(case side3=>exact (zz38 HO163));(case side4=>exact (Kd.R_reads' HO163.out).2.1);(case side5=>exact far_slice (IsS68.own_ne HI0.out HO163.out (by decide)));rintro w36 ⟨hi,hb,hk⟩;replace HO_149001:=A_ (Kd.R_mono (Kd.R_keep (IsS68.apart (show IsS68 w0 _ g s0_0 t160 from (zz42 HI0 NB0_148)) (zz15 HO_149001) (by decide)) hk (fun _ h=>h.2)) (fun _ h=>h.1));replace BK148:=A_ (KeepBut.blk hk (g':=gb148) (o:=.cells #[.string (rdOf ByteArray.empty t142 t145),u149001,.bool true,.string (⟨#[]⟩:ByteArray)] 39 (0,0)) (zz2 BK148) NB148_0.out (by simp));replace HO163:=A_ (Kd.R_mono (Kd.R_keep (IsS68.apart (show IsS68 w0 _ g s0_0 t160 from (zz42 HI0 NB0_148)) (zz15 HO163) (by decide)) hk (fun _ h=>h.2)) (fun _ h=>h.1));replace HK:=A_ (KeepBut.trans (zz47 HK GW148) hk (.inl rfl));replace HB:=A_ (hb);replace HI0:=A_ (hi);(try clear hb hk hi);obtain ⟨_,_,_,_,_,_,_,_⟩:=cf4 BK148;obtain ⟨Ao38,co38,eo38⟩:=Kd.R_slice HO_149001.out;subst eo38)|((with_reducible refine gC (f:=47) rfl ?_);refine gsL (some 34) Tryz.func47 #[.agg #[.string (rdOf ByteArray.empty t142 t145),.slice Ao38 x149001_1.length co38,.bool true,.string t164]] ?_;(with_reducible refine (spec_AddrText.calls k1 (rdOf ByteArray.empty t142 t145) _ _ x149001_1 true t164 t166 _ ?side1 ?side2 A30.out).mono ?_);(case side1=>exact (by refine (Kd.R_reads' (e:=9) (base:=w.heap.size) (ok:=fun k_=>(True∧some k_≠(.slice Ao35 y161.length co35:Value).ownBlock)) (n:=x149001_1.length) (c:=co38) ?_).2.2;exact (zz110 HO_149001 BK148)));(case side2=>exact (Kd.R_reads' HO_149001.out).2.1);rintro e w39 ⟨rfl,hb⟩;refine ⟨_,rfl,?_⟩;replace HO_149001:=A_ (rB (zz110 HO_149001 BK148) hb);replace HO163:=A_ (rB (zz110 HO163 BK148) hb);replace BK148:=A_ (bB (g:=gb148) (o:=.cells #[.string (rdOf ByteArray.empty t142 t145),.slice Ao38 x149001_1.length co38,.bool true,.string t164] 39 (0,0)) (by first|((repeat (first|(with_reducible first|exact BK148.out|refine blk_drewN ?_ _|refine blk_drew ?_|refine blk_alloc ?_ _|apply blk_put)|exact BK148.out));all_goals rfl;done)|(apply blk_put (i:=3);exact BK148.out;all_goals rfl)) hb);replace HK:=A_ (KeepBut.trans (zz47 HK GW148) (KeepBut.of_below hb g none) (.inl rfl));replace HB:=A_ (bS (zz43 HB HI0 GE148) hb);replace HI0:=A_ (IsS68.below (show IsS68 w0 (w36.setCell ⟨gb148,3,none⟩ (.string t164)) g s0_0 t165 from (zz42 HI0 NB0_148)) hb);(try clear hb)))
      go_ret
      exact ⟨zz6,(zz42 HI0 NB0_148),(zz43 HB HI0 GE148),(zz47 HK GW148)⟩
     ·(first|rw [c28b0]|(simp only [i64_w,i32_w];rw [c28b0])|skip)
      replace H:=bindA H;obtain ⟨t167,A40,H⟩:=H;simp only [Option.some.injEq,Prod.mk.injEq] at H
      obtain ⟨rfl,rfl⟩:=H;have hnb41:=NB148_0.out;have hnc41:=NB0_148.out;obtain ⟨_,_,_,_,_,_,_,_⟩:=cf4 BK148;obtain ⟨Ao43,co43,eo43⟩:=Kd.R_slice HO_149001.out;subst eo43;go_wp2_with (first|(refine gR 47 (some 34) Tryz.func47 (spec_AddrText.calls k1 (rdOf ByteArray.empty t142 t145) _ _ x149001_1 false (⟨#[]⟩:ByteArray) t167 _ ?side1 ?side2 A40.out) ?_;(case side1=>exact (zz38 HO_149001));(case side2=>exact (Kd.R_reads' HO_149001.out).2.1);rintro w44 hb;replace HO_149001:=A_ (rB (zz15 HO_149001) hb);replace BK148:=A_ (bB (zz2 BK148) hb);replace HK:=A_ (KeepBut.trans (zz47 HK GW148) (KeepBut.of_below hb g none) (.inl rfl));replace HB:=A_ (bS (zz43 HB HI0 GE148) hb);replace HI0:=A_ (IsS68.below (zz42 HI0 NB0_148) hb);(try clear hb)))
      go_ret
      exact ⟨zz6,(zz42 HI0 NB0_148),(zz43 HB HI0 GE148),(zz47 HK GW148)⟩
 ·exact absurd H (by simp)
def spec_l71Ref.j0:Nat→Int→Bool→List Int→Int→Option (ByteArray×Int)
 | 0,_,_,_,_=>none
 | k+1,x4,x5,x1000,x1001=>if x5=true then ((spec_l71Addr.f k x1000 x1001).bind fun bt284=>(some (bt284.1,bt284.2))) else (if x4=2 then ((spec_l6Rd_of.f k x1000 x1001 (([(⟨#[97]⟩:ByteArray),(⟨#[98]⟩:ByteArray),(⟨#[97,47,98]⟩:ByteArray),(⟨#[99,47,46,46,47,98]⟩:ByteArray),(⟨#[]⟩:ByteArray),(⟨#[120,47,46,47,99]⟩:ByteArray)]:List ByteArray))).bind fun bt289=>(if 1+bt289.1.size≤9223372036854775807 then (some ((⟨#[47]⟩:ByteArray)++bt289.1,bt289.2)) else (none))) else (if x4=3 then ((spec_l6Rd_of.f k x1000 x1001 (([(⟨#[46,46]⟩:ByteArray),(⟨#[46,46,47,99]⟩:ByteArray),(⟨#[46,46,47,46,46,47,46,46]⟩:ByteArray),(⟨#[46]⟩:ByteArray),(⟨#[46,47,97]⟩:ByteArray)]:List ByteArray))).bind fun bt294=>(some (bt294.1,bt294.2))) else (if x4=4 then ((spec_l6Rd_of.f k x1000 x1001 (([(⟨#[63,97]⟩:ByteArray),(⟨#[63]⟩:ByteArray),(⟨#[35,116,111,112]⟩:ByteArray),(⟨#[]⟩:ByteArray),(⟨#[97,35,98]⟩:ByteArray),(⟨#[98,63,97]⟩:ByteArray)]:List ByteArray))).bind fun bt299=>(some (bt299.1,bt299.2))) else (if x4=5 then ((spec_l6Rd_of.f k x1000 x1001 (([(⟨#[47,47,65,66,47,97]⟩:ByteArray),(⟨#[47,47,99,100]⟩:ByteArray),(⟨#[47,47,99,100,63,120]⟩:ByteArray),(⟨#[47,47,97,98,47,37,54,49]⟩:ByteArray),(⟨#[47,47,116,111,111,108,111,110,103,47,97]⟩:ByteArray),(⟨#[47,47,97,49,47,98]⟩:ByteArray),(⟨#[47,47,47,97]⟩:ByteArray)]:List ByteArray))).bind fun bt304=>(some (bt304.1,bt304.2))) else ((spec_l6Rd_of.f k x1000 x1001 (([(⟨#[97]⟩:ByteArray),(⟨#[98]⟩:ByteArray),(⟨#[99]⟩:ByteArray),(⟨#[97,47,98]⟩:ByteArray)]:List ByteArray))).bind fun bt309=>(some (bt309.1,bt309.2)))))))
def spec_l71Ref.f (k:Nat) (s0_0:List Int) (s0_1:Int):Option (ByteArray×Int):=(spec_l6Rd_pick.f k s0_0 s0_1 8).bind fun bt282=>(if bt282.1=0 then (spec_l71Ref.j0 k bt282.1 (bt282.1 == 0) s0_0 bt282.2) else (spec_l71Ref.j0 k bt282.1 (bt282.1 == 1) s0_0 bt282.2))
theorem spec_l71Ref.mono_l:∀ k,(∀ y0 y1 y2 y3,LeO (spec_l71Ref.j0 k y0 y1 y2 y3) (spec_l71Ref.j0 (k+1) y0 y1 y2 y3))
 | 0=>by intros;intro r h;simp [spec_l71Ref.j0] at h
 | k+1=>by
  have ih0:=spec_l71Ref.mono_l k;intros;unfold spec_l71Ref.j0;repeat' first|(with_reducible first|exact ih0 _ _ _ _|exact spec_l6Rd_of.mono _ _ _ _|exact spec_l6Rd_pick.mono _ _ _ _|exact spec_l71Addr.mono _ _ _|exact LeO.refl _|exact LeO.none _|refine LeO.ite ?_ ?_|refine LeO.bind ?_ (fun _=>?_))|exact LeO.none _|refine LeO.ite ?_ ?_|refine LeO.bind ?_ (fun _=>?_)
theorem spec_l71Ref.mono:∀ a0 a1 k,LeO (spec_l71Ref.f k a0 a1) (spec_l71Ref.f (k+1) a0 a1):=by
 intro a0 a1 k;have ih0:=spec_l71Ref.mono_l k;unfold spec_l71Ref.f
 repeat' first|(with_reducible first|exact ih0 _ _ _ _|exact spec_l6Rd_of.mono _ _ _ _|exact spec_l6Rd_pick.mono _ _ _ _|exact spec_l71Addr.mono _ _ _|exact LeO.refl _|exact LeO.none _|refine LeO.ite ?_ ?_|refine LeO.bind ?_ (fun _=>?_))|exact LeO.none _|refine LeO.ite ?_ ?_|refine LeO.bind ?_ (fun _=>?_)
theorem spec_l71Ref.calls (k:Nat) (g:Nat) (s0_0:List Int) (s0_1:Int) (r1:ByteArray) (r2:Int) (w0 w:World) (hI:IsS68 w0 w g s0_0 s0_1) (hB:Below w0.heap.size w0 w) (h:spec_l71Ref.f k s0_0 s0_1=some (r1,r2)) :
  Calls Tryz.prog 95 #[.pointer (some ⟨g,0,none⟩)] w fun e w'=>e=.returned (.string r1)∧IsS68 w0 w' g s0_0 r2∧Below w0.heap.size w0 w'∧KeepBut w w' g none:=by
 have HI0:=A_ hI;have HK:=A_ (KeepBut.refl w g none);have HL:=A_ hB.size;clear hI;have HW0:=A_ hB.size;have HB:=A_ hB;clear hB;unfold spec_l71Ref.f at h
 have H:=h;clear h;replace H:=bindA H;obtain ⟨⟨t282,t283⟩,A2,H⟩:=H;try dsimp only at H
 have HC3:=A_ H;clear H;go_enter Tryz.func95,Tryz.ntmps95;go_upto_if 5 with (first|(refine gR 22 (some 4) Tryz.func22 (spec_l6Rd_pick.calls k g s0_0 s0_1 8 t282 t283 w0 _ ?side1 ?side2 A2.out) ?_;(case side1=>exact (zz27 HI0));(case side2=>exact (zz29 HB HI0));rintro w4 ⟨hi,hb,hk⟩;replace HK:=A_ (KeepBut.trans (zz28 HK) hk (.inl rfl));replace HB:=A_ (hb);replace HI0:=A_ (hi);(try clear hb hk hi)))
 (try simp only [Act.put,List.setIfInBounds_toArray,List.set_cons_zero,List.set_cons_succ])
 go_cut [5] (fun v5 wc=>∃ (kq:Nat) (x5_2:Bool),v5=.bool x5_2∧Aside0 (spec_l71Ref.j0 kq t282 x5_2 s0_0 t283=some (r1,r2))∧Aside0 (kq≤k)∧Aside0 (IsS68 w0 wc g s0_0 t283)∧Aside0 (KeepBut w wc g none)∧Aside0 (Below w0.heap.size w0 wc))
 case first=>
  obtain ⟨H⟩:=HC3;replace H:=iteEq H;rcases H with ⟨c5b0,c5b1,H⟩|⟨c5b0,c5b1,c5,H⟩
  ·(first|rw [c5b0]|(simp only [i64_w,i32_w];rw [c5b0])|skip)
   have H':=A_ H;clear H;go_wp2
   go_meet
   case rel=>exact ⟨_,((t282 == 0)),zz1,H',⟨zz7⟩,⟨(zz27 HI0)⟩,⟨(zz28 HK)⟩,⟨(zz29 HB HI0)⟩⟩
  ·(first|rw [c5b0]|(simp only [i64_w,i32_w];rw [c5b0])|skip)
   have H':=A_ H;clear H;go_wp2
   go_meet
   case rel=>exact ⟨_,((t282 == 1)),zz1,H',⟨zz7⟩,⟨(zz27 HI0)⟩,⟨(zz28 HK)⟩,⟨(zz29 HB HI0)⟩⟩
 case rest=>
  clear HC3;obtain ⟨kq,x5_2,rfl,HA,HJ2,HI0,HK,HB⟩:=hcut;cases kq with
  | zero=>exact absurd HA.out (by simp [spec_l71Ref.j0])
  | succ kj2=>
   obtain ⟨H⟩:=HA;simp only [spec_l71Ref.j0] at H
   replace H:=iteB H;rcases H with ⟨rfl,H⟩|⟨rfl,H⟩
   ·replace H:=bindA H
    obtain ⟨⟨t284,t285⟩,A7,H⟩:=H;try dsimp only at H
    simp only [Option.some.injEq,Prod.mk.injEq] at H
    obtain ⟨rfl,rfl⟩:=H;go_wp2_with (first|(refine gR 43 (some 9) Tryz.func43 (spec_l71Addr.calls kj2 g s0_0 t283 t284 t285 w0 _ ?side1 ?side2 A7.out) ?_;(case side1=>exact (zz27 HI0));(case side2=>exact (zz29 HB HI0));rintro w8 ⟨hi,hb,hk⟩;replace HK:=A_ (KeepBut.trans (zz28 HK) hk (.inl rfl));replace HB:=A_ (hb);replace HI0:=A_ (hi);(try clear hb hk hi)))
    go_ret
    exact ⟨zz6,(zz27 HI0),(zz29 HB HI0),(zz28 HK)⟩
   ·replace H:=iteE H
    rcases H with ⟨c9,H⟩|⟨c9,H⟩
    ·obtain ⟨c9b0,c9b1⟩:=eqT c9
     clear c9;obtain ⟨y286,Ny286⟩:=toY (([(⟨#[97]⟩:ByteArray),(⟨#[98]⟩:ByteArray),(⟨#[97,47,98]⟩:ByteArray),(⟨#[99,47,46,46,47,98]⟩:ByteArray),(⟨#[]⟩:ByteArray),(⟨#[120,47,46,47,99]⟩:ByteArray)]:List ByteArray));(first|with_reducible replace H:=bindZ Ny286 H|rw [← Ny286.out] at H|skip)
     replace H:=bindA H;obtain ⟨⟨t289,t290⟩,A10,H⟩:=H;try dsimp only at H
     replace H:=iteN H;obtain ⟨c11,H⟩:=H;have c11b0:=eq_true c11;have c11b1:=dT c11;try have c11b2:(9223372036854775807 < 1+t289.size)=False:=eq_false (Nat.not_lt.2 c11)
     simp only [Option.some.injEq,Prod.mk.injEq] at H
     obtain ⟨rfl,rfl⟩:=H;go_wp2_with (first|((with_reducible refine gD (N:=13) rfl ?_);refine Kd.R_lit Kd.string _ 9 ?hg (N:=13) ?hd (xs:=([(⟨#[97]⟩:ByteArray),(⟨#[98]⟩:ByteArray),(⟨#[97,47,98]⟩:ByteArray),(⟨#[99,47,46,46,47,98]⟩:ByteArray),(⟨#[]⟩:ByteArray),(⟨#[120,47,46,47,99]⟩:ByteArray)]:List ByteArray)) (inner:=[.string (⟨#[97]⟩:ByteArray),.string (⟨#[98]⟩:ByteArray),.string (⟨#[97,47,98]⟩:ByteArray),.string (⟨#[99,47,46,46,47,98]⟩:ByteArray),.string (⟨#[]⟩:ByteArray),.string (⟨#[120,47,46,47,99]⟩:ByteArray)]) (ok:=fun _=>True) (okp:=fun _=>True) ?hr ?hp (fun _ hk=>hk) trivial (Below.refl _ _) (Nat.le_refl _) (by simp) ?_;(case hd=>rfl);(case hg=>rfl);(case hr=>exact zz14);(case hp=>exact (Reps.one (show Kd.M Kd.string _ _ _ (⟨#[97]⟩:ByteArray) [.string (⟨#[97]⟩:ByteArray)] from rfl) (Reps.one (show Kd.M Kd.string _ _ _ (⟨#[98]⟩:ByteArray) [.string (⟨#[98]⟩:ByteArray)] from rfl) (Reps.one (show Kd.M Kd.string _ _ _ (⟨#[97,47,98]⟩:ByteArray) [.string (⟨#[97,47,98]⟩:ByteArray)] from rfl) (Reps.one (show Kd.M Kd.string _ _ _ (⟨#[99,47,46,46,47,98]⟩:ByteArray) [.string (⟨#[99,47,46,46,47,98]⟩:ByteArray)] from rfl) (Reps.one (show Kd.M Kd.string _ _ _ (⟨#[]⟩:ByteArray) [.string (⟨#[]⟩:ByteArray)] from rfl) (Reps.one (show Kd.M Kd.string _ _ _ (⟨#[120,47,46,47,99]⟩:ByteArray) [.string (⟨#[120,47,46,47,99]⟩:ByteArray)] from rfl) (Reps.none _ _))))))));intro v287 w12 ho13 hb hg_ hnew_;clear hg_ hnew_;(first|rw [← Ny286.out] at ho13|(simp only [Int.reduceToNat] at ho13;rw [← Ny286.out] at ho13));have HO288:=A_ (Kd.R_lower ho13 (keep_size (w:=w) (g:=g) (row:=none) (zz28 HK)));replace HK:=A_ (KeepBut.trans (zz28 HK) (KeepBut.of_below hb g none) (.inl rfl));replace HB:=A_ (bS (zz29 HB HI0) hb);replace HI0:=A_ (IsS68.below (zz27 HI0) hb);clear hb ho13;obtain ⟨Ao14,co14,eo14⟩:=Kd.R_slice HO288.out;subst eo14)|(refine gR 41 (some 14) Tryz.func41 (spec_l6Rd_of.calls kj2 g s0_0 t283 _ _ y286 t289 t290 w0 _ ?side1 ?side2 ?side3 ?side4 ?side5 A10.out) ?_;(case side1=>exact (zz27 HI0));(case side2=>exact (zz29 HB HI0));(case side3=>exact (zz38 HO288));(case side4=>exact (Kd.R_reads' HO288.out).2.1);(case side5=>exact far_slice (IsS68.own_ne HI0.out HO288.out (by decide)));rintro w15 ⟨hi,hb,hk⟩;replace HO288:=A_ (Kd.R_mono (Kd.R_keep (IsS68.apart (show IsS68 w0 _ g s0_0 t283 from (zz27 HI0)) (zz15 HO288) (by decide)) hk (fun _ h=>h.2)) (fun _ h=>h.1));replace HK:=A_ (KeepBut.trans (zz28 HK) hk (.inl rfl));replace HB:=A_ (hb);replace HI0:=A_ (hi);(try clear hb hk hi)))
     go_ret
     exact ⟨zz6,(zz27 HI0),(zz29 HB HI0),(zz28 HK)⟩
    ·obtain ⟨c9b0,c9b1⟩:=eqF c9
     replace H:=iteEq H;rcases H with ⟨c16b0,c16b1,H⟩|⟨c16b0,c16b1,c16,H⟩
     ·obtain ⟨y291,Ny291⟩:=toY (([(⟨#[46,46]⟩:ByteArray),(⟨#[46,46,47,99]⟩:ByteArray),(⟨#[46,46,47,46,46,47,46,46]⟩:ByteArray),(⟨#[46]⟩:ByteArray),(⟨#[46,47,97]⟩:ByteArray)]:List ByteArray))
      (first|with_reducible replace H:=bindZ Ny291 H|rw [← Ny291.out] at H|skip)
      replace H:=bindA H;obtain ⟨⟨t294,t295⟩,A17,H⟩:=H;try dsimp only at H
      simp only [Option.some.injEq,Prod.mk.injEq] at H
      obtain ⟨rfl,rfl⟩:=H;go_wp2_with (first|((with_reducible refine gD (N:=19) rfl ?_);refine Kd.R_lit Kd.string _ 9 ?hg (N:=19) ?hd (xs:=([(⟨#[46,46]⟩:ByteArray),(⟨#[46,46,47,99]⟩:ByteArray),(⟨#[46,46,47,46,46,47,46,46]⟩:ByteArray),(⟨#[46]⟩:ByteArray),(⟨#[46,47,97]⟩:ByteArray)]:List ByteArray)) (inner:=[.string (⟨#[46,46]⟩:ByteArray),.string (⟨#[46,46,47,99]⟩:ByteArray),.string (⟨#[46,46,47,46,46,47,46,46]⟩:ByteArray),.string (⟨#[46]⟩:ByteArray),.string (⟨#[46,47,97]⟩:ByteArray)]) (ok:=fun _=>True) (okp:=fun _=>True) ?hr ?hp (fun _ hk=>hk) trivial (Below.refl _ _) (Nat.le_refl _) (by simp) ?_;(case hd=>rfl);(case hg=>rfl);(case hr=>exact zz14);(case hp=>exact (Reps.one (show Kd.M Kd.string _ _ _ (⟨#[46,46]⟩:ByteArray) [.string (⟨#[46,46]⟩:ByteArray)] from rfl) (Reps.one (show Kd.M Kd.string _ _ _ (⟨#[46,46,47,99]⟩:ByteArray) [.string (⟨#[46,46,47,99]⟩:ByteArray)] from rfl) (Reps.one (show Kd.M Kd.string _ _ _ (⟨#[46,46,47,46,46,47,46,46]⟩:ByteArray) [.string (⟨#[46,46,47,46,46,47,46,46]⟩:ByteArray)] from rfl) (Reps.one (show Kd.M Kd.string _ _ _ (⟨#[46]⟩:ByteArray) [.string (⟨#[46]⟩:ByteArray)] from rfl) (Reps.one (show Kd.M Kd.string _ _ _ (⟨#[46,47,97]⟩:ByteArray) [.string (⟨#[46,47,97]⟩:ByteArray)] from rfl) (Reps.none _ _)))))));intro v292 w18 ho19 hb hg_ hnew_;clear hg_ hnew_;(first|rw [← Ny291.out] at ho19|(simp only [Int.reduceToNat] at ho19;rw [← Ny291.out] at ho19));have HO293:=A_ (Kd.R_lower ho19 (keep_size (w:=w) (g:=g) (row:=none) (zz28 HK)));replace HK:=A_ (KeepBut.trans (zz28 HK) (KeepBut.of_below hb g none) (.inl rfl));replace HB:=A_ (bS (zz29 HB HI0) hb);replace HI0:=A_ (IsS68.below (zz27 HI0) hb);clear hb ho19;obtain ⟨Ao20,co20,eo20⟩:=Kd.R_slice HO293.out;subst eo20)|(refine gR 41 (some 20) Tryz.func41 (spec_l6Rd_of.calls kj2 g s0_0 t283 _ _ y291 t294 t295 w0 _ ?side1 ?side2 ?side3 ?side4 ?side5 A17.out) ?_;(case side1=>exact (zz27 HI0));(case side2=>exact (zz29 HB HI0));(case side3=>exact (zz38 HO293));(case side4=>exact (Kd.R_reads' HO293.out).2.1);(case side5=>exact far_slice (IsS68.own_ne HI0.out HO293.out (by decide)));rintro w21 ⟨hi,hb,hk⟩;replace HO293:=A_ (Kd.R_mono (Kd.R_keep (IsS68.apart (show IsS68 w0 _ g s0_0 t283 from (zz27 HI0)) (zz15 HO293) (by decide)) hk (fun _ h=>h.2)) (fun _ h=>h.1));replace HK:=A_ (KeepBut.trans (zz28 HK) hk (.inl rfl));replace HB:=A_ (hb);replace HI0:=A_ (hi);(try clear hb hk hi)))
      go_ret
      exact ⟨zz6,(zz27 HI0),(zz29 HB HI0),(zz28 HK)⟩
     ·replace H:=iteEq H
      rcases H with ⟨c22b0,c22b1,H⟩|⟨c22b0,c22b1,c22,H⟩
      ·obtain ⟨y296,Ny296⟩:=toY (([(⟨#[63,97]⟩:ByteArray),(⟨#[63]⟩:ByteArray),(⟨#[35,116,111,112]⟩:ByteArray),(⟨#[]⟩:ByteArray),(⟨#[97,35,98]⟩:ByteArray),(⟨#[98,63,97]⟩:ByteArray)]:List ByteArray))
       (first|with_reducible replace H:=bindZ Ny296 H|rw [← Ny296.out] at H|skip)
       replace H:=bindA H;obtain ⟨⟨t299,t300⟩,A23,H⟩:=H;try dsimp only at H
       simp only [Option.some.injEq,Prod.mk.injEq] at H
       obtain ⟨rfl,rfl⟩:=H;go_wp2_with (first|((with_reducible refine gD (N:=24) rfl ?_);refine Kd.R_lit Kd.string _ 9 ?hg (N:=24) ?hd (xs:=([(⟨#[63,97]⟩:ByteArray),(⟨#[63]⟩:ByteArray),(⟨#[35,116,111,112]⟩:ByteArray),(⟨#[]⟩:ByteArray),(⟨#[97,35,98]⟩:ByteArray),(⟨#[98,63,97]⟩:ByteArray)]:List ByteArray)) (inner:=[.string (⟨#[63,97]⟩:ByteArray),.string (⟨#[63]⟩:ByteArray),.string (⟨#[35,116,111,112]⟩:ByteArray),.string (⟨#[]⟩:ByteArray),.string (⟨#[97,35,98]⟩:ByteArray),.string (⟨#[98,63,97]⟩:ByteArray)]) (ok:=fun _=>True) (okp:=fun _=>True) ?hr ?hp (fun _ hk=>hk) trivial (Below.refl _ _) (Nat.le_refl _) (by simp) ?_;(case hd=>rfl);(case hg=>rfl);(case hr=>exact zz14);(case hp=>exact (Reps.one (show Kd.M Kd.string _ _ _ (⟨#[63,97]⟩:ByteArray) [.string (⟨#[63,97]⟩:ByteArray)] from rfl) (Reps.one (show Kd.M Kd.string _ _ _ (⟨#[63]⟩:ByteArray) [.string (⟨#[63]⟩:ByteArray)] from rfl) (Reps.one (show Kd.M Kd.string _ _ _ (⟨#[35,116,111,112]⟩:ByteArray) [.string (⟨#[35,116,111,112]⟩:ByteArray)] from rfl) (Reps.one (show Kd.M Kd.string _ _ _ (⟨#[]⟩:ByteArray) [.string (⟨#[]⟩:ByteArray)] from rfl) (Reps.one (show Kd.M Kd.string _ _ _ (⟨#[97,35,98]⟩:ByteArray) [.string (⟨#[97,35,98]⟩:ByteArray)] from rfl) (Reps.one (show Kd.M Kd.string _ _ _ (⟨#[98,63,97]⟩:ByteArray) [.string (⟨#[98,63,97]⟩:ByteArray)] from rfl) (Reps.none _ _))))))));intro v297 w24 ho25 hb hg_ hnew_;clear hg_ hnew_;(first|rw [← Ny296.out] at ho25|(simp only [Int.reduceToNat] at ho25;rw [← Ny296.out] at ho25));have HO298:=A_ (Kd.R_lower ho25 (keep_size (w:=w) (g:=g) (row:=none) (zz28 HK)));replace HK:=A_ (KeepBut.trans (zz28 HK) (KeepBut.of_below hb g none) (.inl rfl));replace HB:=A_ (bS (zz29 HB HI0) hb);replace HI0:=A_ (IsS68.below (zz27 HI0) hb);clear hb ho25;obtain ⟨Ao26,co26,eo26⟩:=Kd.R_slice HO298.out;subst eo26)|(refine gR 41 (some 25) Tryz.func41 (spec_l6Rd_of.calls kj2 g s0_0 t283 _ _ y296 t299 t300 w0 _ ?side1 ?side2 ?side3 ?side4 ?side5 A23.out) ?_;(case side1=>exact (zz27 HI0));(case side2=>exact (zz29 HB HI0));(case side3=>exact (zz38 HO298));(case side4=>exact (Kd.R_reads' HO298.out).2.1);(case side5=>exact far_slice (IsS68.own_ne HI0.out HO298.out (by decide)));rintro w27 ⟨hi,hb,hk⟩;replace HO298:=A_ (Kd.R_mono (Kd.R_keep (IsS68.apart (show IsS68 w0 _ g s0_0 t283 from (zz27 HI0)) (zz15 HO298) (by decide)) hk (fun _ h=>h.2)) (fun _ h=>h.1));replace HK:=A_ (KeepBut.trans (zz28 HK) hk (.inl rfl));replace HB:=A_ (hb);replace HI0:=A_ (hi);(try clear hb hk hi)))
       go_ret
       exact ⟨zz6,(zz27 HI0),(zz29 HB HI0),(zz28 HK)⟩
      ·replace H:=iteEq H
       rcases H with ⟨c28b0,c28b1,H⟩|⟨c28b0,c28b1,c28,H⟩
       ·obtain ⟨y301,Ny301⟩:=toY (([(⟨#[47,47,65,66,47,97]⟩:ByteArray),(⟨#[47,47,99,100]⟩:ByteArray),(⟨#[47,47,99,100,63,120]⟩:ByteArray),(⟨#[47,47,97,98,47,37,54,49]⟩:ByteArray),(⟨#[47,47,116,111,111,108,111,110,103,47,97]⟩:ByteArray),(⟨#[47,47,97,49,47,98]⟩:ByteArray),(⟨#[47,47,47,97]⟩:ByteArray)]:List ByteArray))
        (first|with_reducible replace H:=bindZ Ny301 H|rw [← Ny301.out] at H|skip)
        replace H:=bindA H;obtain ⟨⟨t304,t305⟩,A29,H⟩:=H;try dsimp only at H
        simp only [Option.some.injEq,Prod.mk.injEq] at H
        obtain ⟨rfl,rfl⟩:=H;go_wp2_with (first|((with_reducible refine gD (N:=29) rfl ?_);refine Kd.R_lit Kd.string _ 9 ?hg (N:=29) ?hd (xs:=([(⟨#[47,47,65,66,47,97]⟩:ByteArray),(⟨#[47,47,99,100]⟩:ByteArray),(⟨#[47,47,99,100,63,120]⟩:ByteArray),(⟨#[47,47,97,98,47,37,54,49]⟩:ByteArray),(⟨#[47,47,116,111,111,108,111,110,103,47,97]⟩:ByteArray),(⟨#[47,47,97,49,47,98]⟩:ByteArray),(⟨#[47,47,47,97]⟩:ByteArray)]:List ByteArray)) (inner:=[.string (⟨#[47,47,65,66,47,97]⟩:ByteArray),.string (⟨#[47,47,99,100]⟩:ByteArray),.string (⟨#[47,47,99,100,63,120]⟩:ByteArray),.string (⟨#[47,47,97,98,47,37,54,49]⟩:ByteArray),.string (⟨#[47,47,116,111,111,108,111,110,103,47,97]⟩:ByteArray),.string (⟨#[47,47,97,49,47,98]⟩:ByteArray),.string (⟨#[47,47,47,97]⟩:ByteArray)]) (ok:=fun _=>True) (okp:=fun _=>True) ?hr ?hp (fun _ hk=>hk) trivial (Below.refl _ _) (Nat.le_refl _) (by simp) ?_;(case hd=>rfl);(case hg=>rfl);(case hr=>exact zz14);(case hp=>exact (Reps.one (show Kd.M Kd.string _ _ _ (⟨#[47,47,65,66,47,97]⟩:ByteArray) [.string (⟨#[47,47,65,66,47,97]⟩:ByteArray)] from rfl) (Reps.one (show Kd.M Kd.string _ _ _ (⟨#[47,47,99,100]⟩:ByteArray) [.string (⟨#[47,47,99,100]⟩:ByteArray)] from rfl) (Reps.one (show Kd.M Kd.string _ _ _ (⟨#[47,47,99,100,63,120]⟩:ByteArray) [.string (⟨#[47,47,99,100,63,120]⟩:ByteArray)] from rfl) (Reps.one (show Kd.M Kd.string _ _ _ (⟨#[47,47,97,98,47,37,54,49]⟩:ByteArray) [.string (⟨#[47,47,97,98,47,37,54,49]⟩:ByteArray)] from rfl) (Reps.one (show Kd.M Kd.string _ _ _ (⟨#[47,47,116,111,111,108,111,110,103,47,97]⟩:ByteArray) [.string (⟨#[47,47,116,111,111,108,111,110,103,47,97]⟩:ByteArray)] from rfl) (Reps.one (show Kd.M Kd.string _ _ _ (⟨#[47,47,97,49,47,98]⟩:ByteArray) [.string (⟨#[47,47,97,49,47,98]⟩:ByteArray)] from rfl) (Reps.one (show Kd.M Kd.string _ _ _ (⟨#[47,47,47,97]⟩:ByteArray) [.string (⟨#[47,47,47,97]⟩:ByteArray)] from rfl) (Reps.none _ _)))))))));intro v302 w30 ho31 hb hg_ hnew_;clear hg_ hnew_;(first|rw [← Ny301.out] at ho31|(simp only [Int.reduceToNat] at ho31;rw [← Ny301.out] at ho31));have HO303:=A_ (Kd.R_lower ho31 (keep_size (w:=w) (g:=g) (row:=none) (zz28 HK)));replace HK:=A_ (KeepBut.trans (zz28 HK) (KeepBut.of_below hb g none) (.inl rfl));replace HB:=A_ (bS (zz29 HB HI0) hb);replace HI0:=A_ (IsS68.below (zz27 HI0) hb);clear hb ho31;obtain ⟨Ao32,co32,eo32⟩:=Kd.R_slice HO303.out;subst eo32)|(refine gR 41 (some 30) Tryz.func41 (spec_l6Rd_of.calls kj2 g s0_0 t283 _ _ y301 t304 t305 w0 _ ?side1 ?side2 ?side3 ?side4 ?side5 A29.out) ?_;(case side1=>exact (zz27 HI0));(case side2=>exact (zz29 HB HI0));(case side3=>exact (zz38 HO303));(case side4=>exact (Kd.R_reads' HO303.out).2.1);(case side5=>exact far_slice (IsS68.own_ne HI0.out HO303.out (by decide)));rintro w33 ⟨hi,hb,hk⟩;replace HO303:=A_ (Kd.R_mono (Kd.R_keep (IsS68.apart (show IsS68 w0 _ g s0_0 t283 from (zz27 HI0)) (zz15 HO303) (by decide)) hk (fun _ h=>h.2)) (fun _ h=>h.1));replace HK:=A_ (KeepBut.trans (zz28 HK) hk (.inl rfl));replace HB:=A_ (hb);replace HI0:=A_ (hi);(try clear hb hk hi)))
        go_ret
        exact ⟨zz6,(zz27 HI0),(zz29 HB HI0),(zz28 HK)⟩
       ·obtain ⟨y306,Ny306⟩:=toY (([(⟨#[97]⟩:ByteArray),(⟨#[98]⟩:ByteArray),(⟨#[99]⟩:ByteArray),(⟨#[97,47,98]⟩:ByteArray)]:List ByteArray))
        (first|with_reducible replace H:=bindZ Ny306 H|rw [← Ny306.out] at H|skip)
        replace H:=bindA H;obtain ⟨⟨t309,t310⟩,A34,H⟩:=H;try dsimp only at H
        simp only [Option.some.injEq,Prod.mk.injEq] at H
        obtain ⟨rfl,rfl⟩:=H;go_wp2_with (first|((with_reducible refine gD (N:=32) rfl ?_);refine Kd.R_lit Kd.string _ 9 ?hg (N:=32) ?hd (xs:=([(⟨#[97]⟩:ByteArray),(⟨#[98]⟩:ByteArray),(⟨#[99]⟩:ByteArray),(⟨#[97,47,98]⟩:ByteArray)]:List ByteArray)) (inner:=[.string (⟨#[97]⟩:ByteArray),.string (⟨#[98]⟩:ByteArray),.string (⟨#[99]⟩:ByteArray),.string (⟨#[97,47,98]⟩:ByteArray)]) (ok:=fun _=>True) (okp:=fun _=>True) ?hr ?hp (fun _ hk=>hk) trivial (Below.refl _ _) (Nat.le_refl _) (by simp) ?_;(case hd=>rfl);(case hg=>rfl);(case hr=>exact zz14);(case hp=>exact (Reps.one (show Kd.M Kd.string _ _ _ (⟨#[97]⟩:ByteArray) [.string (⟨#[97]⟩:ByteArray)] from rfl) (Reps.one (show Kd.M Kd.string _ _ _ (⟨#[98]⟩:ByteArray) [.string (⟨#[98]⟩:ByteArray)] from rfl) (Reps.one (show Kd.M Kd.string _ _ _ (⟨#[99]⟩:ByteArray) [.string (⟨#[99]⟩:ByteArray)] from rfl) (Reps.one (show Kd.M Kd.string _ _ _ (⟨#[97,47,98]⟩:ByteArray) [.string (⟨#[97,47,98]⟩:ByteArray)] from rfl) (Reps.none _ _))))));intro v307 w35 ho36 hb hg_ hnew_;clear hg_ hnew_;(first|rw [← Ny306.out] at ho36|(simp only [Int.reduceToNat] at ho36;rw [← Ny306.out] at ho36));have HO308:=A_ (Kd.R_lower ho36 (keep_size (w:=w) (g:=g) (row:=none) (zz28 HK)));replace HK:=A_ (KeepBut.trans (zz28 HK) (KeepBut.of_below hb g none) (.inl rfl));replace HB:=A_ (bS (zz29 HB HI0) hb);replace HI0:=A_ (IsS68.below (zz27 HI0) hb);clear hb ho36;obtain ⟨Ao37,co37,eo37⟩:=Kd.R_slice HO308.out;subst eo37)|(refine gR 41 (some 33) Tryz.func41 (spec_l6Rd_of.calls kj2 g s0_0 t283 _ _ y306 t309 t310 w0 _ ?side1 ?side2 ?side3 ?side4 ?side5 A34.out) ?_;(case side1=>exact (zz27 HI0));(case side2=>exact (zz29 HB HI0));(case side3=>exact (zz38 HO308));(case side4=>exact (Kd.R_reads' HO308.out).2.1);(case side5=>exact far_slice (IsS68.own_ne HI0.out HO308.out (by decide)));rintro w38 ⟨hi,hb,hk⟩;replace HO308:=A_ (Kd.R_mono (Kd.R_keep (IsS68.apart (show IsS68 w0 _ g s0_0 t283 from (zz27 HI0)) (zz15 HO308) (by decide)) hk (fun _ h=>h.2)) (fun _ h=>h.1));replace HK:=A_ (KeepBut.trans (zz28 HK) hk (.inl rfl));replace HB:=A_ (hb);replace HI0:=A_ (hi);(try clear hb hk hi)))
        go_ret
        exact ⟨zz6,(zz27 HI0),(zz29 HB HI0),(zz28 HK)⟩
def spec_l71Page.l0:Nat→ByteArray→Int→List Int→Int→Option (ByteArray×Int)
 | 0,_,_,_,_=>none
 | k+1,x3,x4,x1000,x1001=>if x4 > 0 then ((spec_l6Rd_pick.f k x1000 x1001 9).bind fun bt313=>(if bt313.1=0 then (if x3.size+1≤9223372036854775807 then ((spec_l71Ref.f k x1000 bt313.2).bind fun bt315=>(if x3.size+1+bt315.1.size≤9223372036854775807 then (if x3.size+1+bt315.1.size+1≤9223372036854775807 then ((spec_l71Ref.f k x1000 bt315.2).bind fun bt317=>(if x3.size+1+bt315.1.size+1+bt317.1.size≤9223372036854775807 then (if x3.size+1+bt315.1.size+1+bt317.1.size+2≤9223372036854775807 then (spec_l71Page.l0 k (((((x3++(⟨#[40]⟩:ByteArray))++bt315.1)++(⟨#[60]⟩:ByteArray))++bt317.1)++(⟨#[62,41]⟩:ByteArray)) (wrap64 (x4 - 1)) x1000 bt317.2) else (none)) else (none))) else (none)) else (none))) else (none)) else (if bt313.1=1 then (if x3.size+2≤9223372036854775807 then ((spec_l71Ref.f k x1000 bt313.2).bind fun bt319=>(if x3.size+2+bt319.1.size≤9223372036854775807 then (if x3.size+2+bt319.1.size+1≤9223372036854775807 then (spec_l71Page.l0 k (((x3++(⟨#[60,33]⟩:ByteArray))++bt319.1)++(⟨#[62]⟩:ByteArray)) (wrap64 (x4 - 1)) x1000 bt319.2) else (none)) else (none))) else (none)) else (if bt313.1=2 then (if x3.size+2≤9223372036854775807 then ((spec_l71Ref.f k x1000 bt313.2).bind fun bt321=>(if x3.size+2+bt321.1.size≤9223372036854775807 then (if x3.size+2+bt321.1.size+1≤9223372036854775807 then (spec_l71Page.l0 k (((x3++(⟨#[60,64]⟩:ByteArray))++bt321.1)++(⟨#[62]⟩:ByteArray)) (wrap64 (x4 - 1)) x1000 bt321.2) else (none)) else (none))) else (none)) else (if bt313.1=3 then ((spec_l6Rd_of.f k x1000 bt313.2 (([(⟨#[116,101,120,116,32]⟩:ByteArray),(⟨#[60]⟩:ByteArray),(⟨#[62]⟩:ByteArray),(⟨#[40]⟩:ByteArray),(⟨#[41]⟩:ByteArray),(⟨#[60,97]⟩:ByteArray)]:List ByteArray))).bind fun bt326=>(if x3.size+bt326.1.size≤9223372036854775807 then (spec_l71Page.l0 k (x3++bt326.1) (wrap64 (x4 - 1)) x1000 bt326.2) else (none))) else (if x3.size+1≤9223372036854775807 then ((spec_l71Ref.f k x1000 bt313.2).bind fun bt328=>(if x3.size+1+bt328.1.size≤9223372036854775807 then (if x3.size+1+bt328.1.size+1≤9223372036854775807 then (spec_l71Page.l0 k (((x3++(⟨#[60]⟩:ByteArray))++bt328.1)++(⟨#[62]⟩:ByteArray)) (wrap64 (x4 - 1)) x1000 bt328.2) else (none)) else (none))) else (none))))))) else (some (x3,x1001))
def spec_l71Page.f (k:Nat) (s0_0:List Int) (s0_1:Int):Option (ByteArray×Int):=(spec_l6Rd_pick.f k s0_0 s0_1 5).bind fun bt311=>(spec_l71Page.l0 k (⟨#[]⟩:ByteArray) bt311.1 s0_0 bt311.2)
theorem spec_l71Page.mono_l:∀ k,(∀ y0 y1 y2 y3,LeO (spec_l71Page.l0 k y0 y1 y2 y3) (spec_l71Page.l0 (k+1) y0 y1 y2 y3))
 | 0=>by intros;intro r h;simp [spec_l71Page.l0] at h
 | k+1=>by
  have ih0:=spec_l71Page.mono_l k;intros;unfold spec_l71Page.l0;repeat' first|(with_reducible first|exact ih0 _ _ _ _|exact spec_l6Rd_of.mono _ _ _ _|exact spec_l6Rd_pick.mono _ _ _ _|exact spec_l71Ref.mono _ _ _|exact LeO.refl _|exact LeO.none _|refine LeO.ite ?_ ?_|refine LeO.bind ?_ (fun _=>?_))|exact LeO.none _|refine LeO.ite ?_ ?_|refine LeO.bind ?_ (fun _=>?_)
theorem spec_l71Page.calls (k:Nat) (g:Nat) (s0_0:List Int) (s0_1:Int) (r1:ByteArray) (r2:Int) (w0 w:World) (hI:IsS68 w0 w g s0_0 s0_1) (hB:Below w0.heap.size w0 w) (h:spec_l71Page.f k s0_0 s0_1=some (r1,r2)) :
  Calls Tryz.prog 68 #[.pointer (some ⟨g,0,none⟩)] w fun e w'=>e=.returned (.string r1)∧IsS68 w0 w' g s0_0 r2∧Below w0.heap.size w0 w'∧KeepBut w w' g none:=by
 have HI0:=A_ hI;have HK:=A_ (KeepBut.refl w g none);have HL:=A_ hB.size;clear hI;have HW0:=A_ hB.size;have HB:=A_ hB;clear hB;unfold spec_l71Page.f at h
 have H:=h;clear h;replace H:=bindA H;obtain ⟨⟨t311,t312⟩,A2,H⟩:=H;try dsimp only at H
 have H':=A_ H;clear H;go_enter Tryz.func68,Tryz.ntmps68;go_wp2_with (first|(refine gR 22 (some 6) Tryz.func22 (spec_l6Rd_pick.calls k g s0_0 s0_1 5 t311 t312 w0 _ ?side1 ?side2 A2.out) ?_;(case side1=>exact (zz27 HI0));(case side2=>exact (zz29 HB HI0));rintro w3 ⟨hi,hb,hk⟩;replace HK:=A_ (KeepBut.trans (zz28 HK) hk (.inl rfl));replace HB:=A_ (hb);replace HI0:=A_ (hi);(try clear hb hk hi)))
 go_loopg [3,4] k (fun kq v3 v4 w'=>∃ (x3_1:ByteArray) (x4_1:Int) (x1001_1:Int),v3=.string x3_1∧v4=.int .i64 x4_1∧Aside0 (spec_l71Page.l0 kq x3_1 x4_1 s0_0 x1001_1=some (r1,r2))∧Aside0 (kq≤k)∧Aside0 (IsS68 w0 w' g s0_0 x1001_1)∧Aside0 (KeepBut w w' g none)∧Aside0 (Below w0.heap.size w0 w'))
 case atStart=>exact ⟨((⟨#[]⟩:ByteArray)),(t311),(t312),zz1,zz1,H',⟨Nat.le_refl _⟩,⟨(zz27 HI0)⟩,⟨(zz28 HK)⟩,⟨(zz29 HB HI0)⟩⟩
 case round=>
  clear H';obtain ⟨x3_1,x4_1,x1001_1,rfl,rfl,HA,HK1,HI0,HK,HB⟩:=hrel;cases gk with
  | zero=>exact absurd HA.out (by simp [spec_l71Page.l0])
  | succ k1=>
   obtain ⟨H⟩:=HA;simp only [spec_l71Page.l0] at H
   replace H:=iteEg H;rcases H with ⟨c4b0,H⟩|⟨c4b0,H⟩
   ·replace H:=bindA H
    obtain ⟨⟨t313,t314⟩,A5,H⟩:=H;try dsimp only at H
    have HF6:=A_ H;clear H;go_upto_if 19 with (first|(refine gR 22 (some 12) Tryz.func22 (spec_l6Rd_pick.calls k1 g s0_0 x1001_1 9 t313 t314 w0 _ ?side1 ?side2 A5.out) ?_;(case side1=>exact (zz27 HI0));(case side2=>exact (zz29 HB HI0));rintro w7 ⟨hi,hb,hk⟩;replace HK:=A_ (KeepBut.trans (zz28 HK) hk (.inl rfl));replace HB:=A_ (hb);replace HI0:=A_ (hi);(try clear hb hk hi)))
    obtain ⟨H⟩:=HF6;replace H:=iteEq H;rcases H with ⟨c8b0,c8b1,H⟩|⟨c8b0,c8b1,c8,H⟩
    ·(first|rw [c8b0]|(simp only [i64_w,i32_w];rw [c8b0])|skip)
     replace H:=iteN H;obtain ⟨c9,H⟩:=H;have c9b0:=eq_true c9;have c9b1:=dT c9;try have c9b2:(9223372036854775807 < x3_1.size+1)=False:=eq_false (Nat.not_lt.2 c9)
     replace H:=bindA H;obtain ⟨⟨t315,t316⟩,A10,H⟩:=H;try dsimp only at H
     replace H:=iteN H;obtain ⟨c11,H⟩:=H;have c11b0:=eq_true c11;have c11b1:=dT c11;try have c11b2:(9223372036854775807 < x3_1.size+1+t315.size)=False:=eq_false (Nat.not_lt.2 c11)
     replace H:=iteN H;obtain ⟨c12,H⟩:=H;have c12b0:=eq_true c12;have c12b1:=dT c12;try have c12b2:(9223372036854775807 < x3_1.size+1+t315.size+1)=False:=eq_false (Nat.not_lt.2 c12)
     replace H:=bindA H;obtain ⟨⟨t317,t318⟩,A13,H⟩:=H;try dsimp only at H
     replace H:=iteN H;obtain ⟨c14,H⟩:=H;have c14b0:=eq_true c14;have c14b1:=dT c14;try have c14b2:(9223372036854775807 < x3_1.size+1+t315.size+1+t317.size)=False:=eq_false (Nat.not_lt.2 c14)
     replace H:=iteN H;obtain ⟨c15,H⟩:=H;have c15b0:=eq_true c15;have c15b1:=dT c15;try have c15b2:(9223372036854775807 < x3_1.size+1+t315.size+1+t317.size+2)=False:=eq_false (Nat.not_lt.2 c15)
     have H':=A_ H;clear H;go_wp2_with (first|(refine gR 95 (some 24) Tryz.func95 (spec_l71Ref.calls k1 g s0_0 t314 t315 t316 w0 _ ?side1 ?side2 A10.out) ?_;(case side1=>exact (zz27 HI0));(case side2=>exact (zz29 HB HI0));rintro w16 ⟨hi,hb,hk⟩;replace HK:=A_ (KeepBut.trans (zz28 HK) hk (.inl rfl));replace HB:=A_ (hb);replace HI0:=A_ (hi);(try clear hb hk hi))|(refine gR 95 (some 28) Tryz.func95 (spec_l71Ref.calls k1 g s0_0 t316 t317 t318 w0 _ ?side1 ?side2 A13.out) ?_;(case side1=>exact (zz27 HI0));(case side2=>exact (zz29 HB HI0));rintro w17 ⟨hi,hb,hk⟩;replace HK:=A_ (KeepBut.trans (zz28 HK) hk (.inl rfl));replace HB:=A_ (hb);replace HI0:=A_ (hi);(try clear hb hk hi)))
     go_roundg k1
     case measure=>have:=HK1.out;omega
     case rel=>exact ⟨(((((x3_1++(⟨#[40]⟩:ByteArray))++t315)++(⟨#[60]⟩:ByteArray))++t317)++(⟨#[62,41]⟩:ByteArray)),(wrap64 (x4_1 - 1)),(t318),zz1,zz1,H',⟨(zz5 HK1)⟩,⟨(zz27 HI0)⟩,⟨(zz28 HK)⟩,⟨(zz29 HB HI0)⟩⟩
    ·(first|rw [c8b0]|(simp only [i64_w,i32_w];rw [c8b0])|skip)
     replace H:=iteEq H;rcases H with ⟨c18b0,c18b1,H⟩|⟨c18b0,c18b1,c18,H⟩
     ·replace H:=iteN H
      obtain ⟨c19,H⟩:=H;have c19b0:=eq_true c19;have c19b1:=dT c19;try have c19b2:(9223372036854775807 < x3_1.size+2)=False:=eq_false (Nat.not_lt.2 c19)
      replace H:=bindA H;obtain ⟨⟨t319,t320⟩,A20,H⟩:=H;try dsimp only at H
      replace H:=iteN H;obtain ⟨c21,H⟩:=H;have c21b0:=eq_true c21;have c21b1:=dT c21;try have c21b2:(9223372036854775807 < x3_1.size+2+t319.size)=False:=eq_false (Nat.not_lt.2 c21)
      replace H:=iteN H;obtain ⟨c22,H⟩:=H;have c22b0:=eq_true c22;have c22b1:=dT c22;try have c22b2:(9223372036854775807 < x3_1.size+2+t319.size+1)=False:=eq_false (Nat.not_lt.2 c22)
      have H':=A_ H;clear H;go_wp2_with (first|(refine gR 95 (some 36) Tryz.func95 (spec_l71Ref.calls k1 g s0_0 t314 t319 t320 w0 _ ?side1 ?side2 A20.out) ?_;(case side1=>exact (zz27 HI0));(case side2=>exact (zz29 HB HI0));rintro w23 ⟨hi,hb,hk⟩;replace HK:=A_ (KeepBut.trans (zz28 HK) hk (.inl rfl));replace HB:=A_ (hb);replace HI0:=A_ (hi);(try clear hb hk hi)))
      go_roundg k1
      case measure=>have:=HK1.out;omega
      case rel=>exact ⟨(((x3_1++(⟨#[60,33]⟩:ByteArray))++t319)++(⟨#[62]⟩:ByteArray)),(wrap64 (x4_1 - 1)),(t320),zz1,zz1,H',⟨(zz5 HK1)⟩,⟨(zz27 HI0)⟩,⟨(zz28 HK)⟩,⟨(zz29 HB HI0)⟩⟩
     ·replace H:=iteEq H
      rcases H with ⟨c24b0,c24b1,H⟩|⟨c24b0,c24b1,c24,H⟩
      ·replace H:=iteN H
       obtain ⟨c25,H⟩:=H;have c25b0:=eq_true c25;have c25b1:=dT c25;try have c25b2:(9223372036854775807 < x3_1.size+2)=False:=eq_false (Nat.not_lt.2 c25)
       replace H:=bindA H;obtain ⟨⟨t321,t322⟩,A26,H⟩:=H;try dsimp only at H
       replace H:=iteN H;obtain ⟨c27,H⟩:=H;have c27b0:=eq_true c27;have c27b1:=dT c27;try have c27b2:(9223372036854775807 < x3_1.size+2+t321.size)=False:=eq_false (Nat.not_lt.2 c27)
       replace H:=iteN H;obtain ⟨c28,H⟩:=H;have c28b0:=eq_true c28;have c28b1:=dT c28;try have c28b2:(9223372036854775807 < x3_1.size+2+t321.size+1)=False:=eq_false (Nat.not_lt.2 c28)
       have H':=A_ H;clear H;go_wp2_with (first|(refine gR 95 (some 44) Tryz.func95 (spec_l71Ref.calls k1 g s0_0 t314 t321 t322 w0 _ ?side1 ?side2 A26.out) ?_;(case side1=>exact (zz27 HI0));(case side2=>exact (zz29 HB HI0));rintro w29 ⟨hi,hb,hk⟩;replace HK:=A_ (KeepBut.trans (zz28 HK) hk (.inl rfl));replace HB:=A_ (hb);replace HI0:=A_ (hi);(try clear hb hk hi)))
       go_roundg k1
       case measure=>have:=HK1.out;omega
       case rel=>exact ⟨(((x3_1++(⟨#[60,64]⟩:ByteArray))++t321)++(⟨#[62]⟩:ByteArray)),(wrap64 (x4_1 - 1)),(t322),zz1,zz1,H',⟨(zz5 HK1)⟩,⟨(zz27 HI0)⟩,⟨(zz28 HK)⟩,⟨(zz29 HB HI0)⟩⟩
      ·replace H:=iteEq H
       rcases H with ⟨c30b0,c30b1,H⟩|⟨c30b0,c30b1,c30,H⟩
       ·obtain ⟨y323,Ny323⟩:=toY (([(⟨#[116,101,120,116,32]⟩:ByteArray),(⟨#[60]⟩:ByteArray),(⟨#[62]⟩:ByteArray),(⟨#[40]⟩:ByteArray),(⟨#[41]⟩:ByteArray),(⟨#[60,97]⟩:ByteArray)]:List ByteArray))
        (first|with_reducible replace H:=bindZ Ny323 H|rw [← Ny323.out] at H|skip)
        replace H:=bindA H;obtain ⟨⟨t326,t327⟩,A31,H⟩:=H;try dsimp only at H
        replace H:=iteN H;obtain ⟨c32,H⟩:=H;have c32b0:=eq_true c32;have c32b1:=dT c32;try have c32b2:(9223372036854775807 < x3_1.size+t326.size)=False:=eq_false (Nat.not_lt.2 c32)
        have H':=A_ H;clear H;go_wp2_with (first|((with_reducible refine gD (N:=51) rfl ?_);refine Kd.R_lit Kd.string _ 9 ?hg (N:=51) ?hd (xs:=([(⟨#[116,101,120,116,32]⟩:ByteArray),(⟨#[60]⟩:ByteArray),(⟨#[62]⟩:ByteArray),(⟨#[40]⟩:ByteArray),(⟨#[41]⟩:ByteArray),(⟨#[60,97]⟩:ByteArray)]:List ByteArray)) (inner:=[.string (⟨#[116,101,120,116,32]⟩:ByteArray),.string (⟨#[60]⟩:ByteArray),.string (⟨#[62]⟩:ByteArray),.string (⟨#[40]⟩:ByteArray),.string (⟨#[41]⟩:ByteArray),.string (⟨#[60,97]⟩:ByteArray)]) (ok:=fun _=>True) (okp:=fun _=>True) ?hr ?hp (fun _ hk=>hk) trivial (Below.refl _ _) (Nat.le_refl _) (by simp) ?_;(case hd=>rfl);(case hg=>rfl);(case hr=>exact zz14);(case hp=>exact (Reps.one (show Kd.M Kd.string _ _ _ (⟨#[116,101,120,116,32]⟩:ByteArray) [.string (⟨#[116,101,120,116,32]⟩:ByteArray)] from rfl) (Reps.one (show Kd.M Kd.string _ _ _ (⟨#[60]⟩:ByteArray) [.string (⟨#[60]⟩:ByteArray)] from rfl) (Reps.one (show Kd.M Kd.string _ _ _ (⟨#[62]⟩:ByteArray) [.string (⟨#[62]⟩:ByteArray)] from rfl) (Reps.one (show Kd.M Kd.string _ _ _ (⟨#[40]⟩:ByteArray) [.string (⟨#[40]⟩:ByteArray)] from rfl) (Reps.one (show Kd.M Kd.string _ _ _ (⟨#[41]⟩:ByteArray) [.string (⟨#[41]⟩:ByteArray)] from rfl) (Reps.one (show Kd.M Kd.string _ _ _ (⟨#[60,97]⟩:ByteArray) [.string (⟨#[60,97]⟩:ByteArray)] from rfl) (Reps.none _ _))))))));intro v324 w33 ho34 hb hg_ hnew_;clear hg_ hnew_;(first|rw [← Ny323.out] at ho34|(simp only [Int.reduceToNat] at ho34;rw [← Ny323.out] at ho34));have HO325:=A_ (Kd.R_lower ho34 (keep_size (w:=w) (g:=g) (row:=none) (zz28 HK)));replace HK:=A_ (KeepBut.trans (zz28 HK) (KeepBut.of_below hb g none) (.inl rfl));replace HB:=A_ (bS (zz29 HB HI0) hb);replace HI0:=A_ (IsS68.below (zz27 HI0) hb);clear hb ho34;obtain ⟨Ao35,co35,eo35⟩:=Kd.R_slice HO325.out;subst eo35)|(refine gR 41 (some 52) Tryz.func41 (spec_l6Rd_of.calls k1 g s0_0 t314 _ _ y323 t326 t327 w0 _ ?side1 ?side2 ?side3 ?side4 ?side5 A31.out) ?_;(case side1=>exact (zz27 HI0));(case side2=>exact (zz29 HB HI0));(case side3=>exact (zz38 HO325));(case side4=>exact (Kd.R_reads' HO325.out).2.1);(case side5=>exact far_slice (IsS68.own_ne HI0.out HO325.out (by decide)));rintro w36 ⟨hi,hb,hk⟩;replace HO325:=A_ (Kd.R_mono (Kd.R_keep (IsS68.apart (show IsS68 w0 _ g s0_0 t314 from (zz27 HI0)) (zz15 HO325) (by decide)) hk (fun _ h=>h.2)) (fun _ h=>h.1));replace HK:=A_ (KeepBut.trans (zz28 HK) hk (.inl rfl));replace HB:=A_ (hb);replace HI0:=A_ (hi);(try clear hb hk hi)))
        go_roundg k1
        case measure=>have:=HK1.out;omega
        case rel=>exact ⟨(x3_1++t326),(wrap64 (x4_1 - 1)),(t327),zz1,zz1,H',⟨(zz5 HK1)⟩,⟨(zz27 HI0)⟩,⟨(zz28 HK)⟩,⟨(zz29 HB HI0)⟩⟩
       ·replace H:=iteN H
        obtain ⟨c37,H⟩:=H;have c37b0:=eq_true c37;have c37b1:=dT c37;try have c37b2:(9223372036854775807 < x3_1.size+1)=False:=eq_false (Nat.not_lt.2 c37)
        replace H:=bindA H;obtain ⟨⟨t328,t329⟩,A38,H⟩:=H;try dsimp only at H
        replace H:=iteN H;obtain ⟨c39,H⟩:=H;have c39b0:=eq_true c39;have c39b1:=dT c39;try have c39b2:(9223372036854775807 < x3_1.size+1+t328.size)=False:=eq_false (Nat.not_lt.2 c39)
        replace H:=iteN H;obtain ⟨c40,H⟩:=H;have c40b0:=eq_true c40;have c40b1:=dT c40;try have c40b2:(9223372036854775807 < x3_1.size+1+t328.size+1)=False:=eq_false (Nat.not_lt.2 c40)
        have H':=A_ H;clear H;go_wp2_with (first|(refine gR 95 (some 16) Tryz.func95 (spec_l71Ref.calls k1 g s0_0 t314 t328 t329 w0 _ ?side1 ?side2 A38.out) ?_;(case side1=>exact (zz27 HI0));(case side2=>exact (zz29 HB HI0));rintro w41 ⟨hi,hb,hk⟩;replace HK:=A_ (KeepBut.trans (zz28 HK) hk (.inl rfl));replace HB:=A_ (hb);replace HI0:=A_ (hi);(try clear hb hk hi)))
        go_roundg k1
        case measure=>have:=HK1.out;omega
        case rel=>exact ⟨(((x3_1++(⟨#[60]⟩:ByteArray))++t328)++(⟨#[62]⟩:ByteArray)),(wrap64 (x4_1 - 1)),(t329),zz1,zz1,H',⟨(zz5 HK1)⟩,⟨(zz27 HI0)⟩,⟨(zz28 HK)⟩,⟨(zz29 HB HI0)⟩⟩
   ·simp only [Option.some.injEq,Prod.mk.injEq] at H
    obtain ⟨rfl,rfl⟩:=H;go_wp2
    go_ret
    exact ⟨zz6,(zz27 HI0),(zz29 HB HI0),(zz28 HK)⟩
end Go.Proofs.YtpomhjkbgbociaaGreatDoor.P
end
