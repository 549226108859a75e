/- Part 5 of the proof of FnWorldFromNorm: the plain functions of what it reaches, that Go comes to just their answers, what they answer, and the words that the walks use; conditions: each theorem's own. -/
import Derived.Test.YtpomhjkbgbociaaGreatDoorZFnWorldFromNormb
import Derived.Test.YtpomhjkbgbociaaGreatDoorZFnWorldFromNormd
import Derived.Test.YtpomhjkbgbociaaGreatDoorZFnWorldFromNormc
import Derived.Maps.Own
import Derived.Maps.OwnSet
import Derived.Carry
import Derived.OneCell
import Derived.Laws.EntriesVeiled

section
namespace Go.Proofs.YtpomhjkbgbociaaGreatDoor.P
open Go.RowKit Go.Proofs.YtpomhjkbgbociaaGreatDoorW.PrintWords Go.Proofs.YtpomhjkbgbociaaGreatDoorW.PrintLast Go.Proofs.YtpomhjkbgbociaaGreatDoorW.PrintMore
attribute [local go_sem] max2_int min2_int max_two min_two max_three min_three max_four min_four
set_option linter.unusedVariables false
set_option linter.unusedSimpArgs false
set_option maxHeartbeats 8000000
set_option maxRecDepth 100000
def spec_l1Whole.l0:Nat→ByteArray→ByteArray→ByteArray→Int→Option (ByteArray×List ByteArray×Bool×ByteArray×Bool)
 | 0,_,_,_,_=>none
 | k+1,x0,x4,x5,x6=>if x6 < (x0.size:Int) then (if 0≤x6 then (if (bt x0 x6)=47 then (if x6≤(x0.size:Int) then ((spec_l1Small.f (x0.extract 0 (x6:Int).toNat)).bind fun t490=>((spec_l1Way.f k t490 ([]:List ByteArray) false (⟨#[]⟩:ByteArray) (x0.extract (x6:Int).toNat x0.size)).bind fun bt491=>(some (bt491.1,bt491.2.1,bt491.2.2.1,bt491.2.2.2.1,bt491.2.2.2.2)))) else (none)) else (if (bt x0 x6)=63 then (if x6≤(x0.size:Int) then ((spec_l1Small.f (x0.extract 0 (x6:Int).toNat)).bind fun t498=>((spec_l1Way.f k t498 ([]:List ByteArray) false (⟨#[]⟩:ByteArray) (x0.extract (x6:Int).toNat x0.size)).bind fun bt499=>(some (bt499.1,bt499.2.1,bt499.2.2.1,bt499.2.2.2.1,bt499.2.2.2.2)))) else (none)) else (spec_l1Whole.l0 k x0 x4 x5 (wrap64 (x6+1))))) else (none)) else ((spec_l1Small.f x4).bind fun t506=>((spec_l1Way.f k t506 ([]:List ByteArray) false (⟨#[]⟩:ByteArray) x5).bind fun bt507=>(some (bt507.1,bt507.2.1,bt507.2.2.1,bt507.2.2.2.1,bt507.2.2.2.2))))
def spec_l1Whole.f (k:Nat) (a0:ByteArray):Option (ByteArray×List ByteArray×Bool×ByteArray×Bool):=spec_l1Whole.l0 k a0 a0 (⟨#[]⟩:ByteArray) 0
theorem spec_l1Whole.calls (k:Nat) (a0:ByteArray) (r1:ByteArray) (r2:List ByteArray) (r3:Bool) (r4:ByteArray) (r5:Bool) (w:World) (h:spec_l1Whole.f k a0=some (r1,r2,r3,r4,r5)) :
  Calls Tryz.prog 71 #[.string a0] w fun e w'=>∃ v1_:Value,e=.returned (.tuple #[.agg #[.string r1,v1_,.bool r3,.string r4],.bool r5])∧Kd.R Kd.string 9 w' w.heap.size (fun _=>True) v1_ r2∧Below w.heap.size w w':=by
 have hu39:=Tryz.underlying39;have HB:=A_ (Below.refl w.heap.size w);unfold spec_l1Whole.f at h
 have H:=h;clear h;have H':=A_ H;clear H;go_enter Tryz.func71,Tryz.ntmps71;go_wp2_with (first|(refine boxF 2 #[.string (⟨#[]⟩:ByteArray),.slice none 0 0,.bool false,.string (⟨#[]⟩:ByteArray)] 39 ?_;intro gb489 hg w2 BK489 hb;have GE489:=geB hg (zz5 HB);replace HB:=A_ (bS (zz5 HB) hb);clear hb hg))
 go_loopg [4,5,6] k (fun kq v4 v5 v6 w'=>∃ (x4_1:ByteArray) (x5_1:ByteArray) (x6_1:Int),v4=.string x4_1∧v5=.string x5_1∧v6=.int .i64 x6_1∧Aside0 (spec_l1Whole.l0 kq a0 x4_1 x5_1 x6_1=some (r1,r2,r3,r4,r5))∧Aside0 (kq≤k)∧Aside0 (w'.heap[gb489]?=some (.cells #[.string (⟨#[]⟩:ByteArray),(.slice none 0 0),.bool false,.string (⟨#[]⟩:ByteArray)] 39 (0,0)))∧Aside0 (Below w.heap.size w w'))
 case atStart=>exact ⟨(a0),((⟨#[]⟩:ByteArray)),(0),zz0,zz0,zz0,H',⟨Nat.le_refl _⟩,⟨(zz15 BK489)⟩,⟨(zz16 HB GE489)⟩⟩
 case round=>
  clear H';obtain ⟨x4_1,x5_1,x6_1,rfl,rfl,rfl,HA,HK1,BK489,HB⟩:=hrel;cases gk with
  | zero=>exact absurd HA.out (by simp [spec_l1Whole.l0])
  | succ k1=>
   obtain ⟨H⟩:=HA;simp only [spec_l1Whole.l0] at H
   replace H:=iteEd H;rcases H with ⟨c3b0,H⟩|⟨c3b0,H⟩
   ·replace H:=iteNd H
    obtain ⟨c4b0,H⟩:=H;replace H:=iteEq H;rcases H with ⟨c6b0,c6b1,H⟩|⟨c6b0,c6b1,c6,H⟩
    ·have c7b0:=eq_true (ofD:0≤x6_1)
     replace H:=iteN H;obtain ⟨c8,H⟩:=H;have c8b0:=eq_true c8;have c8b1:=dT c8;clear c8;have c9b0:=eq_true (ofD:0≤x6_1);have c10b0:=eq_true (ofD:x6_1≤(a0.size:Int));replace H:=bindA H;obtain ⟨t490,A11,H⟩:=H;replace H:=bindA H;obtain ⟨⟨t491,t492,t495,t496,t497⟩,A12,H⟩:=H;try dsimp only at H
     simp only [Option.some.injEq,Prod.mk.injEq] at H
     obtain ⟨rfl,rfl,rfl,rfl,rfl⟩:=H;have p5:0≤(x6_1:Int):=ofD;have q5:x6_1 < (a0.size:Int):=ofD;have hx5:=bt_at a0 x6_1;replace p5:=eq_true p5;replace q5:=eq_true q5;go_wp2_with (first|(refine gR 97 (some 31) Tryz.func97 (spec_l1Small.calls (a0.extract 0 (x6_1:Int).toNat) t490 _ A11.out) ?_;rintro w13 hb;replace BK489:=A_ (bB (zz15 BK489) hb);replace HB:=A_ (bS (zz16 HB GE489) hb);(try clear hb))|((with_reducible refine gC (f:=96) rfl ?_);refine gsL (some 34) Tryz.func96 #[.agg #[.string t490,.slice none 0 0,.bool false,.string (⟨#[]⟩:ByteArray)],.string (a0.extract (x6_1:Int).toNat a0.size)] ?_;(refine (spec_l1Way.calls k1 t490 _ _ ([]:List ByteArray) false (⟨#[]⟩:ByteArray) (a0.extract (x6_1:Int).toNat a0.size) t491 t492 t495 t496 t497 _ ?side1 ?side2 A12.out).mono ?_);(case side1=>exact Kd.C_nil _ _);(case side2=>exact Nat.le_refl _);rintro e w14 ⟨v493,rfl,ho0,hb⟩;refine ⟨_,rfl,?_⟩;have HO494:=A_ (Kd.R_lower ho0 (below_size (zz16 HB GE489)));replace BK489:=A_ (bB (zz15 BK489) hb);replace HB:=A_ (bS (zz16 HB GE489) hb);(try clear hb ho0);obtain ⟨_,_,_,_,_,_,_,_⟩:=cf4 BK489;obtain ⟨Ao16,co16,eo16⟩:=Kd.R_slice HO494.out;subst eo16))
     refine pR (results_ct rfl _ _ gb489 39 #[.string t491,.slice Ao16 t492.length co16,.bool t495,.string t496] (0,0) _ rfl (zz32 BK489) Tryz.underlying39 rfl (by kernel_rfl)) rfl ?_;exact ⟨_,zz12,(zz47 (rt HO494 BK489)),(zz16 HB GE489)⟩
    ·replace H:=iteEq H
     rcases H with ⟨c18b0,c18b1,H⟩|⟨c18b0,c18b1,c18,H⟩
     ·have c19b0:=eq_true (ofD:0≤x6_1)
      replace H:=iteN H;obtain ⟨c20,H⟩:=H;have c20b0:=eq_true c20;have c20b1:=dT c20;clear c20;have c21b0:=eq_true (ofD:0≤x6_1);have c22b0:=eq_true (ofD:x6_1≤(a0.size:Int));replace H:=bindA H;obtain ⟨t498,A23,H⟩:=H;replace H:=bindA H;obtain ⟨⟨t499,t500,t503,t504,t505⟩,A24,H⟩:=H;try dsimp only at H
      simp only [Option.some.injEq,Prod.mk.injEq] at H
      obtain ⟨rfl,rfl,rfl,rfl,rfl⟩:=H;have p5:0≤(x6_1:Int):=ofD;have q5:x6_1 < (a0.size:Int):=ofD;have hx5:=bt_at a0 x6_1;replace p5:=eq_true p5;replace q5:=eq_true q5;have p17:0≤(x6_1:Int):=ofD;have q17:x6_1 < (a0.size:Int):=ofD;have hx17:=bt_at a0 x6_1;replace p17:=eq_true p17;replace q17:=eq_true q17;go_wp2_with (first|(refine gR 97 (some 31) Tryz.func97 (spec_l1Small.calls (a0.extract 0 (x6_1:Int).toNat) t498 _ A23.out) ?_;rintro w25 hb;replace BK489:=A_ (bB (zz15 BK489) hb);replace HB:=A_ (bS (zz16 HB GE489) hb);(try clear hb))|((with_reducible refine gC (f:=96) rfl ?_);refine gsL (some 34) Tryz.func96 #[.agg #[.string t498,.slice none 0 0,.bool false,.string (⟨#[]⟩:ByteArray)],.string (a0.extract (x6_1:Int).toNat a0.size)] ?_;(refine (spec_l1Way.calls k1 t498 _ _ ([]:List ByteArray) false (⟨#[]⟩:ByteArray) (a0.extract (x6_1:Int).toNat a0.size) t499 t500 t503 t504 t505 _ ?side1 ?side2 A24.out).mono ?_);(case side1=>exact Kd.C_nil _ _);(case side2=>exact Nat.le_refl _);rintro e w26 ⟨v501,rfl,ho0,hb⟩;refine ⟨_,rfl,?_⟩;have HO502:=A_ (Kd.R_lower ho0 (below_size (zz16 HB GE489)));replace BK489:=A_ (bB (zz15 BK489) hb);replace HB:=A_ (bS (zz16 HB GE489) hb);(try clear hb ho0);obtain ⟨_,_,_,_,_,_,_,_⟩:=cf4 BK489;obtain ⟨Ao28,co28,eo28⟩:=Kd.R_slice HO502.out;subst eo28))
      refine pR (results_ct rfl _ _ gb489 39 #[.string t499,.slice Ao28 t500.length co28,.bool t503,.string t504] (0,0) _ rfl (zz32 BK489) Tryz.underlying39 rfl (by kernel_rfl)) rfl ?_;exact ⟨_,zz12,(zz47 (rt HO502 BK489)),(zz16 HB GE489)⟩
     ·have H':=A_ H
      clear H;have p5:0≤(x6_1:Int):=ofD;have q5:x6_1 < (a0.size:Int):=ofD;have hx5:=bt_at a0 x6_1;replace p5:=eq_true p5;replace q5:=eq_true q5;have p17:0≤(x6_1:Int):=ofD;have q17:x6_1 < (a0.size:Int):=ofD;have hx17:=bt_at a0 x6_1;replace p17:=eq_true p17;replace q17:=eq_true q17;go_wp2
      go_roundg k1
      case measure=>have:=HK1.out;omega
      case rel=>exact ⟨(x4_1),(x5_1),(wrap64 (x6_1+1)),zz0,zz0,zz0,H',⟨(zz3 HK1)⟩,⟨(zz15 BK489)⟩,⟨(zz16 HB GE489)⟩⟩
   ·replace H:=bindA H
    obtain ⟨t506,A29,H⟩:=H;replace H:=bindA H;obtain ⟨⟨t507,t508,t511,t512,t513⟩,A30,H⟩:=H;try dsimp only at H
    simp only [Option.some.injEq,Prod.mk.injEq] at H
    obtain ⟨rfl,rfl,rfl,rfl,rfl⟩:=H;go_wp2_with (first|(refine gR 97 (some 31) Tryz.func97 (spec_l1Small.calls x4_1 t506 _ A29.out) ?_;rintro w31 hb;replace BK489:=A_ (bB (zz15 BK489) hb);replace HB:=A_ (bS (zz16 HB GE489) hb);(try clear hb))|((with_reducible refine gC (f:=96) rfl ?_);refine gsL (some 34) Tryz.func96 #[.agg #[.string t506,.slice none 0 0,.bool false,.string (⟨#[]⟩:ByteArray)],.string x5_1] ?_;(refine (spec_l1Way.calls k1 t506 _ _ ([]:List ByteArray) false (⟨#[]⟩:ByteArray) x5_1 t507 t508 t511 t512 t513 _ ?side1 ?side2 A30.out).mono ?_);(case side1=>exact Kd.C_nil _ _);(case side2=>exact Nat.le_refl _);rintro e w32 ⟨v509,rfl,ho0,hb⟩;refine ⟨_,rfl,?_⟩;have HO510:=A_ (Kd.R_lower ho0 (below_size (zz16 HB GE489)));replace BK489:=A_ (bB (zz15 BK489) hb);replace HB:=A_ (bS (zz16 HB GE489) hb);(try clear hb ho0);obtain ⟨_,_,_,_,_,_,_,_⟩:=cf4 BK489;obtain ⟨Ao34,co34,eo34⟩:=Kd.R_slice HO510.out;subst eo34))
    refine pR (results_ct rfl _ _ gb489 39 #[.string t507,.slice Ao34 t508.length co34,.bool t511,.string t512] (0,0) _ rfl (zz32 BK489) Tryz.underlying39 rfl (by kernel_rfl)) rfl ?_;exact ⟨_,zz12,(zz47 (rt HO510 BK489)),(zz16 HB GE489)⟩
def spec_AddrRead.f (k:Nat) (a0:ByteArray):Option (ByteArray×List ByteArray×Bool×ByteArray×Bool):=(spec_l1Cut.f k a0 35).bind fun bt515=>(if (a0.size:Int) > 60 then (some ((⟨#[]⟩:ByteArray),([]:List ByteArray),false,(⟨#[]⟩:ByteArray),false)) else (if (bt515.1.size:Int) < 2 then (some ((⟨#[]⟩:ByteArray),([]:List ByteArray),false,(⟨#[]⟩:ByteArray),false)) else (if 0≤2 then (if 2≤(bt515.1.size:Int) then (if (bt515.1.extract 0 2).toList=([47,47]:List UInt8) then ((spec_l1Whole.f k (bt515.1.extract 2 bt515.1.size)).bind fun bt518=>(some (bt518.1,bt518.2.1,bt518.2.2.1,bt518.2.2.2.1,bt518.2.2.2.2))) else (some ((⟨#[]⟩:ByteArray),([]:List ByteArray),false,(⟨#[]⟩:ByteArray),false))) else (none)) else (none))))
theorem spec_AddrRead.calls (k:Nat) (a0:ByteArray) (r1:ByteArray) (r2:List ByteArray) (r3:Bool) (r4:ByteArray) (r5:Bool) (w:World) (h:spec_AddrRead.f k a0=some (r1,r2,r3,r4,r5)) :
  Calls Tryz.prog 46 #[.string a0] w fun e w'=>∃ v1_:Value,e=.returned (.tuple #[.agg #[.string r1,v1_,.bool r3,.string r4],.bool r5])∧Kd.R Kd.string 9 w' w.heap.size (fun _=>True) v1_ r2∧Below w.heap.size w w':=by
 have hu39:=Tryz.underlying39;have HB:=A_ (Below.refl w.heap.size w);unfold spec_AddrRead.f at h
 have H:=h;clear h;replace H:=bindA H;obtain ⟨⟨t515,t516,t517⟩,A2,H⟩:=H;try dsimp only at H
 have HF3:=A_ H;clear H;go_enter Tryz.func46,Tryz.ntmps46;go_wp2_with (first|((with_reducible refine gD (N:=2) rfl ?_);(try (refine gate_guard (by rfl) ?_;dsimp only));refine boxE 2 #[.string (⟨#[]⟩:ByteArray),.slice none 0 0,.bool false,.string (⟨#[]⟩:ByteArray)] 39 ?_;intro gb514 hg w4 hbox hb;have BK514:=A_ (hbox);have GE514:=geB hg (zz5 HB);replace HB:=A_ (bS (zz5 HB) hb);clear hb hbox hg)|(refine gR 70 (some 9) Tryz.func70 (spec_l1Cut.calls k a0 35 t515 t516 t517 _ A2.out) ?_;rintro w' ⟨nd,rfl⟩)|((with_reducible refine atG ?_ ?_ fun K_ hK_=>?_);rfl;exact undecG)|((with_reducible refine atI ?_ fun K_ hK_=>?_);exact undecI))
 refine unG hK_ ?_;clear hK_ K_;obtain ⟨H⟩:=HF3;replace H:=iteE H;rcases H with ⟨c5,H⟩|⟨c5,H⟩
 ·have c5b0:=gtT c5
  have c5b1:decide (60 < a0.size)=true:=dT (by omega);(first|refine iteT ?_|refine iteF ?_|skip)
  clear c5;(first|rw [c5b0]|(simp only [i64_w,i32_w];rw [c5b0])|skip)
  simp only [Option.some.injEq,Prod.mk.injEq] at H
  obtain ⟨rfl,rfl,rfl,rfl,rfl⟩:=H;obtain ⟨_,_,_,_,_,_,_,_⟩:=cf4 BK514;(try ((with_reducible refine upS ?_);go_simp))
  go_wp2
  refine pR (results_ct rfl _ _ gb514 39 #[.string (⟨#[]⟩:ByteArray),.slice none 0 0,.bool false,.string (⟨#[]⟩:ByteArray)] (0,0) _ rfl (zz32 BK514) Tryz.underlying39 rfl (by kernel_rfl)) rfl ?_;exact ⟨_,zz12,zz4,(zz16 HB GE514)⟩
 ·have c5b0:=gtF c5
  have c5b1:decide (60 < a0.size)=false:=dF (by omega);(first|refine iteT ?_|refine iteF ?_|skip)
  clear c5;(first|rw [c5b0]|(simp only [i64_w,i32_w];rw [c5b0])|skip)
  replace H:=iteE H;rcases H with ⟨c7,H⟩|⟨c7,H⟩
  ·have c7b0:=dT c7
   have c7b1:decide (t515.size < 2)=true:=dT (by omega);clear c7;simp only [Option.some.injEq,Prod.mk.injEq] at H
   obtain ⟨rfl,rfl,rfl,rfl,rfl⟩:=H;obtain ⟨_,_,_,_,_,_,_,_⟩:=cf4 BK514;go_wp2
   refine pR (results_ct rfl _ _ gb514 39 #[.string (⟨#[]⟩:ByteArray),.slice none 0 0,.bool false,.string (⟨#[]⟩:ByteArray)] (0,0) _ rfl (zz32 BK514) Tryz.underlying39 rfl (by kernel_rfl)) rfl ?_;exact ⟨_,zz12,zz4,(zz16 HB GE514)⟩
  ·have c7b0:=dF c7
   have c7b1:decide (t515.size < 2)=false:=dF (by omega);clear c7;replace H:=iteE H;rcases H with ⟨c9,H⟩|⟨c9,H⟩
   ·have c9b0:=eq_true c9
    have c9b1:=dT c9;clear c9;replace H:=iteN H;obtain ⟨c10,H⟩:=H;have c10b0:=eq_true c10;have c10b1:=dT c10;clear c10;replace H:=iteEq H;rcases H with ⟨c11b0,c11b1,H⟩|⟨c11b0,c11b1,c11,H⟩
    ·have c12b0:=eq_true (ofD:2≤(t515.size:Int))
     replace H:=bindA H;obtain ⟨⟨t518,t519,t522,t523,t524⟩,A13,H⟩:=H;try dsimp only at H
     simp only [Option.some.injEq,Prod.mk.injEq] at H
     obtain ⟨rfl,rfl,rfl,rfl,rfl⟩:=H;go_wp2_with (first|(refine gV 71 (some 29) Tryz.func71 (spec_l1Whole.calls k (t515.extract 2 t515.size) t518 t519 t522 t523 t524 _ A13.out) ?_;rintro v520 w14 ⟨ho0,hb⟩;have HO521:=A_ (Kd.R_lower ho0 (below_size (zz16 HB GE514)));replace BK514:=A_ (bB (zz15 BK514) hb);replace HB:=A_ (bS (zz16 HB GE514) hb);(try clear hb ho0);obtain ⟨_,_,_,_,_,_,_,_⟩:=cf4 BK514;obtain ⟨Ao16,co16,eo16⟩:=Kd.R_slice HO521.out;subst eo16))
     refine pR (results_ct rfl _ _ gb514 39 #[.string t518,.slice Ao16 t519.length co16,.bool t522,.string t523] (0,0) _ rfl (zz32 BK514) Tryz.underlying39 rfl (by kernel_rfl)) rfl ?_;exact ⟨_,zz12,(zz47 (rt HO521 BK514)),(zz16 HB GE514)⟩
    ·simp only [Option.some.injEq,Prod.mk.injEq] at H
     obtain ⟨rfl,rfl,rfl,rfl,rfl⟩:=H;obtain ⟨_,_,_,_,_,_,_,_⟩:=cf4 BK514;go_wp2
     refine pR (results_ct rfl _ _ gb514 39 #[.string (⟨#[]⟩:ByteArray),.slice none 0 0,.bool false,.string (⟨#[]⟩:ByteArray)] (0,0) _ rfl (zz32 BK514) Tryz.underlying39 rfl (by kernel_rfl)) rfl ?_;exact ⟨_,zz12,zz4,(zz16 HB GE514)⟩
   ·exact absurd H (by simp)
def spec_l11Norm.f (k:Nat) (a0:ByteArray):Option (Bool):=(spec_AddrRead.f k a0).bind fun bt525=>(if bt525.2.2.2.2=true then ((spec_AddrText.f k bt525.1 bt525.2.1 bt525.2.2.1 bt525.2.2.2.1).bind fun t533=>(some (t533.toList == a0.toList))) else (some false))
theorem spec_l11Norm.calls (k:Nat) (a0:ByteArray) (r:Bool) (w:World) (h:spec_l11Norm.f k a0=some r) :
  Calls Tryz.prog 26 #[.string a0] w fun e w'=>e=.returned (.bool r)∧Below w.heap.size w w':=by
 have hu39:=Tryz.underlying39;have HB:=A_ (Below.refl w.heap.size w);unfold spec_l11Norm.f at h
 have H:=h;clear h;replace H:=bindA H;obtain ⟨⟨t525,t526,t529,t530,t531⟩,A2,H⟩:=H;try dsimp only at H
 have HF3:=A_ H;clear H;go_enter Tryz.func26,Tryz.ntmps26;go_wp2_with (first|(refine gV 46 (some 7) Tryz.func46 (spec_AddrRead.calls k a0 t525 t526 t529 t530 t531 _ A2.out) ?_;rintro v527 w4 ⟨ho0,hb⟩;have HO528:=A_ (Kd.R_lower ho0 (below_size (zz5 HB)));replace HB:=A_ (bS (zz5 HB) hb);(try clear hb ho0))|(refine boxF 3 #[.string (⟨#[]⟩:ByteArray),.slice none 0 0,.bool false,.string (⟨#[]⟩:ByteArray)] 39 ?_;intro gb532 hg w5 BK532 hb;replace HO528:=A_ (rB (zz8 HO528) hb);have GE532:=geB hg (zz5 HB);replace HB:=A_ (bS (zz5 HB) hb);clear hb hg;obtain ⟨_,_,_,_,_,_,_,_⟩:=cf4 BK532;obtain ⟨Ao7,co7,eo7⟩:=Kd.R_slice HO528.out;subst eo7)|((with_reducible refine gate_store (t:=39) (p:=3) rfl ?_);refine store_event (t:=39) (p:=3) (v:=?vo_w8) (w1:=((((w5.setCell ⟨gb532,0,none⟩ (.string t525)).setCell ⟨gb532,1,none⟩ (.slice Ao7 t526.length co7)).setCell ⟨gb532,2,none⟩ (.bool t529)).setCell ⟨gb532,3,none⟩ (.string t530))) ?hg ?ho ?hn ?hr ?_;(case ho=>rfl);(case hg=>rfl);(case hn=>rfl);(case hr=>exact zz26);intro w8 hw;have n0_:Aside0 (Kd.R Kd.string 9 w8 w.heap.size (fun _=>True) (.slice Ao7 t526.length co7) t526):=⟨(by rw [hw];exact (zz47 (rt HO528 BK532)))⟩;have n1_:Aside0 (w8.heap[gb532]?=some (.cells #[.string t525,.slice Ao7 t526.length co7,.bool t529,.string t530] 39 (0,0))):=⟨(by rw [hw];exact (zz32 BK532))⟩;have n2_:Aside0 (Below w.heap.size w w8):=⟨(by rw [hw];exact (zz16 HB GE532))⟩;clear hw;clear HO528;clear BK532;clear HB;have HO528:=n0_;have BK532:=n1_;have HB:=n2_;clear n0_ n1_ n2_)|((with_reducible refine atG ?_ ?_ fun K_ hK_=>?_);rfl;exact undecG)|((with_reducible refine atI ?_ fun K_ hK_=>?_);exact undecI))
 refine unG hK_ ?_;clear hK_ K_;obtain ⟨H⟩:=HF3;replace H:=iteB H;rcases H with ⟨rfl,H⟩|⟨rfl,H⟩
 ·(first|refine iteT ?_|refine iteF ?_|skip)
  replace H:=bindA H;obtain ⟨t533,A10,H⟩:=H;obtain rfl:=sI H;obtain ⟨_,_,_,_,_,_,_,_⟩:=cf4 BK532;(try ((with_reducible refine upS ?_);go_simp))
  go_wp2_with (first|(go_at_call 47;(with_reducible refine (spec_AddrText.calls k t525 _ _ t526 t529 t530 t533 _ ?side1 ?side2 A10.out).mono ?_);(case side1=>exact (zz33 HO528));(case side2=>exact (Kd.R_reads' HO528.out).2.1);rintro e w12 ⟨rfl,hb⟩;replace HO528:=A_ (rB (zz8 HO528) hb);replace BK532:=A_ (bB (zz15 BK532) hb);replace HB:=A_ (bS (zz16 HB GE532) hb);(try clear hb)))
  go_ret
  exact ⟨zz12,(zz16 HB GE532)⟩
 ·(first|refine iteT ?_|refine iteF ?_|skip)
  obtain rfl:=sI H;(try ((with_reducible refine upS ?_);go_simp))
  go_wp2
  go_ret
  exact ⟨zz12,(zz16 HB GE532)⟩
mutual
def spec_WorldOk.l0:Nat→List (S30)→Int→Option (Bool)
 | 0,_,_=>none
 | k+1,x0,x3=>if x3 < (x0.length:Int) then (if 0≤x3 then ((spec_l11Norm.f k ((rd_T30 x0 x3).f0)).bind fun t535=>(if t535=true then (if (((rd_T30 x0 x3).f1).size:Int) > 300 then (spec_WorldOk.j1 k x0 x3 true) else ((spec_l6In.f ((rd_T30 x0 x3).f3) 0 9).bind fun t538=>(if t538=true then (if ((rd_T30 x0 x3).f2).toList=([]:List UInt8) then (spec_WorldOk.j1 k x0 x3 false) else (if ((rd_T30 x0 x3).f1).toList=([]:List UInt8) then ((spec_l11Norm.f k ((rd_T30 x0 x3).f2)).bind fun t542=>(spec_WorldOk.j1 k x0 x3 (!t542))) else (spec_WorldOk.j1 k x0 x3 true))) else (spec_WorldOk.j1 k x0 x3 true)))) else (spec_WorldOk.j1 k x0 x3 true))) else (none)) else (some (decide ((x0.length:Int)≤12)))
def spec_WorldOk.j1:Nat→List (S30)→Int→Bool→Option (Bool)
 | 0,_,_,_=>none
 | k+1,x0,x3,x60=>if x60=true then (some false) else (spec_WorldOk.l1 k x0 x3 0)
def spec_WorldOk.l1:Nat→List (S30)→Int→Int→Option (Bool)
 | 0,_,_,_=>none
 | k+1,x0,x3,x4=>if x4 < x3 then (if 0≤x4 then (if x4 < (x0.length:Int) then (if 0≤x3 then (if x3 < (x0.length:Int) then (if ((rd_T30 x0 x4).f0).toList=((rd_T30 x0 x3).f0).toList then (some false) else (spec_WorldOk.l1 k x0 x3 (wrap64 (x4+1)))) else (none)) else (none)) else (none)) else (none)) else (spec_WorldOk.l0 k x0 (wrap64 (x3+1)))
end
def spec_WorldOk.f (k:Nat) (l0:List (S30)):Option (Bool):=spec_WorldOk.l0 k l0 0
theorem spec_WorldOk.calls (k:Nat) (A0:Option Addr) (c0:Nat) (l0:List (S30)) (r:Bool) (w:World) (hr0:Kd.C k30 w A0 l0.length l0) (hc0:l0.length≤c0) (h:spec_WorldOk.f k l0=some r) :
  Calls Tryz.prog 10 #[.slice A0 l0.length c0] w fun e w'=>e=.returned (.bool r)∧Below w.heap.size w w':=by
 have HR0:=A_ hr0;have HC0:=A_ hc0;clear hr0 hc0;have HB:=A_ (Below.refl w.heap.size w);unfold spec_WorldOk.f at h
 have H:=h;clear h;have H':=A_ H;clear H;go_enter Tryz.func10,Tryz.ntmps10;go_wp2
 repeat (go_quiet (fail);try go_wp2)
 go_loopg [3] k (fun kq v3 w'=>∃ (x3_1:Int),v3=.int .i64 x3_1∧Aside0 (spec_WorldOk.l0 kq l0 x3_1=some r)∧Aside0 (kq≤k)∧Aside0 (Below w.heap.size w w'))
 case atStart=>exact ⟨(0),zz0,H',⟨Nat.le_refl _⟩,⟨(zz5 HB)⟩⟩
 case round=>
  clear H';obtain ⟨x3_1,rfl,HA,HK1,HB⟩:=hrel;cases gk with
  | zero=>exact absurd HA.out (by simp [spec_WorldOk.l0])
  | succ k1=>
   obtain ⟨H⟩:=HA;simp only [spec_WorldOk.l0] at H
   replace H:=iteEd H;rcases H with ⟨c2b0,H⟩|⟨c2b0,H⟩
   ·have HC3:=A_ H
    clear H;go_upto_region 4 with (fail)
    repeat (go_quiet (fail);go_upto_region 4 with (fail))
    go_cut [60] (fun v60 wc=>∃ (kq:Nat) (x60_2:Bool),v60=.bool x60_2∧Aside0 (spec_WorldOk.j1 kq l0 x3_1 x60_2=some r)∧Aside0 (kq≤k1)∧Aside0 (Below w.heap.size w wc))
    case first=>
     obtain ⟨H⟩:=HC3;replace H:=iteNd H;obtain ⟨c4b0,H⟩:=H;(first|rw [c4b0]|(simp only [i64_w,i32_w];rw [c4b0])|skip)
     replace H:=bindA H;obtain ⟨t535,A5,H⟩:=H;have HF6:=A_ H;clear H;obtain ⟨⟨ad534,e534,hx534_0,hx534_1,hx534_2,hx534_3⟩,p534,q534⟩:=atB (at_T30 HR0.out x3_1);cases e534
     obtain ⟨hx534_0,hx534_1,hx534_2,hx534_3⟩:=cb4 HB hx534_0 hx534_1 hx534_2 hx534_3;go_wp2_with (first|(go_at_call 26;(with_reducible refine (spec_l11Norm.calls k1 ((rd_T30 l0 x3_1).f0) t535 _ A5.out).mono ?_);rintro e w7 ⟨rfl,hb⟩;replace HB:=A_ (bS (zz5 HB) hb);(try clear hb))|((with_reducible refine atG ?_ ?_ fun K_ hK_=>?_);rfl;exact undecG)|((with_reducible refine atI ?_ fun K_ hK_=>?_);exact undecI))
     repeat (go_quiet (first|(go_at_call 26;(with_reducible refine (spec_l11Norm.calls k1 ((rd_T30 l0 x3_1).f0) t535 _ A5.out).mono ?_);rintro e w7 ⟨rfl,hb⟩;replace HB:=A_ (bS (zz5 HB) hb);(try clear hb))|((with_reducible refine atG ?_ ?_ fun K_ hK_=>?_);rfl;exact undecG)|((with_reducible refine atI ?_ fun K_ hK_=>?_);exact undecI));go_wp2_with (first|(go_at_call 26;(with_reducible refine (spec_l11Norm.calls k1 ((rd_T30 l0 x3_1).f0) t535 _ A5.out).mono ?_);rintro e w7 ⟨rfl,hb⟩;replace HB:=A_ (bS (zz5 HB) hb);(try clear hb))|((with_reducible refine atG ?_ ?_ fun K_ hK_=>?_);rfl;exact undecG)|((with_reducible refine atI ?_ fun K_ hK_=>?_);exact undecI)))
     refine unG hK_ ?_;clear hK_ K_;obtain ⟨H⟩:=HF6;replace H:=iteB H;rcases H with ⟨rfl,H⟩|⟨rfl,H⟩
     ·(first|refine iteT ?_|refine iteF ?_|skip)
      replace H:=iteE H;rcases H with ⟨c9,H⟩|⟨c9,H⟩
      ·have c9b0:=gtT c9
       have c9b1:decide (300 < ((rd_T30 l0 x3_1).f1).size)=true:=dT (by omega);clear c9;have H':=A_ H;clear H;obtain ⟨⟨ad536,e536,hx536_0,hx536_1,hx536_2,hx536_3⟩,p536,q536⟩:=atB (at_T30 HR0.out x3_1);obtain rfl:ad534=ad536:=(by injection e536);obtain ⟨hx536_0,hx536_1,hx536_2,hx536_3⟩:=cb4 HB hx536_0 hx536_1 hx536_2 hx536_3;go_wp2
       repeat (go_quiet (fail);try go_wp2)
       go_meet
       case rel=>exact ⟨_,(true),zz0,H',⟨(zz7 HK1)⟩,⟨(zz5 HB)⟩⟩
      ·have c9b0:=gtF c9
       have c9b1:decide (300 < ((rd_T30 l0 x3_1).f1).size)=false:=dF (by omega);clear c9;replace H:=bindA H;obtain ⟨t538,A10,H⟩:=H;have HF11:=A_ H;clear H;obtain ⟨⟨ad536,e536,hx536_0,hx536_1,hx536_2,hx536_3⟩,p536,q536⟩:=atB (at_T30 HR0.out x3_1);obtain rfl:ad534=ad536:=(by injection e536);obtain ⟨hx536_0,hx536_1,hx536_2,hx536_3⟩:=cb4 HB hx536_0 hx536_1 hx536_2 hx536_3;obtain ⟨⟨ad537,e537,hx537_0,hx537_1,hx537_2,hx537_3⟩,p537,q537⟩:=atB (at_T30 HR0.out x3_1);obtain rfl:ad534=ad537:=(by injection e537);obtain ⟨hx537_0,hx537_1,hx537_2,hx537_3⟩:=cb4 HB hx537_0 hx537_1 hx537_2 hx537_3;go_wp2_with (first|(go_at_call 27;(with_reducible refine (spec_l6In.calls ((rd_T30 l0 x3_1).f3) 0 9 t538 _ A10.out).mono ?_);rintro e w' ⟨rfl,⟨nd,rfl⟩⟩;(try first|exact ⟨rfl,_,World.drewN_drewN _ _ _⟩|exact ⟨rfl,_,Eq.trans (World.drewN_drewN _ _ _) (congrArg (World.drewN _) (Nat.add_assoc _ _ _))⟩))|((with_reducible refine atG ?_ ?_ fun K_ hK_=>?_);rfl;exact undecG)|((with_reducible refine atI ?_ fun K_ hK_=>?_);exact undecI))
       repeat (go_quiet (first|(go_at_call 27;(with_reducible refine (spec_l6In.calls ((rd_T30 l0 x3_1).f3) 0 9 t538 _ A10.out).mono ?_);rintro e w' ⟨rfl,⟨nd,rfl⟩⟩;(try first|exact ⟨rfl,_,World.drewN_drewN _ _ _⟩|exact ⟨rfl,_,Eq.trans (World.drewN_drewN _ _ _) (congrArg (World.drewN _) (Nat.add_assoc _ _ _))⟩))|((with_reducible refine atG ?_ ?_ fun K_ hK_=>?_);rfl;exact undecG)|((with_reducible refine atI ?_ fun K_ hK_=>?_);exact undecI));go_wp2_with (first|(go_at_call 27;(with_reducible refine (spec_l6In.calls ((rd_T30 l0 x3_1).f3) 0 9 t538 _ A10.out).mono ?_);rintro e w' ⟨rfl,⟨nd,rfl⟩⟩;(try first|exact ⟨rfl,_,World.drewN_drewN _ _ _⟩|exact ⟨rfl,_,Eq.trans (World.drewN_drewN _ _ _) (congrArg (World.drewN _) (Nat.add_assoc _ _ _))⟩))|((with_reducible refine atG ?_ ?_ fun K_ hK_=>?_);rfl;exact undecG)|((with_reducible refine atI ?_ fun K_ hK_=>?_);exact undecI)))
       refine unG hK_ ?_;clear hK_ K_;obtain ⟨H⟩:=HF11;replace H:=iteB H;rcases H with ⟨rfl,H⟩|⟨rfl,H⟩
       ·(first|refine iteT ?_|refine iteF ?_|skip)
        replace H:=iteEq H;rcases H with ⟨c13b0,c13b1,H⟩|⟨c13b0,c13b1,c13,H⟩
        ·have H':=A_ H
         clear H;obtain ⟨⟨ad539,e539,hx539_0,hx539_1,hx539_2,hx539_3⟩,p539,q539⟩:=atB (at_T30 HR0.out x3_1);obtain rfl:ad534=ad539:=(by injection e539);obtain ⟨hx539_0,hx539_1,hx539_2,hx539_3⟩:=cb4 HB hx539_0 hx539_1 hx539_2 hx539_3;go_wp2
         repeat (go_quiet (fail);try go_wp2)
         go_meet
         case rel=>exact ⟨_,(false),zz0,H',⟨(zz7 HK1)⟩,⟨(zz5 HB)⟩⟩
        ·replace H:=iteEq H
         rcases H with ⟨c14b0,c14b1,H⟩|⟨c14b0,c14b1,c14,H⟩
         ·replace H:=bindA H
          obtain ⟨t542,A15,H⟩:=H;have H':=A_ H;clear H;obtain ⟨⟨ad539,e539,hx539_0,hx539_1,hx539_2,hx539_3⟩,p539,q539⟩:=atB (at_T30 HR0.out x3_1);obtain rfl:ad534=ad539:=(by injection e539);obtain ⟨hx539_0,hx539_1,hx539_2,hx539_3⟩:=cb4 HB hx539_0 hx539_1 hx539_2 hx539_3;obtain ⟨⟨ad540,e540,hx540_0,hx540_1,hx540_2,hx540_3⟩,p540,q540⟩:=atB (at_T30 HR0.out x3_1);obtain rfl:ad534=ad540:=(by injection e540);obtain ⟨hx540_0,hx540_1,hx540_2,hx540_3⟩:=cb4 HB hx540_0 hx540_1 hx540_2 hx540_3;obtain ⟨⟨ad541,e541,hx541_0,hx541_1,hx541_2,hx541_3⟩,p541,q541⟩:=atB (at_T30 HR0.out x3_1);obtain rfl:ad534=ad541:=(by injection e541);obtain ⟨hx541_0,hx541_1,hx541_2,hx541_3⟩:=cb4 HB hx541_0 hx541_1 hx541_2 hx541_3;go_wp2_with (first|(go_at_call 26;(with_reducible refine (spec_l11Norm.calls k1 ((rd_T30 l0 x3_1).f2) t542 _ A15.out).mono ?_);rintro e w16 ⟨rfl,hb⟩;replace HB:=A_ (bS (zz5 HB) hb);(try clear hb)))
          repeat (go_quiet (first|(go_at_call 26;(with_reducible refine (spec_l11Norm.calls k1 ((rd_T30 l0 x3_1).f2) t542 _ A15.out).mono ?_);rintro e w16 ⟨rfl,hb⟩;replace HB:=A_ (bS (zz5 HB) hb);(try clear hb)));try go_wp2_with (first|(go_at_call 26;(with_reducible refine (spec_l11Norm.calls k1 ((rd_T30 l0 x3_1).f2) t542 _ A15.out).mono ?_);rintro e w16 ⟨rfl,hb⟩;replace HB:=A_ (bS (zz5 HB) hb);(try clear hb))))
          go_meet
          case rel=>exact ⟨_,(!t542),zz0,H',⟨(zz7 HK1)⟩,⟨(zz5 HB)⟩⟩
         ·have H':=A_ H
          clear H;obtain ⟨⟨ad539,e539,hx539_0,hx539_1,hx539_2,hx539_3⟩,p539,q539⟩:=atB (at_T30 HR0.out x3_1);obtain rfl:ad534=ad539:=(by injection e539);obtain ⟨hx539_0,hx539_1,hx539_2,hx539_3⟩:=cb4 HB hx539_0 hx539_1 hx539_2 hx539_3;obtain ⟨⟨ad540,e540,hx540_0,hx540_1,hx540_2,hx540_3⟩,p540,q540⟩:=atB (at_T30 HR0.out x3_1);obtain rfl:ad534=ad540:=(by injection e540);obtain ⟨hx540_0,hx540_1,hx540_2,hx540_3⟩:=cb4 HB hx540_0 hx540_1 hx540_2 hx540_3;go_wp2
          repeat (go_quiet (fail);try go_wp2)
          go_meet
          case rel=>exact ⟨_,(true),zz0,H',⟨(zz7 HK1)⟩,⟨(zz5 HB)⟩⟩
       ·(first|refine iteT ?_|refine iteF ?_|skip)
        have H':=A_ H;clear H;(try ((with_reducible refine upS ?_);go_simp))
        go_wp2
        repeat (go_quiet (fail);try go_wp2)
        go_meet
        case rel=>exact ⟨_,(true),zz0,H',⟨(zz7 HK1)⟩,⟨(zz5 HB)⟩⟩
     ·(first|refine iteT ?_|refine iteF ?_|skip)
      have H':=A_ H;clear H;(try ((with_reducible refine upS ?_);go_simp))
      go_wp2
      repeat (go_quiet (fail);try go_wp2)
      go_meet
      case rel=>exact ⟨_,(true),zz0,H',⟨(zz7 HK1)⟩,⟨(zz5 HB)⟩⟩
    case rest=>
     clear HC3;obtain ⟨kq,x60_2,rfl,HA,HJ2,HB⟩:=hcut;cases kq with
     | zero=>exact absurd HA.out (by simp [spec_WorldOk.j1])
     | succ kj2=>
      obtain ⟨H⟩:=HA;simp only [spec_WorldOk.j1] at H
      replace H:=iteB H;rcases H with ⟨rfl,H⟩|⟨rfl,H⟩
      ·obtain rfl:=sI H
       go_wp2
       repeat (go_quiet (fail);try go_wp2)
       go_ret
       exact ⟨zz12,(zz5 HB)⟩
      ·have H':=A_ H
       clear H;go_wp2
       repeat (go_quiet (fail);try go_wp2)
       go_loopg [4] kj2 (fun kq v4 w'=>∃ (x4_3:Int),v4=.int .i64 x4_3∧Aside0 (spec_WorldOk.l1 kq l0 x3_1 x4_3=some r)∧Aside0 (kq≤kj2)∧Aside0 (Below w.heap.size w w'))
       case atStart=>exact ⟨(0),zz0,H',⟨Nat.le_refl _⟩,⟨(zz5 HB)⟩⟩
       case round=>
        clear H';obtain ⟨x4_3,rfl,HA,HK3,HB⟩:=hrel;cases gk with
        | zero=>exact absurd HA.out (by simp [spec_WorldOk.l1])
        | succ k3=>
         obtain ⟨H⟩:=HA;simp only [spec_WorldOk.l1] at H
         replace H:=iteEd H;rcases H with ⟨c18b0,H⟩|⟨c18b0,H⟩
         ·replace H:=iteNd H
          obtain ⟨c19b0,H⟩:=H;replace H:=iteNd H;obtain ⟨c20b0,H⟩:=H;replace H:=iteNd H;obtain ⟨c21b0,H⟩:=H;replace H:=iteNd H;obtain ⟨c22b0,H⟩:=H;replace H:=iteEq H;rcases H with ⟨c23b0,c23b1,H⟩|⟨c23b0,c23b1,c23,H⟩
          ·obtain rfl:=sI H
           obtain ⟨⟨ad543,e543,hx543_0,hx543_1,hx543_2,hx543_3⟩,p543,q543⟩:=atB (at_T30 HR0.out x4_3);cases e543
           obtain ⟨hx543_0,hx543_1,hx543_2,hx543_3⟩:=cb4 HB hx543_0 hx543_1 hx543_2 hx543_3;obtain ⟨⟨ad544,e544,hx544_0,hx544_1,hx544_2,hx544_3⟩,p544,q544⟩:=atB (at_T30 HR0.out x3_1);obtain rfl:ad543=ad544:=(by injection e544);obtain ⟨hx544_0,hx544_1,hx544_2,hx544_3⟩:=cb4 HB hx544_0 hx544_1 hx544_2 hx544_3;go_wp2
           repeat (go_quiet (fail);try go_wp2)
           go_ret
           exact ⟨zz12,(zz5 HB)⟩
          ·have H':=A_ H
           clear H;obtain ⟨⟨ad543,e543,hx543_0,hx543_1,hx543_2,hx543_3⟩,p543,q543⟩:=atB (at_T30 HR0.out x4_3);cases e543
           obtain ⟨hx543_0,hx543_1,hx543_2,hx543_3⟩:=cb4 HB hx543_0 hx543_1 hx543_2 hx543_3;obtain ⟨⟨ad544,e544,hx544_0,hx544_1,hx544_2,hx544_3⟩,p544,q544⟩:=atB (at_T30 HR0.out x3_1);obtain rfl:ad543=ad544:=(by injection e544);obtain ⟨hx544_0,hx544_1,hx544_2,hx544_3⟩:=cb4 HB hx544_0 hx544_1 hx544_2 hx544_3;go_wp2
           repeat (go_quiet (fail);try go_wp2)
           go_roundg k3
           case measure=>have:=HK1.out;have:=HJ2.out;have:=HK3.out;omega
           case rel=>exact ⟨(wrap64 (x4_3+1)),zz0,H',⟨(zz64 HK1 HJ2 HK3)⟩,⟨(zz5 HB)⟩⟩
         ·have H':=A_ H
          clear H;go_wp2
          repeat (go_quiet (fail);try go_wp2)
          go_roundg k3
          case measure=>have:=HK1.out;have:=HJ2.out;have:=HK3.out;omega
          case rel=>exact ⟨(wrap64 (x3_1+1)),zz0,H',⟨(zz64 HK1 HJ2 HK3)⟩,⟨(zz5 HB)⟩⟩
   ·obtain rfl:=sI H
    go_wp2
    repeat (go_quiet (fail);try go_wp2)
    go_ret
    exact ⟨zz12,(zz5 HB)⟩
mutual
def spec_AddrJoin.j0:Nat→ByteArray→Bool→ByteArray→List ByteArray→Bool→ByteArray→Option (ByteArray×List ByteArray×Bool×ByteArray×Bool)
 | 0,_,_,_,_,_,_=>none
 | k+1,x6,x15,x862000,x862001,x862002,x862003=>if x15=true then (some ((⟨#[]⟩:ByteArray),([]:List ByteArray),false,(⟨#[]⟩:ByteArray),false)) else (if (x6.size:Int) ≥ 2 then (if 0≤2 then (if 2≤(x6.size:Int) then (spec_AddrJoin.j1 k x6 ((x6.extract 0 2).toList == ([47,47]:List UInt8)) x862000 x862001 x862002 x862003) else (none)) else (none)) else (spec_AddrJoin.j1 k x6 false x862000 x862001 x862002 x862003))
def spec_AddrJoin.j1:Nat→ByteArray→Bool→ByteArray→List ByteArray→Bool→ByteArray→Option (ByteArray×List ByteArray×Bool×ByteArray×Bool)
 | 0,_,_,_,_,_,_=>none
 | k+1,x6,x25,x862000,x862001,x862002,x862003=>if x25=true then (if 2≤(x6.size:Int) then ((spec_l1Whole.f k (x6.extract 2 x6.size)).bind fun bt867=>(some (bt867.1,bt867.2.1,bt867.2.2.1,bt867.2.2.2.1,bt867.2.2.2.2))) else (none)) else (if x6.toList=([]:List UInt8) then ((some (([]:List ByteArray):List ByteArray)).bind fun y874=>(if y874.length+x862001.length < 8796093022208 then (some (x862000,(y874++x862001),x862002,x862003,true)) else (none))) else (if 0 < (x6.size:Int) then (if (bt x6 0)=47 then ((spec_l1Way.f k x862000 ([]:List ByteArray) false (⟨#[]⟩:ByteArray) x6).bind fun bt880=>(some (bt880.1,bt880.2.1,bt880.2.2.1,bt880.2.2.2.1,bt880.2.2.2.2))) else (if (bt x6 0)=63 then ((spec_l1Way.f k x862000 x862001 false (⟨#[]⟩:ByteArray) x6).bind fun bt887=>(some (bt887.1,bt887.2.1,bt887.2.2.1,bt887.2.2.2.1,bt887.2.2.2.2))) else ((spec_l1Up.f x862000 x862001 x862002 x862003).bind fun bt894=>((spec_l1Way.f k bt894.1 bt894.2.1 bt894.2.2.1 bt894.2.2.2 x6).bind fun bt900=>(some (bt900.1,bt900.2.1,bt900.2.2.1,bt900.2.2.2.1,bt900.2.2.2.2)))))) else (none)))
end
def spec_AddrJoin.f (k:Nat) (a0_0:ByteArray) (l0_1:List ByteArray) (a0_2:Bool) (a0_3:ByteArray) (a1:ByteArray):Option (ByteArray×List ByteArray×Bool×ByteArray×Bool):=(spec_l1Cut.f k a1 35).bind fun bt863=>((spec_AddrOk.f k a0_0 l0_1 a0_2 a0_3).bind fun t866=>(if t866=true then (spec_AddrJoin.j0 k bt863.1 (decide ((a1.size:Int) > 60)) a0_0 l0_1 a0_2 a0_3) else (spec_AddrJoin.j0 k bt863.1 true a0_0 l0_1 a0_2 a0_3)))
theorem spec_AddrJoin.calls (k:Nat) (a0_0:ByteArray) (A0_1:Option Addr) (c0_1:Nat) (l0_1:List ByteArray) (a0_2:Bool) (a0_3:ByteArray) (a1:ByteArray) (r1:ByteArray) (r2:List ByteArray) (r3:Bool) (r4:ByteArray) (r5:Bool) (w:World) (hr0_1:Kd.C Kd.string w A0_1 l0_1.length l0_1) (hc0_1:l0_1.length≤c0_1) (h:spec_AddrJoin.f k a0_0 l0_1 a0_2 a0_3 a1=some (r1,r2,r3,r4,r5)) :
  Calls Tryz.prog 75 #[.agg #[.string a0_0,.slice A0_1 l0_1.length c0_1,.bool a0_2,.string a0_3],.string a1] w fun e w'=>∃ v1_:Value,e=.returned (.tuple #[.agg #[.string r1,v1_,.bool r3,.string r4],.bool r5])∧Kd.R Kd.string 9 w' w.heap.size (fun _=>True) v1_ r2∧Below w.heap.size w w':=by
 have hu39:=Tryz.underlying39;have HR0_1:=A_ hr0_1;have HC0_1:=A_ hc0_1;clear hr0_1 hc0_1;have HB:=A_ (Below.refl w.heap.size w);unfold spec_AddrJoin.f at h
 have H:=h;clear h;replace H:=bindA H;obtain ⟨⟨t863,t864,t865⟩,A3,H⟩:=H;try dsimp only at H
 have HC4:=A_ H;clear H;go_enter Tryz.func75,Tryz.ntmps75;go_upto_region 2 with (first|((with_reducible refine gD (N:=2) rfl ?_);(try (refine gate_guard (by rfl) ?_;dsimp only));refine boxE 2 #[.string a0_0,.slice A0_1 l0_1.length c0_1,.bool a0_2,.string a0_3] 39 ?_;intro gb861 hg w5 hbox hb;have BK861:=A_ (hbox);have GE861:=geB hg (zz5 HB);replace HB:=A_ (bS (zz5 HB) hb);clear hb hbox hg)|((with_reducible refine gD (N:=4) rfl ?_);(try (refine gate_guard (by rfl) ?_;dsimp only));refine boxE 4 #[.string (⟨#[]⟩:ByteArray),.slice none 0 0,.bool false,.string (⟨#[]⟩:ByteArray)] 39 ?_;intro gb862 hg w6 hbox hb;have BK862:=A_ (hbox);have GE862:=geB hg (zz16 HB GE861);replace HB:=A_ (bS (zz16 HB GE861) hb);have NB861_862:=A_ ((by rw [hg];exact Nat.ne_of_lt (blk_lt (zz15 BK861)):gb861≠gb862));have NB862_861:=A_ ((by rw [hg];exact Nat.ne_of_gt (blk_lt (zz15 BK861)):gb862≠gb861));replace BK861:=A_ (bB (zz15 BK861) hb);clear hb hbox hg)|(refine gR 70 (some 11) Tryz.func70 (spec_l1Cut.calls k a1 35 t863 t864 t865 _ A3.out) ?_;rintro w' ⟨nd,rfl⟩))
 (try simp only [Act.put,List.setIfInBounds_toArray,List.set_cons_zero,List.set_cons_succ])
 go_cut [15] (fun v15 wc=>∃ (kq:Nat) (x15_3:Bool),v15=.bool x15_3∧Aside0 (spec_AddrJoin.j0 kq t863 x15_3 a0_0 l0_1 a0_2 a0_3=some (r1,r2,r3,r4,r5))∧Aside0 (kq≤k)∧Aside0 (wc.heap[gb861]?=some (.cells #[.string a0_0,(.slice A0_1 l0_1.length c0_1),.bool a0_2,.string a0_3] 39 (0,0)))∧Aside0 (wc.heap[gb862]?=some (.cells #[.string (⟨#[]⟩:ByteArray),(.slice none 0 0),.bool false,.string (⟨#[]⟩:ByteArray)] 39 (0,0)))∧Aside0 (Below w.heap.size w wc))
 case first=>
  obtain ⟨H⟩:=HC4;replace H:=bindA H;obtain ⟨t866,A7,H⟩:=H;have HF8:=A_ H;clear H;have hnb9:=NB861_862.out;have hnc9:=NB862_861.out;obtain ⟨_,_,_,_,_,_,_,_⟩:=cf4 BK861;go_wp2_with (first|(refine gR 72 (some 17) Tryz.func72 (spec_AddrOk.calls k a0_0 _ _ l0_1 a0_2 a0_3 t866 _ ?side1 ?side2 A7.out) ?_;(case side1=>exact (zz98 HR0_1 HB));(case side2=>exact HC0_1.out);rintro w11 hb;replace BK861:=A_ (bB (zz15 BK861) hb);replace BK862:=A_ (bB (zz15 BK862) hb);replace HB:=A_ (bS (zz73 HB GE861 GE862) hb);(try clear hb))|((with_reducible refine atG ?_ ?_ fun K_ hK_=>?_);rfl;exact undecG)|((with_reducible refine atI ?_ fun K_ hK_=>?_);exact undecI))
  refine unG hK_ ?_;clear hK_ K_;obtain ⟨H⟩:=HF8;replace H:=iteB H;rcases H with ⟨rfl,H⟩|⟨rfl,H⟩
  ·(first|refine iteT ?_|refine iteF ?_|skip)
   have H':=A_ H;clear H;(try ((with_reducible refine upS ?_);go_simp))
   go_wp2
   go_meet
   case rel=>exact ⟨_,(decide ((a1.size:Int) > 60)),zz0,H',⟨zz17⟩,⟨(zz15 BK861)⟩,⟨(zz15 BK862)⟩,⟨(zz73 HB GE861 GE862)⟩⟩
  ·(first|refine iteT ?_|refine iteF ?_|skip)
   have H':=A_ H;clear H;(try ((with_reducible refine upS ?_);go_simp))
   go_wp2
   go_meet
   case rel=>exact ⟨_,(true),zz0,H',⟨zz17⟩,⟨(zz15 BK861)⟩,⟨(zz15 BK862)⟩,⟨(zz73 HB GE861 GE862)⟩⟩
 case rest=>
  clear HC4;obtain ⟨kq,x15_3,rfl,HA,HJ3,BK861,BK862,HB⟩:=hcut;cases kq with
  | zero=>exact absurd HA.out (by simp [spec_AddrJoin.j0])
  | succ kj3=>
   obtain ⟨H⟩:=HA;simp only [spec_AddrJoin.j0] at H
   replace H:=iteB H;rcases H with ⟨rfl,H⟩|⟨rfl,H⟩
   ·simp only [Option.some.injEq,Prod.mk.injEq] at H
    obtain ⟨rfl,rfl,rfl,rfl,rfl⟩:=H;have hnb14:=NB862_861.out;have hnc14:=NB861_862.out;obtain ⟨_,_,_,_,_,_,_,_⟩:=cf4 BK862;go_wp2
    refine pR (results_ct rfl _ _ gb862 39 #[.string (⟨#[]⟩:ByteArray),.slice none 0 0,.bool false,.string (⟨#[]⟩:ByteArray)] (0,0) _ rfl (zz32 BK862) Tryz.underlying39 rfl (by kernel_rfl)) rfl ?_;exact ⟨_,zz12,zz4,(zz73 HB GE861 GE862)⟩
   ·have HC16:=A_ H
    clear H;go_upto_region 4 with (fail)
    go_cut [25] (fun v25 wc=>∃ (kq:Nat) (x25_15:Bool),v25=.bool x25_15∧Aside0 (spec_AddrJoin.j1 kq t863 x25_15 a0_0 l0_1 a0_2 a0_3=some (r1,r2,r3,r4,r5))∧Aside0 (kq≤kj3)∧Aside0 (wc.heap[gb861]?=some (.cells #[.string a0_0,(.slice A0_1 l0_1.length c0_1),.bool a0_2,.string a0_3] 39 (0,0)))∧Aside0 (wc.heap[gb862]?=some (.cells #[.string (⟨#[]⟩:ByteArray),(.slice none 0 0),.bool false,.string (⟨#[]⟩:ByteArray)] 39 (0,0)))∧Aside0 (Below w.heap.size w wc))
    case first=>
     obtain ⟨H⟩:=HC16;replace H:=iteE H;rcases H with ⟨c17,H⟩|⟨c17,H⟩
     ·have c17b0:=geT c17
      have c17b1:decide (2≤t863.size)=true:=dT (by omega);clear c17;(first|rw [c17b0]|(simp only [i64_w,i32_w];rw [c17b0])|skip)
      replace H:=iteN H;obtain ⟨c18,H⟩:=H;have c18b0:=eq_true c18;have c18b1:=dT c18;clear c18;replace H:=iteN H;obtain ⟨c19,H⟩:=H;have c19b0:=eq_true c19;have c19b1:=dT c19;clear c19;have H':=A_ H;clear H;go_wp2
      go_meet
      case rel=>exact ⟨_,(((t863.extract 0 2).toList == ([47,47]:List UInt8))),zz0,H',⟨(zz7 HJ3)⟩,⟨(zz15 BK861)⟩,⟨(zz15 BK862)⟩,⟨(zz73 HB GE861 GE862)⟩⟩
     ·have c17b0:=geF c17
      have c17b1:decide (2≤t863.size)=false:=dF (by omega);clear c17;(first|rw [c17b0]|(simp only [i64_w,i32_w];rw [c17b0])|skip)
      have H':=A_ H;clear H;go_wp2
      go_meet
      case rel=>exact ⟨_,(false),zz0,H',⟨(zz7 HJ3)⟩,⟨(zz15 BK861)⟩,⟨(zz15 BK862)⟩,⟨(zz73 HB GE861 GE862)⟩⟩
    case rest=>
     clear HC16;obtain ⟨kq,x25_15,rfl,HA,HJ15,BK861,BK862,HB⟩:=hcut;cases kq with
     | zero=>exact absurd HA.out (by simp [spec_AddrJoin.j1])
     | succ kj15=>
      obtain ⟨H⟩:=HA;simp only [spec_AddrJoin.j1] at H
      replace H:=iteB H;rcases H with ⟨rfl,H⟩|⟨rfl,H⟩
      ·replace H:=iteN H
       obtain ⟨c21,H⟩:=H;have c21b0:=eq_true c21;have c21b1:=dT c21;clear c21;replace H:=bindA H;obtain ⟨⟨t867,t868,t871,t872,t873⟩,A22,H⟩:=H;try dsimp only at H
       simp only [Option.some.injEq,Prod.mk.injEq] at H
       obtain ⟨rfl,rfl,rfl,rfl,rfl⟩:=H;go_wp2_with (first|(refine gV 71 (some 36) Tryz.func71 (spec_l1Whole.calls kj15 (t863.extract 2 t863.size) t867 t868 t871 t872 t873 _ A22.out) ?_;rintro v869 w23 ⟨ho0,hb⟩;have HO870:=A_ (Kd.R_lower ho0 (below_size (zz73 HB GE861 GE862)));replace BK861:=A_ (bB (zz15 BK861) hb);replace BK862:=A_ (bB (zz15 BK862) hb);replace HB:=A_ (bS (zz73 HB GE861 GE862) hb);(try clear hb ho0);have hnb24:=NB862_861.out;have hnc24:=NB861_862.out;obtain ⟨_,_,_,_,_,_,_,_⟩:=cf4 BK862;obtain ⟨Ao26,co26,eo26⟩:=Kd.R_slice HO870.out;subst eo26))
       refine pR (results_ct rfl _ _ gb862 39 #[.string t867,.slice Ao26 t868.length co26,.bool t871,.string t872] (0,0) _ rfl (zz32 BK862) Tryz.underlying39 rfl (by kernel_rfl)) rfl ?_;exact ⟨_,zz12,(zz47 (rt HO870 BK862)),(zz73 HB GE861 GE862)⟩
      ·replace H:=iteE H
       rcases H with ⟨c27,H⟩|⟨c27,H⟩
       ·obtain ⟨c27b0,c27b1⟩:=eqT c27
        clear c27;obtain ⟨y874,Ny874⟩:=toY (([]:List ByteArray));(first|with_reducible replace H:=bindZ Ny874 H|rw [← Ny874.out] at H|skip)
        replace H:=iteN H;obtain ⟨c28,H⟩:=H;have LMc28:=A_ c28;clear c28;obtain ⟨y877,Ny877⟩:=toY (y874++l0_1);(first|with_reducible replace H:=bindZ Ny877 H|rw [← Ny877.out] at H|skip)
        simp only [Option.some.injEq,Prod.mk.injEq] at H
        obtain ⟨rfl,rfl,rfl,rfl,rfl⟩:=H;go_wp2_with (first|((with_reducible refine gD (N:=42) rfl ?_);(try (refine gate_guard (by rfl) ?_;dsimp only));refine Kd.R_lit Kd.string _ 9 ?hg (N:=42) ?hd (xs:=([]:List ByteArray)) (inner:=[]) (ok:=fun _=>True) (okp:=fun _=>True) ?hr ?hp (fun _ hk=>hk) trivial (Below.refl _ _) (Nat.le_refl _) (by simp) ?_;(case hd=>rfl);(case hg=>rfl);(case hr=>exact zz26);(case hp=>exact (Reps.none _ _));intro v875 w29 ho30 hb hg_ hnew_;clear hg_ hnew_;(first|rw [← Ny874.out] at ho30|(simp only [Int.reduceToNat] at ho30;rw [← Ny874.out] at ho30));have HO876:=A_ (Kd.R_lower ho30 (below_size (zz73 HB GE861 GE862)));replace BK861:=A_ (bB (zz15 BK861) hb);replace BK862:=A_ (bB (zz15 BK862) hb);replace HB:=A_ (bS (zz73 HB GE861 GE862) hb);clear hb ho30;have hnb31:=NB861_862.out;have hnc31:=NB862_861.out;obtain ⟨_,_,_,_,_,_,_,_⟩:=cf4 BK861)|((with_reducible refine gate_builtin (b:=.append) (xs:=#[.tmp 42,.tmp 44]) rfl ?_);(try (refine gate_guard (by rfl) ?_;dsimp only));at_builtin;refine Kd.R_append_rows Kd.string (w0:=w) w.heap.size rfl (.tmp 42) (.tmp 44) 35 9 (.string ⟨#[]⟩) 16 rfl Tryz.underlying35 info9 rfl (by decide) (by omega) v875 y874 l0_1 _ _ _ (fun _=>True) (fun _=>False) rfl rfl ?aO ?aR (fun _ _ h=>h) (fun _ h=>h.elim) ?aF ?aB ?aS ?aL ?_;(case aR=>exact (zz98 HR0_1 HB));(case aB=>exact (zz73 HB GE861 GE862));(case aF=>exact (fun _ _=>trivial));(case aO=>exact (zz8 HO876));(case aS=>exact (below_size (zz73 HB GE861 GE862)));(case aL=>exact (zz3 LMc28));intro v878 w33 ho hb hg hat;rw [← Ny877.out] at ho;replace BK861:=A_ (blk_grown (zz15 BK861) hg (Kd.R_ne HO876.out BK861.out (by decide)));replace BK862:=A_ (blk_grown (zz15 BK862) hg (Kd.R_ne HO876.out BK862.out (by decide)));replace HB:=A_ (hb);have HO879:=A_ (ho);clear HO876;clear ho hb hg hat;obtain ⟨Ao34,co34,eo34⟩:=Kd.R_slice HO879.out;subst eo34;obtain ⟨_,_,_,_,_,_,_,_⟩:=cf4 BK861;obtain ⟨_,_,_,_,_,_,_,_⟩:=cf4 BK862))
        refine pR (results_ct rfl _ _ gb862 39 #[.string a0_0,.slice Ao34 y877.length co34,.bool a0_2,.string a0_3] (0,0) _ rfl (zz176 BK862 NB862_861) Tryz.underlying39 rfl (by kernel_rfl)) rfl ?_;exact ⟨_,zz12,(zz47 (rt (rt HO879 BK861) BK862)),(zz73 HB GE861 GE862)⟩
       ·obtain ⟨c27b0,c27b1⟩:=eqF c27
        replace H:=iteE H;rcases H with ⟨c37,H⟩|⟨c37,H⟩
        ·have c37b0:=dT c37
         have c37b1:decide (0 < t863.size)=true:=dT (by omega);clear c37;replace H:=iteEq H;rcases H with ⟨c39b0,c39b1,H⟩|⟨c39b0,c39b1,c39,H⟩
         ·replace H:=bindA H
          obtain ⟨⟨t880,t881,t884,t885,t886⟩,A40,H⟩:=H;try dsimp only at H
          simp only [Option.some.injEq,Prod.mk.injEq] at H
          obtain ⟨rfl,rfl,rfl,rfl,rfl⟩:=H;have p38:0≤(0:Int):=(by omega);have q38:0 < t863.size:=(by have:(0:Int) < (t863.size:Int):=ofD;omega);have hx38:∀ h:0 < t863.size,((t863[0]'h).toNat:Int)=bt t863 0:=bt_at t863 0;clear p38;have qi38:(0 < (t863.size:Int))=True:=eq_true ofD;replace q38:=eq_true q38;have hnb41:=NB861_862.out;have hnc41:=NB862_861.out;obtain ⟨_,_,_,_,_,_,_,_⟩:=cf4 BK861;go_wp2_with (first|((with_reducible refine gC (f:=96) rfl ?_);refine gsL (some 56) Tryz.func96 #[.agg #[.string a0_0,.slice none 0 0,.bool false,.string (⟨#[]⟩:ByteArray)],.string t863] ?_;(refine (spec_l1Way.calls kj15 a0_0 _ _ ([]:List ByteArray) false (⟨#[]⟩:ByteArray) t863 t880 t881 t884 t885 t886 _ ?side1 ?side2 A40.out).mono ?_);(case side1=>exact Kd.C_nil _ _);(case side2=>exact Nat.le_refl _);rintro e w43 ⟨v882,rfl,ho0,hb⟩;refine ⟨_,rfl,?_⟩;have HO883:=A_ (Kd.R_lower ho0 (below_size (zz73 HB GE861 GE862)));replace BK861:=A_ (bB (zz15 BK861) hb);replace BK862:=A_ (bB (zz15 BK862) hb);replace HB:=A_ (bS (zz73 HB GE861 GE862) hb);(try clear hb ho0);obtain ⟨_,_,_,_,_,_,_,_⟩:=cf4 BK862;obtain ⟨Ao45,co45,eo45⟩:=Kd.R_slice HO883.out;subst eo45))
          refine pR (results_ct rfl _ _ gb862 39 #[.string t880,.slice Ao45 t881.length co45,.bool t884,.string t885] (0,0) _ rfl (zz32 BK862) Tryz.underlying39 rfl (by kernel_rfl)) rfl ?_;exact ⟨_,zz12,(zz47 (rt HO883 BK862)),(zz73 HB GE861 GE862)⟩
         ·replace H:=iteEq H
          rcases H with ⟨c47b0,c47b1,H⟩|⟨c47b0,c47b1,c47,H⟩
          ·replace H:=bindA H
           obtain ⟨⟨t887,t888,t891,t892,t893⟩,A48,H⟩:=H;try dsimp only at H
           simp only [Option.some.injEq,Prod.mk.injEq] at H
           obtain ⟨rfl,rfl,rfl,rfl,rfl⟩:=H;have p38:0≤(0:Int):=(by omega);have q38:0 < t863.size:=(by have:(0:Int) < (t863.size:Int):=ofD;omega);have hx38:∀ h:0 < t863.size,((t863[0]'h).toNat:Int)=bt t863 0:=bt_at t863 0;clear p38;have qi38:(0 < (t863.size:Int))=True:=eq_true ofD;replace q38:=eq_true q38;have p46:0≤(0:Int):=(by omega);have q46:0 < t863.size:=(by have:(0:Int) < (t863.size:Int):=ofD;omega);have hx46:∀ h:0 < t863.size,((t863[0]'h).toNat:Int)=bt t863 0:=bt_at t863 0;clear p46;have qi46:(0 < (t863.size:Int))=True:=eq_true ofD;replace q46:=eq_true q46;have hnb49:=NB861_862.out;have hnc49:=NB862_861.out;obtain ⟨_,_,_,_,_,_,_,_⟩:=cf4 BK861;go_wp2_with (first|(refine gV 96 (some 69) Tryz.func96 (spec_l1Way.calls kj15 a0_0 _ _ l0_1 false (⟨#[]⟩:ByteArray) t863 t887 t888 t891 t892 t893 _ ?side1 ?side2 A48.out) ?_;(case side1=>exact (zz98 HR0_1 HB));(case side2=>exact HC0_1.out);rintro v889 w51 ⟨ho0,hb⟩;have HO890:=A_ (Kd.R_lower ho0 (below_size (zz73 HB GE861 GE862)));replace BK861:=A_ (bB (zz15 BK861) hb);replace BK862:=A_ (bB (zz15 BK862) hb);replace HB:=A_ (bS (zz73 HB GE861 GE862) hb);(try clear hb ho0);obtain ⟨_,_,_,_,_,_,_,_⟩:=cf4 BK862;obtain ⟨Ao53,co53,eo53⟩:=Kd.R_slice HO890.out;subst eo53))
           refine pR (results_ct rfl _ _ gb862 39 #[.string t887,.slice Ao53 t888.length co53,.bool t891,.string t892] (0,0) _ rfl (zz32 BK862) Tryz.underlying39 rfl (by kernel_rfl)) rfl ?_;exact ⟨_,zz12,(zz47 (rt HO890 BK862)),(zz73 HB GE861 GE862)⟩
          ·replace H:=bindA H
           obtain ⟨⟨t894,t895,t898,t899⟩,A54,H⟩:=H;try dsimp only at H
           replace H:=bindA H;obtain ⟨⟨t900,t901,t904,t905,t906⟩,A55,H⟩:=H;try dsimp only at H
           simp only [Option.some.injEq,Prod.mk.injEq] at H
           obtain ⟨rfl,rfl,rfl,rfl,rfl⟩:=H;have p38:0≤(0:Int):=(by omega);have q38:0 < t863.size:=(by have:(0:Int) < (t863.size:Int):=ofD;omega);have hx38:∀ h:0 < t863.size,((t863[0]'h).toNat:Int)=bt t863 0:=bt_at t863 0;clear p38;have qi38:(0 < (t863.size:Int))=True:=eq_true ofD;replace q38:=eq_true q38;have p46:0≤(0:Int):=(by omega);have q46:0 < t863.size:=(by have:(0:Int) < (t863.size:Int):=ofD;omega);have hx46:∀ h:0 < t863.size,((t863[0]'h).toNat:Int)=bt t863 0:=bt_at t863 0;clear p46;have qi46:(0 < (t863.size:Int))=True:=eq_true ofD;replace q46:=eq_true q46;have hnb56:=NB861_862.out;have hnc56:=NB862_861.out;obtain ⟨_,_,_,_,_,_,_,_⟩:=cf4 BK861;go_wp2_with (first|(refine gV 103 (some 73) Tryz.func103 (spec_l1Up.calls a0_0 _ _ l0_1 a0_2 a0_3 t894 t895 t898 t899 _ ?side1 ?side2 A54.out) ?_;(case side1=>exact (zz98 HR0_1 HB));(case side2=>exact HC0_1.out);rintro v896 w58 ⟨ho0,hb⟩;have HO897:=A_ (Kd.R_lower ho0 (below_size (zz73 HB GE861 GE862)));replace BK861:=A_ (bB (zz15 BK861) hb);replace BK862:=A_ (bB (zz15 BK862) hb);replace HB:=A_ (bS (zz73 HB GE861 GE862) hb);(try clear hb ho0);obtain ⟨Ao59,co59,eo59⟩:=Kd.R_slice HO897.out;subst eo59)|(refine gV 96 (some 75) Tryz.func96 (spec_l1Way.calls kj15 t894 _ _ t895 t898 t899 t863 t900 t901 t904 t905 t906 _ ?side1 ?side2 A55.out) ?_;(case side1=>exact (zz33 HO897));(case side2=>exact (Kd.R_reads' HO897.out).2.1);rintro v902 w60 ⟨ho0,hb⟩;have HO903:=A_ (Kd.R_lower (Kd.R_new' ho0 (Kd.R_lt (zz8 HO897))) (below_size (zz73 HB GE861 GE862)));replace HO897:=A_ (Kd.R_elder' (zz8 HO897) (Kd.R_base ho0) hb);replace BK861:=A_ (bB (zz15 BK861) hb);replace BK862:=A_ (bB (zz15 BK862) hb);replace HB:=A_ (bS (zz73 HB GE861 GE862) hb);(try clear hb ho0);obtain ⟨_,_,_,_,_,_,_,_⟩:=cf4 BK862;obtain ⟨Ao62,co62,eo62⟩:=Kd.R_slice HO903.out;subst eo62))
           refine pR (results_ct rfl _ _ gb862 39 #[.string t900,.slice Ao62 t901.length co62,.bool t904,.string t905] (0,0) _ rfl (zz32 BK862) Tryz.underlying39 rfl (by kernel_rfl)) rfl ?_;exact ⟨_,zz12,(zz47 (rt HO903 BK862)),(zz73 HB GE861 GE862)⟩
        ·exact absurd H (by simp)
mutual
def spec_PageAddrs.j0:Nat→ByteArray→List ByteArray→ByteArray→List ByteArray→Bool→ByteArray→Option (List ByteArray)
 | 0,_,_,_,_,_,_=>none
 | k+1,x1,x5,x926000,x926001,x926002,x926003=>(spec_PageLinks.f k x1).bind fun t940=>(spec_PageAddrs.l0 k x5 t940 0 x926000 x926001 x926002 x926003)
def spec_PageAddrs.l0:Nat→List ByteArray→List ByteArray→Int→ByteArray→List ByteArray→Bool→ByteArray→Option (List ByteArray)
 | 0,_,_,_,_,_,_,_=>none
 | k+1,x5,x10,x11,x926000,x926001,x926002,x926003=>if x11 < (x10.length:Int) then (if 0≤x11 then ((spec_AddrJoin.f k x926000 x926001 x926002 x926003 (rdOf ByteArray.empty x10 x11)).bind fun bt944=>(if bt944.2.2.2.2=true then ((spec_AddrText.f k bt944.1 bt944.2.1 bt944.2.2.1 bt944.2.2.2.1).bind fun t952=>((spec_l3Put.f k x5 t952).bind fun t953=>(spec_PageAddrs.l0 k t953 x10 (wrap64 (x11+1)) x926000 x926001 x926002 x926003))) else (spec_PageAddrs.l0 k x5 x10 (wrap64 (x11+1)) x926000 x926001 x926002 x926003))) else (none)) else (some x5)
end
def spec_PageAddrs.f (k:Nat) (a0_0:ByteArray) (l0_1:List ByteArray) (a0_2:Bool) (a0_3:ByteArray) (a1:ByteArray):Option (List ByteArray):=(some (([]:List ByteArray):List ByteArray)).bind fun y926=>((spec_AddrOk.f k a0_0 l0_1 a0_2 a0_3).bind fun t929=>(if t929=true then ((spec_PageBase.f k a1).bind fun bt930=>(if bt930.2=true then ((spec_AddrJoin.f k a0_0 l0_1 a0_2 a0_3 bt930.1).bind fun bt932=>(if bt932.2.2.2.2=true then (spec_PageAddrs.j0 k a1 y926 bt932.1 bt932.2.1 bt932.2.2.1 bt932.2.2.2.1) else (spec_PageAddrs.j0 k a1 y926 a0_0 l0_1 a0_2 a0_3))) else (spec_PageAddrs.j0 k a1 y926 a0_0 l0_1 a0_2 a0_3))) else (some y926)))
def spec_PageAddrs.T13:Bool×List (List Nat×List Nat):=(true,[([],[]),([],[]),([],[]),([1,2],[1,2]),([3],[3]),([0,4],[0,4]),([5],[5]),([6],[6]),([6],[6]),([],[]),([9,7,5,0,1,2,3,4,5,6,7,9],[7,9]),([8,10,0,1,2,3,4,5,6,7,8,9,10],[8])])
def spec_PageAddrs.B13:List Nat:=[0,0,0,6,14,31,63,127,127,0,767,2047]
theorem spec_PageAddrs.tab13:rtab .any (opsOf Tryz.f51 13)=spec_PageAddrs.T13:=by kernel_rfl
theorem spec_PageAddrs.bits13:waitsOk spec_PageAddrs.T13.2 spec_PageAddrs.B13=true:=by kernel_rfl
theorem spec_PageAddrs.calls (k:Nat) (a0_0:ByteArray) (P0_1_:Nat→Prop) (A0_1:Option Addr) (c0_1:Nat) (l0_1:List ByteArray) (a0_2:Bool) (a0_3:ByteArray) (a1:ByteArray) (r:List ByteArray) (w:World) (hs0_1:Kd.V Kd.string 9 w w.heap.size (fun k_=>P0_1_ k_) (.slice A0_1 l0_1.length c0_1) l0_1) (h:spec_PageAddrs.f k a0_0 l0_1 a0_2 a0_3 a1=some r) :
  Calls Tryz.prog 51 #[.agg #[.string a0_0,.slice A0_1 l0_1.length c0_1,.bool a0_2,.string a0_3],.string a1] w fun e w'=>∃ v0_:Value,e=.returned (v0_)∧Kd.R Kd.string 9 w' w.heap.size (fun k_=>(w.heap.size≤k_)) v0_ r∧Below w.heap.size w w':=by
 have hu39:=Tryz.underlying39;have HO0_1:=A_ (show Kd.V Kd.string 9 w w.heap.size (fun k_=>(P0_1_ k_∨w.heap.size≤k_)) (.slice A0_1 l0_1.length c0_1) l0_1 from Kd.V_mono hs0_1 (fun k_ hk=>.inl hk));have HB:=A_ (Below.refl w.heap.size w);unfold spec_PageAddrs.f at h
 have H:=h;clear h;obtain ⟨y926,Ny926,H⟩:=bindY H;replace H:=bindA H;obtain ⟨t929,A3,H⟩:=H;have HF4:=A_ H;clear H;go_enter Tryz.func51,Tryz.ntmps51;go_upto_if 17 with (first|(refine boxF 2 #[.string a0_0,.slice A0_1 l0_1.length c0_1,.bool a0_2,.string a0_3] 39 ?_;intro gb925 hg w5 BK925 hb;replace HO0_1:=A_ (Kd.V_below (Kd.V_elderB (zz221 HO0_1) gb925 (Nat.le_of_eq hg.symm)) hb);have GE925:=geB hg (zz5 HB);replace HB:=A_ (bS (zz5 HB) hb);clear hb hg)|((with_reducible refine gD (N:=14) rfl ?_);refine Kd.R_lit Kd.string _ 9 ?hg (N:=14) ?hd (xs:=([]:List ByteArray)) (inner:=[]) (ok:=fun _=>True) (okp:=fun _=>True) ?hr ?hp (fun _ hk=>hk) trivial (Below.refl _ _) (Nat.le_refl _) (by simp) ?_;(case hd=>rfl);(case hg=>rfl);(case hr=>exact zz26);(case hp=>exact (Reps.none _ _));intro v927 w6 ho7 hb hg_ hnew_;clear hg_ hnew_;(first|rw [← Ny926.out] at ho7|(simp only [Int.reduceToNat] at ho7;rw [← Ny926.out] at ho7));replace HO0_1:=A_ (Kd.V_elder' (zz221 HO0_1) (Kd.R_base ho7) hb);have HO928:=A_ (Kd.R_lower (Kd.R_newM (M:=fun k_=>(w.heap.size≤k_)) ho7 (below_size (zz16 HB GE925)) (fun k_ h_=>h_)) (below_size (zz16 HB GE925)));replace BK925:=A_ (bB (zz15 BK925) hb);replace HB:=A_ (bS (zz16 HB GE925) hb);clear hb ho7;obtain ⟨_,_,_,_,_,_,_,_⟩:=cf4 BK925)|(refine gR 72 (some 16) Tryz.func72 (spec_AddrOk.calls k a0_0 _ _ l0_1 a0_2 a0_3 t929 _ ?side1 ?side2 A3.out) ?_;(case side1=>exact (zz222 HO0_1));(case side2=>exact (Kd.V_reads' HO0_1.out).2.1);rintro w9 hb;replace HO0_1:=A_ (Kd.V_below (zz221 HO0_1) hb);replace HO928:=A_ (rB (zz8 HO928) hb);replace BK925:=A_ (bB (zz15 BK925) hb);replace HB:=A_ (bS (zz16 HB GE925) hb);(try clear hb)))
 obtain ⟨H⟩:=HF4;replace H:=iteB H;rcases H with ⟨rfl,H⟩|⟨rfl,H⟩
 ·replace H:=bindA H
  obtain ⟨⟨t930,t931⟩,A11,H⟩:=H;try dsimp only at H
  have HC12:=A_ H;clear H;go_upto_if 24 with (first|(refine gR 74 (some 21) Tryz.func74 (spec_PageBase.calls k a1 t930 t931 _ A11.out) ?_;rintro w13 hb;replace HO0_1:=A_ (Kd.V_below (zz221 HO0_1) hb);replace HO928:=A_ (rB (zz8 HO928) hb);replace BK925:=A_ (bB (zz15 BK925) hb);replace HB:=A_ (bS (zz16 HB GE925) hb);(try clear hb)))
  (try simp only [Act.put,List.setIfInBounds_toArray,List.set_cons_zero,List.set_cons_succ])
  go_cut [] (fun wc=>∃ (kq:Nat) (x926000_11:ByteArray) (x926001_11:List ByteArray) (x926002_11:Bool) (x926003_11:ByteArray) (u926001:Value),Aside0 (spec_PageAddrs.j0 kq a1 y926 x926000_11 x926001_11 x926002_11 x926003_11=some r)∧Aside0 (kq≤k)∧Aside0 (Kd.R Kd.string 9 wc w.heap.size (fun k_=>(w.heap.size≤k_)) v927 y926)∧Aside0 (Kd.V Kd.string 9 wc w.heap.size (fun k_=>(P0_1_ k_∨w.heap.size≤k_)∧some k_≠(v927:Value).ownBlock∧k_≠gb925) u926001 x926001_11)∧Aside0 (wc.heap[gb925]?=some (.cells #[.string x926000_11,u926001,.bool x926002_11,.string x926003_11] 39 (0,0)))∧Aside0 (Below w.heap.size w wc))
  case first=>
   obtain ⟨H⟩:=HC12;replace H:=iteB H;rcases H with ⟨rfl,H⟩|⟨rfl,H⟩
   ·replace H:=bindA H
    obtain ⟨⟨t932,t933,t936,t937,t938⟩,A15,H⟩:=H;try dsimp only at H
    have HF16:=A_ H;clear H;obtain ⟨_,_,_,_,_,_,_,_⟩:=cf4 BK925;go_upto_if 31 with (first|(refine gV 75 (some 28) Tryz.func75 (spec_AddrJoin.calls k a0_0 _ _ l0_1 a0_2 a0_3 t930 t932 t933 t936 t937 t938 _ ?side1 ?side2 A15.out) ?_;(case side1=>exact (zz222 HO0_1));(case side2=>exact (Kd.V_reads' HO0_1.out).2.1);rintro v934 w18 ⟨ho0,hb⟩;replace HO0_1:=A_ (Kd.V_elder' (zz221 HO0_1) (Kd.R_base ho0) hb);have HO935:=A_ (Kd.R_lower (Kd.R_new' (Kd.R_newM (M:=fun k_=>(w.heap.size≤k_)) ho0 (below_size (zz16 HB GE925)) (fun k_ h_=>h_)) (Kd.R_lt (zz8 HO928))) (below_size (zz16 HB GE925)));replace HO928:=A_ (Kd.R_elder' (zz8 HO928) (Kd.R_base ho0) hb);replace BK925:=A_ (bB (zz15 BK925) hb);replace HB:=A_ (bS (zz16 HB GE925) hb);(try clear hb ho0))|(refine boxF 8 #[.string (⟨#[]⟩:ByteArray),.slice none 0 0,.bool false,.string (⟨#[]⟩:ByteArray)] 39 ?_;intro gb939 hg w19 BK939 hb;replace HO0_1:=A_ (Kd.V_below (Kd.V_elderB (zz221 HO0_1) gb939 (Nat.le_of_eq hg.symm)) hb);replace HO928:=A_ (rB (zz8 HO928) hb);replace HO935:=A_ (rB (zz8 HO935) hb);have GE939:=geB hg (zz16 HB GE925);replace HB:=A_ (bS (zz16 HB GE925) hb);have NB925_939:=A_ ((by rw [hg];exact Nat.ne_of_lt (blk_lt (zz15 BK925)):gb925≠gb939));have NB939_925:=A_ ((by rw [hg];exact Nat.ne_of_gt (blk_lt (zz15 BK925)):gb939≠gb925));replace BK925:=A_ (bB (zz15 BK925) hb);clear hb hg;have hnb20:=NB939_925.out;have hnc20:=NB925_939.out;obtain ⟨_,_,_,_,_,_,_,_⟩:=cf4 BK939;obtain ⟨Ao22,co22,eo22⟩:=Kd.R_slice HO935.out;subst eo22)|((with_reducible refine gate_store (t:=39) (p:=8) rfl ?_);refine store_event (t:=39) (p:=8) (v:=?vo_w23) (w1:=((((w19.setCell ⟨gb939,0,none⟩ (.string t932)).setCell ⟨gb939,1,none⟩ (.slice Ao22 t933.length co22)).setCell ⟨gb939,2,none⟩ (.bool t936)).setCell ⟨gb939,3,none⟩ (.string t937))) ?hg ?ho ?hn ?hr ?_;(case ho=>rfl);(case hg=>rfl);(case hn=>rfl);(case hr=>exact zz26);intro w23 hw;have n0_:Aside0 (Kd.V Kd.string 9 w23 w.heap.size (fun k_=>(P0_1_ k_∨w.heap.size≤k_)∧some k_≠(v927:Value).ownBlock∧some k_≠(.slice Ao22 t933.length co22:Value).ownBlock∧k_≠gb925∧k_≠gb939) (.slice A0_1 l0_1.length c0_1) l0_1):=⟨(by rw [hw];exact (by (with_reducible repeat (first|apply Kd.V_alloc|apply Kd.V_drewN|apply Kd.V_drew));exact Kd.V_mono (Kd.V_far (p:=⟨gb939,3,none⟩) (Kd.V_far (p:=⟨gb939,2,none⟩) (Kd.V_far (p:=⟨gb939,1,none⟩) (Kd.V_far (p:=⟨gb939,0,none⟩) (Kd.V_mono HO0_1.out (fun k_ hk=>(⟨hk,hk.2⟩:_∧k_≠gb939))) (fun _ hk=>hk.2) (.string t932)) (fun _ hk=>hk.2) (.slice Ao22 t933.length co22)) (fun _ hk=>hk.2) (.bool t936)) (fun _ hk=>hk.2) (.string t937)) (fun _ hk=>⟨hk.1.1.1.1.1,⟨hk.1.1.1.2,⟨hk.1.1.2,⟨hk.1.1.1.1.2,hk.1.2⟩⟩⟩⟩)))⟩;have n1_:Aside0 (Kd.R Kd.string 9 w23 w.heap.size (fun k_=>(w.heap.size≤k_)∧some k_≠(.slice Ao22 t933.length co22:Value).ownBlock) v927 y926):=⟨(by rw [hw];exact (zz47 (rt HO928 BK939)))⟩;have n2_:Aside0 (Kd.R Kd.string 9 w23 w.heap.size (fun k_=>(w.heap.size≤k_)∧some k_≠(v927:Value).ownBlock) (.slice Ao22 t933.length co22) t933):=⟨(by rw [hw];exact (zz47 (rt HO935 BK939)))⟩;have n3_:Aside0 (w23.heap[gb925]?=some (.cells #[.string a0_0,.slice A0_1 l0_1.length c0_1,.bool a0_2,.string a0_3] 39 (0,0))):=⟨(by rw [hw];exact (zz176 BK925 NB925_939))⟩;have n4_:Aside0 (w23.heap[gb939]?=some (.cells #[.string t932,.slice Ao22 t933.length co22,.bool t936,.string t937] 39 (0,0))):=⟨(by rw [hw];exact (zz32 BK939))⟩;have n5_:Aside0 (Below w.heap.size w w23):=⟨(by rw [hw];exact (zz73 HB GE925 GE939))⟩;clear hw;clear HO0_1;clear HO928;clear HO935;clear BK925;clear BK939;clear HB;have HO0_1:=n0_;have HO928:=n1_;have HO935:=n2_;have BK925:=n3_;have BK939:=n4_;have HB:=n5_;clear n0_ n1_ n2_ n3_ n4_ n5_))
    obtain ⟨H⟩:=HF16;replace H:=iteB H;rcases H with ⟨rfl,H⟩|⟨rfl,H⟩
    ·have H':=A_ H
     clear H;have hnb25:=NB939_925.out;have hnc25:=NB925_939.out;obtain ⟨_,_,_,_,_,_,_,_⟩:=cf4 BK939;obtain ⟨_,_,_,_,_,_,_,_⟩:=cf4 BK925;go_wp2
     go_meet
     case rel=>exact ⟨_,(t932),(t933),(t936),(t937),(.slice Ao22 t933.length co22),H',⟨zz17⟩,⟨(zz47 (rt HO928 BK925))⟩,⟨Kd.V_mono (Kd.R_V (by (with_reducible repeat (first|apply Kd.R_alloc|apply Kd.R_drewN|apply Kd.R_drew));exact Kd.R_mono (ok':=fun k_=>(w.heap.size≤k_)∧some k_≠(v927:Value).ownBlock∧k_≠gb925) (Kd.R_far (p:=⟨gb925,3,none⟩) (Kd.R_far (p:=⟨gb925,2,none⟩) (Kd.R_far (p:=⟨gb925,1,none⟩) (Kd.R_far (p:=⟨gb925,0,none⟩) (Kd.R_types (Kd.R_types HO935.out BK925.out (by decide)) BK925.out (by decide)) (fun _ hk=>hk.2) (.string t932)) (fun _ hk=>hk.2) (.slice Ao22 t933.length co22)) (fun _ hk=>hk.2) (.bool t936)) (fun _ hk=>hk.2) (.string t937)) (fun _ hk=>⟨hk.1.1.1,⟨hk.1.1.2,hk.1.2⟩⟩))) (fun k_ hk=>by first|exact ⟨(.inr (hk.1)),hk.2⟩|exact (.inr (hk)))⟩,⟨(zz32 BK925)⟩,⟨(zz73 HB GE925 GE939)⟩⟩
    ·have H':=A_ H
     clear H;go_wp2
     go_meet
     case rel=>exact ⟨_,(a0_0),(l0_1),(a0_2),(a0_3),(.slice A0_1 l0_1.length c0_1),H',⟨zz17⟩,⟨(zz231 HO928)⟩,⟨(by (with_reducible repeat (first|apply Kd.V_alloc|apply Kd.V_drewN|apply Kd.V_drew));exact Kd.V_mono HO0_1.out (fun _ hk=>⟨hk.1,⟨hk.2.1,hk.2.2.2.1⟩⟩))⟩,⟨(zz15 BK925)⟩,⟨(zz73 HB GE925 GE939)⟩⟩
   ·have H':=A_ H
    clear H;go_wp2
    go_meet
    case rel=>exact ⟨_,(a0_0),(l0_1),(a0_2),(a0_3),(.slice A0_1 l0_1.length c0_1),H',⟨zz17⟩,⟨(zz231 HO928)⟩,⟨(by (with_reducible repeat (first|apply Kd.V_alloc|apply Kd.V_drewN|apply Kd.V_drew));exact Kd.V_mono HO0_1.out (fun _ hk=>⟨hk.1.1,⟨hk.2,hk.1.2⟩⟩))⟩,⟨(zz15 BK925)⟩,⟨(zz16 HB GE925)⟩⟩
  case rest=>
   clear HC12;obtain ⟨kq,x926000_11,x926001_11,x926002_11,x926003_11,u926001,HA,HJ11,HO_5,HO_926001,BK925,HB⟩:=hcut;cases kq with
   | zero=>exact absurd HA.out (by simp [spec_PageAddrs.j0])
   | succ kj11=>
    obtain ⟨H⟩:=HA;simp only [spec_PageAddrs.j0] at H
    replace H:=bindA H;obtain ⟨t940,A28,H⟩:=H;have H':=A_ H;clear H;go_wp2_with (first|(refine gV 76 (some 34) Tryz.func76 (spec_PageLinks.calls kj11 a1 t940 _ A28.out) ?_;rintro v941 w29 ⟨ho0,hb⟩;replace HO_926001:=A_ (Kd.V_elder' (zz221 HO_926001) (Kd.R_base ho0) hb);have HO942:=A_ (Kd.R_lower (Kd.R_new' (Kd.R_newM (M:=fun k_=>(w.heap.size≤k_)) ho0 (below_size (zz16 HB GE925)) (fun k_ h_=>h_)) (Kd.R_lt (zz8 HO_5))) (below_size (zz16 HB GE925)));replace HO_5:=A_ (Kd.R_elder' (zz8 HO_5) (Kd.R_base ho0) hb);replace BK925:=A_ (bB (zz15 BK925) hb);replace HB:=A_ (bS (zz16 HB GE925) hb);(try clear hb ho0)))
    go_loopg [5,11] kj11 (fun kq v5 v11 w'=>∃ (x5_2:List ByteArray) (x11_2:Int),v11=.int .i64 x11_2∧Aside0 (spec_PageAddrs.l0 kq x5_2 t940 x11_2 x926000_11 x926001_11 x926002_11 x926003_11=some r)∧Aside0 (kq≤kj11)∧Aside0 (Kd.R Kd.string 9 w' w.heap.size (fun k_=>(w.heap.size≤k_)∧some k_≠(v941:Value).ownBlock) v5 x5_2)∧Aside0 (Kd.R Kd.string 9 w' w.heap.size (fun k_=>(w.heap.size≤k_)∧some k_≠(v5:Value).ownBlock) v941 t940)∧Aside0 (Kd.V Kd.string 9 w' w.heap.size (fun k_=>(P0_1_ k_∨w.heap.size≤k_)∧some k_≠(v5:Value).ownBlock∧some k_≠(v941:Value).ownBlock∧k_≠gb925) u926001 x926001_11)∧Aside0 (w'.heap[gb925]?=some (.cells #[.string x926000_11,u926001,.bool x926002_11,.string x926003_11] 39 (0,0)))∧Aside0 (Below w.heap.size w w'))
    case atStart=>exact ⟨(y926),(0),zz0,H',⟨Nat.le_refl _⟩,⟨(zz8 HO_5)⟩,⟨(zz235 HO942)⟩,⟨(by (with_reducible repeat (first|apply Kd.V_alloc|apply Kd.V_drewN|apply Kd.V_drew));exact Kd.V_mono HO_926001.out (fun _ hk=>⟨hk.1.1,⟨hk.1.2.1,⟨hk.2,hk.1.2.2⟩⟩⟩))⟩,⟨(zz15 BK925)⟩,⟨(zz16 HB GE925)⟩⟩
    case round=>
     clear H';obtain ⟨x5_2,x11_2,rfl,HA,HK2,HO_5,HO_10,HO_926001,BK925,HB⟩:=hrel;cases gk with
     | zero=>exact absurd HA.out (by simp [spec_PageAddrs.l0])
     | succ k2=>
      obtain ⟨H⟩:=HA;simp only [spec_PageAddrs.l0] at H
      replace H:=iteEd H;rcases H with ⟨c30b0,H⟩|⟨c30b0,H⟩
      ·replace H:=iteNd H
       obtain ⟨c31b0,H⟩:=H;replace H:=bindA H;obtain ⟨⟨t944,t945,t948,t949,t950⟩,A32,H⟩:=H;try dsimp only at H
       have HF33:=A_ H;clear H;obtain ⟨Ao34,co34,eo34⟩:=Kd.R_slice HO_10.out;subst eo34;obtain ⟨Ao35,co35,eo35⟩:=Kd.V_slice HO_926001.out;subst eo35;try go_wp2
       replace HO_5:=A_ (Kd.R_drew HO_5.out);replace HO_10:=A_ (Kd.R_drew HO_10.out);replace HO_926001:=A_ (Kd.V_drew HO_926001.out);replace BK925:=A_ (blk_drew BK925.out);replace HB:=A_ (below_drew1 HB.out);obtain ⟨⟨ad943,e943,hx943_0⟩,p943,q943⟩:=atB (Kd.at_string (Kd.R_reads' HO_10.out).2.2 x11_2);cases e943
       refine start_ (n:=12) (S:=fun w'=>w'.cell? ⟨gb925,0,none⟩=some (.string x926000_11)∧w'.cell? ⟨gb925,1,none⟩=some (.slice Ao35 x926001_11.length co35)∧w'.cell? ⟨gb925,2,none⟩=some (.bool x926002_11)∧w'.cell? ⟨gb925,3,none⟩=some (.string x926003_11)∧w'.cell? (ad943.add (x11_2).toNat)=some (.string (rdOf ByteArray.empty t940 x11_2))) (ds:=[]) #[yF,yF,yF,yF,yF,yF,yF,yF,yF,yF,yF,yF] (by kernel_rfl) rfl rfl ⟨(blk_cell BK925.out 0).trans rfl,(blk_cell BK925.out 1).trans rfl,(blk_cell BK925.out 2).trans rfl,(blk_cell BK925.out 3).trans rfl,hx943_0⟩ (fun hHeld=>?_);refine with_tabW spec_PageAddrs.tab13 spec_PageAddrs.bits13 (fun HT_ HW_=>?_);generalize wr.drew=w36 at HO_5 HO_10 HO_926001 BK925 HB hx943_0 hHeld ⊢;refine pureZ 1 (some 43) #[yF,yT,yF,yF,yF,yF,yF,yF,yF,yF,yF,yF] ?_;refine pureZ 2 (some 44) #[yF,yT,yT,yF,yF,yF,yF,yF,yF,yF,yF,yF] ?_;refine pureZ 3 (some 45) #[yF,yT,yT,yT,yF,yF,yF,yF,yF,yF,yF,yF] ?_;refine takeZ5 0 (some 42) #[yT,yT,yT,yT,yF,yF,yF,yF,yF,yF,yF,yF] hHeld ?_;refine takeZ5 4 (some 46) #[yT,yT,yT,yT,yT,yF,yF,yF,yF,yF,yF,yF] hHeld ?_;refine join_ (σ:=Value×Nat) 2 #[yT,yT,yT,yT,yT,yT,yT,yT,yT,yT,yF,yF] (fun s_=>[(47,.tuple #[.agg #[.string t944,s_.1,.bool t948,.string t949],.bool t950]),(12,.pointer (some ⟨s_.2,0,none⟩)),(41,.tuple #[.agg #[.string t944,s_.1,.bool t948,.string t949],.bool t950]),(48,.agg #[.string t944,s_.1,.bool t948,.string t949]),(49,.bool t950)]) (fun s_ w'=>(w'.cell? ⟨gb925,0,none⟩=some (.string x926000_11)∧w'.cell? ⟨gb925,1,none⟩=some (.slice Ao35 x926001_11.length co35)∧w'.cell? ⟨gb925,2,none⟩=some (.bool x926002_11)∧w'.cell? ⟨gb925,3,none⟩=some (.string x926003_11)∧w'.cell? (ad943.add (x11_2).toNat)=some (.string (rdOf ByteArray.empty t940 x11_2)))∧(Kd.R Kd.string 9 w' w.heap.size (fun k_=>(w.heap.size≤k_)∧some k_≠(.slice (some ad943) t940.length co34:Value).ownBlock∧some k_≠(u5:Value).ownBlock) s_.1 t945)∧(Kd.R Kd.string 9 w' w.heap.size (fun k_=>(w.heap.size≤k_)∧some k_≠(s_.1:Value).ownBlock∧some k_≠(u5:Value).ownBlock) (.slice (some ad943) t940.length co34) t940)∧(Kd.R Kd.string 9 w' w.heap.size (fun k_=>(w.heap.size≤k_)∧some k_≠(s_.1:Value).ownBlock∧some k_≠(.slice (some ad943) t940.length co34:Value).ownBlock) u5 x5_2)∧(Kd.V Kd.string 9 w' w.heap.size (fun k_=>(P0_1_ k_∨w.heap.size≤k_)∧some k_≠(s_.1:Value).ownBlock∧some k_≠(.slice (some ad943) t940.length co34:Value).ownBlock∧some k_≠(u5:Value).ownBlock∧k_≠gb925∧k_≠s_.2) (.slice Ao35 x926001_11.length co35) x926001_11)∧(w'.heap[gb925]?=some (.cells #[.string x926000_11,.slice Ao35 x926001_11.length co35,.bool x926002_11,.string x926003_11] 39 (0,0)))∧(w'.heap[s_.2]?=some (.cells #[.string (⟨#[]⟩:ByteArray),.slice none 0 0,.bool false,.string (⟨#[]⟩:ByteArray)] 39 (0,0)))∧(w.heap.size≤s_.2)∧(w.heap.size≤s_.2)∧(gb925≠s_.2)∧(s_.2≠gb925)∧(Below w.heap.size w w')) ?_ ?_;rotate_left
       ·intro hCont
        refine twoZ 5 9 (some 47) (some 12) #[yT,yT,yT,yT,yT,yT,yF,yF,yF,yF,yF,yF] #[yT,yT,yT,yT,yT,yF,yF,yF,yF,yT,yF,yF] (fun K hK=>?_) (fun K hK=>?_)
        ·skip
         refine goes_ Tryz.func75 (by kernel_rfl) rfl #[.agg #[.string x926000_11,.slice Ao35 x926001_11.length co35,.bool x926002_11,.string x926003_11],.string (rdOf ByteArray.empty t940 x11_2)] (by rfl) rfl rfl zz27 ?_;with_reducible refine (spec_AddrJoin.calls k2 x926000_11 _ _ x926001_11 x926002_11 x926003_11 (rdOf ByteArray.empty t940 x11_2) t944 t945 t948 t949 t950 _ ?side1 ?side2 A32.out).mono ?_
         (case side1=>exact (zz222 HO_926001))
         (case side2=>exact (Kd.V_reads' HO_926001.out).2.1)
         rintro e w37 ⟨v946,rfl,ho0,hb⟩;have HS4_:=(hb.cell (World.block_lt_of_cell? _ _ (hHeld.2.2.2.2))).trans (hHeld.2.2.2.2);refine ⟨_,rfl,?_⟩;replace HO_926001:=A_ (Kd.V_elder' (zz221 HO_926001) (Kd.R_base ho0) hb);have HO947:=A_ (Kd.R_lower (Kd.R_new' (Kd.R_new' (Kd.R_newM (M:=fun k_=>(w.heap.size≤k_)) ho0 (below_size (zz16 HB GE925)) (fun k_ h_=>h_)) (Kd.R_lt (zz8 HO_5))) (Kd.R_lt (zz8 HO_10))) (below_size (zz16 HB GE925)));replace HO_5:=A_ (Kd.R_elder' (zz8 HO_5) (Kd.R_base ho0) hb);replace HO_10:=A_ (Kd.R_elder' (zz8 HO_10) (Kd.R_base ho0) hb);replace BK925:=A_ (bB (zz15 BK925) hb);replace HB:=A_ (bS (zz16 HB GE925) hb);(try clear hb)
         (try clear hb2)
         (try clear hk)
         (try clear hi)
         (try clear ho0)
         refine hK.out _ _ ⟨(blk_cell BK925.out 0).trans rfl,(blk_cell BK925.out 1).trans rfl,(blk_cell BK925.out 2).trans rfl,(blk_cell BK925.out 3).trans rfl,HS4_⟩ (fun hHeld=>?_);clear hK K;refine nZ 47 ?_;refine pureZ 6 (some 41) #[yT,yT,yT,yT,yT,yT,yT,yF,yF,yF,yF,yF] ?_;refine pureZ 7 (some 48) #[yT,yT,yT,yT,yT,yT,yT,yT,yF,yF,yF,yF] ?_;refine pureZ 8 (some 49) #[yT,yT,yT,yT,yT,yT,yT,yT,yT,yF,yF,yF] ?_;refine oneZ 9 (some 12) #[yT,yT,yT,yT,yT,yT,yT,yT,yT,yT,yF,yF] (fun K hK=>?_);refine box_step ?hg (N:=12) ?hd (cs:=#[.string (⟨#[]⟩:ByteArray),.slice none 0 0,.bool false,.string (⟨#[]⟩:ByteArray)]) (t:=39) ?hr ?_;(case hd=>rfl);(case hg=>rfl);(case hr=>exact zz26);intro gb951 hg w38 hbox hb;have HS4_:=(hb.cell (World.block_lt_of_cell? _ _ (hHeld.2.2.2.2))).trans (hHeld.2.2.2.2);replace HO_5:=A_ (rB (zz8 HO_5) hb);replace HO_10:=A_ (rB (zz8 HO_10) hb);replace HO_926001:=A_ (Kd.V_below (Kd.V_elderB (zz221 HO_926001) gb951 (Nat.le_of_eq hg.symm)) hb);replace HO947:=A_ (rB (zz8 HO947) hb);have BK951:=A_ (hbox);have GW951:=A_ ((by rw [hg];exact (below_size (zz16 HB GE925)):w.heap.size≤gb951));have GE951:=A_ ((by rw [hg];exact (below_size (zz16 HB GE925)):w.heap.size≤gb951));replace HB:=A_ (bS (zz16 HB GE925) hb);have NB925_951:=A_ ((by rw [hg];exact Nat.ne_of_lt (blk_lt (zz15 BK925)):gb925≠gb951));have NB951_925:=A_ ((by rw [hg];exact Nat.ne_of_gt (blk_lt (zz15 BK925)):gb951≠gb925));replace BK925:=A_ (bB (zz15 BK925) hb);clear hb hbox hg;refine hK.out _ _ ⟨(blk_cell BK925.out 0).trans rfl,(blk_cell BK925.out 1).trans rfl,(blk_cell BK925.out 2).trans rfl,(blk_cell BK925.out 3).trans rfl,HS4_⟩ (fun hHeld=>?_);clear hK K;refine nZ 12 ?_;exact norm_ viaP (hCont (v946,gb951) _ ⟨hHeld,(zz238 HO947),(zz239 HO_10),(zz239 HO_5),(by (with_reducible repeat (first|apply Kd.V_alloc|apply Kd.V_drewN|apply Kd.V_drew));exact Kd.V_mono HO_926001.out (fun _ hk=>⟨hk.1.1.1,⟨hk.1.2,⟨hk.1.1.2.2.1,⟨hk.1.1.2.1,⟨hk.1.1.2.2.2,hk.2⟩⟩⟩⟩⟩)),(zz15 BK925),(zz15 BK951),GW951.out,GE951.out,NB925_951.out,NB951_925.out,(zz73 HB GE925 GE951)⟩)
        ·skip
         refine box_step ?hg (N:=12) ?hd (cs:=#[.string (⟨#[]⟩:ByteArray),.slice none 0 0,.bool false,.string (⟨#[]⟩:ByteArray)]) (t:=39) ?hr ?_;(case hd=>rfl);(case hg=>rfl);(case hr=>exact zz26);intro gb951 hg w37 hbox hb;have HS4_:=(hb.cell (World.block_lt_of_cell? _ _ (hHeld.2.2.2.2))).trans (hHeld.2.2.2.2);replace HO_5:=A_ (rB (zz8 HO_5) hb);replace HO_10:=A_ (rB (zz8 HO_10) hb);replace HO_926001:=A_ (Kd.V_below (Kd.V_elderB (zz221 HO_926001) gb951 (Nat.le_of_eq hg.symm)) hb);have BK951:=A_ (hbox);have GW951:=A_ ((by rw [hg];exact (below_size (zz16 HB GE925)):w.heap.size≤gb951));have GE951:=A_ ((by rw [hg];exact (below_size (zz16 HB GE925)):w.heap.size≤gb951));replace HB:=A_ (bS (zz16 HB GE925) hb);have NB925_951:=A_ ((by rw [hg];exact Nat.ne_of_lt (blk_lt (zz15 BK925)):gb925≠gb951));have NB951_925:=A_ ((by rw [hg];exact Nat.ne_of_gt (blk_lt (zz15 BK925)):gb951≠gb925));replace BK925:=A_ (bB (zz15 BK925) hb);clear hb hbox hg;refine hK.out _ _ ⟨(blk_cell BK925.out 0).trans rfl,(blk_cell BK925.out 1).trans rfl,(blk_cell BK925.out 2).trans rfl,(blk_cell BK925.out 3).trans rfl,HS4_⟩ (fun hHeld=>?_);clear hK K;refine nZ 12 ?_;refine oneZ 5 (some 47) #[yT,yT,yT,yT,yT,yT,yF,yF,yF,yT,yF,yF] (fun K hK=>?_);refine goes_ Tryz.func75 (by kernel_rfl) rfl #[.agg #[.string x926000_11,.slice Ao35 x926001_11.length co35,.bool x926002_11,.string x926003_11],.string (rdOf ByteArray.empty t940 x11_2)] (by rfl) rfl rfl zz27 ?_;with_reducible refine (spec_AddrJoin.calls k2 x926000_11 _ _ x926001_11 x926002_11 x926003_11 (rdOf ByteArray.empty t940 x11_2) t944 t945 t948 t949 t950 _ ?side1 ?side2 A32.out).mono ?_
         (case side1=>exact (zz222 HO_926001))
         (case side2=>exact (Kd.V_reads' HO_926001.out).2.1)
         rintro e w38 ⟨v946,rfl,ho0,hb⟩;have HS4_:=(hb.cell (World.block_lt_of_cell? _ _ (hHeld.2.2.2.2))).trans (hHeld.2.2.2.2);refine ⟨_,rfl,?_⟩;replace HO_926001:=A_ (Kd.V_elder' (zz221 HO_926001) (Kd.R_base ho0) hb);have HO947:=A_ (Kd.R_lower (Kd.R_new' (Kd.R_new' (Kd.R_newM (M:=fun k_=>(w.heap.size≤k_)) ho0 (below_size (zz73 HB GE925 GE951)) (fun k_ h_=>h_)) (Kd.R_lt (zz8 HO_5))) (Kd.R_lt (zz8 HO_10))) (below_size (zz73 HB GE925 GE951)));replace HO_5:=A_ (Kd.R_elder' (zz8 HO_5) (Kd.R_base ho0) hb);replace HO_10:=A_ (Kd.R_elder' (zz8 HO_10) (Kd.R_base ho0) hb);replace BK925:=A_ (bB (zz15 BK925) hb);replace BK951:=A_ (bB (zz15 BK951) hb);replace HB:=A_ (bS (zz73 HB GE925 GE951) hb);(try clear hb)
         (try clear hb2)
         (try clear hk)
         (try clear hi)
         (try clear ho0)
         refine hK.out _ _ ⟨(blk_cell BK925.out 0).trans rfl,(blk_cell BK925.out 1).trans rfl,(blk_cell BK925.out 2).trans rfl,(blk_cell BK925.out 3).trans rfl,HS4_⟩ (fun hHeld=>?_);clear hK K;refine nZ 47 ?_;refine pureZ 6 (some 41) #[yT,yT,yT,yT,yT,yT,yT,yF,yF,yT,yF,yF] ?_;refine pureZ 7 (some 48) #[yT,yT,yT,yT,yT,yT,yT,yT,yF,yT,yF,yF] ?_;refine pureZ 8 (some 49) #[yT,yT,yT,yT,yT,yT,yT,yT,yT,yT,yF,yF] ?_;exact norm_ viaP (hCont (v946,gb951) _ ⟨hHeld,(zz238 HO947),(zz239 HO_10),(zz239 HO_5),(by (with_reducible repeat (first|apply Kd.V_alloc|apply Kd.V_drewN|apply Kd.V_drew));exact Kd.V_mono HO_926001.out (fun _ hk=>⟨hk.1.1.1,⟨hk.2,⟨hk.1.1.2.2.1,⟨hk.1.1.2.1,⟨hk.1.1.2.2.2,hk.1.2⟩⟩⟩⟩⟩)),(zz15 BK925),(zz15 BK951),GW951.out,GE951.out,NB925_951.out,NB951_925.out,(zz73 HB GE925 GE951)⟩)
       rintro ⟨v946,gb951⟩ w39 ⟨hS_,h0_,h1_,h2_,h3_,h4_,h5_,h6_,h7_,h8_,h9_,h10_⟩;have n0_:=A_ h0_;have n1_:=A_ h1_;have n2_:=A_ h2_;have n3_:=A_ h3_;have n4_:=A_ h4_;have n5_:=A_ h5_;have n6_:=A_ h6_;have n7_:=A_ h7_;have n8_:=A_ h8_;have n9_:=A_ h9_;have n10_:=A_ h10_;(try dsimp only at n0_ n1_ n2_ n3_ n4_ n5_ n6_ n7_ n8_ n9_ n10_)
       clear HO_5;clear HO_10;clear HO_926001;clear BK925;clear HB;clear h0_ h1_ h2_ h3_ h4_ h5_ h6_ h7_ h8_ h9_ h10_;have HO947:=n0_;have HO_10:=n1_;have HO_5:=n2_;have HO_926001:=n3_;have BK925:=n4_;have BK951:=n5_;have GW951:=n6_;have GE951:=n7_;have NB925_951:=n8_;have NB951_925:=n9_;have HB:=n10_;clear n0_ n1_ n2_ n3_ n4_ n5_ n6_ n7_ n8_ n9_ n10_;have hHeld:w39.cell? ⟨gb925,0,none⟩=some (.string x926000_11)∧w39.cell? ⟨gb925,1,none⟩=some (.slice Ao35 x926001_11.length co35)∧w39.cell? ⟨gb925,2,none⟩=some (.bool x926002_11)∧w39.cell? ⟨gb925,3,none⟩=some (.string x926003_11)∧w39.cell? (ad943.add (x11_2).toNat)=some (.string (rdOf ByteArray.empty t940 x11_2)):=hS_;obtain ⟨Ao41,co41,eo41⟩:=Kd.R_slice HO947.out;(first|subst eo41|(injection eo41 with f1_ f2_ f3_;have f4_:=f1_.symm;have f5_:=f3_.symm;clear f1_ f2_ f3_;subst f4_;subst f5_))
       refine norm_ (a':=?_) ?_ ?_;rotate_left
       ·simp only [putAll,Act.put,List.setIfInBounds_toArray,List.set_cons_zero,List.set_cons_succ]
        rfl
       refine oneZ 10 (none) #[yT,yT,yT,yT,yT,yT,yT,yT,yT,yT,yT,yF] (fun K hK=>?_);have hs40:w39.cell? ⟨gb951,0,none⟩=some (.string (⟨#[]⟩:ByteArray)):=(blk_cell BK951.out 0).trans rfl;have hfs40:=blk_frozen BK951.out 0;have hns40_0:=NB925_951.out;have hms40_0:=NB951_925.out;have hs42:w39.cell? ⟨gb951,1,none⟩=some (.slice none 0 0):=(blk_cell BK951.out 1).trans rfl;have hfs42:=blk_frozen BK951.out 1;have hns42_0:=NB925_951.out;have hms42_0:=NB951_925.out;have hs43:w39.cell? ⟨gb951,2,none⟩=some (.bool false):=(blk_cell BK951.out 2).trans rfl;have hfs43:=blk_frozen BK951.out 2;have hns43_0:=NB925_951.out;have hms43_0:=NB951_925.out;have hs44:w39.cell? ⟨gb951,3,none⟩=some (.string (⟨#[]⟩:ByteArray)):=(blk_cell BK951.out 3).trans rfl;have hfs44:=blk_frozen BK951.out 3;have hns44_0:=NB925_951.out;have hms44_0:=NB951_925.out;refine skip_ (w1:=?_) (by rfl) rfl ?_ ?_;rotate_left
       ·go_simp
        rfl
       refine hK.out _ _ ⟨((cell_far (p:=⟨gb951,_,none⟩) NB925_951.out _).trans (((cell_far (p:=⟨gb951,_,none⟩) NB925_951.out _).trans (((cell_far (p:=⟨gb951,_,none⟩) NB925_951.out _).trans (((cell_far (p:=⟨gb951,_,none⟩) NB925_951.out _).trans (hHeld.1)))))))),((cell_far (p:=⟨gb951,_,none⟩) NB925_951.out _).trans (((cell_far (p:=⟨gb951,_,none⟩) NB925_951.out _).trans (((cell_far (p:=⟨gb951,_,none⟩) NB925_951.out _).trans (((cell_far (p:=⟨gb951,_,none⟩) NB925_951.out _).trans (hHeld.2.1)))))))),((cell_far (p:=⟨gb951,_,none⟩) NB925_951.out _).trans (((cell_far (p:=⟨gb951,_,none⟩) NB925_951.out _).trans (((cell_far (p:=⟨gb951,_,none⟩) NB925_951.out _).trans (((cell_far (p:=⟨gb951,_,none⟩) NB925_951.out _).trans (hHeld.2.2.1)))))))),((cell_far (p:=⟨gb951,_,none⟩) NB925_951.out _).trans (((cell_far (p:=⟨gb951,_,none⟩) NB925_951.out _).trans (((cell_far (p:=⟨gb951,_,none⟩) NB925_951.out _).trans (((cell_far (p:=⟨gb951,_,none⟩) NB925_951.out _).trans (hHeld.2.2.2.1)))))))),((cell_far (p:=⟨gb951,_,none⟩) (zz148 HO_10 BK951) _).trans (((cell_far (p:=⟨gb951,_,none⟩) (zz148 HO_10 BK951) _).trans (((cell_far (p:=⟨gb951,_,none⟩) (zz148 HO_10 BK951) _).trans (((cell_far (p:=⟨gb951,_,none⟩) (zz148 HO_10 BK951) _).trans (hHeld.2.2.2.2))))))))⟩ (fun hHeld=>?_);clear hK K;refine pureZ 11 (some 13) #[yT,yT,yT,yT,yT,yT,yT,yT,yT,yT,yT,yT] ?_;refine done_ (done_of HT_.out (by kernel_rfl)) ?_;have n0_:Aside0 (Kd.R Kd.string 9 ((((w39.setCell ⟨gb951,0,none⟩ (.string t944)).setCell ⟨gb951,1,none⟩ (.slice Ao41 t945.length co41)).setCell ⟨gb951,2,none⟩ (.bool t948)).setCell ⟨gb951,3,none⟩ (.string t949)) w.heap.size (fun k_=>(w.heap.size≤k_)∧some k_≠(.slice (some ad943) t940.length co34:Value).ownBlock∧some k_≠(.slice Ao41 t945.length co41:Value).ownBlock) u5 x5_2):=⟨(zz47 (rt HO_5 BK951))⟩;have n1_:Aside0 (Kd.R Kd.string 9 ((((w39.setCell ⟨gb951,0,none⟩ (.string t944)).setCell ⟨gb951,1,none⟩ (.slice Ao41 t945.length co41)).setCell ⟨gb951,2,none⟩ (.bool t948)).setCell ⟨gb951,3,none⟩ (.string t949)) w.heap.size (fun k_=>(w.heap.size≤k_)∧some k_≠(u5:Value).ownBlock∧some k_≠(.slice Ao41 t945.length co41:Value).ownBlock) (.slice (some ad943) t940.length co34) t940):=⟨(zz47 (rt HO_10 BK951))⟩;have n2_:Aside0 (Kd.V Kd.string 9 ((((w39.setCell ⟨gb951,0,none⟩ (.string t944)).setCell ⟨gb951,1,none⟩ (.slice Ao41 t945.length co41)).setCell ⟨gb951,2,none⟩ (.bool t948)).setCell ⟨gb951,3,none⟩ (.string t949)) w.heap.size (fun k_=>(P0_1_ k_∨w.heap.size≤k_)∧some k_≠(u5:Value).ownBlock∧some k_≠(.slice (some ad943) t940.length co34:Value).ownBlock∧some k_≠(.slice Ao41 t945.length co41:Value).ownBlock∧k_≠gb925∧k_≠gb951) (.slice Ao35 x926001_11.length co35) x926001_11):=⟨(by (with_reducible repeat (first|apply Kd.V_alloc|apply Kd.V_drewN|apply Kd.V_drew));exact Kd.V_mono (Kd.V_far (p:=⟨gb951,3,none⟩) (Kd.V_far (p:=⟨gb951,2,none⟩) (Kd.V_far (p:=⟨gb951,1,none⟩) (Kd.V_far (p:=⟨gb951,0,none⟩) (Kd.V_mono HO_926001.out (fun k_ hk=>(⟨hk,hk.2.2.2.2.2⟩:_∧k_≠gb951))) (fun _ hk=>hk.2) (.string t944)) (fun _ hk=>hk.2) (.slice Ao41 t945.length co41)) (fun _ hk=>hk.2) (.bool t948)) (fun _ hk=>hk.2) (.string t949)) (fun _ hk=>⟨hk.1.1,⟨hk.1.2.2.2.1,⟨hk.1.2.2.1,⟨hk.1.2.1,⟨hk.1.2.2.2.2.1,hk.1.2.2.2.2.2⟩⟩⟩⟩⟩))⟩;have n3_:Aside0 (Kd.R Kd.string 9 ((((w39.setCell ⟨gb951,0,none⟩ (.string t944)).setCell ⟨gb951,1,none⟩ (.slice Ao41 t945.length co41)).setCell ⟨gb951,2,none⟩ (.bool t948)).setCell ⟨gb951,3,none⟩ (.string t949)) w.heap.size (fun k_=>(w.heap.size≤k_)∧some k_≠(u5:Value).ownBlock∧some k_≠(.slice (some ad943) t940.length co34:Value).ownBlock) (.slice Ao41 t945.length co41) t945):=⟨(zz47 (rt HO947 BK951))⟩;have n4_:Aside0 (((((w39.setCell ⟨gb951,0,none⟩ (.string t944)).setCell ⟨gb951,1,none⟩ (.slice Ao41 t945.length co41)).setCell ⟨gb951,2,none⟩ (.bool t948)).setCell ⟨gb951,3,none⟩ (.string t949)).heap[gb925]?=some (.cells #[.string x926000_11,.slice Ao35 x926001_11.length co35,.bool x926002_11,.string x926003_11] 39 (0,0))):=⟨(zz176 BK925 NB925_951)⟩;have n5_:Aside0 (((((w39.setCell ⟨gb951,0,none⟩ (.string t944)).setCell ⟨gb951,1,none⟩ (.slice Ao41 t945.length co41)).setCell ⟨gb951,2,none⟩ (.bool t948)).setCell ⟨gb951,3,none⟩ (.string t949)).heap[gb951]?=some (.cells #[.string t944,.slice Ao41 t945.length co41,.bool t948,.string t949] 39 (0,0))):=⟨(zz32 BK951)⟩;have n6_:Aside0 (Below w.heap.size w ((((w39.setCell ⟨gb951,0,none⟩ (.string t944)).setCell ⟨gb951,1,none⟩ (.slice Ao41 t945.length co41)).setCell ⟨gb951,2,none⟩ (.bool t948)).setCell ⟨gb951,3,none⟩ (.string t949))):=⟨(zz73 HB GE925 GE951)⟩;(try clear HO_5)
       (try clear HO_10)
       (try clear HO_926001)
       (try clear HO947)
       (try clear BK925)
       (try clear BK951)
       (try clear HB)
       generalize ((((w39.setCell ⟨gb951,0,none⟩ (.string t944)).setCell ⟨gb951,1,none⟩ (.slice Ao41 t945.length co41)).setCell ⟨gb951,2,none⟩ (.bool t948)).setCell ⟨gb951,3,none⟩ (.string t949))=w45 at n0_ n1_ n2_ n3_ n4_ n5_ n6_ ⊢;have HO_5:=n0_;have HO_10:=n1_;have HO_926001:=n2_;have HO947:=n3_;have BK925:=n4_;have BK951:=n5_;have HB:=n6_;clear n0_ n1_ n2_ n3_ n4_ n5_ n6_;go_upto_if 50 with (fail)
       obtain ⟨H⟩:=HF33;replace H:=iteB H;rcases H with ⟨rfl,H⟩|⟨rfl,H⟩
       ·replace H:=bindA H
        obtain ⟨t952,A47,H⟩:=H;replace H:=bindA H;obtain ⟨t953,A48,H⟩:=H;have H':=A_ H;clear H;have hnb49:=NB951_925.out;have hnc49:=NB925_951.out;obtain ⟨_,_,_,_,_,_,_,_⟩:=cf4 BK951;go_wp2_with (first|(refine gR 47 (some 53) Tryz.func47 (spec_AddrText.calls k2 t944 _ _ t945 t948 t949 t952 _ ?side1 ?side2 A47.out) ?_;(case side1=>exact (zz33 HO947));(case side2=>exact (Kd.R_reads' HO947.out).2.1);rintro w51 hb;replace HO_5:=A_ (rB (zz8 HO_5) hb);replace HO_10:=A_ (rB (zz8 HO_10) hb);replace HO_926001:=A_ (Kd.V_below (zz221 HO_926001) hb);replace HO947:=A_ (rB (zz8 HO947) hb);replace BK925:=A_ (bB (zz15 BK925) hb);replace BK951:=A_ (bB (zz15 BK951) hb);replace HB:=A_ (bS (zz73 HB GE925 GE951) hb);(try clear hb);obtain ⟨Ao52,co52,eo52⟩:=Kd.R_slice HO_5.out;subst eo52)|(refine gV 77 (some 54) Tryz.func77 (spec_l3Put.calls k2 (fun k_=>some k_=(.slice Ao52 x5_2.length co52:Value).ownBlock) (.slice Ao52 x5_2.length co52) x5_2 t952 t953 w _ ?side1 ?side2 A48.out) ?_;(case side1=>exact (zz73 HB GE925 GE951));(case side2=>exact Kd.R_tight rfl HO_5.out);rintro v954 w53 ⟨ho0,hb,hkp⟩;replace HO_926001:=A_ (Kd.V_mono (ok':=fun k_=>(P0_1_ k_∨w.heap.size≤k_)∧some k_≠(.slice (some ad943) t940.length co34:Value).ownBlock∧some k_≠(.slice Ao41 t945.length co41:Value).ownBlock∧k_≠gb925∧k_≠gb951∧some k_≠(v954:Value).ownBlock) (Kd.V_keptB (HO_926001.out) hkp (fun k_ hk_ hs_=>(hk_.2.1) hs_)) (fun k_ hk_=>⟨hk_.1.1,hk_.1.2.2.1,hk_.1.2.2.2.1,hk_.1.2.2.2.2.1,hk_.1.2.2.2.2.2,fun e_=>Or.elim (ho0.1 k_ e_.symm) (fun hs_=>hk_.2.1 hs_) (fun hn_=>Nat.not_le.2 hk_.2.2 hn_)⟩));replace BK925:=A_ (blk_kept (zz15 BK925) hkp (fun hs_=>(fun e_=>(Kd.R_ne HO_5.out BK925.out (by decide)) e_) hs_));replace BK951:=A_ (blk_kept (zz15 BK951) hkp (fun hs_=>(fun e_=>(Kd.R_ne HO_5.out BK951.out (by decide)) e_) hs_));have HO955:=A_ (Kd.R_mono (ok':=fun k_=>(w.heap.size≤k_)∧some k_≠(.slice (some ad943) t940.length co34:Value).ownBlock∧some k_≠(.slice Ao41 t945.length co41:Value).ownBlock) ho0 (fun k_ hk_=>⟨Or.elim hk_ (fun hs_=>(HO_5.out.1 k_ (hs_).symm).1) (fun hn_=>(Nat.le_trans (below_size (zz73 HB GE925 GE951)) hn_)),Or.elim hk_ (fun hs_=>fun e_=>(((HO_10.out).1 k_ e_.symm).2.1) hs_) (fun hn_=>(Kd.fresh' (Kd.R_lt (zz8 HO_10)) k_ hn_)),Or.elim hk_ (fun hs_=>fun e_=>(((HO947.out).1 k_ e_.symm).2.1) hs_) (fun hn_=>(Kd.fresh' (Kd.R_lt (zz8 HO947)) k_ hn_))⟩));replace HO_10:=A_ (Kd.R_mono (ok':=fun k_=>(w.heap.size≤k_)∧some k_≠(.slice Ao41 t945.length co41:Value).ownBlock∧some k_≠(v954:Value).ownBlock) (Kd.R_keptB (HO_10.out) hkp (fun k_ hk_ hs_=>(hk_.2.1) hs_)) (fun k_ hk_=>⟨hk_.1.1,hk_.1.2.2,fun e_=>Or.elim (ho0.1 k_ e_.symm) (fun hs_=>hk_.2.1 hs_) (fun hn_=>Nat.not_le.2 hk_.2.2 hn_)⟩));replace HO947:=A_ (Kd.R_mono (ok':=fun k_=>(w.heap.size≤k_)∧some k_≠(.slice (some ad943) t940.length co34:Value).ownBlock∧some k_≠(v954:Value).ownBlock) (Kd.R_keptB (HO947.out) hkp (fun k_ hk_ hs_=>(hk_.2.1) hs_)) (fun k_ hk_=>⟨hk_.1.1,hk_.1.2.2,fun e_=>Or.elim (ho0.1 k_ e_.symm) (fun hs_=>hk_.2.1 hs_) (fun hn_=>Nat.not_le.2 hk_.2.2 hn_)⟩));replace HB:=A_ (hb);clear HO_5;(try clear hb ho0)))
        go_roundg k2
        case measure=>have:=HJ11.out;have:=HK2.out;omega
        case rel=>exact ⟨(t953),(wrap64 (x11_2+1)),zz0,H',⟨(zz10 HJ11 HK2)⟩,⟨(zz243 HO955)⟩,⟨(by (with_reducible repeat (first|apply Kd.R_alloc|apply Kd.R_drewN|apply Kd.R_drew));exact Kd.R_mono HO_10.out (fun _ hk=>⟨hk.1,hk.2.2⟩))⟩,⟨(by (with_reducible repeat (first|apply Kd.V_alloc|apply Kd.V_drewN|apply Kd.V_drew));exact Kd.V_mono HO_926001.out (fun _ hk=>⟨hk.1,⟨hk.2.2.2.2.2,⟨hk.2.1,hk.2.2.2.1⟩⟩⟩))⟩,⟨(zz15 BK925)⟩,⟨(zz73 HB GE925 GE951)⟩⟩
       ·have H':=A_ H
        clear H;go_wp2
        go_roundg k2
        case measure=>have:=HJ11.out;have:=HK2.out;omega
        case rel=>exact ⟨(x5_2),(wrap64 (x11_2+1)),zz0,H',⟨(zz10 HJ11 HK2)⟩,⟨(zz243 HO_5)⟩,⟨(zz243 HO_10)⟩,⟨(by (with_reducible repeat (first|apply Kd.V_alloc|apply Kd.V_drewN|apply Kd.V_drew));exact Kd.V_mono HO_926001.out (fun _ hk=>⟨hk.1,⟨hk.2.1,⟨hk.2.2.1,hk.2.2.2.2.1⟩⟩⟩))⟩,⟨(zz15 BK925)⟩,⟨(zz73 HB GE925 GE951)⟩⟩
      ·obtain rfl:=sI H
       obtain ⟨Ao54,co54,eo54⟩:=Kd.R_slice HO_10.out;subst eo54;go_wp2
       go_ret
       exact ⟨_,zz12,(zz231 HO_5),(zz16 HB GE925)⟩
 ·obtain rfl:=sI H
  go_wp2
  go_ret
  exact ⟨_,zz12,(zz231 HO928),(zz16 HB GE925)⟩
def spec_l11From.f (k:Nat) (a0:ByteArray) (a1:Int) (a2:ByteArray):Option (List ByteArray):=if a1=1 then ((spec_AddrRead.f k a0).bind fun bt956=>((spec_PageAddrs.f k bt956.1 bt956.2.1 bt956.2.2.1 bt956.2.2.2.1 a2).bind fun t964=>(some t964))) else (if a1=2 then (some (([a2]:List ByteArray))) else (some (([]:List ByteArray))))
theorem spec_l11From.calls (k:Nat) (a0:ByteArray) (a1:Int) (a2:ByteArray) (r:List ByteArray) (w:World) (h:spec_l11From.f k a0 a1 a2=some r) :
  Calls Tryz.prog 30 #[.string a0,.int .i64 a1,.string a2] w fun e w'=>∃ v0_:Value,e=.returned (v0_)∧Kd.R Kd.string 9 w' w.heap.size (fun _=>True) v0_ r∧Below w.heap.size w w':=by
 have hu39:=Tryz.underlying39;have HB:=A_ (Below.refl w.heap.size w);unfold spec_l11From.f at h
 have H:=h;clear h;replace H:=iteEq H;rcases H with ⟨c4b0,c4b1,H⟩|⟨c4b0,c4b1,c4,H⟩
 ·replace H:=bindA H
  obtain ⟨⟨t956,t957,t960,t961,t962⟩,A5,H⟩:=H;try dsimp only at H
  replace H:=bindA H;obtain ⟨t964,A6,H⟩:=H;obtain rfl:=sI H;go_enter Tryz.func30,Tryz.ntmps30;go_wp2_with (first|(refine gV 46 (some 14) Tryz.func46 (spec_AddrRead.calls k a0 t956 t957 t960 t961 t962 _ A5.out) ?_;rintro v958 w7 ⟨ho0,hb⟩;have HO959:=A_ (Kd.R_lower ho0 (below_size (zz5 HB)));replace HB:=A_ (bS (zz5 HB) hb);(try clear hb ho0))|(refine boxF 7 #[.string (⟨#[]⟩:ByteArray),.slice none 0 0,.bool false,.string (⟨#[]⟩:ByteArray)] 39 ?_;intro gb963 hg w8 BK963 hb;replace HO959:=A_ (rB (zz8 HO959) hb);have GE963:=geB hg (zz5 HB);replace HB:=A_ (bS (zz5 HB) hb);clear hb hg;obtain ⟨_,_,_,_,_,_,_,_⟩:=cf4 BK963;obtain ⟨Ao10,co10,eo10⟩:=Kd.R_slice HO959.out;subst eo10)|((with_reducible refine gate_store (t:=39) (p:=7) rfl ?_);refine store_event (t:=39) (p:=7) (v:=?vo_w11) (w1:=((((w8.setCell ⟨gb963,0,none⟩ (.string t956)).setCell ⟨gb963,1,none⟩ (.slice Ao10 t957.length co10)).setCell ⟨gb963,2,none⟩ (.bool t960)).setCell ⟨gb963,3,none⟩ (.string t961))) ?hg ?ho ?hn ?hr ?_;(case ho=>rfl);(case hg=>rfl);(case hn=>rfl);(case hr=>exact zz26);intro w11 hw;have n0_:Aside0 (Kd.R Kd.string 9 w11 w.heap.size (fun _=>True) (.slice Ao10 t957.length co10) t957):=⟨(by rw [hw];exact (zz47 (rt HO959 BK963)))⟩;have n1_:Aside0 (w11.heap[gb963]?=some (.cells #[.string t956,.slice Ao10 t957.length co10,.bool t960,.string t961] 39 (0,0))):=⟨(by rw [hw];exact (zz32 BK963))⟩;have n2_:Aside0 (Below w.heap.size w w11):=⟨(by rw [hw];exact (zz16 HB GE963))⟩;clear hw;clear HO959;clear BK963;clear HB;have HO959:=n0_;have BK963:=n1_;have HB:=n2_;clear n0_ n1_ n2_;obtain ⟨_,_,_,_,_,_,_,_⟩:=cf4 BK963)|(refine gV 51 (some 19) Tryz.func51 (spec_PageAddrs.calls k t956 (fun k_=>some k_=(.slice Ao10 t957.length co10:Value).ownBlock) _ _ t957 t960 t961 a2 t964 _ ?side1 A6.out) ?_;(case side1=>exact Kd.R_V (Kd.R_tight rfl (Kd.R_types (HO959.out) BK963.out (by decide))));rintro v965 w13 ⟨ho0,hb⟩;have HO966:=A_ (Kd.R_lower (Kd.R_new' (Kd.R_mono (ok':=fun k_=>True) ho0 (fun _ hk_=>trivial)) (Kd.R_lt (zz8 HO959))) (below_size (zz16 HB GE963)));replace HO959:=A_ (Kd.R_elder' (zz8 HO959) (Kd.R_base ho0) hb);replace BK963:=A_ (bB (zz15 BK963) hb);replace HB:=A_ (bS (zz16 HB GE963) hb);(try clear hb ho0)))
  go_ret
  exact ⟨_,zz12,(zz97 HO966),(zz16 HB GE963)⟩
 ·replace H:=iteEq H
  rcases H with ⟨c14b0,c14b1,H⟩|⟨c14b0,c14b1,c14,H⟩
  ·obtain ⟨y967,Ny967⟩:=toY (([a2]:List ByteArray))
   (first|with_reducible replace H:=bindZ Ny967 H|rw [← Ny967.out] at H|skip)
   obtain rfl:=sI H;go_enter Tryz.func30,Tryz.ntmps30;go_wp2_with (first|((with_reducible refine gD (N:=23) rfl ?_);refine Kd.R_lit Kd.string _ 9 ?hg (N:=23) ?hd (xs:=([a2]:List ByteArray)) (inner:=[.string a2]) (ok:=fun _=>True) (okp:=fun _=>True) ?hr ?hp (fun _ hk=>hk) trivial (Below.refl _ _) (Nat.le_refl _) (by simp) ?_;(case hd=>rfl);(case hg=>rfl);(case hr=>exact zz26);(case hp=>exact (Reps.one (show Kd.M Kd.string _ _ _ a2 [.string a2] from rfl) (Reps.none _ _)));intro v968 w15 ho16 hb hg_ hnew_;clear hg_ hnew_;(first|rw [← Ny967.out] at ho16|(simp only [Int.reduceToNat] at ho16;rw [← Ny967.out] at ho16));have HO969:=A_ (Kd.R_lower ho16 (below_size (zz5 HB)));replace HB:=A_ (bS (zz5 HB) hb);clear hb ho16))
   go_ret
   exact ⟨_,zz12,(zz8 HO969),(zz5 HB)⟩
  ·obtain ⟨y970,Ny970⟩:=toY (([]:List ByteArray))
   (first|with_reducible replace H:=bindZ Ny970 H|rw [← Ny970.out] at H|skip)
   obtain rfl:=sI H;go_enter Tryz.func30,Tryz.ntmps30;go_wp2_with (first|((with_reducible refine gD (N:=24) rfl ?_);refine Kd.R_lit Kd.string _ 9 ?hg (N:=24) ?hd (xs:=([]:List ByteArray)) (inner:=[]) (ok:=fun _=>True) (okp:=fun _=>True) ?hr ?hp (fun _ hk=>hk) trivial (Below.refl _ _) (Nat.le_refl _) (by simp) ?_;(case hd=>rfl);(case hg=>rfl);(case hr=>exact zz26);(case hp=>exact (Reps.none _ _));intro v971 w17 ho18 hb hg_ hnew_;clear hg_ hnew_;(first|rw [← Ny970.out] at ho18|(simp only [Int.reduceToNat] at ho18;rw [← Ny970.out] at ho18));have HO972:=A_ (Kd.R_lower ho18 (below_size (zz5 HB)));replace HB:=A_ (bS (zz5 HB) hb);clear hb ho18))
   go_ret
   exact ⟨_,zz12,(zz8 HO972),(zz5 HB)⟩
def spec_WorldFrom.j0:Nat→List (S30)→ByteArray→Bool→Option (List ByteArray)
 | 0,_,_,_=>none
 | k+1,x0,x1,x14=>if x14=true then (some (([]:List ByteArray))) else ((spec_l11Last.f k x0 x1).bind fun bt978=>((spec_l11From.f k x1 bt978.1 bt978.2).bind fun t980=>(some t980)))
def spec_WorldFrom.f (k:Nat) (l0:List (S30)) (a1:ByteArray):Option (List ByteArray):=(spec_WorldOk.f k l0).bind fun t973=>(if t973=true then ((spec_l11Norm.f k a1).bind fun t974=>(spec_WorldFrom.j0 k l0 a1 (!t974))) else (spec_WorldFrom.j0 k l0 a1 true))
theorem spec_WorldFrom.calls (k:Nat) (A0:Option Addr) (c0:Nat) (l0:List (S30)) (a1:ByteArray) (r:List ByteArray) (w:World) (hr0:Kd.C k30 w A0 l0.length l0) (hc0:l0.length≤c0) (h:spec_WorldFrom.f k l0 a1=some r) :
  Calls Tryz.prog 14 #[.slice A0 l0.length c0,.string a1] w fun e w'=>∃ v0_:Value,e=.returned (v0_)∧Kd.R Kd.string 9 w' w.heap.size (fun _=>True) v0_ r∧Below w.heap.size w w':=by
 have HR0:=A_ hr0;have HC0:=A_ hc0;clear hr0 hc0;have HB:=A_ (Below.refl w.heap.size w);unfold spec_WorldFrom.f at h
 have H:=h;clear h;have HC3:=A_ H;clear H;go_enter Tryz.func14,Tryz.ntmps14;go_upto_region 1 with (fail)
 go_cut [14] (fun v14 wc=>∃ (kq:Nat) (x14_2:Bool),v14=.bool x14_2∧Aside0 (spec_WorldFrom.j0 kq l0 a1 x14_2=some r)∧Aside0 (kq≤k)∧Aside0 (Below w.heap.size w wc))
 case first=>
  obtain ⟨H⟩:=HC3;replace H:=bindA H;obtain ⟨t973,A4,H⟩:=H;have HF5:=A_ H;clear H;go_wp2_with (first|(refine gR 10 (some 8) Tryz.func10 (spec_WorldOk.calls k _ _ l0 t973 _ ?side1 ?side2 A4.out) ?_;(case side1=>exact (zz98 HR0 HB));(case side2=>exact HC0.out);rintro w6 hb;replace HB:=A_ (bS (zz5 HB) hb);(try clear hb))|((with_reducible refine atG ?_ ?_ fun K_ hK_=>?_);rfl;exact undecG)|((with_reducible refine atI ?_ fun K_ hK_=>?_);exact undecI))
  refine unG hK_ ?_;clear hK_ K_;obtain ⟨H⟩:=HF5;replace H:=iteB H;rcases H with ⟨rfl,H⟩|⟨rfl,H⟩
  ·(first|refine iteT ?_|refine iteF ?_|skip)
   replace H:=bindA H;obtain ⟨t974,A8,H⟩:=H;have H':=A_ H;clear H;(try ((with_reducible refine upS ?_);go_simp))
   go_wp2_with (first|(go_at_call 26;(with_reducible refine (spec_l11Norm.calls k a1 t974 _ A8.out).mono ?_);rintro e w9 ⟨rfl,hb⟩;replace HB:=A_ (bS (zz5 HB) hb);(try clear hb)))
   go_meet
   case rel=>exact ⟨_,(!t974),zz0,H',⟨zz17⟩,⟨(zz5 HB)⟩⟩
  ·(first|refine iteT ?_|refine iteF ?_|skip)
   have H':=A_ H;clear H;(try ((with_reducible refine upS ?_);go_simp))
   go_wp2
   go_meet
   case rel=>exact ⟨_,(true),zz0,H',⟨zz17⟩,⟨(zz5 HB)⟩⟩
 case rest=>
  clear HC3;obtain ⟨kq,x14_2,rfl,HA,HJ2,HB⟩:=hcut;cases kq with
  | zero=>exact absurd HA.out (by simp [spec_WorldFrom.j0])
  | succ kj2=>
   obtain ⟨H⟩:=HA;simp only [spec_WorldFrom.j0] at H
   replace H:=iteB H;rcases H with ⟨rfl,H⟩|⟨rfl,H⟩
   ·obtain ⟨y975,Ny975,H⟩:=bindY H
    obtain rfl:=sI H;go_wp2_with (first|((with_reducible refine gD (N:=15) rfl ?_);refine Kd.R_lit Kd.string _ 9 ?hg (N:=15) ?hd (xs:=([]:List ByteArray)) (inner:=[]) (ok:=fun _=>True) (okp:=fun _=>True) ?hr ?hp (fun _ hk=>hk) trivial (Below.refl _ _) (Nat.le_refl _) (by simp) ?_;(case hd=>rfl);(case hg=>rfl);(case hr=>exact zz26);(case hp=>exact (Reps.none _ _));intro v976 w11 ho12 hb hg_ hnew_;clear hg_ hnew_;(first|rw [← Ny975.out] at ho12|(simp only [Int.reduceToNat] at ho12;rw [← Ny975.out] at ho12));have HO977:=A_ (Kd.R_lower ho12 (below_size (zz5 HB)));replace HB:=A_ (bS (zz5 HB) hb);clear hb ho12))
    go_ret
    exact ⟨_,zz12,(zz8 HO977),(zz5 HB)⟩
   ·replace H:=bindA H
    obtain ⟨⟨t978,t979⟩,A13,H⟩:=H;try dsimp only at H
    replace H:=bindA H;obtain ⟨t980,A14,H⟩:=H;obtain rfl:=sI H;go_wp2_with (first|(refine gR 29 (some 19) Tryz.func29 (spec_l11Last.calls kj2 _ _ l0 a1 t978 t979 _ ?side1 ?side2 A13.out) ?_;(case side1=>exact (zz98 HR0 HB));(case side2=>exact HC0.out);rintro w15 hb;replace HB:=A_ (bS (zz5 HB) hb);(try clear hb))|(refine gV 30 (some 25) Tryz.func30 (spec_l11From.calls kj2 a1 t978 t979 t980 _ A14.out) ?_;rintro v981 w16 ⟨ho0,hb⟩;have HO982:=A_ (Kd.R_lower ho0 (below_size (zz5 HB)));replace HB:=A_ (bS (zz5 HB) hb);(try clear hb ho0)))
    go_ret
    exact ⟨_,zz12,(zz8 HO982),(zz5 HB)⟩
def impl_isNormal.f (k:Nat) (a0:ByteArray):Option (Bool):=(impl_EscNorm.f k a0).bind fun bt592=>(if bt592.2=true then (some (bt592.1.toList == a0.toList)) else (some false))
theorem impl_isNormal.mono:∀ a0 k,LeO (impl_isNormal.f k a0) (impl_isNormal.f (k+1) a0):=by
 intro a0 k;unfold impl_isNormal.f
 repeat' first|(with_reducible first|exact impl_EscNorm.mono _ _|exact LeO.refl _|exact LeO.none _|refine LeO.ite ?_ ?_|refine LeO.bind ?_ (fun _=>?_))|exact LeO.none _|refine LeO.ite ?_ ?_|refine LeO.bind ?_ (fun _=>?_)
theorem impl_isNormal.calls (k:Nat) (a0:ByteArray) (r:Bool) (w:World) (h:impl_isNormal.f k a0=some r) :
  Calls Tryz.prog 58 #[.string a0] w fun e w'=>e=.returned (.bool r)∧Below w.heap.size w w':=by
 have HB:=A_ (Below.refl w.heap.size w);unfold impl_isNormal.f at h
 have H:=h;clear h;replace H:=bindA H;obtain ⟨⟨t592,t593⟩,A2,H⟩:=H;try dsimp only at H
 have HF3:=A_ H;clear H;go_enter Tryz.func58,Tryz.ntmps58;go_wp2_with (first|(refine gR 84 (some 7) Tryz.func84 (impl_EscNorm.calls k a0 t592 t593 _ A2.out) ?_;rintro w4 hb;replace HB:=A_ (bS (zz5 HB) hb);(try clear hb))|((with_reducible refine atG ?_ ?_ fun K_ hK_=>?_);rfl;exact undecG)|((with_reducible refine atI ?_ fun K_ hK_=>?_);exact undecI))
 refine unG hK_ ?_;clear hK_ K_;obtain ⟨H⟩:=HF3;replace H:=iteB H;rcases H with ⟨rfl,H⟩|⟨rfl,H⟩
 ·(first|refine iteT ?_|refine iteF ?_|skip)
  obtain rfl:=sI H;(try ((with_reducible refine upS ?_);go_simp))
  go_wp2
  go_ret
  exact ⟨zz12,(zz5 HB)⟩
 ·(first|refine iteT ?_|refine iteF ?_|skip)
  obtain rfl:=sI H;(try ((with_reducible refine upS ?_);go_simp))
  go_wp2
  go_ret
  exact ⟨zz12,(zz5 HB)⟩
def strings_Split.f (k:Nat) (a0:ByteArray) (a1:ByteArray):Option (List ByteArray):=(strings_genSplit.f k a0 a1 0 (-1)).bind fun t619=>(some t619)
theorem strings_Split.mono:∀ a0 a1 k,LeO (strings_Split.f k a0 a1) (strings_Split.f (k+1) a0 a1):=by
 intro a0 a1 k;unfold strings_Split.f
 repeat' first|(with_reducible first|exact strings_genSplit.mono _ _ _ _ _|exact LeO.refl _|exact LeO.none _|refine LeO.ite ?_ ?_|refine LeO.bind ?_ (fun _=>?_))|exact LeO.none _|refine LeO.ite ?_ ?_|refine LeO.bind ?_ (fun _=>?_)
theorem strings_Split.calls (k:Nat) (a0:ByteArray) (a1:ByteArray) (r:List ByteArray) (w:World) (h:strings_Split.f k a0 a1=some r) :
  Calls Tryz.prog 85 #[.string a0,.string a1] w fun e w'=>∃ v0_:Value,e=.returned (v0_)∧Kd.R Kd.string 9 w' w.heap.size (fun _=>True) v0_ r∧Below w.heap.size w w':=by
 have HB:=A_ (Below.refl w.heap.size w);unfold strings_Split.f at h
 have H:=h;clear h;replace H:=bindA H;obtain ⟨t619,A3,H⟩:=H;obtain rfl:=sI H;go_enter Tryz.func85,Tryz.ntmps85;go_wp2_with (first|(refine gV 112 (some 7) Tryz.func112 (strings_genSplit.calls k a0 a1 0 (-1) t619 _ A3.out) ?_;rintro v620 w4 ⟨ho0,hb⟩;have HO621:=A_ (Kd.R_lower ho0 (below_size (zz5 HB)));replace HB:=A_ (bS (zz5 HB) hb);(try clear hb ho0)))
 go_ret
 exact ⟨_,zz12,(zz8 HO621),(zz5 HB)⟩
mutual
def impl_AddrOk.j0:Nat→Bool→ByteArray→List ByteArray→Bool→ByteArray→Option (Bool)
 | 0,_,_,_,_,_=>none
 | k+1,x14,x595000,x595001,x595002,x595003=>if x14=true then (some false) else (impl_AddrOk.l0 k x595001 (x595001.length:Int) 0 x595000 x595001 x595002 x595003)
def impl_AddrOk.l0:Nat→List ByteArray→Int→Int→ByteArray→List ByteArray→Bool→ByteArray→Option (Bool)
 | 0,_,_,_,_,_,_,_=>none
 | k+1,x16,x17,x18,x595000,x595001,x595002,x595003=>if x18 < x17 then (if 0≤x18 then (if x18 < (x16.length:Int) then (if (rdOf ByteArray.empty x16 x18).toList=([]:List UInt8) then (some false) else (if (rdOf ByteArray.empty x16 x18).toList=([46]:List UInt8) then (some false) else (if (rdOf ByteArray.empty x16 x18).toList=([46,46]:List UInt8) then (some false) else ((impl_isNormal.f k (rdOf ByteArray.empty x16 x18)).bind fun t597=>(if t597=true then (impl_AddrOk.l0 k x16 x17 (wrap64 (x18+1)) x595000 x595001 x595002 x595003) else (some false)))))) else (none)) else (none)) else ((impl_isNormal.f k x595003).bind fun t598=>(if t598=true then (if x595002=true then ((impl_writeAddr.f x595000 x595001 x595002 x595003).bind fun t599=>(some (decide ((t599.size:Int)≤60)))) else (if x595003.toList=([]:List UInt8) then ((impl_writeAddr.f x595000 x595001 x595002 x595003).bind fun t600=>(some (decide ((t600.size:Int)≤60)))) else (some false))) else (some false)))
end
def impl_AddrOk.f (k:Nat) (a0_0:ByteArray) (l0_1:List ByteArray) (a0_2:Bool) (a0_3:ByteArray):Option (Bool):=(impl_isHouse.f k a0_0).bind fun t595=>(if t595=true then (impl_AddrOk.j0 k (decide ((l0_1.length:Int) > 5)) a0_0 l0_1 a0_2 a0_3) else (impl_AddrOk.j0 k true a0_0 l0_1 a0_2 a0_3))
theorem impl_AddrOk.mono_l:∀ k,(∀ y0 y1 y2 y3 y4,LeO (impl_AddrOk.j0 k y0 y1 y2 y3 y4) (impl_AddrOk.j0 (k+1) y0 y1 y2 y3 y4))∧(∀ y0 y1 y2 y3 y4 y5 y6,LeO (impl_AddrOk.l0 k y0 y1 y2 y3 y4 y5 y6) (impl_AddrOk.l0 (k+1) y0 y1 y2 y3 y4 y5 y6))
 | 0=>by refine ⟨?_,?_⟩ <;> (intros;intro r h;simp [impl_AddrOk.j0,impl_AddrOk.l0] at h)
 | k+1=>by
  obtain ⟨ih0,ih1⟩:=impl_AddrOk.mono_l k;refine ⟨?_,?_⟩ <;> intros <;> (first|unfold impl_AddrOk.j0|unfold impl_AddrOk.l0) <;>
  repeat' first|(with_reducible first|exact ih0 _ _ _ _ _|exact ih1 _ _ _ _ _ _ _|exact impl_isHouse.mono _ _|exact impl_isNormal.mono _ _|exact LeO.refl _|exact LeO.none _|refine LeO.ite ?_ ?_|refine LeO.bind ?_ (fun _=>?_))|exact LeO.none _|refine LeO.ite ?_ ?_|refine LeO.bind ?_ (fun _=>?_)
theorem impl_AddrOk.mono:∀ a0 a1 a2 a3 k,LeO (impl_AddrOk.f k a0 a1 a2 a3) (impl_AddrOk.f (k+1) a0 a1 a2 a3):=by
 intro a0 a1 a2 a3 k;obtain ⟨ih0,ih1⟩:=impl_AddrOk.mono_l k;unfold impl_AddrOk.f
 repeat' first|(with_reducible first|exact ih0 _ _ _ _ _|exact ih1 _ _ _ _ _ _ _|exact impl_isHouse.mono _ _|exact impl_isNormal.mono _ _|exact LeO.refl _|exact LeO.none _|refine LeO.ite ?_ ?_|refine LeO.bind ?_ (fun _=>?_))|exact LeO.none _|refine LeO.ite ?_ ?_|refine LeO.bind ?_ (fun _=>?_)
theorem impl_AddrOk.calls (k:Nat) (a0_0:ByteArray) (A0_1:Option Addr) (c0_1:Nat) (l0_1:List ByteArray) (a0_2:Bool) (a0_3:ByteArray) (r:Bool) (w:World) (hr0_1:Kd.C Kd.string w A0_1 l0_1.length l0_1) (hc0_1:l0_1.length≤c0_1) (h:impl_AddrOk.f k a0_0 l0_1 a0_2 a0_3=some r) :
  Calls Tryz.prog 33 #[.agg #[.string a0_0,.slice A0_1 l0_1.length c0_1,.bool a0_2,.string a0_3]] w fun e w'=>e=.returned (.bool r)∧Below w.heap.size w w':=by
 have hu39:=Tryz.underlying39;have HR0_1:=A_ hr0_1;have HC0_1:=A_ hc0_1;clear hr0_1 hc0_1;have HB:=A_ (Below.refl w.heap.size w);unfold impl_AddrOk.f at h
 have H:=h;clear h;have HC2:=A_ H;clear H;go_enter Tryz.func33,Tryz.ntmps33;go_upto_region 1 with (first|((with_reducible refine gD (N:=1) rfl ?_);(try (refine gate_guard (by rfl) ?_;dsimp only));refine boxE 1 #[.string a0_0,.slice A0_1 l0_1.length c0_1,.bool a0_2,.string a0_3] 39 ?_;intro gb594 hg w3 hbox hb;have BK594:=A_ (hbox);have GE594:=geB hg (zz5 HB);replace HB:=A_ (bS (zz5 HB) hb);clear hb hbox hg))
 (try simp only [Act.put,List.setIfInBounds_toArray,List.set_cons_zero,List.set_cons_succ])
 go_cut [14] (fun v14 wc=>∃ (kq:Nat) (x14_1:Bool),v14=.bool x14_1∧Aside0 (impl_AddrOk.j0 kq x14_1 a0_0 l0_1 a0_2 a0_3=some r)∧Aside0 (kq≤k)∧Aside0 (wc.heap[gb594]?=some (.cells #[.string a0_0,(.slice A0_1 l0_1.length c0_1),.bool a0_2,.string a0_3] 39 (0,0)))∧Aside0 (Below w.heap.size w wc))
 case first=>
  obtain ⟨H⟩:=HC2;replace H:=bindA H;obtain ⟨t595,A4,H⟩:=H;have HF5:=A_ H;clear H;obtain ⟨_,_,_,_,_,_,_,_⟩:=cf4 BK594;go_wp2_with (first|(refine gR 57 (some 7) Tryz.func57 (impl_isHouse.calls k a0_0 t595 _ A4.out) ?_;rintro w' ⟨nd,rfl⟩)|((with_reducible refine atG ?_ ?_ fun K_ hK_=>?_);rfl;exact undecG)|((with_reducible refine atI ?_ fun K_ hK_=>?_);exact undecI))
  refine unG hK_ ?_;clear hK_ K_;obtain ⟨H⟩:=HF5;replace H:=iteB H;rcases H with ⟨rfl,H⟩|⟨rfl,H⟩
  ·(first|refine iteT ?_|refine iteF ?_|skip)
   have H':=A_ H;clear H;obtain ⟨_,_,_,_,_,_,_,_⟩:=cf4 BK594;(try ((with_reducible refine upS ?_);go_simp))
   go_wp2
   go_meet
   case rel=>exact ⟨_,(decide ((l0_1.length:Int) > 5)),zz0,H',⟨zz17⟩,⟨(zz15 BK594)⟩,⟨(zz16 HB GE594)⟩⟩
  ·(first|refine iteT ?_|refine iteF ?_|skip)
   have H':=A_ H;clear H;(try ((with_reducible refine upS ?_);go_simp))
   go_wp2
   go_meet
   case rel=>exact ⟨_,(true),zz0,H',⟨zz17⟩,⟨(zz15 BK594)⟩,⟨(zz16 HB GE594)⟩⟩
 case rest=>
  clear HC2;obtain ⟨kq,x14_1,rfl,HA,HJ1,BK594,HB⟩:=hcut;cases kq with
  | zero=>exact absurd HA.out (by simp [impl_AddrOk.j0])
  | succ kj1=>
   obtain ⟨H⟩:=HA;simp only [impl_AddrOk.j0] at H
   replace H:=iteB H;rcases H with ⟨rfl,H⟩|⟨rfl,H⟩
   ·obtain rfl:=sI H
    go_wp2
    go_ret
    exact ⟨zz12,(zz16 HB GE594)⟩
   ·have H':=A_ H
    clear H;obtain ⟨_,_,_,_,_,_,_,_⟩:=cf4 BK594;go_wp2
    go_loopg [18] kj1 (fun kq v18 w'=>∃ (x18_2:Int),v18=.int .i64 x18_2∧Aside0 (impl_AddrOk.l0 kq l0_1 (l0_1.length:Int) x18_2 a0_0 l0_1 a0_2 a0_3=some r)∧Aside0 (kq≤kj1)∧Aside0 (w'.heap[gb594]?=some (.cells #[.string a0_0,(.slice A0_1 l0_1.length c0_1),.bool a0_2,.string a0_3] 39 (0,0)))∧Aside0 (Below w.heap.size w w'))
    case atStart=>exact ⟨(0),zz0,H',⟨Nat.le_refl _⟩,⟨(zz15 BK594)⟩,⟨(zz16 HB GE594)⟩⟩
    case round=>
     clear H';obtain ⟨x18_2,rfl,HA,HK2,BK594,HB⟩:=hrel;cases gk with
     | zero=>exact absurd HA.out (by simp [impl_AddrOk.l0])
     | succ k2=>
      obtain ⟨H⟩:=HA;simp only [impl_AddrOk.l0] at H
      replace H:=iteEd H;rcases H with ⟨c11b0,H⟩|⟨c11b0,H⟩
      ·replace H:=iteNd H
       obtain ⟨c12b0,H⟩:=H;replace H:=iteNd H;obtain ⟨c13b0,H⟩:=H;replace H:=iteEq H;rcases H with ⟨c14b0,c14b1,H⟩|⟨c14b0,c14b1,c14,H⟩
       ·obtain rfl:=sI H
        obtain ⟨⟨ad596,e596,hx596_0⟩,p596,q596⟩:=atB (Kd.at_string HR0_1.out x18_2);cases e596
        replace hx596_0:=cbl HB hx596_0;go_wp2
        go_ret
        exact ⟨zz12,(zz16 HB GE594)⟩
       ·replace H:=iteEq H
        rcases H with ⟨c15b0,c15b1,H⟩|⟨c15b0,c15b1,c15,H⟩
        ·obtain rfl:=sI H
         obtain ⟨⟨ad596,e596,hx596_0⟩,p596,q596⟩:=atB (Kd.at_string HR0_1.out x18_2);cases e596
         replace hx596_0:=cbl HB hx596_0;go_wp2
         go_ret
         exact ⟨zz12,(zz16 HB GE594)⟩
        ·replace H:=iteEq H
         rcases H with ⟨c16b0,c16b1,H⟩|⟨c16b0,c16b1,c16,H⟩
         ·obtain rfl:=sI H
          obtain ⟨⟨ad596,e596,hx596_0⟩,p596,q596⟩:=atB (Kd.at_string HR0_1.out x18_2);cases e596
          replace hx596_0:=cbl HB hx596_0;go_wp2
          go_ret
          exact ⟨zz12,(zz16 HB GE594)⟩
         ·replace H:=bindA H
          obtain ⟨t597,A17,H⟩:=H;have HF18:=A_ H;clear H;obtain ⟨⟨ad596,e596,hx596_0⟩,p596,q596⟩:=atB (Kd.at_string HR0_1.out x18_2);cases e596
          replace hx596_0:=cbl HB hx596_0;go_upto_if 36 with (first|(go_at_call 58;(with_reducible refine (impl_isNormal.calls k2 (rdOf ByteArray.empty l0_1 x18_2) t597 _ A17.out).mono ?_);rintro e w19 ⟨rfl,hb⟩;replace BK594:=A_ (bB (zz15 BK594) hb);replace HB:=A_ (bS (zz16 HB GE594) hb);(try clear hb)))
          obtain ⟨H⟩:=HF18;replace H:=iteB H;rcases H with ⟨rfl,H⟩|⟨rfl,H⟩
          ·have H':=A_ H
           clear H;go_wp2
           go_roundg k2
           case measure=>have:=HJ1.out;have:=HK2.out;omega
           case rel=>exact ⟨(wrap64 (x18_2+1)),zz0,H',⟨(zz10 HJ1 HK2)⟩,⟨(zz15 BK594)⟩,⟨(zz16 HB GE594)⟩⟩
          ·obtain rfl:=sI H
           go_wp2
           go_ret
           exact ⟨zz12,(zz16 HB GE594)⟩
      ·replace H:=bindA H
       obtain ⟨t598,A21,H⟩:=H;have HF22:=A_ H;clear H;obtain ⟨_,_,_,_,_,_,_,_⟩:=cf4 BK594;go_wp2_with (first|(refine gR 58 (some 40) Tryz.func58 (impl_isNormal.calls k2 a0_3 t598 _ A21.out) ?_;rintro w24 hb;replace BK594:=A_ (bB (zz15 BK594) hb);replace HB:=A_ (bS (zz16 HB GE594) hb);(try clear hb))|((with_reducible refine atG ?_ ?_ fun K_ hK_=>?_);rfl;exact undecG)|((with_reducible refine atI ?_ fun K_ hK_=>?_);exact undecI))
       refine unG hK_ ?_;clear hK_ K_;obtain ⟨H⟩:=HF22;replace H:=iteB H;rcases H with ⟨rfl,H⟩|⟨rfl,H⟩
       ·(first|refine iteT ?_|refine iteF ?_|skip)
        replace H:=iteB H;rcases H with ⟨rfl,H⟩|⟨rfl,H⟩
        ·replace H:=bindA H
         obtain ⟨t599,A27,H⟩:=H;obtain rfl:=sI H;obtain ⟨_,_,_,_,_,_,_,_⟩:=cf4 BK594;go_wp2_with (first|(refine gR 38 (some 53) Tryz.func38 (impl_writeAddr.calls a0_0 _ _ l0_1 true a0_3 t599 _ ?side1 ?side2 A27.out) ?_;(case side1=>exact (zz98 HR0_1 HB));(case side2=>exact HC0_1.out);rintro w29 hb;replace BK594:=A_ (bB (zz15 BK594) hb);replace HB:=A_ (bS (zz16 HB GE594) hb);(try clear hb)))
         go_ret
         exact ⟨zz12,(zz16 HB GE594)⟩
        ·replace H:=iteE H
         rcases H with ⟨c30,H⟩|⟨c30,H⟩
         ·obtain ⟨c30b0,c30b1⟩:=eqT c30
          clear c30;replace H:=bindA H;obtain ⟨t600,A31,H⟩:=H;obtain rfl:=sI H;obtain ⟨_,_,_,_,_,_,_,_⟩:=cf4 BK594;go_wp2_with (first|(refine gR 38 (some 53) Tryz.func38 (impl_writeAddr.calls a0_0 _ _ l0_1 false a0_3 t600 _ ?side1 ?side2 A31.out) ?_;(case side1=>exact (zz98 HR0_1 HB));(case side2=>exact HC0_1.out);rintro w33 hb;replace BK594:=A_ (bB (zz15 BK594) hb);replace HB:=A_ (bS (zz16 HB GE594) hb);(try clear hb)))
          go_ret
          exact ⟨zz12,(zz16 HB GE594)⟩
         ·obtain ⟨c30b0,c30b1⟩:=eqF c30
          obtain rfl:=sI H;obtain ⟨_,_,_,_,_,_,_,_⟩:=cf4 BK594;go_wp2
          go_ret
          exact ⟨zz12,(zz16 HB GE594)⟩
       ·(first|refine iteT ?_|refine iteF ?_|skip)
        obtain rfl:=sI H;(try ((with_reducible refine upS ?_);go_simp))
        go_wp2
        go_ret
        exact ⟨zz12,(zz16 HB GE594)⟩
def impl_readWay.l0:Nat→ByteArray→ByteArray→Bool→List ByteArray→List ByteArray→Int→Int→Option (ByteArray×List ByteArray×Bool×ByteArray×Bool)
 | 0,_,_,_,_,_,_,_=>none
 | k+1,x0,x9,x10,x12,x35,x36,x37=>if x37 < x36 then (if 0≤x37 then (if x37 < (x35.length:Int) then ((impl_EscNorm.f k (rdOf ByteArray.empty x35 x37)).bind fun bt642=>(if bt642.2=true then (if x12.length < 8796093022208 then (impl_readWay.l0 k x0 x9 x10 (x12++[bt642.1]) x35 x36 (wrap64 (x37+1))) else (none)) else (some ((⟨#[]⟩:ByteArray),([]:List ByteArray),false,(⟨#[]⟩:ByteArray),false)))) else (none)) else (none)) else ((impl_PathClean.f k x12).bind fun t647=>((impl_AddrOk.f k x0 t647 x10 x9).bind fun t651=>(if t651=true then (some (x0,t647,x10,x9,true)) else (some ((⟨#[]⟩:ByteArray),([]:List ByteArray),false,(⟨#[]⟩:ByteArray),false)))))
def impl_readWay.f (k:Nat) (a0:ByteArray) (l1:List ByteArray) (a2:ByteArray):Option (ByteArray×List ByteArray×Bool×ByteArray×Bool):=(strings_Cut.f a2 (⟨#[63]⟩:ByteArray)).bind fun bt630=>((impl_EscNorm.f k bt630.2.1).bind fun bt633=>(if bt633.2=true then ((slices_Clone_string_string.f l1).bind fun t635=>((strings_Split.f k bt630.1 (⟨#[47]⟩:ByteArray)).bind fun t638=>(impl_readWay.l0 k a0 bt633.1 bt630.2.2 t635 t638 (t638.length:Int) 0))) else (some ((⟨#[]⟩:ByteArray),([]:List ByteArray),false,(⟨#[]⟩:ByteArray),false))))
theorem impl_readWay.mono_l:∀ k,(∀ y0 y1 y2 y3 y4 y5 y6,LeO (impl_readWay.l0 k y0 y1 y2 y3 y4 y5 y6) (impl_readWay.l0 (k+1) y0 y1 y2 y3 y4 y5 y6))
 | 0=>by intros;intro r h;simp [impl_readWay.l0] at h
 | k+1=>by
  have ih0:=impl_readWay.mono_l k;intros;unfold impl_readWay.l0;repeat' first|(with_reducible first|exact ih0 _ _ _ _ _ _ _|exact impl_AddrOk.mono _ _ _ _ _|exact impl_EscNorm.mono _ _|exact impl_PathClean.mono _ _|exact strings_Split.mono _ _ _|exact LeO.refl _|exact LeO.none _|refine LeO.ite ?_ ?_|refine LeO.bind ?_ (fun _=>?_))|exact LeO.none _|refine LeO.ite ?_ ?_|refine LeO.bind ?_ (fun _=>?_)
theorem impl_readWay.mono:∀ a0 a1 a2 k,LeO (impl_readWay.f k a0 a1 a2) (impl_readWay.f (k+1) a0 a1 a2):=by
 intro a0 a1 a2 k;have ih0:=impl_readWay.mono_l k;unfold impl_readWay.f
 repeat' first|(with_reducible first|exact ih0 _ _ _ _ _ _ _|exact impl_AddrOk.mono _ _ _ _ _|exact impl_EscNorm.mono _ _|exact impl_PathClean.mono _ _|exact strings_Split.mono _ _ _|exact LeO.refl _|exact LeO.none _|refine LeO.ite ?_ ?_|refine LeO.bind ?_ (fun _=>?_))|exact LeO.none _|refine LeO.ite ?_ ?_|refine LeO.bind ?_ (fun _=>?_)
theorem impl_readWay.calls (k:Nat) (a0:ByteArray) (A1:Option Addr) (c1:Nat) (l1:List ByteArray) (a2:ByteArray) (r1:ByteArray) (r2:List ByteArray) (r3:Bool) (r4:ByteArray) (r5:Bool) (w:World) (hr1:Kd.C Kd.string w A1 l1.length l1) (hc1:l1.length≤c1) (h:impl_readWay.f k a0 l1 a2=some (r1,r2,r3,r4,r5)) :
  Calls Tryz.prog 55 #[.string a0,.slice A1 l1.length c1,.string a2] w fun e w'=>∃ v1_:Value,e=.returned (.tuple #[.agg #[.string r1,v1_,.bool r3,.string r4],.bool r5])∧Kd.R Kd.string 9 w' w.heap.size (fun _=>True) v1_ r2∧Below w.heap.size w w':=by
 have hu39:=Tryz.underlying39;have HR1:=A_ hr1;have HC1:=A_ hc1;clear hr1 hc1;have HB:=A_ (Below.refl w.heap.size w);unfold impl_readWay.f at h
 have H:=h;clear h;replace H:=bindA H;obtain ⟨⟨t630,t631,t632⟩,A4,H⟩:=H;try dsimp only at H
 replace H:=bindA H;obtain ⟨⟨t633,t634⟩,A5,H⟩:=H;try dsimp only at H
 have HF6:=A_ H;clear H;go_enter Tryz.func55,Tryz.ntmps55;go_upto_if 30 with (first|(refine boxF 6 #[.string (⟨#[]⟩:ByteArray),.slice none 0 0,.bool false,.string (⟨#[]⟩:ByteArray)] 39 ?_;intro gb629 hg w7 BK629 hb;have GE629:=geB hg (zz5 HB);replace HB:=A_ (bS (zz5 HB) hb);clear hb hg)|(refine gR 31 (some 20) Tryz.func31 (strings_Cut.calls a2 (⟨#[63]⟩:ByteArray) t630 t631 t632 _ A4.out) ?_;rintro w8 hb;replace BK629:=A_ (bB (zz15 BK629) hb);replace HB:=A_ (bS (zz16 HB GE629) hb);(try clear hb))|(refine gR 84 (some 26) Tryz.func84 (impl_EscNorm.calls k t631 t633 t634 _ A5.out) ?_;rintro w9 hb;replace BK629:=A_ (bB (zz15 BK629) hb);replace HB:=A_ (bS (zz16 HB GE629) hb);(try clear hb)))
 obtain ⟨H⟩:=HF6;replace H:=iteB H;rcases H with ⟨rfl,H⟩|⟨rfl,H⟩
 ·replace H:=bindA H
  obtain ⟨t635,A11,H⟩:=H;replace H:=bindA H;obtain ⟨t638,A12,H⟩:=H;have H':=A_ H;clear H;go_wp2_with (first|(refine gV 62 (some 33) Tryz.func62 (slices_Clone_string_string.calls _ _ l1 t635 _ ?side1 ?side2 A11.out) ?_;(case side1=>exact (zz98 HR1 HB));(case side2=>exact HC1.out);rintro v636 w13 ⟨ho0,hb⟩;have HO637:=A_ (Kd.R_lower ho0 (below_size (zz16 HB GE629)));replace BK629:=A_ (bB (zz15 BK629) hb);replace HB:=A_ (bS (zz16 HB GE629) hb);(try clear hb ho0))|(refine gV 85 (some 35) Tryz.func85 (strings_Split.calls k t630 (⟨#[47]⟩:ByteArray) t638 _ A12.out) ?_;rintro v639 w14 ⟨ho0,hb⟩;have HO640:=A_ (Kd.R_lower (Kd.R_new' ho0 (Kd.R_lt (zz8 HO637))) (below_size (zz16 HB GE629)));replace HO637:=A_ (Kd.R_elder' (zz8 HO637) (Kd.R_base ho0) hb);replace BK629:=A_ (bB (zz15 BK629) hb);replace HB:=A_ (bS (zz16 HB GE629) hb);(try clear hb ho0);obtain ⟨Ao15,co15,eo15⟩:=Kd.R_slice HO640.out;subst eo15))
  go_loopg [12,37] k (fun kq v12 v37 w'=>∃ (x12_1:List ByteArray) (x37_1:Int) (x630000_1:ByteArray) (x630002_1:Bool) (x630003_1:ByteArray),v37=.int .i64 x37_1∧Aside0 (impl_readWay.l0 kq a0 t633 t632 x12_1 t638 (t638.length:Int) x37_1=some (r1,r2,r3,r4,r5))∧Aside0 (kq≤k)∧Aside0 (Kd.R Kd.string 9 w' w.heap.size (fun k_=>some k_≠((.slice Ao15 t638.length co15):Value).ownBlock) v12 x12_1)∧Aside0 (Kd.R Kd.string 9 w' w.heap.size (fun k_=>some k_≠(v12:Value).ownBlock) (.slice Ao15 t638.length co15) t638)∧Aside0 (w'.heap[gb629]?=some (.cells #[.string x630000_1,(.slice none 0 0),.bool x630002_1,.string x630003_1] 39 (0,0)))∧Aside0 (Below w.heap.size w w'))
  case atStart=>exact ⟨(t635),(0),((⟨#[]⟩:ByteArray)),(false),((⟨#[]⟩:ByteArray)),zz0,H',⟨Nat.le_refl _⟩,⟨(zz94 HO637)⟩,⟨(zz94 HO640)⟩,⟨(zz15 BK629)⟩,⟨(zz16 HB GE629)⟩⟩
  case round=>
   clear H';obtain ⟨x12_1,x37_1,x630000_1,x630002_1,x630003_1,rfl,HA,HK1,HO_12,HO_35,BK629,HB⟩:=hrel;cases gk with
   | zero=>exact absurd HA.out (by simp [impl_readWay.l0])
   | succ k1=>
    obtain ⟨H⟩:=HA;simp only [impl_readWay.l0] at H
    replace H:=iteEd H;rcases H with ⟨c16b0,H⟩|⟨c16b0,H⟩
    ·(first|rw [c16b0]|(simp only [i64_w,i32_w];rw [c16b0])|skip)
     replace H:=iteNd H;obtain ⟨c17b0,H⟩:=H;replace H:=iteNd H;obtain ⟨c18b0,H⟩:=H;replace H:=bindA H;obtain ⟨⟨t642,t643⟩,A19,H⟩:=H;try dsimp only at H
     have HF20:=A_ H;clear H;obtain ⟨⟨ad641,e641,hx641_0⟩,p641,q641⟩:=atB (Kd.at_string (Kd.R_reads' HO_35.out).2.2 x37_1);cases e641
     go_upto_if 47 with (first|(refine gR 84 (some 43) Tryz.func84 (impl_EscNorm.calls k1 (rdOf ByteArray.empty t638 x37_1) t642 t643 _ A19.out) ?_;rintro w21 hb;replace HO_12:=A_ (rB (zz8 HO_12) hb);replace HO_35:=A_ (rB (zz8 HO_35) hb);replace BK629:=A_ (bB (zz15 BK629) hb);replace HB:=A_ (bS (zz16 HB GE629) hb);(try clear hb)))
     obtain ⟨H⟩:=HF20;replace H:=iteB H;rcases H with ⟨rfl,H⟩|⟨rfl,H⟩
     ·replace H:=iteN H
      obtain ⟨c23,H⟩:=H;have LMc23:=A_ c23;clear c23;obtain ⟨y644,Ny644⟩:=toY (x12_1++[t642]);(first|with_reducible replace H:=bindZ Ny644 H|rw [← Ny644.out] at H|skip)
      have H':=A_ H;clear H;go_wp2_with (first|((with_reducible refine gate_builtin (b:=.append) (xs:=#[.tmp 49,.tmp 51]) rfl ?_);at_builtin;refine Kd.R_append Kd.string (w0:=w) w.heap.size rfl (.tmp 49) (.tmp 51) 35 9 (.string ⟨#[]⟩) 16 rfl Tryz.underlying35 info9 rfl (by decide) (by omega) u12 x12_1 t642 [.string t642] (fun k_=>some k_≠(.slice (some ad641) t638.length co15:Value).ownBlock) (fun _=>False) rfl rfl ?aP (fun _ hk=>hk.elim) ?aF ?aO ?aB ?aS ?aL ?_;(case aP=>exact rfl);(case aB=>exact (zz16 HB GE629));(case aF=>exact (fun k_ hk=>Kd.fresh' (Kd.R_lt (zz8 HO_35)) k_ hk));(case aO=>exact (zz8 HO_12));(case aS=>exact (below_size (zz16 HB GE629)));(case aL=>exact (zz3 LMc23));intro v645 w24 ho hb hg hat;rw [← Ny644.out] at ho;replace HO_35:=A_ (Kd.R_after (ok:=(fun _=>True)) (zz96 HO_35) hg hat);replace BK629:=A_ (blk_grown (zz15 BK629) hg (Kd.R_ne HO_12.out BK629.out (by decide)));replace HB:=A_ (hb);have HO646:=A_ (ho);clear HO_12;clear ho hb hg hat))
      go_roundg k1
      case measure=>have:=HK1.out;omega
      case rel=>exact ⟨(y644),(wrap64 (x37_1+1)),(x630000_1),(x630002_1),(x630003_1),zz0,H',⟨(zz3 HK1)⟩,⟨(zz8 HO646)⟩,⟨(zz94 HO_35)⟩,⟨(zz15 BK629)⟩,⟨(zz16 HB GE629)⟩⟩
     ·simp only [Option.some.injEq,Prod.mk.injEq] at H
      obtain ⟨rfl,rfl,rfl,rfl,rfl⟩:=H;obtain ⟨_,_,_,_,_,_,_,_⟩:=cf4 BK629;go_wp2
      refine pR (results_ct rfl _ _ gb629 39 #[.string (⟨#[]⟩:ByteArray),.slice none 0 0,.bool false,.string (⟨#[]⟩:ByteArray)] (0,0) _ rfl (zz32 BK629) Tryz.underlying39 rfl (by kernel_rfl)) rfl ?_;exact ⟨_,zz12,zz4,(zz16 HB GE629)⟩
    ·(first|rw [c16b0]|(simp only [i64_w,i32_w];rw [c16b0])|skip)
     replace H:=bindA H;obtain ⟨t647,A26,H⟩:=H;replace H:=bindA H;obtain ⟨t651,A27,H⟩:=H;have HF28:=A_ H;clear H;obtain ⟨Ao29,co29,eo29⟩:=Kd.R_slice HO_12.out;subst eo29;go_upto_if 62 with (first|(refine gV 86 (some 56) Tryz.func86 (impl_PathClean.calls k1 _ _ x12_1 t647 _ ?side1 ?side2 A26.out) ?_;(case side1=>exact (zz33 HO_12));(case side2=>exact (Kd.R_reads' HO_12.out).2.1);rintro v648 w30 ⟨ho0,hb⟩;have HO649:=A_ (Kd.R_lower (Kd.R_new' (Kd.R_new' ho0 (Kd.R_lt (zz8 HO_12))) (Kd.R_lt (zz8 HO_35))) (below_size (zz16 HB GE629)));replace HO_12:=A_ (Kd.R_elder' (zz8 HO_12) (Kd.R_base ho0) hb);replace HO_35:=A_ (Kd.R_elder' (zz8 HO_35) (Kd.R_base ho0) hb);replace BK629:=A_ (bB (zz15 BK629) hb);replace HB:=A_ (bS (zz16 HB GE629) hb);(try clear hb ho0);obtain ⟨Ao31,co31,eo31⟩:=Kd.R_slice HO649.out;subst eo31)|(refine boxF 17 #[.string (⟨#[]⟩:ByteArray),.slice none 0 0,.bool false,.string (⟨#[]⟩:ByteArray)] 39 ?_;intro gb650 hg w32 BK650 hb;replace HO_12:=A_ (rB (zz8 HO_12) hb);replace HO_35:=A_ (rB (zz8 HO_35) hb);replace HO649:=A_ (rB (zz8 HO649) hb);have GE650:=geB hg (zz16 HB GE629);replace HB:=A_ (bS (zz16 HB GE629) hb);have NB629_650:=A_ ((by rw [hg];exact Nat.ne_of_lt (blk_lt (zz15 BK629)):gb629≠gb650));have NB650_629:=A_ ((by rw [hg];exact Nat.ne_of_gt (blk_lt (zz15 BK629)):gb650≠gb629));replace BK629:=A_ (bB (zz15 BK629) hb);clear hb hg;have hnb33:=NB650_629.out;have hnc33:=NB629_650.out;obtain ⟨_,_,_,_,_,_,_,_⟩:=cf4 BK650)|((with_reducible refine gC (f:=33) rfl ?_);refine gsL (some 61) Tryz.func33 #[.agg #[.string a0,.slice Ao31 t647.length co31,.bool t632,.string t633]] ?_;(with_reducible refine (impl_AddrOk.calls k1 a0 _ _ t647 t632 t633 t651 _ ?side1 ?side2 A27.out).mono ?_);(case side1=>exact (by refine (Kd.R_reads' (e:=9) (base:=w.heap.size) (ok:=fun k_=>((True∧some k_≠(.slice Ao29 x12_1.length co29:Value).ownBlock)∧some k_≠(.slice Ao15 t638.length co15:Value).ownBlock)) (n:=t647.length) (c:=co31) ?_).2.2;exact (zz254 HO649 BK650)));(case side2=>exact (Kd.R_reads' HO649.out).2.1);rintro e w35 ⟨rfl,hb⟩;refine ⟨_,rfl,?_⟩;replace HO_12:=A_ (rB (zz254 HO_12 BK650) hb);replace HO_35:=A_ (rB (zz254 HO_35 BK650) hb);replace HO649:=A_ (rB (zz254 HO649 BK650) hb);replace BK629:=A_ (bB (g:=gb629) (o:=.cells #[.string x630000_1,.slice none 0 0,.bool x630002_1,.string x630003_1] 39 (0,0)) (zz176 BK629 NB629_650) hb);replace BK650:=A_ (bB (g:=gb650) (o:=.cells #[.string a0,.slice Ao31 t647.length co31,.bool t632,.string t633] 39 (0,0)) (zz32 BK650) hb);replace HB:=A_ (bS (zz73 HB GE629 GE650) hb);(try clear hb)))
     obtain ⟨H⟩:=HF28;replace H:=iteB H;rcases H with ⟨rfl,H⟩|⟨rfl,H⟩
     ·simp only [Option.some.injEq,Prod.mk.injEq] at H
      obtain ⟨rfl,rfl,rfl,rfl,rfl⟩:=H;have hnb37:=NB650_629.out;have hnc37:=NB629_650.out;obtain ⟨_,_,_,_,_,_,_,_⟩:=cf4 BK650;obtain ⟨_,_,_,_,_,_,_,_⟩:=cf4 BK629;go_wp2
      refine pR (results_ct rfl _ _ gb629 39 #[.string a0,.slice Ao31 t647.length co31,.bool t632,.string t633] (0,0) _ rfl (zz32 BK629) Tryz.underlying39 rfl (by kernel_rfl)) rfl ?_;exact ⟨_,zz12,(zz47 (rt HO649 BK629)),(zz73 HB GE629 GE650)⟩
     ·simp only [Option.some.injEq,Prod.mk.injEq] at H
      obtain ⟨rfl,rfl,rfl,rfl,rfl⟩:=H;have hnb40:=NB629_650.out;have hnc40:=NB650_629.out;obtain ⟨_,_,_,_,_,_,_,_⟩:=cf4 BK629;go_wp2
      refine pR (results_ct rfl _ _ gb629 39 #[.string (⟨#[]⟩:ByteArray),.slice none 0 0,.bool false,.string (⟨#[]⟩:ByteArray)] (0,0) _ rfl (zz32 BK629) Tryz.underlying39 rfl (by kernel_rfl)) rfl ?_;exact ⟨_,zz12,zz4,(zz73 HB GE629 GE650)⟩
 ·simp only [Option.some.injEq,Prod.mk.injEq] at H
  obtain ⟨rfl,rfl,rfl,rfl,rfl⟩:=H;obtain ⟨_,_,_,_,_,_,_,_⟩:=cf4 BK629;go_wp2
  refine pR (results_ct rfl _ _ gb629 39 #[.string (⟨#[]⟩:ByteArray),.slice none 0 0,.bool false,.string (⟨#[]⟩:ByteArray)] (0,0) _ rfl (zz32 BK629) Tryz.underlying39 rfl (by kernel_rfl)) rfl ?_;exact ⟨_,zz12,zz4,(zz16 HB GE629)⟩
def impl_readWhole.f (k:Nat) (a0:ByteArray):Option (ByteArray×List ByteArray×Bool×ByteArray×Bool):=(strings_CutPrefix.f a0 (⟨#[47,47]⟩:ByteArray)).bind fun bt653=>(if bt653.2=true then ((strings_IndexAny.f bt653.1 (⟨#[47,63]⟩:ByteArray)).bind fun t655=>(if t655 < 0 then (if 0≤(bt653.1.size:Int) then (if (bt653.1.size:Int)≤(bt653.1.size:Int) then ((impl_smallLetters.f (bt653.1.extract 0 ((bt653.1.size:Int):Int).toNat)).bind fun t656=>((impl_readWay.f k t656 ([]:List ByteArray) (bt653.1.extract ((bt653.1.size:Int):Int).toNat bt653.1.size)).bind fun bt657=>(some (bt657.1,bt657.2.1,bt657.2.2.1,bt657.2.2.2.1,bt657.2.2.2.2)))) else (none)) else (none)) else (if 0≤t655 then (if t655≤(bt653.1.size:Int) then ((impl_smallLetters.f (bt653.1.extract 0 (t655:Int).toNat)).bind fun t664=>((impl_readWay.f k t664 ([]:List ByteArray) (bt653.1.extract (t655:Int).toNat bt653.1.size)).bind fun bt665=>(some (bt665.1,bt665.2.1,bt665.2.2.1,bt665.2.2.2.1,bt665.2.2.2.2)))) else (none)) else (none)))) else (some ((⟨#[]⟩:ByteArray),([]:List ByteArray),false,(⟨#[]⟩:ByteArray),false)))
theorem impl_readWhole.mono:∀ a0 k,LeO (impl_readWhole.f k a0) (impl_readWhole.f (k+1) a0):=by
 intro a0 k;unfold impl_readWhole.f
 repeat' first|(with_reducible first|exact impl_readWay.mono _ _ _ _|exact LeO.refl _|exact LeO.none _|refine LeO.ite ?_ ?_|refine LeO.bind ?_ (fun _=>?_))|exact LeO.none _|refine LeO.ite ?_ ?_|refine LeO.bind ?_ (fun _=>?_)
def impl_readWhole.T7:Bool×List (List Nat×List Nat):=(true,[([],[]),([],[]),([0,1],[0,1]),([2],[2]),([],[]),([],[]),([4,5],[4,5]),([3,6,3],[3,6]),([7],[7]),([7],[7]),([8,7,0,1,2,3,4,5,6,7,8,9],[8]),([9,10,0,1,2,3,4,5,6,7,8,9,10],[9])])
def impl_readWhole.B7:List Nat:=[0,0,3,7,0,0,48,127,255,255,1023,2047]
theorem impl_readWhole.tab7:rtab .any (opsOf Tryz.f32 7)=impl_readWhole.T7:=by kernel_rfl
theorem impl_readWhole.bits7:waitsOk impl_readWhole.T7.2 impl_readWhole.B7=true:=by kernel_rfl
theorem impl_readWhole.calls (k:Nat) (a0:ByteArray) (r1:ByteArray) (r2:List ByteArray) (r3:Bool) (r4:ByteArray) (r5:Bool) (w:World) (h:impl_readWhole.f k a0=some (r1,r2,r3,r4,r5)) :
  Calls Tryz.prog 32 #[.string a0] w fun e w'=>∃ v1_:Value,e=.returned (.tuple #[.agg #[.string r1,v1_,.bool r3,.string r4],.bool r5])∧Kd.R Kd.string 9 w' w.heap.size (fun _=>True) v1_ r2∧Below w.heap.size w w':=by
 have hu39:=Tryz.underlying39;have HB:=A_ (Below.refl w.heap.size w);unfold impl_readWhole.f at h
 have H:=h;clear h;replace H:=bindA H;obtain ⟨⟨t653,t654⟩,A2,H⟩:=H;try dsimp only at H
 have HF3:=A_ H;clear H;go_enter Tryz.func32,Tryz.ntmps32;go_upto_if 13 with (first|(refine boxF 2 #[.string (⟨#[]⟩:ByteArray),.slice none 0 0,.bool false,.string (⟨#[]⟩:ByteArray)] 39 ?_;intro gb652 hg w4 BK652 hb;have GE652:=geB hg (zz5 HB);replace HB:=A_ (bS (zz5 HB) hb);clear hb hg)|((with_reducible refine gC (f:=53) rfl ?_);refine goesL_ (some 9) rfl rfl Tryz.func53 (by kernel_rfl) rfl #[.string a0,.string (⟨#[47,47]⟩:ByteArray)] rfl zz256 ?_;(with_reducible refine (strings_CutPrefix.calls a0 (⟨#[47,47]⟩:ByteArray) t653 t654 _ A2.out).mono ?_);rintro e w' ⟨rfl,⟨nd,rfl⟩⟩;refine ⟨_,rfl,?_⟩))
 obtain ⟨H⟩:=HF3;replace H:=iteB H;rcases H with ⟨rfl,H⟩|⟨rfl,H⟩
 ·replace H:=bindA H
  obtain ⟨t655,A6,H⟩:=H;have HF7:=A_ H;clear H;go_upto_if 18 with (first|((with_reducible refine gC (f:=54) rfl ?_);refine goesL_ (some 16) rfl rfl Tryz.func54 (by kernel_rfl) rfl #[.string t653,.string (⟨#[47,63]⟩:ByteArray)] rfl zz256 ?_;(with_reducible refine mR (strings_IndexAny.calls t653 (⟨#[47,63]⟩:ByteArray) t655 _ A6.out) ?_);rintro w8 hb;replace BK652:=A_ (bB (zz15 BK652) hb);replace HB:=A_ (bS (zz16 HB GE652) hb);(try clear hb)))
  obtain ⟨H⟩:=HF7;replace H:=iteEd H;rcases H with ⟨c9b0,H⟩|⟨c9b0,H⟩
  ·(first|rw [c9b0]|(simp only [i64_w,i32_w];rw [c9b0])|skip)
   replace H:=iteN H;obtain ⟨c10,H⟩:=H;have c10b0:=eq_true c10;have c10b1:=dT c10;clear c10;replace H:=iteN H;obtain ⟨c11,H⟩:=H;have c11b0:=eq_true c11;have c11b1:=dT c11;clear c11;replace H:=bindA H;obtain ⟨t656,A12,H⟩:=H;have c13b0:=eq_true (ofD:0≤(t653.size:Int));have c14b0:=eq_true (ofD:(t653.size:Int)≤(t653.size:Int));replace H:=bindA H;obtain ⟨⟨t657,t658,t661,t662,t663⟩,A15,H⟩:=H;try dsimp only at H
   simp only [Option.some.injEq,Prod.mk.injEq] at H
   obtain ⟨rfl,rfl,rfl,rfl,rfl⟩:=H;try go_wp2
   replace BK652:=A_ (blk_drew BK652.out);replace HB:=A_ (below_drew1 HB.out);refine start_ (n:=12) (S:=fun w'=>True) (ds:=[]) #[yF,yF,yF,yF,yF,yF,yF,yF,yF,yF,yF,yF] (by kernel_rfl) rfl rfl trivial (fun hHeld=>?_);refine with_tabW impl_readWhole.tab7 impl_readWhole.bits7 (fun HT_ HW_=>?_);generalize w8.drew=w16 at BK652 HB hHeld ⊢;refine pureZ 0 (some 21) #[yT,yF,yF,yF,yF,yF,yF,yF,yF,yF,yF,yF] ?_;refine pureZ 1 (some 22) #[yT,yT,yF,yF,yF,yF,yF,yF,yF,yF,yF,yF] ?_;refine pureZ 2 (some 23) #[yT,yT,yT,yF,yF,yF,yF,yF,yF,yF,yF,yF] ?_;refine pureZ 4 (some 25) #[yT,yT,yT,yF,yT,yF,yF,yF,yF,yF,yF,yF] ?_;refine pureZ 5 (some 26) #[yT,yT,yT,yF,yT,yT,yF,yF,yF,yF,yF,yF] ?_;refine pureZ 6 (some 27) #[yT,yT,yT,yF,yT,yT,yT,yF,yF,yF,yF,yF] ?_;refine oneZ 3 (some 24) #[yT,yT,yT,yT,yT,yT,yT,yF,yF,yF,yF,yF] (fun K hK=>?_);refine goes_ Tryz.func56 (by kernel_rfl) rfl #[.string (t653.extract 0 ((t653.size:Int):Int).toNat)] (by rfl) rfl rfl zz256 ?_;with_reducible refine (impl_smallLetters.calls (t653.extract 0 ((t653.size:Int):Int).toNat) t656 _ A12.out).mono ?_
   rintro e w17 ⟨rfl,hb⟩;refine ⟨_,rfl,?_⟩;replace BK652:=A_ (bB (zz15 BK652) hb);replace HB:=A_ (bS (zz16 HB GE652) hb);(try clear hb)
   (try clear hb2)
   (try clear hk)
   (try clear hi)
   refine hK.out _ _ trivial (fun hHeld=>?_);clear hK K;refine nZ 24 ?_;refine oneZ 7 (some 28) #[yT,yT,yT,yT,yT,yT,yT,yT,yF,yF,yF,yF] (fun K hK=>?_);refine goes_ Tryz.func55 (by kernel_rfl) rfl #[.string t656,.slice none 0 0,.string (t653.extract ((t653.size:Int):Int).toNat t653.size)] (by rfl) rfl rfl zz256 ?_;refine (impl_readWay.calls k t656 _ _ ([]:List ByteArray) (t653.extract ((t653.size:Int):Int).toNat t653.size) t657 t658 t661 t662 t663 _ ?side1 ?side2 A15.out).mono ?_;(case side1=>exact Kd.C_nil _ _)
   (case side2=>exact Nat.le_refl _)
   rintro e w18 ⟨v659,rfl,ho0,hb⟩;refine ⟨_,rfl,?_⟩;have HO660:=A_ (Kd.R_lower ho0 (below_size (zz16 HB GE652)));replace BK652:=A_ (bB (zz15 BK652) hb);replace HB:=A_ (bS (zz16 HB GE652) hb);(try clear hb)
   (try clear hb2)
   (try clear hk)
   (try clear hi)
   (try clear ho0)
   obtain ⟨Ao20,co20,eo20⟩:=Kd.R_slice HO660.out;(first|subst eo20|(injection eo20 with f1_ f2_ f3_;have f4_:=f1_.symm;have f5_:=f3_.symm;clear f1_ f2_ f3_;subst f4_;subst f5_))
   refine hK.out _ _ trivial (fun hHeld=>?_);clear hK K;refine nZ 28 ?_;refine pureZ 8 (some 29) #[yT,yT,yT,yT,yT,yT,yT,yT,yT,yF,yF,yF] ?_;refine pureZ 9 (some 30) #[yT,yT,yT,yT,yT,yT,yT,yT,yT,yT,yF,yF] ?_;refine oneZ 10 (none) #[yT,yT,yT,yT,yT,yT,yT,yT,yT,yT,yT,yF] (fun K hK=>?_);have hs19:w18.cell? ⟨gb652,0,none⟩=some (.string (⟨#[]⟩:ByteArray)):=(blk_cell BK652.out 0).trans rfl;have hfs19:=blk_frozen BK652.out 0;have hs21:w18.cell? ⟨gb652,1,none⟩=some (.slice none 0 0):=(blk_cell BK652.out 1).trans rfl;have hfs21:=blk_frozen BK652.out 1;have hs22:w18.cell? ⟨gb652,2,none⟩=some (.bool false):=(blk_cell BK652.out 2).trans rfl;have hfs22:=blk_frozen BK652.out 2;have hs23:w18.cell? ⟨gb652,3,none⟩=some (.string (⟨#[]⟩:ByteArray)):=(blk_cell BK652.out 3).trans rfl;have hfs23:=blk_frozen BK652.out 3;refine skip_ (w1:=?_) (by rfl) rfl ?_ ?_;rotate_left
   ·go_simp
    rfl
   refine hK.out _ _ trivial (fun hHeld=>?_);clear hK K;refine pureZ 11 (some 3) #[yT,yT,yT,yT,yT,yT,yT,yT,yT,yT,yT,yT] ?_;refine done_ (done_of HT_.out (by kernel_rfl)) ?_;try go_wp2
   refine pR (results_ct rfl _ _ gb652 39 #[.string t657,.slice Ao20 t658.length co20,.bool t661,.string t662] (0,0) _ rfl (zz32 BK652) Tryz.underlying39 rfl (by kernel_rfl)) rfl ?_;exact ⟨_,zz12,(zz47 (rt HO660 BK652)),(zz16 HB GE652)⟩
  ·(first|rw [c9b0]|(simp only [i64_w,i32_w];rw [c9b0])|skip)
   replace H:=iteN H;obtain ⟨c24,H⟩:=H;have c24b0:=eq_true c24;have c24b1:=dT c24;clear c24;replace H:=iteN H;obtain ⟨c25,H⟩:=H;have c25b0:=eq_true c25;have c25b1:=dT c25;clear c25;replace H:=bindA H;obtain ⟨t664,A26,H⟩:=H;have c27b0:=eq_true (ofD:0≤t655);have c28b0:=eq_true (ofD:t655≤(t653.size:Int));replace H:=bindA H;obtain ⟨⟨t665,t666,t669,t670,t671⟩,A29,H⟩:=H;try dsimp only at H
   simp only [Option.some.injEq,Prod.mk.injEq] at H
   obtain ⟨rfl,rfl,rfl,rfl,rfl⟩:=H;try go_wp2
   replace BK652:=A_ (blk_drew BK652.out);replace HB:=A_ (below_drew1 HB.out);refine start_ (n:=12) (S:=fun w'=>True) (ds:=[]) #[yF,yF,yF,yF,yF,yF,yF,yF,yF,yF,yF,yF] (by kernel_rfl) rfl rfl trivial (fun hHeld=>?_);refine with_tabW impl_readWhole.tab7 impl_readWhole.bits7 (fun HT_ HW_=>?_);generalize w8.drew=w30 at BK652 HB hHeld ⊢;refine pureZ 0 (some 21) #[yT,yF,yF,yF,yF,yF,yF,yF,yF,yF,yF,yF] ?_;refine pureZ 1 (some 22) #[yT,yT,yF,yF,yF,yF,yF,yF,yF,yF,yF,yF] ?_;refine pureZ 2 (some 23) #[yT,yT,yT,yF,yF,yF,yF,yF,yF,yF,yF,yF] ?_;refine pureZ 4 (some 25) #[yT,yT,yT,yF,yT,yF,yF,yF,yF,yF,yF,yF] ?_;refine pureZ 5 (some 26) #[yT,yT,yT,yF,yT,yT,yF,yF,yF,yF,yF,yF] ?_;refine pureZ 6 (some 27) #[yT,yT,yT,yF,yT,yT,yT,yF,yF,yF,yF,yF] ?_;refine oneZ 3 (some 24) #[yT,yT,yT,yT,yT,yT,yT,yF,yF,yF,yF,yF] (fun K hK=>?_);refine goes_ Tryz.func56 (by kernel_rfl) rfl #[.string (t653.extract 0 (t655:Int).toNat)] (by rfl) rfl rfl zz256 ?_;with_reducible refine (impl_smallLetters.calls (t653.extract 0 (t655:Int).toNat) t664 _ A26.out).mono ?_
   rintro e w31 ⟨rfl,hb⟩;refine ⟨_,rfl,?_⟩;replace BK652:=A_ (bB (zz15 BK652) hb);replace HB:=A_ (bS (zz16 HB GE652) hb);(try clear hb)
   (try clear hb2)
   (try clear hk)
   (try clear hi)
   refine hK.out _ _ trivial (fun hHeld=>?_);clear hK K;refine nZ 24 ?_;refine oneZ 7 (some 28) #[yT,yT,yT,yT,yT,yT,yT,yT,yF,yF,yF,yF] (fun K hK=>?_);refine goes_ Tryz.func55 (by kernel_rfl) rfl #[.string t664,.slice none 0 0,.string (t653.extract (t655:Int).toNat t653.size)] (by rfl) rfl rfl zz256 ?_;refine (impl_readWay.calls k t664 _ _ ([]:List ByteArray) (t653.extract (t655:Int).toNat t653.size) t665 t666 t669 t670 t671 _ ?side1 ?side2 A29.out).mono ?_;(case side1=>exact Kd.C_nil _ _)
   (case side2=>exact Nat.le_refl _)
   rintro e w32 ⟨v667,rfl,ho0,hb⟩;refine ⟨_,rfl,?_⟩;have HO668:=A_ (Kd.R_lower ho0 (below_size (zz16 HB GE652)));replace BK652:=A_ (bB (zz15 BK652) hb);replace HB:=A_ (bS (zz16 HB GE652) hb);(try clear hb)
   (try clear hb2)
   (try clear hk)
   (try clear hi)
   (try clear ho0)
   obtain ⟨Ao34,co34,eo34⟩:=Kd.R_slice HO668.out;(first|subst eo34|(injection eo34 with f1_ f2_ f3_;have f4_:=f1_.symm;have f5_:=f3_.symm;clear f1_ f2_ f3_;subst f4_;subst f5_))
   refine hK.out _ _ trivial (fun hHeld=>?_);clear hK K;refine nZ 28 ?_;refine pureZ 8 (some 29) #[yT,yT,yT,yT,yT,yT,yT,yT,yT,yF,yF,yF] ?_;refine pureZ 9 (some 30) #[yT,yT,yT,yT,yT,yT,yT,yT,yT,yT,yF,yF] ?_;refine oneZ 10 (none) #[yT,yT,yT,yT,yT,yT,yT,yT,yT,yT,yT,yF] (fun K hK=>?_);have hs33:w32.cell? ⟨gb652,0,none⟩=some (.string (⟨#[]⟩:ByteArray)):=(blk_cell BK652.out 0).trans rfl;have hfs33:=blk_frozen BK652.out 0;have hs35:w32.cell? ⟨gb652,1,none⟩=some (.slice none 0 0):=(blk_cell BK652.out 1).trans rfl;have hfs35:=blk_frozen BK652.out 1;have hs36:w32.cell? ⟨gb652,2,none⟩=some (.bool false):=(blk_cell BK652.out 2).trans rfl;have hfs36:=blk_frozen BK652.out 2;have hs37:w32.cell? ⟨gb652,3,none⟩=some (.string (⟨#[]⟩:ByteArray)):=(blk_cell BK652.out 3).trans rfl;have hfs37:=blk_frozen BK652.out 3;refine skip_ (w1:=?_) (by rfl) rfl ?_ ?_;rotate_left
   ·go_simp
    rfl
   refine hK.out _ _ trivial (fun hHeld=>?_);clear hK K;refine pureZ 11 (some 3) #[yT,yT,yT,yT,yT,yT,yT,yT,yT,yT,yT,yT] ?_;refine done_ (done_of HT_.out (by kernel_rfl)) ?_;try go_wp2
   refine pR (results_ct rfl _ _ gb652 39 #[.string t665,.slice Ao34 t666.length co34,.bool t669,.string t670] (0,0) _ rfl (zz32 BK652) Tryz.underlying39 rfl (by kernel_rfl)) rfl ?_;exact ⟨_,zz12,(zz47 (rt HO668 BK652)),(zz16 HB GE652)⟩
 ·simp only [Option.some.injEq,Prod.mk.injEq] at H
  obtain ⟨rfl,rfl,rfl,rfl,rfl⟩:=H;obtain ⟨_,_,_,_,_,_,_,_⟩:=cf4 BK652;go_wp2
  refine pR (results_ct rfl _ _ gb652 39 #[.string (⟨#[]⟩:ByteArray),.slice none 0 0,.bool false,.string (⟨#[]⟩:ByteArray)] (0,0) _ rfl (zz32 BK652) Tryz.underlying39 rfl (by kernel_rfl)) rfl ?_;exact ⟨_,zz12,zz4,(zz16 HB GE652)⟩
def impl_AddrRead.f (k:Nat) (a0:ByteArray):Option (ByteArray×List ByteArray×Bool×ByteArray×Bool):=if (a0.size:Int) > 60 then (some ((⟨#[]⟩:ByteArray),([]:List ByteArray),false,(⟨#[]⟩:ByteArray),false)) else ((strings_Cut.f a0 (⟨#[35]⟩:ByteArray)).bind fun bt673=>((impl_readWhole.f k bt673.1).bind fun bt676=>(some (bt676.1,bt676.2.1,bt676.2.2.1,bt676.2.2.2.1,bt676.2.2.2.2))))
theorem impl_AddrRead.mono:∀ a0 k,LeO (impl_AddrRead.f k a0) (impl_AddrRead.f (k+1) a0):=by
 intro a0 k;unfold impl_AddrRead.f
 repeat' first|(with_reducible first|exact impl_readWhole.mono _ _|exact LeO.refl _|exact LeO.none _|refine LeO.ite ?_ ?_|refine LeO.bind ?_ (fun _=>?_))|exact LeO.none _|refine LeO.ite ?_ ?_|refine LeO.bind ?_ (fun _=>?_)
theorem impl_AddrRead.calls (k:Nat) (a0:ByteArray) (r1:ByteArray) (r2:List ByteArray) (r3:Bool) (r4:ByteArray) (r5:Bool) (w:World) (h:impl_AddrRead.f k a0=some (r1,r2,r3,r4,r5)) :
  Calls Tryz.prog 15 #[.string a0] w fun e w'=>∃ v1_:Value,e=.returned (.tuple #[.agg #[.string r1,v1_,.bool r3,.string r4],.bool r5])∧Kd.R Kd.string 9 w' w.heap.size (fun _=>True) v1_ r2∧Below w.heap.size w w':=by
 have hu39:=Tryz.underlying39;have HB:=A_ (Below.refl w.heap.size w);unfold impl_AddrRead.f at h
 have H:=h;clear h;have HF2:=A_ H;clear H;go_enter Tryz.func15,Tryz.ntmps15;go_upto_if 9 with (first|(refine boxF 2 #[.string (⟨#[]⟩:ByteArray),.slice none 0 0,.bool false,.string (⟨#[]⟩:ByteArray)] 39 ?_;intro gb672 hg w3 BK672 hb;have GE672:=geB hg (zz5 HB);replace HB:=A_ (bS (zz5 HB) hb);clear hb hg))
 obtain ⟨H⟩:=HF2;replace H:=iteE H;rcases H with ⟨c4,H⟩|⟨c4,H⟩
 ·have c4b0:=gtT c4
  have c4b1:decide (60 < a0.size)=true:=dT (by omega);clear c4;(first|rw [c4b0]|(simp only [i64_w,i32_w];rw [c4b0])|skip)
  simp only [Option.some.injEq,Prod.mk.injEq] at H
  obtain ⟨rfl,rfl,rfl,rfl,rfl⟩:=H;obtain ⟨_,_,_,_,_,_,_,_⟩:=cf4 BK672;go_wp2
  refine pR (results_ct rfl _ _ gb672 39 #[.string (⟨#[]⟩:ByteArray),.slice none 0 0,.bool false,.string (⟨#[]⟩:ByteArray)] (0,0) _ rfl (zz32 BK672) Tryz.underlying39 rfl (by kernel_rfl)) rfl ?_;exact ⟨_,zz12,zz4,(zz16 HB GE672)⟩
 ·have c4b0:=gtF c4
  have c4b1:decide (60 < a0.size)=false:=dF (by omega);clear c4;(first|rw [c4b0]|(simp only [i64_w,i32_w];rw [c4b0])|skip)
  replace H:=bindA H;obtain ⟨⟨t673,t674,t675⟩,A6,H⟩:=H;try dsimp only at H
  replace H:=bindA H;obtain ⟨⟨t676,t677,t680,t681,t682⟩,A7,H⟩:=H;try dsimp only at H
  simp only [Option.some.injEq,Prod.mk.injEq] at H
  obtain ⟨rfl,rfl,rfl,rfl,rfl⟩:=H;go_wp2_with (first|(refine gR 31 (some 13) Tryz.func31 (strings_Cut.calls a0 (⟨#[35]⟩:ByteArray) t673 t674 t675 _ A6.out) ?_;rintro w8 hb;replace BK672:=A_ (bB (zz15 BK672) hb);replace HB:=A_ (bS (zz16 HB GE672) hb);(try clear hb))|(refine gV 32 (some 18) Tryz.func32 (impl_readWhole.calls k t673 t676 t677 t680 t681 t682 _ A7.out) ?_;rintro v678 w9 ⟨ho0,hb⟩;have HO679:=A_ (Kd.R_lower ho0 (below_size (zz16 HB GE672)));replace BK672:=A_ (bB (zz15 BK672) hb);replace HB:=A_ (bS (zz16 HB GE672) hb);(try clear hb ho0);obtain ⟨_,_,_,_,_,_,_,_⟩:=cf4 BK672;obtain ⟨Ao11,co11,eo11⟩:=Kd.R_slice HO679.out;subst eo11))
  refine pR (results_ct rfl _ _ gb672 39 #[.string t676,.slice Ao11 t677.length co11,.bool t680,.string t681] (0,0) _ rfl (zz32 BK672) Tryz.underlying39 rfl (by kernel_rfl)) rfl ?_;exact ⟨_,zz12,(zz47 (rt HO679 BK672)),(zz16 HB GE672)⟩
def impl_AddrText.f (k:Nat) (a0_0:ByteArray) (l0_1:List ByteArray) (a0_2:Bool) (a0_3:ByteArray):Option (ByteArray):=(impl_AddrOk.f k a0_0 l0_1 a0_2 a0_3).bind fun t741=>(if t741=true then ((impl_writeAddr.f a0_0 l0_1 a0_2 a0_3).bind fun t742=>(some t742)) else (some (⟨#[]⟩:ByteArray)))
theorem impl_AddrText.calls (k:Nat) (a0_0:ByteArray) (A0_1:Option Addr) (c0_1:Nat) (l0_1:List ByteArray) (a0_2:Bool) (a0_3:ByteArray) (r:ByteArray) (w:World) (hr0_1:Kd.C Kd.string w A0_1 l0_1.length l0_1) (hc0_1:l0_1.length≤c0_1) (h:impl_AddrText.f k a0_0 l0_1 a0_2 a0_3=some r) :
  Calls Tryz.prog 17 #[.agg #[.string a0_0,.slice A0_1 l0_1.length c0_1,.bool a0_2,.string a0_3]] w fun e w'=>e=.returned (.string r)∧Below w.heap.size w w':=by
 have hu39:=Tryz.underlying39;have HR0_1:=A_ hr0_1;have HC0_1:=A_ hc0_1;clear hr0_1 hc0_1;have HB:=A_ (Below.refl w.heap.size w);unfold impl_AddrText.f at h
 have H:=h;clear h;replace H:=bindA H;obtain ⟨t741,A2,H⟩:=H;have HF3:=A_ H;clear H;go_enter Tryz.func17,Tryz.ntmps17;go_upto_if 5 with (first|(refine boxF 1 #[.string a0_0,.slice A0_1 l0_1.length c0_1,.bool a0_2,.string a0_3] 39 ?_;intro gb740 hg w4 BK740 hb;have GE740:=geB hg (zz5 HB);replace HB:=A_ (bS (zz5 HB) hb);clear hb hg;obtain ⟨_,_,_,_,_,_,_,_⟩:=cf4 BK740)|(refine gR 33 (some 4) Tryz.func33 (impl_AddrOk.calls k a0_0 _ _ l0_1 a0_2 a0_3 t741 _ ?side1 ?side2 A2.out) ?_;(case side1=>exact (zz98 HR0_1 HB));(case side2=>exact HC0_1.out);rintro w6 hb;replace BK740:=A_ (bB (zz15 BK740) hb);replace HB:=A_ (bS (zz16 HB GE740) hb);(try clear hb)))
 obtain ⟨H⟩:=HF3;replace H:=iteB H;rcases H with ⟨rfl,H⟩|⟨rfl,H⟩
 ·replace H:=bindA H
  obtain ⟨t742,A8,H⟩:=H;obtain rfl:=sI H;obtain ⟨_,_,_,_,_,_,_,_⟩:=cf4 BK740;go_wp2_with (first|(refine gR 38 (some 7) Tryz.func38 (impl_writeAddr.calls a0_0 _ _ l0_1 a0_2 a0_3 t742 _ ?side1 ?side2 A8.out) ?_;(case side1=>exact (zz98 HR0_1 HB));(case side2=>exact HC0_1.out);rintro w10 hb;replace BK740:=A_ (bB (zz15 BK740) hb);replace HB:=A_ (bS (zz16 HB GE740) hb);(try clear hb)))
  go_ret
  exact ⟨zz12,(zz16 HB GE740)⟩
 ·obtain rfl:=sI H
  go_wp2
  go_ret
  exact ⟨zz12,(zz16 HB GE740)⟩
def impl_readAddress.f (k:Nat) (a0:ByteArray):Option (ByteArray×List ByteArray×Bool×ByteArray×Bool):=(impl_AddrRead.f k a0).bind fun bt684=>(if bt684.2.2.2.2=true then ((impl_writeAddr.f bt684.1 bt684.2.1 bt684.2.2.1 bt684.2.2.2.1).bind fun t692=>(if t692.toList=a0.toList then (some (bt684.1,bt684.2.1,bt684.2.2.1,bt684.2.2.2.1,true)) else (some ((⟨#[]⟩:ByteArray),([]:List ByteArray),false,(⟨#[]⟩:ByteArray),false)))) else (some ((⟨#[]⟩:ByteArray),([]:List ByteArray),false,(⟨#[]⟩:ByteArray),false)))
theorem impl_readAddress.mono:∀ a0 k,LeO (impl_readAddress.f k a0) (impl_readAddress.f (k+1) a0):=by
 intro a0 k;unfold impl_readAddress.f
 repeat' first|(with_reducible first|exact impl_AddrRead.mono _ _|exact LeO.refl _|exact LeO.none _|refine LeO.ite ?_ ?_|refine LeO.bind ?_ (fun _=>?_))|exact LeO.none _|refine LeO.ite ?_ ?_|refine LeO.bind ?_ (fun _=>?_)
theorem impl_readAddress.calls (k:Nat) (a0:ByteArray) (r1:ByteArray) (r2:List ByteArray) (r3:Bool) (r4:ByteArray) (r5:Bool) (w:World) (h:impl_readAddress.f k a0=some (r1,r2,r3,r4,r5)) :
  Calls Tryz.prog 48 #[.string a0] w fun e w'=>∃ v1_:Value,e=.returned (.tuple #[.agg #[.string r1,v1_,.bool r3,.string r4],.bool r5])∧Kd.R Kd.string 9 w' w.heap.size (fun _=>True) v1_ r2∧Below w.heap.size w w':=by
 have hu39:=Tryz.underlying39;have HB:=A_ (Below.refl w.heap.size w);unfold impl_readAddress.f at h
 have H:=h;clear h;replace H:=bindA H;obtain ⟨⟨t684,t685,t688,t689,t690⟩,A2,H⟩:=H;try dsimp only at H
 have HF3:=A_ H;clear H;go_enter Tryz.func48,Tryz.ntmps48;go_wp2_with (first|(refine boxF 2 #[.string (⟨#[]⟩:ByteArray),.slice none 0 0,.bool false,.string (⟨#[]⟩:ByteArray)] 39 ?_;intro gb683 hg w4 BK683 hb;have GE683:=geB hg (zz5 HB);replace HB:=A_ (bS (zz5 HB) hb);clear hb hg)|(refine gV 15 (some 8) Tryz.func15 (impl_AddrRead.calls k a0 t684 t685 t688 t689 t690 _ A2.out) ?_;rintro v686 w5 ⟨ho0,hb⟩;have HO687:=A_ (Kd.R_lower ho0 (below_size (zz16 HB GE683)));replace BK683:=A_ (bB (zz15 BK683) hb);replace HB:=A_ (bS (zz16 HB GE683) hb);(try clear hb ho0))|(refine boxF 4 #[.string (⟨#[]⟩:ByteArray),.slice none 0 0,.bool false,.string (⟨#[]⟩:ByteArray)] 39 ?_;intro gb691 hg w6 BK691 hb;replace HO687:=A_ (rB (zz8 HO687) hb);have GE691:=geB hg (zz16 HB GE683);replace HB:=A_ (bS (zz16 HB GE683) hb);have NB683_691:=A_ ((by rw [hg];exact Nat.ne_of_lt (blk_lt (zz15 BK683)):gb683≠gb691));have NB691_683:=A_ ((by rw [hg];exact Nat.ne_of_gt (blk_lt (zz15 BK683)):gb691≠gb683));replace BK683:=A_ (bB (zz15 BK683) hb);clear hb hg;have hnb7:=NB691_683.out;have hnc7:=NB683_691.out;obtain ⟨_,_,_,_,_,_,_,_⟩:=cf4 BK691;obtain ⟨Ao9,co9,eo9⟩:=Kd.R_slice HO687.out;subst eo9)|((with_reducible refine gate_store (t:=39) (p:=4) rfl ?_);refine store_event (t:=39) (p:=4) (v:=?vo_w10) (w1:=((((w6.setCell ⟨gb691,0,none⟩ (.string t684)).setCell ⟨gb691,1,none⟩ (.slice Ao9 t685.length co9)).setCell ⟨gb691,2,none⟩ (.bool t688)).setCell ⟨gb691,3,none⟩ (.string t689))) ?hg ?ho ?hn ?hr ?_;(case ho=>rfl);(case hg=>rfl);(case hn=>rfl);(case hr=>exact zz26);intro w10 hw;have n0_:Aside0 (Kd.R Kd.string 9 w10 w.heap.size (fun _=>True) (.slice Ao9 t685.length co9) t685):=⟨(by rw [hw];exact (zz47 (rt HO687 BK691)))⟩;have n1_:Aside0 (w10.heap[gb683]?=some (.cells #[.string (⟨#[]⟩:ByteArray),.slice none 0 0,.bool false,.string (⟨#[]⟩:ByteArray)] 39 (0,0))):=⟨(by rw [hw];exact (zz176 BK683 NB683_691))⟩;have n2_:Aside0 (w10.heap[gb691]?=some (.cells #[.string t684,.slice Ao9 t685.length co9,.bool t688,.string t689] 39 (0,0))):=⟨(by rw [hw];exact (zz32 BK691))⟩;have n3_:Aside0 (Below w.heap.size w w10):=⟨(by rw [hw];exact (zz73 HB GE683 GE691))⟩;clear hw;clear HO687;clear BK683;clear BK691;clear HB;have HO687:=n0_;have BK683:=n1_;have BK691:=n2_;have HB:=n3_;clear n0_ n1_ n2_ n3_)|((with_reducible refine atG ?_ ?_ fun K_ hK_=>?_);rfl;exact undecG)|((with_reducible refine atI ?_ fun K_ hK_=>?_);exact undecI))
 refine unG hK_ ?_;clear hK_ K_;obtain ⟨H⟩:=HF3;replace H:=iteB H;rcases H with ⟨rfl,H⟩|⟨rfl,H⟩
 ·(first|refine iteT ?_|refine iteF ?_|skip)
  replace H:=bindA H;obtain ⟨t692,A12,H⟩:=H;have HF13:=A_ H;clear H;have hnb14:=NB691_683.out;have hnc14:=NB683_691.out;obtain ⟨_,_,_,_,_,_,_,_⟩:=cf4 BK691;(try ((with_reducible refine upS ?_);go_simp))
  go_upto_if 18 with (first|(go_at_call 38;(with_reducible refine (impl_writeAddr.calls t684 _ _ t685 t688 t689 t692 _ ?side1 ?side2 A12.out).mono ?_);(case side1=>exact (zz33 HO687));(case side2=>exact (Kd.R_reads' HO687.out).2.1);rintro e w16 ⟨rfl,hb⟩;replace HO687:=A_ (rB (zz8 HO687) hb);replace BK683:=A_ (bB (zz15 BK683) hb);replace BK691:=A_ (bB (zz15 BK691) hb);replace HB:=A_ (bS (zz73 HB GE683 GE691) hb);(try clear hb)))
  obtain ⟨H⟩:=HF13;replace H:=iteEq H;rcases H with ⟨c17b0,c17b1,H⟩|⟨c17b0,c17b1,c17,H⟩
  ·(first|rw [c17b0]|(simp only [i64_w,i32_w];rw [c17b0])|skip)
   simp only [Option.some.injEq,Prod.mk.injEq] at H
   obtain ⟨rfl,rfl,rfl,rfl,rfl⟩:=H;have hnb18:=NB691_683.out;have hnc18:=NB683_691.out;obtain ⟨_,_,_,_,_,_,_,_⟩:=cf4 BK691;obtain ⟨_,_,_,_,_,_,_,_⟩:=cf4 BK683;go_wp2
   refine pR (results_ct rfl _ _ gb683 39 #[.string t684,.slice Ao9 t685.length co9,.bool t688,.string t689] (0,0) _ rfl (zz32 BK683) Tryz.underlying39 rfl (by kernel_rfl)) rfl ?_;exact ⟨_,zz12,(zz47 (rt HO687 BK683)),(zz73 HB GE683 GE691)⟩
  ·(first|rw [c17b0]|(simp only [i64_w,i32_w];rw [c17b0])|skip)
   simp only [Option.some.injEq,Prod.mk.injEq] at H
   obtain ⟨rfl,rfl,rfl,rfl,rfl⟩:=H;have hnb21:=NB683_691.out;have hnc21:=NB691_683.out;obtain ⟨_,_,_,_,_,_,_,_⟩:=cf4 BK683;go_wp2
   refine pR (results_ct rfl _ _ gb683 39 #[.string (⟨#[]⟩:ByteArray),.slice none 0 0,.bool false,.string (⟨#[]⟩:ByteArray)] (0,0) _ rfl (zz32 BK683) Tryz.underlying39 rfl (by kernel_rfl)) rfl ?_;exact ⟨_,zz12,zz4,(zz73 HB GE683 GE691)⟩
 ·(first|refine iteT ?_|refine iteF ?_|skip)
  simp only [Option.some.injEq,Prod.mk.injEq] at H
  obtain ⟨rfl,rfl,rfl,rfl,rfl⟩:=H;have hnb23:=NB683_691.out;have hnc23:=NB691_683.out;obtain ⟨_,_,_,_,_,_,_,_⟩:=cf4 BK683;(try ((with_reducible refine upS ?_);go_simp))
  go_wp2
  refine pR (results_ct rfl _ _ gb683 39 #[.string (⟨#[]⟩:ByteArray),.slice none 0 0,.bool false,.string (⟨#[]⟩:ByteArray)] (0,0) _ rfl (zz32 BK683) Tryz.underlying39 rfl (by kernel_rfl)) rfl ?_;exact ⟨_,zz12,zz4,(zz73 HB GE683 GE691)⟩
def impl_AddrJoin.j0:Nat→ByteArray→Bool→ByteArray→List ByteArray→Bool→ByteArray→Option (ByteArray×List ByteArray×Bool×ByteArray×Bool)
 | 0,_,_,_,_,_,_=>none
 | k+1,x1,x16,x750000,x750001,x750002,x750003=>if x16=true then (some ((⟨#[]⟩:ByteArray),([]:List ByteArray),false,(⟨#[]⟩:ByteArray),false)) else ((strings_Cut.f x1 (⟨#[35]⟩:ByteArray)).bind fun bt752=>((strings_HasPrefix.f bt752.1 (⟨#[47,47]⟩:ByteArray)).bind fun t755=>(if t755=true then ((impl_readWhole.f k bt752.1).bind fun bt756=>(some (bt756.1,bt756.2.1,bt756.2.2.1,bt756.2.2.2.1,bt756.2.2.2.2))) else (if bt752.1.toList=([]:List UInt8) then ((slices_Clone_string_string.f x750001).bind fun t763=>(some (x750000,t763,x750002,x750003,true))) else (if 0 < (bt752.1.size:Int) then (if (bt bt752.1 0)=47 then ((impl_readWay.f k x750000 ([]:List ByteArray) bt752.1).bind fun bt766=>(some (bt766.1,bt766.2.1,bt766.2.2.1,bt766.2.2.2.1,bt766.2.2.2.2))) else (if (bt bt752.1 0)=63 then ((impl_readWay.f k x750000 x750001 bt752.1).bind fun bt773=>(some (bt773.1,bt773.2.1,bt773.2.2.1,bt773.2.2.2.1,bt773.2.2.2.2))) else (if 0≤(mx (wrap64 ((x750001.length:Int) - 1)) 0) then (if (mx (wrap64 ((x750001.length:Int) - 1)) 0)≤(x750001.length:Int) then ((impl_readWay.f k x750000 (x750001.take ((mx (wrap64 ((x750001.length:Int) - 1)) 0):Int).toNat) bt752.1).bind fun bt781=>(some (bt781.1,bt781.2.1,bt781.2.2.1,bt781.2.2.2.1,bt781.2.2.2.2))) else (none)) else (none)))) else (none))))))
def impl_AddrJoin.f (k:Nat) (a0_0:ByteArray) (l0_1:List ByteArray) (a0_2:Bool) (a0_3:ByteArray) (a1:ByteArray):Option (ByteArray×List ByteArray×Bool×ByteArray×Bool):=if (a1.size:Int) > 60 then (impl_AddrJoin.j0 k a1 true a0_0 l0_1 a0_2 a0_3) else ((impl_AddrOk.f k a0_0 l0_1 a0_2 a0_3).bind fun t751=>(impl_AddrJoin.j0 k a1 (!t751) a0_0 l0_1 a0_2 a0_3))
def impl_AddrJoin.T13:Bool×List (List Nat×List Nat):=(true,[([],[]),([0],[0]),([],[]),([2],[2]),([],[]),([4],[4]),([5],[5]),([6],[6]),([7],[7]),([3,8],[3,8]),([],[]),([1,9,10],[1,9,10]),([11],[11]),([11],[11]),([12,11,0,1,2,3,4,5,6,7,8,9,10,11,12,13],[12]),([13,14,0,1,2,3,4,5,6,7,8,9,10,11,12,13,14],[13])])
def impl_AddrJoin.B13:List Nat:=[0,1,0,4,0,16,48,112,240,508,0,2047,4095,4095,16383,32767]
theorem impl_AddrJoin.tab13:rtab .any (opsOf Tryz.f35 13)=impl_AddrJoin.T13:=by kernel_rfl
theorem impl_AddrJoin.bits13:waitsOk impl_AddrJoin.T13.2 impl_AddrJoin.B13=true:=by kernel_rfl
theorem impl_AddrJoin.calls (k:Nat) (a0_0:ByteArray) (A0_1:Option Addr) (c0_1:Nat) (l0_1:List ByteArray) (a0_2:Bool) (a0_3:ByteArray) (a1:ByteArray) (r1:ByteArray) (r2:List ByteArray) (r3:Bool) (r4:ByteArray) (r5:Bool) (w:World) (hr0_1:Kd.C Kd.string w A0_1 l0_1.length l0_1) (hc0_1:l0_1.length≤c0_1) (h:impl_AddrJoin.f k a0_0 l0_1 a0_2 a0_3 a1=some (r1,r2,r3,r4,r5)) :
  Calls Tryz.prog 35 #[.agg #[.string a0_0,.slice A0_1 l0_1.length c0_1,.bool a0_2,.string a0_3],.string a1] w fun e w'=>∃ v1_:Value,e=.returned (.tuple #[.agg #[.string r1,v1_,.bool r3,.string r4],.bool r5])∧Kd.R Kd.string 9 w' w.heap.size (fun _=>True) v1_ r2∧Below w.heap.size w w':=by
 have hu39:=Tryz.underlying39;have HR0_1:=A_ hr0_1;have HC0_1:=A_ hc0_1;clear hr0_1 hc0_1;have HB:=A_ (Below.refl w.heap.size w);unfold impl_AddrJoin.f at h
 have H:=h;clear h;have HC3:=A_ H;clear H;go_enter Tryz.func35,Tryz.ntmps35;go_upto_region 1 with (first|(refine boxF 2 #[.string a0_0,.slice A0_1 l0_1.length c0_1,.bool a0_2,.string a0_3] 39 ?_;intro gb749 hg w4 BK749 hb;have GE749:=geB hg (zz5 HB);replace HB:=A_ (bS (zz5 HB) hb);clear hb hg)|(refine boxF 4 #[.string (⟨#[]⟩:ByteArray),.slice none 0 0,.bool false,.string (⟨#[]⟩:ByteArray)] 39 ?_;intro gb750 hg w5 BK750 hb;have GE750:=geB hg (zz16 HB GE749);replace HB:=A_ (bS (zz16 HB GE749) hb);have NB749_750:=A_ ((by rw [hg];exact Nat.ne_of_lt (blk_lt (zz15 BK749)):gb749≠gb750));have NB750_749:=A_ ((by rw [hg];exact Nat.ne_of_gt (blk_lt (zz15 BK749)):gb750≠gb749));replace BK749:=A_ (bB (zz15 BK749) hb);clear hb hg))
 (try simp only [Act.put,List.setIfInBounds_toArray,List.set_cons_zero,List.set_cons_succ])
 go_cut [16] (fun v16 wc=>∃ (kq:Nat) (x16_2:Bool),v16=.bool x16_2∧Aside0 (impl_AddrJoin.j0 kq a1 x16_2 a0_0 l0_1 a0_2 a0_3=some (r1,r2,r3,r4,r5))∧Aside0 (kq≤k)∧Aside0 (wc.heap[gb749]?=some (.cells #[.string a0_0,(.slice A0_1 l0_1.length c0_1),.bool a0_2,.string a0_3] 39 (0,0)))∧Aside0 (wc.heap[gb750]?=some (.cells #[.string (⟨#[]⟩:ByteArray),(.slice none 0 0),.bool false,.string (⟨#[]⟩:ByteArray)] 39 (0,0)))∧Aside0 (Below w.heap.size w wc))
 case first=>
  obtain ⟨H⟩:=HC3;replace H:=iteE H;rcases H with ⟨c6,H⟩|⟨c6,H⟩
  ·have c6b0:=gtT c6
   have c6b1:decide (60 < a1.size)=true:=dT (by omega);clear c6;(first|rw [c6b0]|(simp only [i64_w,i32_w];rw [c6b0])|skip)
   have H':=A_ H;clear H;go_wp2
   go_meet
   case rel=>exact ⟨_,(true),zz0,H',⟨zz17⟩,⟨(zz15 BK749)⟩,⟨(zz15 BK750)⟩,⟨(zz73 HB GE749 GE750)⟩⟩
  ·have c6b0:=gtF c6
   have c6b1:decide (60 < a1.size)=false:=dF (by omega);clear c6;(first|rw [c6b0]|(simp only [i64_w,i32_w];rw [c6b0])|skip)
   replace H:=bindA H;obtain ⟨t751,A7,H⟩:=H;have H':=A_ H;clear H;have hnb8:=NB749_750.out;have hnc8:=NB750_749.out;obtain ⟨_,_,_,_,_,_,_,_⟩:=cf4 BK749;go_wp2_with (first|(go_at_call 33;(with_reducible refine (impl_AddrOk.calls k a0_0 _ _ l0_1 a0_2 a0_3 t751 _ ?side1 ?side2 A7.out).mono ?_);(case side1=>exact (zz98 HR0_1 HB));(case side2=>exact HC0_1.out);rintro e w10 ⟨rfl,hb⟩;replace BK749:=A_ (bB (zz15 BK749) hb);replace BK750:=A_ (bB (zz15 BK750) hb);replace HB:=A_ (bS (zz73 HB GE749 GE750) hb);(try clear hb)))
   go_meet
   case rel=>exact ⟨_,(!t751),zz0,H',⟨zz17⟩,⟨(zz15 BK749)⟩,⟨(zz15 BK750)⟩,⟨(zz73 HB GE749 GE750)⟩⟩
 case rest=>
  clear HC3;obtain ⟨kq,x16_2,rfl,HA,HJ2,BK749,BK750,HB⟩:=hcut;cases kq with
  | zero=>exact absurd HA.out (by simp [impl_AddrJoin.j0])
  | succ kj2=>
   obtain ⟨H⟩:=HA;simp only [impl_AddrJoin.j0] at H
   replace H:=iteB H;rcases H with ⟨rfl,H⟩|⟨rfl,H⟩
   ·simp only [Option.some.injEq,Prod.mk.injEq] at H
    obtain ⟨rfl,rfl,rfl,rfl,rfl⟩:=H;have hnb12:=NB750_749.out;have hnc12:=NB749_750.out;obtain ⟨_,_,_,_,_,_,_,_⟩:=cf4 BK750;go_wp2
    refine pR (results_ct rfl _ _ gb750 39 #[.string (⟨#[]⟩:ByteArray),.slice none 0 0,.bool false,.string (⟨#[]⟩:ByteArray)] (0,0) _ rfl (zz32 BK750) Tryz.underlying39 rfl (by kernel_rfl)) rfl ?_;exact ⟨_,zz12,zz4,(zz73 HB GE749 GE750)⟩
   ·replace H:=bindA H
    obtain ⟨⟨t752,t753,t754⟩,A14,H⟩:=H;try dsimp only at H
    replace H:=bindA H;obtain ⟨t755,A15,H⟩:=H;replace H:=iteB H;rcases H with ⟨rfl,H⟩|⟨rfl,H⟩
    ·replace H:=bindA H
     obtain ⟨⟨t756,t757,t760,t761,t762⟩,A17,H⟩:=H;try dsimp only at H
     simp only [Option.some.injEq,Prod.mk.injEq] at H
     obtain ⟨rfl,rfl,rfl,rfl,rfl⟩:=H;go_wp2_with (first|(refine gR 31 (some 20) Tryz.func31 (strings_Cut.calls a1 (⟨#[35]⟩:ByteArray) t752 t753 t754 _ A14.out) ?_;rintro w18 hb;replace BK749:=A_ (bB (zz15 BK749) hb);replace BK750:=A_ (bB (zz15 BK750) hb);replace HB:=A_ (bS (zz73 HB GE749 GE750) hb);(try clear hb))|(refine gR 61 (some 26) Tryz.func61 (strings_HasPrefix.calls t752 (⟨#[47,47]⟩:ByteArray) true _ A15.out) ?_;rintro w' ⟨nd,rfl⟩;(try (rw [drewN_self w18];generalize hq_:World.drewN w18 _=w18;have n0_:Aside0 (w18.heap[gb749]?=some (.cells #[.string a0_0,.slice A0_1 l0_1.length c0_1,.bool a0_2,.string a0_3] 39 (0,0))):=⟨zz262⟩;have n1_:Aside0 (w18.heap[gb750]?=some (.cells #[.string (⟨#[]⟩:ByteArray),.slice none 0 0,.bool false,.string (⟨#[]⟩:ByteArray)] 39 (0,0))):=⟨zz263⟩;have n2_:Aside0 (Below w.heap.size w w18):=⟨zz264⟩;clear BK749 BK750 HB hq_;have BK749:=n0_;have BK750:=n1_;have HB:=n2_;clear n0_ n1_ n2_)))|(refine gV 32 (some 28) Tryz.func32 (impl_readWhole.calls kj2 t752 t756 t757 t760 t761 t762 _ A17.out) ?_;rintro v758 w19 ⟨ho0,hb⟩;have HO759:=A_ (Kd.R_lower ho0 (below_size (zz73 HB GE749 GE750)));replace BK749:=A_ (bB (zz15 BK749) hb);replace BK750:=A_ (bB (zz15 BK750) hb);replace HB:=A_ (bS (zz73 HB GE749 GE750) hb);(try clear hb ho0);have hnb20:=NB750_749.out;have hnc20:=NB749_750.out;obtain ⟨_,_,_,_,_,_,_,_⟩:=cf4 BK750;obtain ⟨Ao22,co22,eo22⟩:=Kd.R_slice HO759.out;subst eo22))
     refine pR (results_ct rfl _ _ gb750 39 #[.string t756,.slice Ao22 t757.length co22,.bool t760,.string t761] (0,0) _ rfl (zz32 BK750) Tryz.underlying39 rfl (by kernel_rfl)) rfl ?_;exact ⟨_,zz12,(zz47 (rt HO759 BK750)),(zz73 HB GE749 GE750)⟩
    ·replace H:=iteE H
     rcases H with ⟨c23,H⟩|⟨c23,H⟩
     ·obtain ⟨c23b0,c23b1⟩:=eqT c23
      clear c23;replace H:=bindA H;obtain ⟨t763,A24,H⟩:=H;simp only [Option.some.injEq,Prod.mk.injEq] at H
      obtain ⟨rfl,rfl,rfl,rfl,rfl⟩:=H;go_wp2_with (first|(refine gR 31 (some 20) Tryz.func31 (strings_Cut.calls a1 (⟨#[35]⟩:ByteArray) t752 t753 t754 _ A14.out) ?_;rintro w25 hb;replace BK749:=A_ (bB (zz15 BK749) hb);replace BK750:=A_ (bB (zz15 BK750) hb);replace HB:=A_ (bS (zz73 HB GE749 GE750) hb);(try clear hb))|(refine gR 61 (some 26) Tryz.func61 (strings_HasPrefix.calls t752 (⟨#[47,47]⟩:ByteArray) false _ A15.out) ?_;rintro w' ⟨nd,rfl⟩;(try (rw [drewN_self w25];generalize hq_:World.drewN w25 _=w25;have n0_:Aside0 (w25.heap[gb749]?=some (.cells #[.string a0_0,.slice A0_1 l0_1.length c0_1,.bool a0_2,.string a0_3] 39 (0,0))):=⟨zz262⟩;have n1_:Aside0 (w25.heap[gb750]?=some (.cells #[.string (⟨#[]⟩:ByteArray),.slice none 0 0,.bool false,.string (⟨#[]⟩:ByteArray)] 39 (0,0))):=⟨zz263⟩;have n2_:Aside0 (Below w.heap.size w w25):=⟨zz264⟩;clear BK749 BK750 HB hq_;have BK749:=n0_;have BK750:=n1_;have HB:=n2_;clear n0_ n1_ n2_));have hnb26:=NB749_750.out;have hnc26:=NB750_749.out;obtain ⟨_,_,_,_,_,_,_,_⟩:=cf4 BK749)|(refine gV 62 (some 36) Tryz.func62 (slices_Clone_string_string.calls _ _ l0_1 t763 _ ?side1 ?side2 A24.out) ?_;(case side1=>exact (zz98 HR0_1 HB));(case side2=>exact HC0_1.out);rintro v764 w28 ⟨ho0,hb⟩;have HO765:=A_ (Kd.R_lower ho0 (below_size (zz73 HB GE749 GE750)));replace BK749:=A_ (bB (zz15 BK749) hb);replace BK750:=A_ (bB (zz15 BK750) hb);replace HB:=A_ (bS (zz73 HB GE749 GE750) hb);(try clear hb ho0);obtain ⟨Ao29,co29,eo29⟩:=Kd.R_slice HO765.out;subst eo29;obtain ⟨_,_,_,_,_,_,_,_⟩:=cf4 BK749;obtain ⟨_,_,_,_,_,_,_,_⟩:=cf4 BK750))
      refine pR (results_ct rfl _ _ gb750 39 #[.string a0_0,.slice Ao29 t763.length co29,.bool a0_2,.string a0_3] (0,0) _ rfl (zz176 BK750 NB750_749) Tryz.underlying39 rfl (by kernel_rfl)) rfl ?_;exact ⟨_,zz12,(zz47 (rt (rt HO765 BK749) BK750)),(zz73 HB GE749 GE750)⟩
     ·obtain ⟨c23b0,c23b1⟩:=eqF c23
      replace H:=iteE H;rcases H with ⟨c32,H⟩|⟨c32,H⟩
      ·have c32b0:=dT c32
       have c32b1:decide (0 < t752.size)=true:=dT (by omega);clear c32;replace H:=iteEq H;rcases H with ⟨c34b0,c34b1,H⟩|⟨c34b0,c34b1,c34,H⟩
       ·replace H:=bindA H
        obtain ⟨⟨t766,t767,t770,t771,t772⟩,A35,H⟩:=H;try dsimp only at H
        simp only [Option.some.injEq,Prod.mk.injEq] at H
        obtain ⟨rfl,rfl,rfl,rfl,rfl⟩:=H;go_wp2_with (first|(refine gR 31 (some 20) Tryz.func31 (strings_Cut.calls a1 (⟨#[35]⟩:ByteArray) t752 t753 t754 _ A14.out) ?_;rintro w36 hb;replace BK749:=A_ (bB (zz15 BK749) hb);replace BK750:=A_ (bB (zz15 BK750) hb);replace HB:=A_ (bS (zz73 HB GE749 GE750) hb);(try clear hb))|(refine gR 61 (some 26) Tryz.func61 (strings_HasPrefix.calls t752 (⟨#[47,47]⟩:ByteArray) false _ A15.out) ?_;rintro w' ⟨nd,rfl⟩;(try (rw [drewN_self w36];generalize hq_:World.drewN w36 _=w36;have n0_:Aside0 (w36.heap[gb749]?=some (.cells #[.string a0_0,.slice A0_1 l0_1.length c0_1,.bool a0_2,.string a0_3] 39 (0,0))):=⟨zz262⟩;have n1_:Aside0 (w36.heap[gb750]?=some (.cells #[.string (⟨#[]⟩:ByteArray),.slice none 0 0,.bool false,.string (⟨#[]⟩:ByteArray)] 39 (0,0))):=⟨zz263⟩;have n2_:Aside0 (Below w.heap.size w w36):=⟨zz264⟩;clear BK749 BK750 HB hq_;have BK749:=n0_;have BK750:=n1_;have HB:=n2_;clear n0_ n1_ n2_));have p33:0≤(0:Int):=(by omega);have q33:0 < t752.size:=(by have:(0:Int) < (t752.size:Int):=ofD;omega);have hx33:∀ h:0 < t752.size,((t752[0]'h).toNat:Int)=bt t752 0:=bt_at t752 0;clear p33;have qi33:(0 < (t752.size:Int))=True:=eq_true ofD;replace q33:=eq_true q33;have hnb37:=NB749_750.out;have hnc37:=NB750_749.out;obtain ⟨_,_,_,_,_,_,_,_⟩:=cf4 BK749)|((with_reducible refine gC (f:=55) rfl ?_);refine gsL (some 46) Tryz.func55 #[.string a0_0,.slice none 0 0,.string t752] ?_;(refine (impl_readWay.calls kj2 a0_0 _ _ ([]:List ByteArray) t752 t766 t767 t770 t771 t772 _ ?side1 ?side2 A35.out).mono ?_);(case side1=>exact Kd.C_nil _ _);(case side2=>exact Nat.le_refl _);rintro e w39 ⟨v768,rfl,ho0,hb⟩;refine ⟨_,rfl,?_⟩;have HO769:=A_ (Kd.R_lower ho0 (below_size (zz73 HB GE749 GE750)));replace BK749:=A_ (bB (zz15 BK749) hb);replace BK750:=A_ (bB (zz15 BK750) hb);replace HB:=A_ (bS (zz73 HB GE749 GE750) hb);(try clear hb ho0);obtain ⟨_,_,_,_,_,_,_,_⟩:=cf4 BK750;obtain ⟨Ao41,co41,eo41⟩:=Kd.R_slice HO769.out;subst eo41))
        refine pR (results_ct rfl _ _ gb750 39 #[.string t766,.slice Ao41 t767.length co41,.bool t770,.string t771] (0,0) _ rfl (zz32 BK750) Tryz.underlying39 rfl (by kernel_rfl)) rfl ?_;exact ⟨_,zz12,(zz47 (rt HO769 BK750)),(zz73 HB GE749 GE750)⟩
       ·replace H:=iteEq H
        rcases H with ⟨c43b0,c43b1,H⟩|⟨c43b0,c43b1,c43,H⟩
        ·replace H:=bindA H
         obtain ⟨⟨t773,t774,t777,t778,t779⟩,A44,H⟩:=H;try dsimp only at H
         simp only [Option.some.injEq,Prod.mk.injEq] at H
         obtain ⟨rfl,rfl,rfl,rfl,rfl⟩:=H;go_wp2_with (first|(refine gR 31 (some 20) Tryz.func31 (strings_Cut.calls a1 (⟨#[35]⟩:ByteArray) t752 t753 t754 _ A14.out) ?_;rintro w45 hb;replace BK749:=A_ (bB (zz15 BK749) hb);replace BK750:=A_ (bB (zz15 BK750) hb);replace HB:=A_ (bS (zz73 HB GE749 GE750) hb);(try clear hb))|(refine gR 61 (some 26) Tryz.func61 (strings_HasPrefix.calls t752 (⟨#[47,47]⟩:ByteArray) false _ A15.out) ?_;rintro w' ⟨nd,rfl⟩;(try (rw [drewN_self w45];generalize hq_:World.drewN w45 _=w45;have n0_:Aside0 (w45.heap[gb749]?=some (.cells #[.string a0_0,.slice A0_1 l0_1.length c0_1,.bool a0_2,.string a0_3] 39 (0,0))):=⟨zz262⟩;have n1_:Aside0 (w45.heap[gb750]?=some (.cells #[.string (⟨#[]⟩:ByteArray),.slice none 0 0,.bool false,.string (⟨#[]⟩:ByteArray)] 39 (0,0))):=⟨zz263⟩;have n2_:Aside0 (Below w.heap.size w w45):=⟨zz264⟩;clear BK749 BK750 HB hq_;have BK749:=n0_;have BK750:=n1_;have HB:=n2_;clear n0_ n1_ n2_));have p33:0≤(0:Int):=(by omega);have q33:0 < t752.size:=(by have:(0:Int) < (t752.size:Int):=ofD;omega);have hx33:∀ h:0 < t752.size,((t752[0]'h).toNat:Int)=bt t752 0:=bt_at t752 0;clear p33;have qi33:(0 < (t752.size:Int))=True:=eq_true ofD;replace q33:=eq_true q33;have p42:0≤(0:Int):=(by omega);have q42:0 < t752.size:=(by have:(0:Int) < (t752.size:Int):=ofD;omega);have hx42:∀ h:0 < t752.size,((t752[0]'h).toNat:Int)=bt t752 0:=bt_at t752 0;clear p42;have qi42:(0 < (t752.size:Int))=True:=eq_true ofD;replace q42:=eq_true q42;have hnb46:=NB749_750.out;have hnc46:=NB750_749.out;obtain ⟨_,_,_,_,_,_,_,_⟩:=cf4 BK749)|(refine gV 55 (some 58) Tryz.func55 (impl_readWay.calls kj2 a0_0 _ _ l0_1 t752 t773 t774 t777 t778 t779 _ ?side1 ?side2 A44.out) ?_;(case side1=>exact (zz98 HR0_1 HB));(case side2=>exact HC0_1.out);rintro v775 w48 ⟨ho0,hb⟩;have HO776:=A_ (Kd.R_lower ho0 (below_size (zz73 HB GE749 GE750)));replace BK749:=A_ (bB (zz15 BK749) hb);replace BK750:=A_ (bB (zz15 BK750) hb);replace HB:=A_ (bS (zz73 HB GE749 GE750) hb);(try clear hb ho0);obtain ⟨_,_,_,_,_,_,_,_⟩:=cf4 BK750;obtain ⟨Ao50,co50,eo50⟩:=Kd.R_slice HO776.out;subst eo50))
         refine pR (results_ct rfl _ _ gb750 39 #[.string t773,.slice Ao50 t774.length co50,.bool t777,.string t778] (0,0) _ rfl (zz32 BK750) Tryz.underlying39 rfl (by kernel_rfl)) rfl ?_;exact ⟨_,zz12,(zz47 (rt HO776 BK750)),(zz73 HB GE749 GE750)⟩
        ·obtain ⟨ji51,hji51⟩:∃ j_:Int,(mx (wrap64 ((l0_1.length:Int) - 1)) 0)=j_:=⟨_,rfl⟩
         (first|rw [hji51] at H|simp only [hji51] at H)
         (try rw [hji51] at A14)
         (try rw [hji51] at A15)
         have hji51_:(if (wrap64 ((l0_1.length:Int) - 1)) < 0 then 0 else (wrap64 ((l0_1.length:Int) - 1)))=ji51:=hji51;replace H:=iteN H;obtain ⟨c52,H⟩:=H;have c52b0:=eq_true c52;have c52b1:=dT c52;clear c52;replace H:=iteN H;obtain ⟨c53,H⟩:=H;have c53b0:=eq_true c53;have c53b1:=dT c53;clear c53;replace H:=bindA H;obtain ⟨⟨t781,t782,t785,t786,t787⟩,A54,H⟩:=H;try dsimp only at H
         simp only [Option.some.injEq,Prod.mk.injEq] at H
         obtain ⟨rfl,rfl,rfl,rfl,rfl⟩:=H;try go_wp2_with (first|(refine gR 31 (some 20) Tryz.func31 (strings_Cut.calls a1 (⟨#[35]⟩:ByteArray) t752 t753 t754 _ A14.out) ?_;rintro w55 hb;replace BK749:=A_ (bB (zz15 BK749) hb);replace BK750:=A_ (bB (zz15 BK750) hb);replace HB:=A_ (bS (zz73 HB GE749 GE750) hb);(try clear hb))|(refine gR 61 (some 26) Tryz.func61 (strings_HasPrefix.calls t752 (⟨#[47,47]⟩:ByteArray) false _ A15.out) ?_;rintro w' ⟨nd,rfl⟩;(try (rw [drewN_self w55];generalize hq_:World.drewN w55 _=w55;have n0_:Aside0 (w55.heap[gb749]?=some (.cells #[.string a0_0,.slice A0_1 l0_1.length c0_1,.bool a0_2,.string a0_3] 39 (0,0))):=⟨zz262⟩;have n1_:Aside0 (w55.heap[gb750]?=some (.cells #[.string (⟨#[]⟩:ByteArray),.slice none 0 0,.bool false,.string (⟨#[]⟩:ByteArray)] 39 (0,0))):=⟨zz263⟩;have n2_:Aside0 (Below w.heap.size w w55):=⟨zz264⟩;clear BK749 BK750 HB hq_;have BK749:=n0_;have BK750:=n1_;have HB:=n2_;clear n0_ n1_ n2_));have p33:0≤(0:Int):=(by omega);have q33:0 < t752.size:=(by have:(0:Int) < (t752.size:Int):=ofD;omega);have hx33:∀ h:0 < t752.size,((t752[0]'h).toNat:Int)=bt t752 0:=bt_at t752 0;clear p33;have qi33:(0 < (t752.size:Int))=True:=eq_true ofD;replace q33:=eq_true q33;have p42:0≤(0:Int):=(by omega);have q42:0 < t752.size:=(by have:(0:Int) < (t752.size:Int):=ofD;omega);have hx42:∀ h:0 < t752.size,((t752[0]'h).toNat:Int)=bt t752 0:=bt_at t752 0;clear p42;have qi42:(0 < (t752.size:Int))=True:=eq_true ofD;replace q42:=eq_true q42))
         replace BK749:=A_ (blk_drew BK749.out);replace BK750:=A_ (blk_drew BK750.out);replace HB:=A_ (below_drew1 HB.out);obtain ⟨i057,hi057,_,hsz57,_⟩:=info_parts info9;obtain ⟨hcut57,hA57,hC57⟩:=print_take_of (P:=Tryz.prog) Value.string (⟨#[]⟩:ByteArray) 35 9 .i64 Tryz.underlying35 hi057 hsz57 A0_1 c0_1 l0_1 (ji51) ofD ofD HC0_1.out;have HR780:=A_ (Kd.C_of_reads (h1:=fun _=>rfl) (hA57 _ (Kd.reads_of_C HR0_1.out)));have HC780:=A_ hC57;clear hA57 hC57 hi057 hsz57;refine start_ (n:=16) (S:=fun w'=>w'.cell? ⟨gb749,0,none⟩=some (.string a0_0)∧w'.cell? ⟨gb749,1,none⟩=some (.slice A0_1 l0_1.length c0_1)∧w'.cell? ⟨gb749,2,none⟩=some (.bool a0_2)∧w'.cell? ⟨gb749,3,none⟩=some (.string a0_3)) (ds:=[]) #[yF,yF,yF,yF,yF,yF,yF,yF,yF,yF,yF,yF,yF,yF,yF,yF] (by kernel_rfl) rfl rfl ⟨(blk_cell BK749.out 0).trans rfl,(blk_cell BK749.out 1).trans rfl,(blk_cell BK749.out 2).trans rfl,(blk_cell BK749.out 3).trans rfl⟩ (fun hHeld=>?_);refine with_tabW impl_AddrJoin.tab13 impl_AddrJoin.bits13 (fun HT_ HW_=>?_);generalize w55.drew=w56 at BK749 BK750 HB HR780 hHeld ⊢;refine pureZ 0 (some 61) #[yT,yF,yF,yF,yF,yF,yF,yF,yF,yF,yF,yF,yF,yF,yF,yF] ?_;refine pureZ 2 (some 63) #[yT,yF,yT,yF,yF,yF,yF,yF,yF,yF,yF,yF,yF,yF,yF,yF] ?_;refine pureZ 4 (some 65) #[yT,yF,yT,yF,yT,yF,yF,yF,yF,yF,yF,yF,yF,yF,yF,yF] ?_;refine pureZ 10 (some 71) #[yT,yF,yT,yF,yT,yF,yF,yF,yF,yF,yT,yF,yF,yF,yF,yF] ?_;refine takeZ4 1 (some 62) #[yT,yT,yT,yF,yT,yF,yF,yF,yF,yF,yT,yF,yF,yF,yF,yF] hHeld ?_;refine takeZ4 3 (some 64) #[yT,yT,yT,yT,yT,yF,yF,yF,yF,yF,yT,yF,yF,yF,yF,yF] hHeld ?_;refine takeZ4 5 (some 66) #[yT,yT,yT,yT,yT,yT,yF,yF,yF,yF,yT,yF,yF,yF,yF,yF] hHeld ?_;refine pureZ 6 (some 67) #[yT,yT,yT,yT,yT,yT,yT,yF,yF,yF,yT,yF,yF,yF,yF,yF] ?_;refine pureZ 7 (some 68) #[yT,yT,yT,yT,yT,yT,yT,yT,yF,yF,yT,yF,yF,yF,yF,yF] ?_;refine pureZ 8 (some 69) #[yT,yT,yT,yT,yT,yT,yT,yT,yT,yF,yT,yF,yF,yF,yF,yF] ?_;refine pureZ 9 (some 70) #[yT,yT,yT,yT,yT,yT,yT,yT,yT,yT,yT,yF,yF,yF,yF,yF] ?_;refine oneZ 11 (some 72) #[yT,yT,yT,yT,yT,yT,yT,yT,yT,yT,yT,yT,yF,yF,yF,yF] (fun K hK=>?_);refine goes_ Tryz.func55 (by kernel_rfl) rfl #[.string a0_0,.slice A0_1 (l0_1.take ((ji51):Int).toNat).length c0_1,.string t752] (by rfl) rfl rfl (by (try simp only [List.map_toArray,List.map_cons,List.map_nil]);first|done|(rw [show (l0_1.take ((ji51):Int).toNat).length=(ji51).toNat from (by rw [List.length_take];have h_:((ji51):Int)≤(l0_1.length:Int):=ofD;omega)] <;> rfl)|(simp only [hji51];rfl)|rfl|(simp only [List.length_drop,List.length_take];rfl)) ?_;with_reducible refine (impl_readWay.calls kj2 a0_0 _ _ (l0_1.take ((ji51):Int).toNat) t752 t781 t782 t785 t786 t787 _ ?side1 ?side2 A54.out).mono ?_
         (case side1=>exact (zz98 HR780 HB))
         (case side2=>exact HC780.out)
         rintro e w58 ⟨v783,rfl,ho0,hb⟩;refine ⟨_,rfl,?_⟩;have HO784:=A_ (Kd.R_lower ho0 (below_size (zz73 HB GE749 GE750)));replace BK749:=A_ (bB (zz15 BK749) hb);replace BK750:=A_ (bB (zz15 BK750) hb);replace HB:=A_ (bS (zz73 HB GE749 GE750) hb);(try clear hb)
         (try clear hb2)
         (try clear hk)
         (try clear hi)
         (try clear ho0)
         obtain ⟨Ao60,co60,eo60⟩:=Kd.R_slice HO784.out;(first|subst eo60|(injection eo60 with f1_ f2_ f3_;have f4_:=f1_.symm;have f5_:=f3_.symm;clear f1_ f2_ f3_;subst f4_;subst f5_))
         refine hK.out _ _ ⟨(blk_cell BK749.out 0).trans rfl,(blk_cell BK749.out 1).trans rfl,(blk_cell BK749.out 2).trans rfl,(blk_cell BK749.out 3).trans rfl⟩ (fun hHeld=>?_);clear hK K;refine nZ 72 ?_;refine pureZ 12 (some 73) #[yT,yT,yT,yT,yT,yT,yT,yT,yT,yT,yT,yT,yT,yF,yF,yF] ?_;refine pureZ 13 (some 74) #[yT,yT,yT,yT,yT,yT,yT,yT,yT,yT,yT,yT,yT,yT,yF,yF] ?_;refine oneZ 14 (none) #[yT,yT,yT,yT,yT,yT,yT,yT,yT,yT,yT,yT,yT,yT,yT,yF] (fun K hK=>?_);have hs59:w58.cell? ⟨gb750,0,none⟩=some (.string (⟨#[]⟩:ByteArray)):=(blk_cell BK750.out 0).trans rfl;have hfs59:=blk_frozen BK750.out 0;have hns59_0:=NB749_750.out;have hms59_0:=NB750_749.out;have hs61:w58.cell? ⟨gb750,1,none⟩=some (.slice none 0 0):=(blk_cell BK750.out 1).trans rfl;have hfs61:=blk_frozen BK750.out 1;have hns61_0:=NB749_750.out;have hms61_0:=NB750_749.out;have hs62:w58.cell? ⟨gb750,2,none⟩=some (.bool false):=(blk_cell BK750.out 2).trans rfl;have hfs62:=blk_frozen BK750.out 2;have hns62_0:=NB749_750.out;have hms62_0:=NB750_749.out;have hs63:w58.cell? ⟨gb750,3,none⟩=some (.string (⟨#[]⟩:ByteArray)):=(blk_cell BK750.out 3).trans rfl;have hfs63:=blk_frozen BK750.out 3;have hns63_0:=NB749_750.out;have hms63_0:=NB750_749.out;refine skip_ (w1:=?_) (by rfl) rfl ?_ ?_;rotate_left
         ·go_simp
          rfl
         refine hK.out _ _ ⟨((cell_far (p:=⟨gb750,_,none⟩) NB749_750.out _).trans (((cell_far (p:=⟨gb750,_,none⟩) NB749_750.out _).trans (((cell_far (p:=⟨gb750,_,none⟩) NB749_750.out _).trans (((cell_far (p:=⟨gb750,_,none⟩) NB749_750.out _).trans (hHeld.1)))))))),((cell_far (p:=⟨gb750,_,none⟩) NB749_750.out _).trans (((cell_far (p:=⟨gb750,_,none⟩) NB749_750.out _).trans (((cell_far (p:=⟨gb750,_,none⟩) NB749_750.out _).trans (((cell_far (p:=⟨gb750,_,none⟩) NB749_750.out _).trans (hHeld.2.1)))))))),((cell_far (p:=⟨gb750,_,none⟩) NB749_750.out _).trans (((cell_far (p:=⟨gb750,_,none⟩) NB749_750.out _).trans (((cell_far (p:=⟨gb750,_,none⟩) NB749_750.out _).trans (((cell_far (p:=⟨gb750,_,none⟩) NB749_750.out _).trans (hHeld.2.2.1)))))))),((cell_far (p:=⟨gb750,_,none⟩) NB749_750.out _).trans (((cell_far (p:=⟨gb750,_,none⟩) NB749_750.out _).trans (((cell_far (p:=⟨gb750,_,none⟩) NB749_750.out _).trans (((cell_far (p:=⟨gb750,_,none⟩) NB749_750.out _).trans (hHeld.2.2.2))))))))⟩ (fun hHeld=>?_);clear hK K;refine pureZ 15 (some 5) #[yT,yT,yT,yT,yT,yT,yT,yT,yT,yT,yT,yT,yT,yT,yT,yT] ?_;refine done_ (done_of HT_.out (by kernel_rfl)) ?_;try go_wp2
         refine pR (results_ct rfl _ _ gb750 39 #[.string t781,.slice Ao60 t782.length co60,.bool t785,.string t786] (0,0) _ rfl (zz32 BK750) Tryz.underlying39 rfl (by kernel_rfl)) rfl ?_;exact ⟨_,(by first|rfl|(simp [errW_none,errW_some] <;> rfl)|(simp only [← hji51];first|rfl|(simp [errW_none,errW_some] <;> rfl))|(simp [*,errW_none,errW_some] <;> rfl)),(zz47 (rt HO784 BK750)),(zz73 HB GE749 GE750)⟩
      ·exact absurd H (by simp)
def impl_isAddress.f (k:Nat) (a0:ByteArray):Option (Bool):=(impl_readAddress.f k a0).bind fun bt693=>(some bt693.2.2.2.2)
theorem impl_isAddress.mono:∀ a0 k,LeO (impl_isAddress.f k a0) (impl_isAddress.f (k+1) a0):=by
 intro a0 k;unfold impl_isAddress.f
 repeat' first|(with_reducible first|exact impl_readAddress.mono _ _|exact LeO.refl _|exact LeO.none _|refine LeO.ite ?_ ?_|refine LeO.bind ?_ (fun _=>?_))|exact LeO.none _|refine LeO.ite ?_ ?_|refine LeO.bind ?_ (fun _=>?_)
theorem impl_isAddress.calls (k:Nat) (a0:ByteArray) (r:Bool) (w:World) (h:impl_isAddress.f k a0=some r) :
  Calls Tryz.prog 69 #[.string a0] w fun e w'=>e=.returned (.bool r)∧Below w.heap.size w w':=by
 have hu39:=Tryz.underlying39;have HB:=A_ (Below.refl w.heap.size w);unfold impl_isAddress.f at h
 have H:=h;clear h;replace H:=bindA H;obtain ⟨⟨t693,t694,t697,t698,t699⟩,A2,H⟩:=H;try dsimp only at H
 obtain rfl:=sI H;go_enter Tryz.func69,Tryz.ntmps69;go_wp2_with (first|(refine gV 48 (some 7) Tryz.func48 (impl_readAddress.calls k a0 t693 t694 t697 t698 t699 _ A2.out) ?_;rintro v695 w3 ⟨ho0,hb⟩;have HO696:=A_ (Kd.R_lower ho0 (below_size (zz5 HB)));replace HB:=A_ (bS (zz5 HB) hb);(try clear hb ho0))|(refine boxF 3 #[.string (⟨#[]⟩:ByteArray),.slice none 0 0,.bool false,.string (⟨#[]⟩:ByteArray)] 39 ?_;intro gb700 hg w4 BK700 hb;replace HO696:=A_ (rB (zz8 HO696) hb);have GE700:=geB hg (zz5 HB);replace HB:=A_ (bS (zz5 HB) hb);clear hb hg;obtain ⟨_,_,_,_,_,_,_,_⟩:=cf4 BK700;obtain ⟨Ao6,co6,eo6⟩:=Kd.R_slice HO696.out;subst eo6))
 go_ret
 exact ⟨zz12,(zz16 HB GE700)⟩
def impl_pageOk.f (k:Nat) (a0_0:ByteArray) (a0_1:ByteArray) (a0_2:ByteArray) (a0_3:Int):Option (Bool):=(impl_isAddress.f k a0_0).bind fun t702=>(if t702=true then (if (a0_1.size:Int) > 300 then (some false) else (if a0_3 < 0 then (some false) else (if a0_3 > 9 then (some false) else (if a0_2.toList=([]:List UInt8) then (some true) else ((impl_isAddress.f k a0_2).bind fun t703=>(if t703=true then (some (a0_1.toList == ([]:List UInt8))) else (some false))))))) else (some false))
theorem impl_pageOk.mono:∀ a0 a1 a2 a3 k,LeO (impl_pageOk.f k a0 a1 a2 a3) (impl_pageOk.f (k+1) a0 a1 a2 a3):=by
 intro a0 a1 a2 a3 k;unfold impl_pageOk.f
 repeat' first|(with_reducible first|exact impl_isAddress.mono _ _|exact LeO.refl _|exact LeO.none _|refine LeO.ite ?_ ?_|refine LeO.bind ?_ (fun _=>?_))|exact LeO.none _|refine LeO.ite ?_ ?_|refine LeO.bind ?_ (fun _=>?_)
theorem impl_pageOk.calls (k:Nat) (a0_0:ByteArray) (a0_1:ByteArray) (a0_2:ByteArray) (a0_3:Int) (r:Bool) (w:World) (h:impl_pageOk.f k a0_0 a0_1 a0_2 a0_3=some r) :
  Calls Tryz.prog 45 #[.agg #[.string a0_0,.string a0_1,.string a0_2,.int .i64 a0_3]] w fun e w'=>e=.returned (.bool r)∧Below w.heap.size w w':=by
 have hu30:=Tryz.underlying30;have HB:=A_ (Below.refl w.heap.size w);unfold impl_pageOk.f at h
 have H:=h;clear h;replace H:=bindA H;obtain ⟨t702,A2,H⟩:=H;have HF3:=A_ H;clear H;go_enter Tryz.func45,Tryz.ntmps45;go_wp2_with (first|((with_reducible refine gD (N:=1) rfl ?_);(try (refine gate_guard (by rfl) ?_;dsimp only));refine boxE 1 #[.string a0_0,.string a0_1,.string a0_2,.int .i64 a0_3] 30 ?_;intro gb701 hg w4 hbox hb;have BK701:=A_ (hbox);have GE701:=geB hg (zz5 HB);replace HB:=A_ (bS (zz5 HB) hb);clear hb hbox hg;obtain ⟨_,_,_,_,_,_,_,_⟩:=cf4 BK701)|(refine gR 69 (some 5) Tryz.func69 (impl_isAddress.calls k a0_0 t702 _ A2.out) ?_;rintro w6 hb;replace BK701:=A_ (bB (zz15 BK701) hb);replace HB:=A_ (bS (zz16 HB GE701) hb);(try clear hb))|((with_reducible refine atG ?_ ?_ fun K_ hK_=>?_);rfl;exact undecG)|((with_reducible refine atI ?_ fun K_ hK_=>?_);exact undecI))
 refine unG hK_ ?_;clear hK_ K_;obtain ⟨H⟩:=HF3;replace H:=iteB H;rcases H with ⟨rfl,H⟩|⟨rfl,H⟩
 ·(first|refine iteT ?_|refine iteF ?_|skip)
  replace H:=iteE H;rcases H with ⟨c8,H⟩|⟨c8,H⟩
  ·have c8b0:=gtT c8
   have c8b1:decide (300 < a0_1.size)=true:=dT (by omega);clear c8;obtain rfl:=sI H;obtain ⟨_,_,_,_,_,_,_,_⟩:=cf4 BK701;go_wp2
   go_ret
   exact ⟨zz12,(zz16 HB GE701)⟩
  ·have c8b0:=gtF c8
   have c8b1:decide (300 < a0_1.size)=false:=dF (by omega);clear c8;replace H:=iteEd H;rcases H with ⟨c10b0,H⟩|⟨c10b0,H⟩
   ·obtain rfl:=sI H
    obtain ⟨_,_,_,_,_,_,_,_⟩:=cf4 BK701;go_wp2
    go_ret
    exact ⟨zz12,(zz16 HB GE701)⟩
   ·replace H:=iteEg H
    rcases H with ⟨c12b0,H⟩|⟨c12b0,H⟩
    ·obtain rfl:=sI H
     obtain ⟨_,_,_,_,_,_,_,_⟩:=cf4 BK701;go_wp2
     go_ret
     exact ⟨zz12,(zz16 HB GE701)⟩
    ·replace H:=iteEq H
     rcases H with ⟨c14b0,c14b1,H⟩|⟨c14b0,c14b1,c14,H⟩
     ·obtain rfl:=sI H
      obtain ⟨_,_,_,_,_,_,_,_⟩:=cf4 BK701;go_wp2
      go_ret
      exact ⟨zz12,(zz16 HB GE701)⟩
     ·replace H:=bindA H
      obtain ⟨t703,A16,H⟩:=H;have HF17:=A_ H;clear H;obtain ⟨_,_,_,_,_,_,_,_⟩:=cf4 BK701;go_wp2_with (first|(go_at_call 69;(with_reducible refine (impl_isAddress.calls k a0_2 t703 _ A16.out).mono ?_);rintro e w19 ⟨rfl,hb⟩;replace BK701:=A_ (bB (zz15 BK701) hb);replace HB:=A_ (bS (zz16 HB GE701) hb);(try clear hb))|((with_reducible refine atG ?_ ?_ fun K_ hK_=>?_);rfl;exact undecG)|((with_reducible refine atI ?_ fun K_ hK_=>?_);exact undecI))
      refine unG hK_ ?_;clear hK_ K_;obtain ⟨H⟩:=HF17;replace H:=iteB H;rcases H with ⟨rfl,H⟩|⟨rfl,H⟩
      ·(first|refine iteT ?_|refine iteF ?_|skip)
       obtain rfl:=sI H;obtain ⟨_,_,_,_,_,_,_,_⟩:=cf4 BK701;(try ((with_reducible refine upS ?_);go_simp))
       go_wp2
       go_ret
       exact ⟨zz12,(zz16 HB GE701)⟩
      ·(first|refine iteT ?_|refine iteF ?_|skip)
       obtain rfl:=sI H;(try ((with_reducible refine upS ?_);go_simp))
       go_wp2
       go_ret
       exact ⟨zz12,(zz16 HB GE701)⟩
 ·(first|refine iteT ?_|refine iteF ?_|skip)
  obtain rfl:=sI H;(try ((with_reducible refine upS ?_);go_simp))
  go_wp2
  go_ret
  exact ⟨zz12,(zz16 HB GE701)⟩
end Go.Proofs.YtpomhjkbgbociaaGreatDoor.P
end
section
namespace Go.Proofs.YtpomhjkbgbociaaGreatDoor.P
open Go.RowKit Go.Proofs.YtpomhjkbgbociaaGreatDoorW.PrintWords Go.Proofs.YtpomhjkbgbociaaGreatDoorW.PrintLast Go.Proofs.YtpomhjkbgbociaaGreatDoorW.PrintMore Go.Maps Go.ChangeMaps
set_option linter.unusedVariables false
set_option linter.unusedSimpArgs false
def pageD (p:S30):DataW Unit:=.agg [.lit (.string p.f0.data.toList),.lit (.string p.f1.data.toList),.lit (.string p.f2.data.toList),.lit (.int .i64 p.f3)]
def pageV (p:S30):Value:=.agg #[.string p.f0,.string p.f1,.string p.f2,.int .i64 p.f3]
def pageR (v:Value):Option (DataW Unit×List MemPlace):=
 match v with
 | .agg ⟨[.string a,.string b,.string c,.int .i64 d]⟩=>some (pageD ⟨a,b,c,d⟩,[])
 | _=>none
theorem pageR_mk (p:S30):pageR (pageV p)=some (pageD p,[]):=rfl
theorem pageR_inv {v:Value} {z:DataW Unit×List MemPlace} (h:pageR v=some z):∃ p,v=pageV p∧z=(pageD p,[]):=by
 unfold pageR at h
 split at h
 ·exact ⟨⟨_,_,_,_⟩,rfl,(Option.some.inj h).symm⟩
 ·cases h
theorem pageD_inj {p q:S30} (h:pageD p=pageD q):p=q:=by
 obtain ⟨⟨⟨p0⟩⟩,⟨⟨p1⟩⟩,⟨⟨p2⟩⟩,p3⟩:=p
 obtain ⟨⟨⟨q0⟩⟩,⟨⟨q1⟩⟩,⟨⟨q2⟩⟩,q3⟩:=q
 simp [pageD] at h
 obtain ⟨rfl,rfl,rfl,rfl⟩:=h
 rfl
def keyL (s:ByteArray):Lit:=.string s.data.toList
def mapR:List S30→DataW Unit
 | []=>.map []
 | p :: r=>(mapR r).put (keyL p.f0) (pageD p)
def mapD (l:List S30):DataW Unit:=mapR l.reverse
theorem mapD_snoc (l:List S30) (p:S30):mapD (l++[p])=(mapD l).put (keyL p.f0) (pageD p):=by simp [mapD,mapR]
theorem keyL_lit (a:ByteArray):WideAt.IsKeyLit (keyL a):=trivial
theorem keyL_inj {a b:ByteArray} (h:keyL a=keyL b):a=b:=by
 obtain ⟨⟨a⟩⟩:=a
 obtain ⟨⟨b⟩⟩:=b
 simp [keyL] at h
 rw [h]
theorem mapR_is:∀ l,IsMap (mapR l)
 | []=>isMap_empty
 | p :: r=>(mapR_is r).put _ _
theorem mapR_tidy:∀ l,Tidy (mapR l)
 | []=>tidy_empty
 | p :: r=>(mapR_tidy r).put (keyL_lit _) _
def pageAtR (a:ByteArray):List S30→Option S30
 | []=>none
 | p :: r=>if p.f0=a then some p else pageAtR a r
theorem mapR_at (a:ByteArray):∀ l,(mapR l).atKey (keyL a) (pageD z30)=pageD ((pageAtR a l).getD z30)
 | []=>rfl
 | p :: r=>by
  unfold mapR pageAtR
  by_cases h:p.f0=a
  ·rw [if_pos h,← h,atKey_put_same (mapR_is r) (keyL_lit _)];rfl
  ·rw [if_neg h,atKey_put_other (fun e=>h (keyL_inj e).symm)]
   exact mapR_at a r
theorem mapR_has (a:ByteArray):∀ l,has (mapR l) (keyL a)=(pageAtR a l).isSome
 | []=>rfl
 | p :: r=>by
  unfold mapR pageAtR
  by_cases h:p.f0=a
  ·rw [if_pos h,← h,has_put_same (mapR_is r) (keyL_lit _)];rfl
  ·rw [if_neg h,has_put_other (fun e=>h (keyL_inj e).symm)]
   exact mapR_has a r
theorem mapR_size (p:S30) (r:List S30):size (mapR (p :: r))=if (pageAtR p.f0 r).isSome then size (mapR r) else size (mapR r)+1:=by
 show size ((mapR r).put _ _)=_
 rw [size_put (mapR_tidy r),mapR_has]
def getF (l:List S30) (a:ByteArray) (t:Int):Int×ByteArray:=
 match pageAtR a l.reverse with
 | none=>(0,⟨#[]⟩)
 | some p=>if t < 0 then (0,⟨#[]⟩) else if t < p.f3 then (3,⟨#[]⟩) else if p.f2.toList=([]:List UInt8) then (1,p.f1) else (2,p.f2)
def pagesOk (k:Nat):List S30→Option Bool
 | []=>some true
 | p :: r=>if p.f0.size≤9223372036854775807 then (impl_pageOk.f k p.f0 p.f1 p.f2 p.f3).bind fun t=>if t=true then pagesOk k r else some false else none
theorem map_below {w w':World} {P:Program} {k:TypeId} {R:Value→Option (DataW Unit×List MemPlace)} {b n:Nat} {D:DataW Unit} (h:w.ownsMap P k R b n D) (hb:Below w.heap.size w w'):w'.ownsMap P k R b n D:=by
 have hlt:=h.lt
 obtain ⟨es,clock,h1,F,h2,h3⟩:=h
 exact ⟨es,clock,(hb.block b hlt).trans h1,F,h2,h3⟩
theorem grown_below {w W W':World} (h:Below w.heap.size w W) (g:W.grownBy W' (some w.heap.size)):Below w.heap.size w W':=
 ⟨g.os.trans h.os,g.tape.trans h.tape,g.output.trans h.output,Nat.le_trans h.size g.size,fun i hi=>(g.block i (Nat.lt_of_lt_of_le hi h.size) (by intro e;injection e with e;omega)).trans (h.block i hi)⟩
abbrev Pages (w:World) (b n:Nat) (D:DataW Unit):Prop:=w.ownsMap Tryz.prog 9 pageR b n D
set_option maxHeartbeats 8000000 in
set_option maxRecDepth 100000 in
theorem worldOf_walk (k:Nat) (A0:Option Addr) (c0:Nat) (l0:List S30) (r:Bool) (w:World) (hr0:Kd.C k30 w A0 l0.length l0) (hc0:l0.length≤c0) (h12:l0.length≤12) (h:pagesOk k l0=some r) :
  Calls Tryz.prog 24 #[.slice A0 l0.length c0] w fun e w'=>Below w.heap.size w w' ∧
   (r=false→e=.returned (.tuple #[.map none,.bool false]))∧(r=true→∃ b,w.heap.size≤b∧Pages w' b l0.length (mapD l0)∧e=.returned (.tuple #[.map (some b),.bool ((Maps.size (mapD l0):Int) == (l0.length:Int))])):=by
 have hu:=Tryz.underlying30
 have hle:decide ((12:Int) < (l0.length:Int))=false:=decide_eq_false (by omega)
 have hmm:=@run_makeMap Tryz.prog
 have H0:=Aside0.mk h
 clear h
 go_enter Tryz.func24,Tryz.ntmps24
 go_wp2
 go_loopg [13] l0.length (fun g v wx=>∃ i:Nat,v=.int .i64 i∧i+g=l0.length∧Aside0 (pagesOk k (l0.drop i)=some r)∧Aside0 (Pages wx w.heap.size i (mapD (l0.take i)))∧Aside0 (Below w.heap.size w wx))
 case atStart=>exact ⟨0,rfl,by omega,⟨by simpa using H0.out⟩,⟨by simpa [mapD,mapR] using World.ownsMap_made w Tryz.prog 9 pageR⟩,⟨(Below.refl _ _).alloc (Nat.le_refl _) _⟩⟩
 case round=>
  clear H0 hmm
  obtain ⟨i,rfl,hig,H,HM,HB⟩:=hrel
  cases gk with
  | zero=>
   obtain rfl:i=l0.length:=by omega
   have hr:r=true:=by
    have:=H.out
    rw [List.drop_length] at this
    exact (Option.some.inj this).symm
   subst hr
   have hlt:decide ((l0.length:Int) < (l0.length:Int))=false:=decide_eq_false (by omega)
   have hlen:=fun ty=>HM.out.len Tryz.underlying51 ty
   go_wp2
   go_ret2
   refine ⟨HB.out,w.heap.size,Nat.le_refl _,?_,?_⟩
   ·have:=HM.out
    rw [List.take_length] at this
    exact this
   ·rfl
  | succ g=>
   have hi:i < l0.length:=by omega
   have hlt:decide ((i:Int) < (l0.length:Int))=true:=decide_eq_true (by omega)
   obtain ⟨ad,ea,hx0,hx1,hx2,hx3⟩:=at_T30 hr0 (i:Int) (by omega) (by omega)
   subst ea
   replace hx0:=(HB.out.cell (World.block_lt_of_cell? w _ hx0)).trans hx0
   replace hx1:=(HB.out.cell (World.block_lt_of_cell? w _ hx1)).trans hx1
   replace hx2:=(HB.out.cell (World.block_lt_of_cell? w _ hx2)).trans hx2
   replace hx3:=(HB.out.cell (World.block_lt_of_cell? w _ hx3)).trans hx3
   have p0:(0≤(i:Int))=True:=eq_true (by omega)
   have q0:((i:Int) < (l0.length:Int))=True:=eq_true (by omega)
   obtain ⟨p,hp⟩:∃ p,rd_T30 l0 (i:Int)=p:=⟨_,rfl⟩
   rw [hp] at hx0 hx1 hx2 hx3
   simp only [Int.toNat_natCast] at hx0 hx1 hx2 hx3
   have hd:l0.drop i=p :: l0.drop (i+1):=by
    rw [List.drop_eq_getElem_cons hi]
    congr 1
    rw [← hp]
    simp [rd_T30,List.getD,List.getElem?_eq_getElem hi]
   have ht:l0.take (i+1)=l0.take i++[p]:=by
    rw [List.take_succ_eq_append_getElem hi]
    congr 2
    rw [← hp]
    simp [rd_T30,List.getD,List.getElem?_eq_getElem hi]
   have H1:=H.out
   rw [hd] at H1
   simp only [pagesOk] at H1
   by_cases hz:p.f0.size≤9223372036854775807
   case neg=>rw [if_neg hz] at H1;cases H1
   rw [if_pos hz] at H1
   have HK:=Aside0.mk (Go.WideMaps.keyOf_string_mk (P:=Tryz.prog) Tryz.underlying9 (s:=p.f0) (by have:maxLen=2 ^ 63 - 1:=rfl;omega))
   clear hz
   obtain ⟨t,A0',H2⟩:=Option.bind_eq_some_iff.mp H1
   have A:=Aside0.mk A0'
   have HT:=Aside0.mk ht
   clear H1 A0' H hd ht hp
   by_cases ct:t=true
   ·subst ct
    rw [if_pos rfl] at H2
    have H':=Aside0.mk H2
    clear H2
    go_wp2_with (first|((with_reducible refine gate_dst (N:=6) rfl ?_);refine box_event ?hg (N:=6) ?hd (cs:=#[.string (⟨#[]⟩:ByteArray),.string (⟨#[]⟩:ByteArray),.string (⟨#[]⟩:ByteArray),.int .i64 0]) (t:=30) ?hr ?_;(case hd=>rfl);(case hg=>rfl);(case hr=>first|(go_simp;done)|(go_simp;rfl));intro gb hg w6 hbox hb;have BK:=Aside0.mk hbox;have NB:=Aside0.mk (show gb≠w.heap.size from by rw [hg];exact Nat.ne_of_gt HM.out.lt);have GE:=Aside0.mk (show w.heap.size≤gb from by rw [hg];exact below_size HB.out);replace HM:=Aside0.mk (map_below HM.out hb);replace HB:=Aside0.mk (below_step HB.out hb);replace hx0:=(hb.cell (World.block_lt_of_cell? _ _ hx0)).trans hx0;replace hx1:=(hb.cell (World.block_lt_of_cell? _ _ hx1)).trans hx1;replace hx2:=(hb.cell (World.block_lt_of_cell? _ _ hx2)).trans hx2;replace hx3:=(hb.cell (World.block_lt_of_cell? _ _ hx3)).trans hx3;clear hb hg hbox;obtain ⟨hc0,hc1,hc2,hc3⟩:w6.cell? ⟨gb,0,none⟩=some (.string (⟨#[]⟩:ByteArray))∧w6.cell? ⟨gb,1,none⟩=some (.string (⟨#[]⟩:ByteArray))∧w6.cell? ⟨gb,2,none⟩=some (.string (⟨#[]⟩:ByteArray))∧w6.cell? ⟨gb,3,none⟩=some (.int .i64 0):=⟨(blk_cell BK.out 0).trans rfl,(blk_cell BK.out 1).trans rfl,(blk_cell BK.out 2).trans rfl,(blk_cell BK.out 3).trans rfl⟩;have hf0:=blk_frozen BK.out 0;have hf1:=blk_frozen BK.out 1;have hf2:=blk_frozen BK.out 2;have hf3:=blk_frozen BK.out 3)|(go_at_call 45;(with_reducible refine (impl_pageOk.calls k p.f0 p.f1 p.f2 p.f3 true _ A.out).mono ?_);rintro e w8 ⟨rfl,hb⟩;replace HM:=Aside0.mk (map_below ((((HM.out.setCell (a:=⟨gb,0,none⟩) NB.out.symm _).setCell (a:=⟨gb,1,none⟩) NB.out.symm _).setCell (a:=⟨gb,2,none⟩) NB.out.symm _).setCell (a:=⟨gb,3,none⟩) NB.out.symm _) hb);replace BK:=Aside0.mk (blk_below (g:=gb) (o:=.cells #[.string p.f0,.string p.f1,.string p.f2,.int .i64 p.f3] 30 (0,0)) (by refine blk_put (cs:=#[.string p.f0,.string p.f1,.string p.f2,.int .i64 0]) ?_ 3 _ rfl;refine blk_put (cs:=#[.string p.f0,.string p.f1,.string (⟨#[]⟩:ByteArray),.int .i64 0]) ?_ 2 _ rfl;refine blk_put (cs:=#[.string p.f0,.string (⟨#[]⟩:ByteArray),.string (⟨#[]⟩:ByteArray),.int .i64 0]) ?_ 1 _ rfl;refine blk_put (cs:=#[.string (⟨#[]⟩:ByteArray),.string (⟨#[]⟩:ByteArray),.string (⟨#[]⟩:ByteArray),.int .i64 0]) ?_ 0 _ rfl;exact BK.out) hb);replace HB:=Aside0.mk (below_step (below_set (below_set (below_set (below_set HB.out GE.out) GE.out) GE.out) GE.out) hb);clear hb hx0 hx1 hx2 hx3 hc0 hc1 hc2 hc3 hf0 hf1 hf2 hf3;obtain ⟨hc0,hc1,hc2,hc3⟩:w8.cell? ⟨gb,0,none⟩=some (.string p.f0)∧w8.cell? ⟨gb,1,none⟩=some (.string p.f1)∧w8.cell? ⟨gb,2,none⟩=some (.string p.f2)∧w8.cell? ⟨gb,3,none⟩=some (.int .i64 p.f3):=⟨(blk_cell BK.out 0).trans rfl,(blk_cell BK.out 1).trans rfl,(blk_cell BK.out 2).trans rfl,(blk_cell BK.out 3).trans rfl⟩)|(at_mapUpdate;refine wpList_mapUpdate_own _ rfl _ _ _ 51 rfl 9 30 (string_keyed Tryz.underlying9) Tryz.underlying51 pageR w.heap.size i (mapD (l0.take i)) rfl HM.out (by have:maxLen=2 ^ 63 - 1:=rfl;omega) _ _ (keyL p.f0) rfl rfl HK.out (pageD p) [] (pageR_mk p) ?_;intro w9 hown hgrow))
    go_roundg g
    case measure=>omega
    case rel=>exact ⟨i+1,by simp,by omega,H',⟨by rw [HT.out,mapD_snoc];exact hown⟩,⟨grown_below HB.out hgrow⟩⟩
   ·obtain rfl:t=false:=by simpa using ct
    rw [if_neg (by decide)] at H2
    obtain rfl:=Option.some.inj H2
    go_wp2_with (first|((with_reducible refine gate_dst (N:=6) rfl ?_);refine box_event ?hg (N:=6) ?hd (cs:=#[.string (⟨#[]⟩:ByteArray),.string (⟨#[]⟩:ByteArray),.string (⟨#[]⟩:ByteArray),.int .i64 0]) (t:=30) ?hr ?_;(case hd=>rfl);(case hg=>rfl);(case hr=>first|(go_simp;done)|(go_simp;rfl));intro gb hg w6 hbox hb;have BK:=Aside0.mk hbox;have NB:=Aside0.mk (show gb≠w.heap.size from by rw [hg];exact Nat.ne_of_gt HM.out.lt);have GE:=Aside0.mk (show w.heap.size≤gb from by rw [hg];exact below_size HB.out);replace HM:=Aside0.mk (map_below HM.out hb);replace HB:=Aside0.mk (below_step HB.out hb);replace hx0:=(hb.cell (World.block_lt_of_cell? _ _ hx0)).trans hx0;replace hx1:=(hb.cell (World.block_lt_of_cell? _ _ hx1)).trans hx1;replace hx2:=(hb.cell (World.block_lt_of_cell? _ _ hx2)).trans hx2;replace hx3:=(hb.cell (World.block_lt_of_cell? _ _ hx3)).trans hx3;clear hb hg hbox;obtain ⟨hc0,hc1,hc2,hc3⟩:w6.cell? ⟨gb,0,none⟩=some (.string (⟨#[]⟩:ByteArray))∧w6.cell? ⟨gb,1,none⟩=some (.string (⟨#[]⟩:ByteArray))∧w6.cell? ⟨gb,2,none⟩=some (.string (⟨#[]⟩:ByteArray))∧w6.cell? ⟨gb,3,none⟩=some (.int .i64 0):=⟨(blk_cell BK.out 0).trans rfl,(blk_cell BK.out 1).trans rfl,(blk_cell BK.out 2).trans rfl,(blk_cell BK.out 3).trans rfl⟩;have hf0:=blk_frozen BK.out 0;have hf1:=blk_frozen BK.out 1;have hf2:=blk_frozen BK.out 2;have hf3:=blk_frozen BK.out 3)|(go_at_call 45;(with_reducible refine (impl_pageOk.calls k p.f0 p.f1 p.f2 p.f3 false _ A.out).mono ?_);rintro e w8 ⟨rfl,hb⟩;replace HM:=Aside0.mk (map_below ((((HM.out.setCell (a:=⟨gb,0,none⟩) NB.out.symm _).setCell (a:=⟨gb,1,none⟩) NB.out.symm _).setCell (a:=⟨gb,2,none⟩) NB.out.symm _).setCell (a:=⟨gb,3,none⟩) NB.out.symm _) hb);replace BK:=Aside0.mk (blk_below (g:=gb) (o:=.cells #[.string p.f0,.string p.f1,.string p.f2,.int .i64 p.f3] 30 (0,0)) (by refine blk_put (cs:=#[.string p.f0,.string p.f1,.string p.f2,.int .i64 0]) ?_ 3 _ rfl;refine blk_put (cs:=#[.string p.f0,.string p.f1,.string (⟨#[]⟩:ByteArray),.int .i64 0]) ?_ 2 _ rfl;refine blk_put (cs:=#[.string p.f0,.string (⟨#[]⟩:ByteArray),.string (⟨#[]⟩:ByteArray),.int .i64 0]) ?_ 1 _ rfl;refine blk_put (cs:=#[.string (⟨#[]⟩:ByteArray),.string (⟨#[]⟩:ByteArray),.string (⟨#[]⟩:ByteArray),.int .i64 0]) ?_ 0 _ rfl;exact BK.out) hb);replace HB:=Aside0.mk (below_step (below_set (below_set (below_set (below_set HB.out GE.out) GE.out) GE.out) GE.out) hb);clear hb hx0 hx1 hx2 hx3 hc0 hc1 hc2 hc3 hf0 hf1 hf2 hf3;obtain ⟨hc0,hc1,hc2,hc3⟩:w8.cell? ⟨gb,0,none⟩=some (.string p.f0)∧w8.cell? ⟨gb,1,none⟩=some (.string p.f1)∧w8.cell? ⟨gb,2,none⟩=some (.string p.f2)∧w8.cell? ⟨gb,3,none⟩=some (.int .i64 p.f3):=⟨(blk_cell BK.out 0).trans rfl,(blk_cell BK.out 1).trans rfl,(blk_cell BK.out 2).trans rfl,(blk_cell BK.out 3).trans rfl⟩))
    go_ret2
    exact ⟨HB.out,rfl⟩
def impl_worldOf.f (k:Nat) (l0:List S30):Option Bool:=if 12 < l0.length then some false else pagesOk k l0
set_option maxRecDepth 100000 in
theorem impl_worldOf.calls (k:Nat) (A0:Option Addr) (c0:Nat) (l0:List S30) (r:Bool) (w:World) (hr0:Kd.C k30 w A0 l0.length l0) (hc0:l0.length≤c0) (h:impl_worldOf.f k l0=some r) :
  Calls Tryz.prog 24 #[.slice A0 l0.length c0] w fun e w'=>Below w.heap.size w w' ∧
   (r=false→e=.returned (.tuple #[.map none,.bool false]))∧(r=true→∃ b,w.heap.size≤b∧Pages w' b l0.length (mapD l0)∧e=.returned (.tuple #[.map (some b),.bool ((Maps.size (mapD l0):Int) == (l0.length:Int))])):=by
 unfold impl_worldOf.f at h
 by_cases h12:12 < l0.length
 ·rw [if_pos h12] at h
  obtain rfl:=Option.some.inj h
  have hle:decide ((12:Int) < (l0.length:Int))=true:=decide_eq_true (by omega)
  clear h
  go_enter Tryz.func24,Tryz.ntmps24
  go_wp2
  go_ret2
  exact ⟨Below.refl _ _,fun _=>rfl,fun h=>by cases h⟩
 ·rw [if_neg h12] at h
  exact worldOf_walk k A0 c0 l0 r w hr0 hc0 (by omega) h
set_option maxHeartbeats 4000000 in
set_option maxRecDepth 100000 in
theorem get_walk (b n:Nat) (l:List S30) (a:ByteArray) (t:Int) (w:World) (ha:a.size≤9223372036854775807) (hm:Pages w b n (mapD l)) :
  Calls Tryz.prog 25 #[.map (some b),.string a,.int .i64 t] w fun e w'=>e=.returned (.tuple #[.int .i64 (getF l a t).1,.string (getF l a t).2])∧Below w.heap.size w w':=by
 have hu:=Tryz.underlying30
 have HB:=Aside0.mk (Below.refl w.heap.size w)
 have hz:(zeroValue 30).run Tryz.prog w=.ok (pageV z30) w:=by kernel_rfl
 obtain ⟨v,ps,hrun,hv⟩:=hm.look_ok (string_keyed Tryz.underlying9) Tryz.underlying51 hz (pageR_mk z30) (Go.WideMaps.keyOf_string_mk (P:=Tryz.prog) Tryz.underlying9 (s:=a) (by have:maxLen=2 ^ 63 - 1:=rfl;omega))
 have e1:=mapR_at a l.reverse
 have e2:=mapR_has a l.reverse
 rw [show (.string a.data.toList:Lit)=keyL a from rfl] at hv hrun
 unfold mapD at hv hrun
 rw [e1] at hv
 rw [e2] at hrun
 obtain ⟨q,rfl,hq⟩:=pageR_inv hv
 obtain rfl:=pageD_inj (Prod.mk.inj hq).1
 unfold getF
 clear hv hq e1 e2 hm hz
 cases hp:pageAtR a l.reverse with
 | none=>
  rw [hp] at hrun
  simp only [Option.getD_none,Option.isSome_none,pageV] at hrun
  go_enter Tryz.func25,Tryz.ntmps25
  go_wp2
  go_ret2
  exact ⟨rfl,(Below.refl _ _).alloc (Nat.le_refl _) _⟩
 | some p=>
  rw [hp] at hrun
  simp only [Option.getD_some,Option.isSome_some,pageV] at hrun
  simp only
  by_cases c1:t < 0
  ·rw [if_pos c1]
   have d1:decide (t < 0)=true:=decide_eq_true c1
   clear c1
   go_enter Tryz.func25,Tryz.ntmps25
   go_wp2
   go_ret2
   exact ⟨rfl,(Below.refl _ _).alloc (Nat.le_refl _) _⟩
  ·rw [if_neg c1]
   have d1:decide (t < 0)=false:=decide_eq_false c1
   clear c1
   by_cases c2:t < p.f3
   ·rw [if_pos c2]
    have d2:decide (t < p.f3)=true:=decide_eq_true c2
    clear c2
    go_enter Tryz.func25,Tryz.ntmps25
    go_wp2
    go_ret2
    exact ⟨rfl,(Below.refl _ _).alloc (Nat.le_refl _) _⟩
   ·rw [if_neg c2]
    have d2:decide (t < p.f3)=false:=decide_eq_false c2
    clear c2
    by_cases c3:p.f2.toList=([]:List UInt8)
    ·rw [if_pos c3]
     have d3:(p.f2.toList == ([]:List UInt8))=true:=beq_iff_eq.mpr c3
     have d4:(p.f2.toList != ([]:List UInt8))=false:=bne_eq_false_iff_eq.mpr c3
     clear c3
     go_enter Tryz.func25,Tryz.ntmps25
     go_wp2
     go_quiet (fail)
     go_wp2
     go_ret2
     exact ⟨rfl,pw_below_drewN (below_alloc (Below.refl _ _) _) _⟩
    ·rw [if_neg c3]
     have d3:(p.f2.toList == ([]:List UInt8))=false:=beq_eq_false_iff_ne.mpr c3
     have d4:(p.f2.toList != ([]:List UInt8))=true:=bne_iff_ne.mpr c3
     clear c3
     go_enter Tryz.func25,Tryz.ntmps25
     go_wp2
     go_quiet (fail)
     go_wp2
     go_ret2
     exact ⟨rfl,pw_below_drewN (below_alloc (Below.refl _ _) _) _⟩
theorem pagesOk_mono (k:Nat):∀ l,LeO (pagesOk k l) (pagesOk (k+1) l)
 | []=>LeO.refl _
 | p :: r=>by
  unfold pagesOk
  exact LeO.ite (LeO.bind (impl_pageOk.mono _ _ _ _ _) (fun _=>LeO.ite (pagesOk_mono k r) (LeO.refl _))) (LeO.refl _)
theorem impl_worldOf.mono:∀ a0 k,LeO (impl_worldOf.f k a0) (impl_worldOf.f (k+1) a0):=fun a0 k=>LeO.ite (LeO.refl _) (pagesOk_mono k a0)
end Go.Proofs.YtpomhjkbgbociaaGreatDoor.P
end
section
namespace Go.Proofs.YtpomhjkbgbociaaGreatDoor.Mk
open Go.RowKit Go.Proofs.YtpomhjkbgbociaaGreatDoor.P Go.Proofs.YtpomhjkbgbociaaGreatDoorW.PrintWords Go.Proofs.YtpomhjkbgbociaaGreatDoorW.PrintLast Go.Proofs.YtpomhjkbgbociaaGreatDoorW.PrintMore Go.Proofs.YtpomhjkbgbociaaGreatDoor.B
set_option linter.unusedVariables false
set_option linter.unusedSimpArgs false
def pmStep (s:ByteArray) (i:Nat) (ms:List ByteArray) (st a:Nat):List ByteArray×Nat×Nat:=
 if st=1 then (if bt s i=62 then (ms++[s.extract a i],0,a) else (ms,1,a))
 else if st=2 then (if bt s i=41 then (ms,0,a) else (ms,2,a))
 else (if bt s i=60 then (ms,1,i+1) else if bt s i=40 then (ms,2,a) else (ms,st,a))
def pmTo (s:ByteArray):Nat→List ByteArray×Nat×Nat
 | 0=>([],0,0)
 | k+1=>pmStep s k (pmTo s k).1 (pmTo s k).2.1 (pmTo s k).2.2
def marks (s:ByteArray):List ByteArray:=if s.size≤300 then (pmTo s s.size).1 else []
theorem pmStep_ok (s:ByteArray) (i:Nat) (ms:List ByteArray) (st a:Nat) (h1:st≤2) (h2:a≤i) (h3:ms.length≤i) :
  (pmStep s i ms st a).2.1≤2∧(pmStep s i ms st a).2.2≤i+1∧(pmStep s i ms st a).1.length≤i+1:=by
 unfold pmStep
 repeat' split
 all_goals (try simp only [List.length_append,List.length_singleton])
 all_goals omega
theorem pmTo_ok (s:ByteArray) (k:Nat):(pmTo s k).2.1≤2∧(pmTo s k).2.2≤k∧(pmTo s k).1.length≤k:=by
 induction k with
 | zero=>simp [pmTo]
 | succ k ih=>exact pmStep_ok s k _ _ _ ih.1 ih.2.1 ih.2.2
def pmRun (s:ByteArray):Nat→Nat→List ByteArray→Nat→Nat→List ByteArray×Nat×Nat
 | 0,_,ms,st,a=>(ms,st,a)
 | d+1,i,ms,st,a=>pmRun s d (i+1) (pmStep s i ms st a).1 (pmStep s i ms st a).2.1 (pmStep s i ms st a).2.2
theorem pmRun_to (s:ByteArray) (d:Nat):∀ i,pmRun s d i (pmTo s i).1 (pmTo s i).2.1 (pmTo s i).2.2=pmTo s (i+d):=by
 induction d with
 | zero=>intro i;rfl
 | succ d ih=>
  intro i
  simp only [pmRun]
  have:=ih (i+1)
  rw [show i+1+d=i+(d+1) from by omega] at this
  exact this
theorem marks_run (s:ByteArray) (h:s.size≤300):marks s=(pmRun s s.size 0 [] 0 0).1:=by
 have:=pmRun_to s s.size 0
 simp only [pmTo,Nat.zero_add] at this
 rw [this,marks,if_pos h]
def rnd (st:Nat):Bool:=st == 2
def frm (st a:Nat):Int:=if st=1 then a else -1
theorem spec_l (s:ByteArray) (hs:s.size≤300) (d:Nat):∀ (k i:Nat) (ms:List ByteArray) (st a:Nat),i+d=s.size→3 * d+2 < k→st≤2→a≤i→ms.length≤i →
  spec_l3Marks.l0 k s ms (rnd st) (frm st a) (i:Int)=some (pmRun s d i ms st a).1:=by
 induction d with
 | zero=>
  intro k i ms st a h hk h1 h2 h3
  obtain ⟨k,rfl⟩:∃ m,k=m+2:=⟨k - 2,by omega⟩
  simp only [spec_l3Marks.l0,spec_l3Marks.j1,pmRun]
  rw [if_neg (by omega),if_neg (by simp)]
 | succ d ih=>
  intro k i ms st a h hk h1 h2 h3
  obtain ⟨k,rfl⟩:∃ m,k=m+3:=⟨k - 3,by omega⟩
  have hlt:(i:Int) < (s.size:Int):=by omega
  have h0:0≤(i:Int):=by omega
  have hd:decide ((s.size:Int)≤300)=true:=by simp;omega
  have hw:wrap64 ((i:Int)+1)=((i+1:Nat):Int):=by rw [w64 (by omega) (by omega)];omega
  have next:=fun ms' st' a' (q1:st'≤2) (q2:a'≤i+1) (q3:ms'.length≤i+1)=>ih k (i+1) ms' st' a' (by omega) (by omega) q1 q2 q3
  simp only [spec_l3Marks.l0,spec_l3Marks.j1,spec_l3Marks.j2,pmRun]
  rw [if_pos hlt,hd,if_pos rfl,hw]
  by_cases e1:st=1
  ·subst e1
   have ef:frm 1 a=(a:Int):=by simp [frm]
   have er:rnd 1=false:=rfl
   rw [ef,er,if_pos (by omega:(a:Int) ≥ 0),if_pos h0,if_pos hlt]
   by_cases e2:bt s i=62
   ·have hp:pmStep s i ms 1 a=(ms++[s.extract a i],0,a):=by simp [pmStep,e2]
    rw [if_pos (by simpa using e2),if_pos (by omega),if_pos (by omega),if_pos (by omega),if_pos (by omega),hp]
    have:=next (ms++[s.extract a i]) 0 a (by omega) (by omega) (by simp;omega)
    simpa [rnd,frm] using this
   ·have hp:pmStep s i ms 1 a=(ms,1,a):=by simp [pmStep,e2]
    rw [if_neg (by simpa using e2),if_pos (by omega:(a:Int) ≥ 0),hp]
    have:=next ms 1 a (by omega) (by omega) (by omega)
    rwa [ef,er] at this
  ·have ef:frm st a=-1:=by simp [frm,e1]
   rw [ef,if_neg (by omega),if_neg (by simp),if_neg (by omega)]
   by_cases e2:st=2
   ·subst e2
    rw [show rnd 2=true from rfl,if_pos rfl,if_pos h0,if_pos hlt]
    by_cases e3:bt s i=41
    ·have hp:pmStep s i ms 2 a=(ms,0,a):=by simp [pmStep,e3]
     have eb:(bt s i != 41)=false:=by simp [e3]
     rw [hp,eb]
     have:=next ms 0 a (by omega) (by omega) (by omega)
     simpa [rnd,frm] using this
    ·have hp:pmStep s i ms 2 a=(ms,2,a):=by simp [pmStep,e3]
     have eb:(bt s i != 41)=true:=by simp [e3]
     rw [hp,eb]
     have:=next ms 2 a (by omega) (by omega) (by omega)
     simpa [rnd,frm] using this
   ·obtain rfl:st=0:=by omega
    rw [show rnd 0=false from rfl,if_neg (by simp),if_pos h0,if_pos hlt]
    by_cases e3:bt s i=40
    ·have hp:pmStep s i ms 0 a=(ms,2,a):=by simp [pmStep,e3]
     rw [if_pos e3,hp]
     have:=next ms 2 a (by omega) (by omega) (by omega)
     simpa [rnd,frm] using this
    ·rw [if_neg e3]
     by_cases e4:bt s i=60
     ·have hp:pmStep s i ms 0 a=(ms,1,i+1):=by simp [pmStep,e4]
      rw [if_pos e4,hp]
      have:=next ms 1 (i+1) (by omega) (by omega) (by omega)
      simpa [rnd,frm] using this
     ·have hp:pmStep s i ms 0 a=(ms,0,a):=by simp [pmStep,e3,e4]
      rw [if_neg e4,hp]
      have:=next ms 0 a (by omega) (by omega) (by omega)
      simpa [rnd,frm] using this
theorem spec_ev (s:ByteArray) (hs:s.size≤140737488351232):Ev (fun k=>spec_l3Marks.f k s) (marks s):=by
 unfold spec_l3Marks.f
 by_cases h:s.size≤300
 ·refine Ev.of (fun k=>spec_l3Marks.mono_l k |>.1 _ _ _ _ _) (k:=3 * s.size+3) ?_
  have:=spec_l s h s.size (3 * s.size+3) 0 [] 0 0 (by omega) (by omega) (by omega) (by omega) (by simp)
  rw [marks_run s h]
  simpa [rnd,frm] using this
 ·refine Ev.of (fun k=>spec_l3Marks.mono_l k |>.1 _ _ _ _ _) (k:=2) ?_
  simp only [spec_l3Marks.l0,spec_l3Marks.j1,marks]
  rw [if_neg h,if_pos (by omega),if_neg (by simp;omega)]
end Go.Proofs.YtpomhjkbgbociaaGreatDoor.Mk
end
section
namespace Go.Proofs.YtpomhjkbgbociaaGreatDoor.P
open Go.RowKit Go.Proofs.YtpomhjkbgbociaaGreatDoorW.PrintWords Go.Proofs.YtpomhjkbgbociaaGreatDoorW.PrintLast Go.Proofs.YtpomhjkbgbociaaGreatDoorW.PrintMore Go.Proofs.YtpomhjkbgbociaaGreatDoor.Mk
set_option linter.unusedVariables false
set_option linter.unusedSimpArgs false
set_option maxHeartbeats 8000000
set_option maxRecDepth 100000
structure PmInv (B:Nat) (s:ByteArray) (ms:List ByteArray) (st a:Nat) (v:Value) (w:World):Prop where
 text:w.heap[B]?=some (.cells #[.string s] 9 (0,0))
 marks:w.heap[B+1]?=some (.cells #[v] 35 (0,0))
 state:w.heap[B+2]?=some (.cells #[.int .i64 st] 3 (0,0))
 start:w.heap[B+3]?=some (.cells #[.int .i64 a] 3 (0,0))
 size:B+5≤w.heap.size
 row:Kd.R Kd.string 9 w (B+5) (fun k=>B+5≤k) v ms
theorem PmInv.setState {B:Nat} {s:ByteArray} {ms:List ByteArray} {st a:Nat} {v:Value} {w:World} (h:PmInv B s ms st a v w) (x:Int) (st':Nat) (hx:x=st') :
  PmInv B s ms st' a v (w.setCell ⟨B+2,0,none⟩ (.int .i64 x)):=by
 subst hx;exact ⟨(heap_set_ne _ _ _ _ (by show B≠B+2;omega)).trans h.text,(heap_set_ne _ _ _ _ (by show B+1≠B+2;omega)).trans h.marks,one_setCell h.state,
  (heap_set_ne _ _ _ _ (by show B+3≠B+2;omega)).trans h.start,(by rw [size_set];exact h.size),Kd.R_far h.row (fun k hk=>by show k≠B+2;omega) _⟩
theorem PmInv.setStart {B:Nat} {s:ByteArray} {ms:List ByteArray} {st a:Nat} {v:Value} {w:World} (h:PmInv B s ms st a v w) (x:Int) (a':Nat) (hx:x=a') :
  PmInv B s ms st a' v (w.setCell ⟨B+3,0,none⟩ (.int .i64 x)):=by
 subst hx;exact ⟨(heap_set_ne _ _ _ _ (by show B≠B+3;omega)).trans h.text,(heap_set_ne _ _ _ _ (by show B+1≠B+3;omega)).trans h.marks,
  (heap_set_ne _ _ _ _ (by show B+2≠B+3;omega)).trans h.state,one_setCell h.start,(by rw [size_set];exact h.size),Kd.R_far h.row (fun k hk=>by show k≠B+3;omega) _⟩
theorem PmInv.setMarks {B:Nat} {s:ByteArray} {ms ms':List ByteArray} {st a:Nat} {v v':Value} {w w1:World} (h:PmInv B s ms st a v w) (hg:w.grownBy w1 v.ownBlock) (hrow:Kd.R Kd.string 9 w1 (B+5) (fun k=>B+5≤k) v' ms') (hv:∀ k,v.ownBlock=some k→B+5≤k) :
  PmInv B s ms' st a v' (w1.setCell ⟨B+1,0,none⟩ v'):=by
 have hs:=h.size;have blk:∀ k,k < B+5→w1.heap[k]?=w.heap[k]?:=fun k hk=>hg.block k (by omega) (fun e=>by have:=hv k e.symm;omega)
 exact ⟨(heap_set_ne _ _ _ _ (by show B≠B+1;omega)).trans ((blk B (by omega)).trans h.text),one_setCell ((blk (B+1) (by omega)).trans h.marks),
  (heap_set_ne _ _ _ _ (by show B+2≠B+1;omega)).trans ((blk (B+2) (by omega)).trans h.state),(heap_set_ne _ _ _ _ (by show B+3≠B+1;omega)).trans ((blk (B+3) (by omega)).trans h.start),
  by rw [size_set];have:=hg.size;omega,Kd.R_far hrow (fun k hk=>by show k≠B+1;omega) _⟩
def PmPost (B:Nat) (s:ByteArray) (r:List ByteArray×Nat×Nat) (w:World) (e:Ending) (w':World):Prop:=
 e=.returned (.tuple #[])∧(∃ v,PmInv B s r.1 r.2.1 r.2.2 v w')∧Below B w w'∧w'.heap[B+4]?=w.heap[B+4]?
theorem pm1_calls (B i:Nat) (s:ByteArray) (ms:List ByteArray) (a:Nat) (v:Value) (w:World) (h:PmInv B s ms 0 a v w) (hi:i < 300) :
  Calls Tryz.prog 88 #[.int .i64 i,.int .u8 (bt s i),.pointer (some ⟨B+2,0,none⟩),.pointer (some ⟨B+3,0,none⟩)] w (PmPost B s (pmStep s i ms 0 a) w):=by
 have H:=A_ h;obtain ⟨h1,h2,h3,h4,h5,h6⟩:=h;have c3:=cell_of_one h3;have f3:=free_of_one h3;have c4:=cell_of_one h4;have f4:=free_of_one h4;clear h1 h2 h3 h4 h5 h6;generalize hb:bt s i=b;have Hb:=A_ hb;clear hb;by_cases e1:b=60
 ·have e1b:(b == 60)=true:=by simp [e1]
  have hp:Aside0 (pmStep s i ms 0 a=(ms,1,i+1)):=⟨(by simp [pmStep,Hb.out,e1])⟩;clear e1;go_enter Tryz.func88,Tryz.ntmps88;go_wp2
  go_end0
  rw [PmPost,hp.out];exact ⟨rfl,⟨v,(H.out.setState 1 1 rfl).setStart _ (i+1) (by omega)⟩,((Below.refl _ _).setCell (by show B≤B+2;omega) _).setCell (by show B≤B+3;omega) _,
   (heap_set_ne _ _ _ _ (by show B+4≠B+3;omega)).trans (heap_set_ne _ _ _ _ zz288)⟩
 ·have e1b:(b == 60)=false:=by simp [e1]
  by_cases e2:b=40
  ·have e2b:(b == 40)=true:=by simp [e2]
   have hp:Aside0 (pmStep s i ms 0 a=(ms,2,a)):=⟨(by simp [pmStep,Hb.out,e1,e2])⟩;clear e1 e2;go_enter Tryz.func88,Tryz.ntmps88;go_wp2
   go_end0
   rw [PmPost,hp.out];exact ⟨rfl,⟨v,H.out.setState 2 2 rfl⟩,(Below.refl _ _).setCell (by show B≤B+2;omega) _,heap_set_ne _ _ _ _ zz288⟩
  ·have e2b:(b == 40)=false:=by simp [e2]
   have hp:Aside0 (pmStep s i ms 0 a=(ms,0,a)):=⟨(by simp [pmStep,Hb.out,e1,e2])⟩;clear e1 e2;go_enter Tryz.func88,Tryz.ntmps88;go_wp2
   go_end0
   rw [PmPost,hp.out];exact ⟨rfl,⟨v,H.out⟩,Below.refl _ _,rfl⟩
theorem pm3_calls (B i:Nat) (s:ByteArray) (ms:List ByteArray) (a:Nat) (v:Value) (w:World) (h:PmInv B s ms 2 a v w) (hi:i < 300) :
  Calls Tryz.prog 90 #[.int .i64 i,.int .u8 (bt s i),.pointer (some ⟨B+2,0,none⟩)] w (PmPost B s (pmStep s i ms 2 a) w):=by
 have H:=A_ h;obtain ⟨h1,h2,h3,h4,h5,h6⟩:=h;have c3:=cell_of_one h3;have f3:=free_of_one h3;clear h1 h2 h3 h4 h5 h6;generalize hb:bt s i=b;have Hb:=A_ hb;clear hb;by_cases e1:b=41
 ·have e1b:(b == 41)=true:=by simp [e1]
  have hp:Aside0 (pmStep s i ms 2 a=(ms,0,a)):=⟨(by simp [pmStep,Hb.out,e1])⟩;clear e1;go_enter Tryz.func90,Tryz.ntmps90;go_wp2
  go_end0
  rw [PmPost,hp.out];exact ⟨rfl,⟨v,H.out.setState 0 0 rfl⟩,(Below.refl _ _).setCell (by show B≤B+2;omega) _,heap_set_ne _ _ _ _ zz288⟩
 ·have e1b:(b == 41)=false:=by simp [e1]
  have hp:Aside0 (pmStep s i ms 2 a=(ms,2,a)):=⟨(by simp [pmStep,Hb.out,e1])⟩;clear e1;go_enter Tryz.func90,Tryz.ntmps90;go_wp2
  go_end0
  rw [PmPost,hp.out];exact ⟨rfl,⟨v,H.out⟩,Below.refl _ _,rfl⟩
theorem pm2_calls (B i:Nat) (s:ByteArray) (ms:List ByteArray) (a:Nat) (v:Value) (w:World) (h:PmInv B s ms 1 a v w) (hi:i < s.size) (hs:s.size≤300) (ha:a≤i) (hm:ms.length≤300) :
  Calls Tryz.prog 89 #[.int .i64 i,.int .u8 (bt s i),.pointer (some ⟨B+1,0,none⟩),.pointer (some ⟨B,0,none⟩),.pointer (some ⟨B+3,0,none⟩),.pointer (some ⟨B+2,0,none⟩)] w (PmPost B s (pmStep s i ms 1 a) w):=by
 have H:=A_ h;obtain ⟨h1,h2,h3,h4,h5,h6⟩:=h;have c1:=cell_of_one h1;have c2:=cell_of_one h2;have f2:=free_of_one h2;have c3:=cell_of_one h3;have f3:=free_of_one h3;have c4:=cell_of_one h4;have H6:=A_ h6;obtain ⟨A,c,ev⟩:=Kd.R_slice h6;subst ev;clear h1 h2 h3 h4 h6;generalize hb:bt s i=b;have Hb:=A_ hb;clear hb;by_cases e1:b=62
 ·have e1b:(b == 62)=true:=by simp [e1]
  have hp:Aside0 (pmStep s i ms 1 a=(ms++[s.extract a i],0,a)):=⟨(by simp [pmStep,Hb.out,e1])⟩;clear e1;have ha':(a:Int)≤(i:Int):=by omega
  have hi':(i:Int)≤(s.size:Int):=by omega
  go_enter Tryz.func89,Tryz.ntmps89;go_wp2_with fail
  have W0:Aside0 (PmInv B s ms 1 a (Value.slice A ms.length c) w.drew):=⟨⟨H.out.text,H.out.marks,H.out.state,H.out.start,H.out.size,Kd.R_drew H.out.row⟩⟩;refine start_ (n:=8) (S:=fun w'=>w'.cell? ⟨B+1,0,none⟩=some (.slice A ms.length c)∧w'.cell? ⟨B,0,none⟩=some (.string s)∧w'.cell? ⟨B+3,0,none⟩=some (.int .i64 a)) (ds:=[7]) #[yF,yF,yF,yF,yF,yF,yF,yF] (by kernel_rfl) rfl rfl ⟨cell_of_one W0.out.marks,cell_of_one W0.out.text,cell_of_one W0.out.start⟩ (fun hHeld=>?_);have HB:Aside0 (Below B w w.drew):=⟨below_drew (Below.refl B w)⟩;have HE:Aside0 (w.drew.heap[B+4]?=w.heap[B+4]?):=⟨rfl⟩;clear c1 c2 f2 c3 f3 c4 h5 H H6;generalize w.drew=w1 at W0 HB HE hHeld ⊢;refine takeY3 0 (some 10) #[yT,yF,yF,yF,yF,yF,yF,yF] hHeld ?_;refine takeY3 1 (some 11) #[yT,yT,yF,yF,yF,yF,yF,yF] hHeld ?_;refine takeY3 2 (some 12) #[yT,yT,yT,yF,yF,yF,yF,yF] hHeld ?_;refine pureY 3 (some 13) #[yT,yT,yT,yT,yF,yF,yF,yF] ?_;refine pure_ (i:=4) (N:=some 14) (v:=.string (s.extract a i)) (a':=?_) #[yT,yT,yT,yT,yT,yF,yF,yF] rfl rfl (by kernel_rfl) (fun _ _ _ h=>h) (Or.inl ⟨by rfl,?_⟩) ?_ ?_
  ·intro w'
   go_simp
  rotate_left
  ·simp only [Act.put,List.setIfInBounds_toArray,List.set_cons_zero,List.set_cons_succ,i64_w,i32_w]
   rfl
  refine one_ (i:=5) (N:=some 15) #[yT,yT,yT,yT,yT,yT,yF,yF] rfl rfl (by kernel_rfl) (by decide) (fun K hK=>?_);refine value_ (w1:=?_) (v:=?_) (by rfl) rfl ?_ ?_;rotate_left 2
  ·go_simp
   constructor
   ·rfl
   ·rfl
  have W1:Aside0 (PmInv B s ms 1 a (Value.slice A ms.length c) (w1.alloc (.cells #[.string (s.extract a i)] 9))):=
   ⟨⟨(Below.heap_alloc _ _ _ (by have:=W0.out.size;omega)).trans W0.out.text,(Below.heap_alloc _ _ _ (by have:=W0.out.size;omega)).trans W0.out.marks,(Below.heap_alloc _ _ _ (by have:=W0.out.size;omega)).trans W0.out.state,
    (Below.heap_alloc _ _ _ (by have:=W0.out.size;omega)).trans W0.out.start,(by have:=W0.out.size;simp;omega),Kd.R_alloc W0.out.row _⟩⟩
  refine hK.out _ _ ⟨cell_of_one W1.out.marks,cell_of_one W1.out.text,cell_of_one W1.out.start⟩ (fun hHeld=>?_);clear hK K hHeld;refine nZ 15 ?_;refine one_ (i:=6) (N:=some 16) #[yT,yT,yT,yT,yT,yT,yT,yF] rfl rfl (by kernel_rfl) (by decide) (fun K hK=>?_);refine Kd.R_append_step Kd.string (B+5) (by rfl) (.tmp 10) (.tmp 15) 35 9 (.string ⟨#[]⟩) 16 rfl Tryz.underlying35 info9 rfl (by decide) (by omega) (.slice A ms.length c) ms (s.extract a i) [.string (s.extract a i)] (fun k=>B+5≤k) (fun _=>False) rfl rfl ?aP (fun _ hk=>hk.elim) ?aF ?aO (Below.refl _ _) ?aS ?aL ?_;(case aP=>exact rfl)
  (case aF=>exact (fun k_ hk=>Nat.le_trans W0.out.size hk))
  (case aO=>exact W0.out.row)
  (case aS=>exact W0.out.size)
  (case aL=>omega)
  intro v2 w2 ho hb hg hat;obtain ⟨A2,cc2,e2⟩:=Kd.R_slice ho;subst e2;have hv:∀ k,(Value.slice A ms.length c).ownBlock=some k→B+5≤k:=fun k hk=>W0.out.row.1 k hk
  have blk:∀ k,k < B+5→w2.heap[k]?=w1.heap[k]?:=fun k hk=>hg.block k (by have:=W0.out.size;omega) (fun e=>by have:=hv k e.symm;omega)
  have W3:Aside0 (PmInv B s (ms++[s.extract a i]) 1 a (.slice A2 (ms++[s.extract a i]).length cc2) (w2.setCell ⟨B+1,0,none⟩ (.slice A2 (ms++[s.extract a i]).length cc2))):=⟨W0.out.setMarks hg ho hv⟩;have hm2:=(blk (B+1) (by omega)).trans W0.out.marks;have HB3:Aside0 (Below B w (w2.setCell ⟨B+1,0,none⟩ (.slice A2 (ms++[s.extract a i]).length cc2))):=⟨(HB.out.grown hg (by have:=W0.out.size;omega) (fun k hk=>by have:=hv k hk;omega)).setCell (by show B≤B+1;omega) _⟩;have HE3:Aside0 ((w2.setCell ⟨B+1,0,none⟩ (.slice A2 (ms++[s.extract a i]).length cc2)).heap[B+4]?=w.heap[B+4]?):=⟨(heap_set_ne _ _ _ _ (by show B+4≠B+1;omega)).trans ((blk (B+4) (by omega)).trans HE.out)⟩;have cM:=cell_of_one hm2;have fM:=free_of_one hm2;refine hK.out _ _ ⟨cM,cell_of_one ((blk B (by omega)).trans W0.out.text),cell_of_one ((blk (B+3) (by omega)).trans W0.out.start)⟩ (fun hHeld=>?_);clear hK K hHeld hm2 ho hb hg hat hv blk;refine nZ 16 ?_;refine last_ (i:=7) (N:=none) #[yT,yT,yT,yT,yT,yT,yT,yT] rfl rfl (by kernel_rfl) (by decide) (fun K hK=>?_);refine skip_ (w1:=w2.setCell ⟨B+1,0,none⟩ (.slice A2 (ms++[s.extract a i]).length cc2)) (by rfl) rfl ?_ ?_
  ·go_simp
  refine hK.out _ _ ?_;clear hK K cM fM;refine done_ (by kernel_rfl) ?_;generalize w2.setCell ⟨B+1,0,none⟩ (.slice A2 (ms++[s.extract a i]).length cc2)=w4 at W3 HB3 HE3 ⊢;have c3:=cell_of_one W3.out.state;have f3:=free_of_one W3.out.state;go_wp2
  go_end0
  rw [PmPost,hp.out];exact ⟨rfl,⟨_,W3.out.setState 0 0 rfl⟩,HB3.out.setCell (by show B≤B+2;omega) _,(heap_set_ne _ _ _ _ zz288).trans HE3.out⟩
 ·have e1b:(b == 62)=false:=by simp [e1]
  have hp:Aside0 (pmStep s i ms 1 a=(ms,1,a)):=⟨(by simp [pmStep,Hb.out,e1])⟩;clear e1;go_enter Tryz.func89,Tryz.ntmps89;go_wp2
  go_end0
  rw [PmPost,hp.out];exact ⟨rfl,⟨_,H.out⟩,Below.refl _ _,rfl⟩
def pmFns (B:Nat):Array Value:=
 #[.func (.func 88) #[] #[.pointer (some ⟨B+1+1,0,none⟩),.pointer (some ⟨B+1+1+1,0,none⟩)],
  .func (.func 89) #[] #[.pointer (some ⟨B+1,0,none⟩),.pointer (some ⟨B,0,none⟩),.pointer (some ⟨B+1+1+1,0,none⟩),.pointer (some ⟨B+1+1,0,none⟩)],
  .func (.func 90) #[] #[.pointer (some ⟨B+1+1,0,none⟩)]]
theorem pm_start (w:World) (s:ByteArray) (X:Obj) :
  PmInv w.heap.size s [] 0 0 (.slice none 0 0) (((((w.alloc (.cells #[.string s] 9)).alloc (.cells #[.slice none 0 0] 35)).alloc (.cells #[.int .i64 0] 3)).alloc (.cells #[.int .i64 0] 3)).alloc X) ∧
  (((((w.alloc (.cells #[.string s] 9)).alloc (.cells #[.slice none 0 0] 35)).alloc (.cells #[.int .i64 0] 3)).alloc (.cells #[.int .i64 0] 3)).alloc X).heap[w.heap.size+4]?=some X:=by
 generalize e1:w.alloc (.cells #[.string s] 9)=w1;have s1:w1.heap.size=w.heap.size+1:=by rw [← e1];simp
 have h1:w1.heap[w.heap.size]?=some (.cells #[.string s] 9 (0,0)):=by rw [← e1];exact heap_alloc_new _ _
 generalize e2:w1.alloc (.cells #[.slice none 0 0] 35)=w2;have s2:w2.heap.size=w.heap.size+2:=by rw [← e2];simp [s1]
 have h2:w2.heap[w.heap.size+1]?=some (.cells #[.slice none 0 0] 35 (0,0)):=by rw [← e2,← s1];exact heap_alloc_new _ _
 generalize e3:w2.alloc (.cells #[.int .i64 0] 3)=w3;have s3:w3.heap.size=w.heap.size+3:=by rw [← e3];simp [s2]
 have h3:w3.heap[w.heap.size+2]?=some (.cells #[.int .i64 0] 3 (0,0)):=by rw [← e3,← s2];exact heap_alloc_new _ _
 generalize e4:w3.alloc (.cells #[.int .i64 0] 3)=w4;have s4:w4.heap.size=w.heap.size+4:=by rw [← e4];simp [s3]
 have h4:w4.heap[w.heap.size+3]?=some (.cells #[.int .i64 0] 3 (0,0)):=by rw [← e4,← s3];exact heap_alloc_new _ _
 have a2:∀ j,j < w.heap.size+1→w2.heap[j]?=w1.heap[j]?:=fun j hj=>by rw [← e2];exact Below.heap_alloc _ _ _ (by omega)
 have a3:∀ j,j < w.heap.size+2→w3.heap[j]?=w2.heap[j]?:=fun j hj=>by rw [← e3];exact Below.heap_alloc _ _ _ (by omega)
 have a4:∀ j,j < w.heap.size+3→w4.heap[j]?=w3.heap[j]?:=fun j hj=>by rw [← e4];exact Below.heap_alloc _ _ _ (by omega)
 have a5:∀ j,j < w.heap.size+4→(w4.alloc X).heap[j]?=w4.heap[j]?:=fun j hj=>Below.heap_alloc _ _ _ (by omega)
 refine ⟨⟨?_,?_,?_,?_,by simp [s4],Kd.R_nil _ _ _ _ _⟩,?_⟩
 ·rw [a5 _ (by omega),a4 _ (by omega),a3 _ (by omega),a2 _ (by omega)];exact h1
 ·rw [a5 _ (by omega),a4 _ (by omega),a3 _ (by omega)];exact h2
 ·rw [a5 _ (by omega),a4 _ (by omega)];exact h3
 ·rw [a5 _ (by omega)];exact h4
 ·rw [← s4];exact heap_alloc_new _ _
def impl_pageMarks.f (a0:ByteArray):Option (List ByteArray):=some (marks a0)
theorem impl_pageMarks.calls (a0:ByteArray) (r:List ByteArray) (w:World) (h:impl_pageMarks.f a0=some r) :
  Calls Tryz.prog 59 #[.string a0] w fun e w'=>∃ v0_:Value,e=.returned (v0_)∧Kd.R Kd.string 9 w' w.heap.size (fun _=>True) v0_ r∧Below w.heap.size w w':=by
 obtain rfl:=sI h;clear h;by_cases hs:a0.size≤300
 ·have hs':decide (300 < (a0.size:Int))=false:=by simp;omega
  have hmk:Aside0 (marks a0=(pmTo a0 a0.size).1):=⟨(by unfold marks;rw [if_pos hs])⟩;go_enter Tryz.func59,Tryz.ntmps59;go_wp2_with fail
  go_loopw [7] (fun i wr=>∃ k:Nat,k≤a0.size∧i=.int .i64 k∧Aside0 (∃ v,PmInv w.heap.size a0 (pmTo a0 k).1 (pmTo a0 k).2.1 (pmTo a0 k).2.2 v wr)∧Aside0 (wr.heap[w.heap.size+4]?=some (.cells (pmFns w.heap.size) 101 (0,0)))∧Aside0 (Below w.heap.size w wr))
   (fun i _=>a0.size - (intOf i).toNat)
  case atStart=>
   refine ⟨0,Nat.zero_le _,rfl,⟨_,(pm_start w a0 _).1⟩,⟨(pm_start w a0 _).2⟩,⟨?_⟩⟩;exact (((((Below.refl _ w).alloc (Nat.le_refl _) _).alloc (by simp) _).alloc (by simp;omega) _).alloc (by simp;omega) _).alloc (by simp;omega) _
  case round=>
   obtain ⟨k,hk,rfl,⟨v,hI⟩,hA,hB⟩:=hrel;have HI:=A_ hI;have cT:=cell_of_one hI.text;have ok:=pmTo_ok a0 k;by_cases hlt:k < a0.size
   ·have Hn:Aside0 (pmTo a0 (k+1)=pmStep a0 k (pmTo a0 k).1 (pmTo a0 k).2.1 (pmTo a0 k).2.2):=⟨rfl⟩
    have HA0:=A_ hA.out;have ok1:=ok.1;have ok2:=ok.2.1;have ok3:=ok.2.2;clear hI ok hA;generalize (pmTo a0 k).1=ms at HI Hn ok3;generalize (pmTo a0 k).2.1=st at HI Hn ok1;generalize (pmTo a0 k).2.2=a at HI Hn ok2;have hbt:=bt_at a0 k;go_wp2_with fail
    have W0:Aside0 (PmInv w.heap.size a0 ms st a v wr.drew):=⟨⟨HI.out.text,HI.out.marks,HI.out.state,HI.out.start,HI.out.size,Kd.R_drew HI.out.row⟩⟩;replace HA0:Aside0 (wr.drew.heap[w.heap.size+4]?=some (.cells (pmFns w.heap.size) 101 (0,0))):=⟨HA0.out⟩;have HB0:Aside0 (Below w.heap.size w wr.drew):=⟨below_drew hB.out⟩;clear HI hB cT;obtain rfl|rfl|rfl:st=0∨st=1∨st=2:=by omega
    ·skip
     refine start_ (n:=8) (S:=fun w'=>w'.cell? ⟨w.heap.size+1+1,0,none⟩=some (.int .i64 0)∧w'.cell? ⟨w.heap.size,0,none⟩=some (.string a0)∧w'.cell? ⟨w.heap.size+1+1+1+1,0,none⟩=some (.func (.func 88) #[] #[.pointer (some ⟨w.heap.size+1+1,0,none⟩),.pointer (some ⟨w.heap.size+1+1+1,0,none⟩)])) (ds:=[7]) #[yF,yF,yF,yF,yF,yF,yF,yF] (by kernel_rfl) rfl rfl ⟨cell_of_one W0.out.state,cell_of_one W0.out.text,blk_cell HA0.out 0⟩ (fun hHeld=>?_);generalize wr.drew=w1 at W0 HA0 HB0 hHeld ⊢;refine takeY3 0 (some 23) #[yT,yF,yF,yF,yF,yF,yF,yF] hHeld ?_;refine pure_ (i:=1) (N:=some 24) (v:=.pointer (some ⟨w.heap.size+1+1+1+1,0,none⟩)) (a':=?_) #[yT,yT,yF,yF,yF,yF,yF,yF] rfl rfl (by kernel_rfl) (fun _ _ _ h=>h) (Or.inl ⟨by rfl,?_⟩) ?_ ?_
     ·intro w'
      go_simp
     rotate_left
     ·simp only [Act.put,List.setIfInBounds_toArray,List.set_cons_zero,List.set_cons_succ,i64_w,i32_w]
      rfl
     refine takeY3 2 (some 25) #[yT,yT,yT,yF,yF,yF,yF,yF] hHeld ?_;refine pureY 3 (some 26) #[yT,yT,yT,yT,yF,yF,yF,yF] ?_;refine takeY3 4 (some 27) #[yT,yT,yT,yT,yT,yF,yF,yF] hHeld ?_;refine pureY 5 (some 28) #[yT,yT,yT,yT,yT,yT,yF,yF] ?_;refine pure_ (i:=6) (N:=some 29) (v:=.int .u8 (bt a0 k)) (a':=?_) #[yT,yT,yT,yT,yT,yT,yT,yF] rfl rfl (by kernel_rfl) (fun _ _ _ h=>h) (Or.inl ⟨by rfl,?_⟩) ?_ ?_
     ·intro w'
      go_simp
      exact bt_at a0 k (by simpa using hlt)
     rotate_left
     ·simp only [Act.put,List.setIfInBounds_toArray,List.set_cons_zero,List.set_cons_succ,i64_w,i32_w]
      rfl
     refine last_ (i:=7) (N:=some 30) #[yT,yT,yT,yT,yT,yT,yT,yT] rfl rfl (by kernel_rfl) (by decide) (fun K hK=>?_);refine callv_ Tryz.func88 (by kernel_rfl) rfl #[.int .i64 k,.int .u8 (bt a0 k),.pointer (some ⟨w.heap.size+1+1,0,none⟩),.pointer (some ⟨w.heap.size+1+1+1,0,none⟩)] (by rfl) rfl (.tmp 25) rfl rfl (by simp [Act.eval]) ?_;refine (pm1_calls w.heap.size k a0 ms a v w1 W0.out (by omega)).mono ?_;rintro e w2 ⟨rfl,⟨v2,hI2⟩,hB2,hE2⟩;refine ⟨_,rfl,hK.out _ _ ?_⟩;have HI2:=A_ hI2;have HB2:Aside0 (Below w.heap.size w w2):=⟨HB0.out.trans hB2⟩;have HA2:=A_ (hE2.trans HA0.out);clear hI2 hB2 hE2 hK;refine done_ (by kernel_rfl) ?_;go_wp2
     go_roundw
     case rel=>exact ⟨k+1,by omega,by go_num,⟨v2,(by rw [Hn.out];exact HI2.out)⟩,HA2,HB2⟩
     case measure=>simp [intOf];omega
    ·skip
     refine start_ (n:=8) (S:=fun w'=>w'.cell? ⟨w.heap.size+1+1,0,none⟩=some (.int .i64 1)∧w'.cell? ⟨w.heap.size,0,none⟩=some (.string a0)∧w'.cell? ⟨w.heap.size+1+1+1+1,1,none⟩=some (.func (.func 89) #[] #[.pointer (some ⟨w.heap.size+1,0,none⟩),.pointer (some ⟨w.heap.size,0,none⟩),.pointer (some ⟨w.heap.size+1+1+1,0,none⟩),.pointer (some ⟨w.heap.size+1+1,0,none⟩)])) (ds:=[7]) #[yF,yF,yF,yF,yF,yF,yF,yF] (by kernel_rfl) rfl rfl ⟨cell_of_one W0.out.state,cell_of_one W0.out.text,blk_cell HA0.out 1⟩ (fun hHeld=>?_);generalize wr.drew=w1 at W0 HA0 HB0 hHeld ⊢;refine takeY3 0 (some 23) #[yT,yF,yF,yF,yF,yF,yF,yF] hHeld ?_;refine pure_ (i:=1) (N:=some 24) (v:=.pointer (some ⟨w.heap.size+1+1+1+1,1,none⟩)) (a':=?_) #[yT,yT,yF,yF,yF,yF,yF,yF] rfl rfl (by kernel_rfl) (fun _ _ _ h=>h) (Or.inl ⟨by rfl,?_⟩) ?_ ?_
     ·intro w'
      go_simp
     rotate_left
     ·simp only [Act.put,List.setIfInBounds_toArray,List.set_cons_zero,List.set_cons_succ,i64_w,i32_w]
      rfl
     refine takeY3 2 (some 25) #[yT,yT,yT,yF,yF,yF,yF,yF] hHeld ?_;refine pureY 3 (some 26) #[yT,yT,yT,yT,yF,yF,yF,yF] ?_;refine takeY3 4 (some 27) #[yT,yT,yT,yT,yT,yF,yF,yF] hHeld ?_;refine pureY 5 (some 28) #[yT,yT,yT,yT,yT,yT,yF,yF] ?_;refine pure_ (i:=6) (N:=some 29) (v:=.int .u8 (bt a0 k)) (a':=?_) #[yT,yT,yT,yT,yT,yT,yT,yF] rfl rfl (by kernel_rfl) (fun _ _ _ h=>h) (Or.inl ⟨by rfl,?_⟩) ?_ ?_
     ·intro w'
      go_simp
      exact bt_at a0 k (by simpa using hlt)
     rotate_left
     ·simp only [Act.put,List.setIfInBounds_toArray,List.set_cons_zero,List.set_cons_succ,i64_w,i32_w]
      rfl
     refine last_ (i:=7) (N:=some 30) #[yT,yT,yT,yT,yT,yT,yT,yT] rfl rfl (by kernel_rfl) (by decide) (fun K hK=>?_);refine callv_ Tryz.func89 (by kernel_rfl) rfl #[.int .i64 k,.int .u8 (bt a0 k),.pointer (some ⟨w.heap.size+1,0,none⟩),.pointer (some ⟨w.heap.size,0,none⟩),.pointer (some ⟨w.heap.size+1+1+1,0,none⟩),.pointer (some ⟨w.heap.size+1+1,0,none⟩)] (by rfl) rfl (.tmp 25) rfl rfl (by simp [Act.eval]) ?_;refine (pm2_calls w.heap.size k a0 ms a v w1 W0.out (by omega) (by omega) (by omega) (by omega)).mono ?_;rintro e w2 ⟨rfl,⟨v2,hI2⟩,hB2,hE2⟩;refine ⟨_,rfl,hK.out _ _ ?_⟩;have HI2:=A_ hI2;have HB2:Aside0 (Below w.heap.size w w2):=⟨HB0.out.trans hB2⟩;have HA2:=A_ (hE2.trans HA0.out);clear hI2 hB2 hE2 hK;refine done_ (by kernel_rfl) ?_;go_wp2
     go_roundw
     case rel=>exact ⟨k+1,by omega,by go_num,⟨v2,(by rw [Hn.out];exact HI2.out)⟩,HA2,HB2⟩
     case measure=>simp [intOf];omega
    ·skip
     refine start_ (n:=8) (S:=fun w'=>w'.cell? ⟨w.heap.size+1+1,0,none⟩=some (.int .i64 2)∧w'.cell? ⟨w.heap.size,0,none⟩=some (.string a0)∧w'.cell? ⟨w.heap.size+1+1+1+1,2,none⟩=some (.func (.func 90) #[] #[.pointer (some ⟨w.heap.size+1+1,0,none⟩)])) (ds:=[7]) #[yF,yF,yF,yF,yF,yF,yF,yF] (by kernel_rfl) rfl rfl ⟨cell_of_one W0.out.state,cell_of_one W0.out.text,blk_cell HA0.out 2⟩ (fun hHeld=>?_);generalize wr.drew=w1 at W0 HA0 HB0 hHeld ⊢;refine takeY3 0 (some 23) #[yT,yF,yF,yF,yF,yF,yF,yF] hHeld ?_;refine pure_ (i:=1) (N:=some 24) (v:=.pointer (some ⟨w.heap.size+1+1+1+1,2,none⟩)) (a':=?_) #[yT,yT,yF,yF,yF,yF,yF,yF] rfl rfl (by kernel_rfl) (fun _ _ _ h=>h) (Or.inl ⟨by rfl,?_⟩) ?_ ?_
     ·intro w'
      go_simp
     rotate_left
     ·simp only [Act.put,List.setIfInBounds_toArray,List.set_cons_zero,List.set_cons_succ,i64_w,i32_w]
      rfl
     refine takeY3 2 (some 25) #[yT,yT,yT,yF,yF,yF,yF,yF] hHeld ?_;refine pureY 3 (some 26) #[yT,yT,yT,yT,yF,yF,yF,yF] ?_;refine takeY3 4 (some 27) #[yT,yT,yT,yT,yT,yF,yF,yF] hHeld ?_;refine pureY 5 (some 28) #[yT,yT,yT,yT,yT,yT,yF,yF] ?_;refine pure_ (i:=6) (N:=some 29) (v:=.int .u8 (bt a0 k)) (a':=?_) #[yT,yT,yT,yT,yT,yT,yT,yF] rfl rfl (by kernel_rfl) (fun _ _ _ h=>h) (Or.inl ⟨by rfl,?_⟩) ?_ ?_
     ·intro w'
      go_simp
      exact bt_at a0 k (by simpa using hlt)
     rotate_left
     ·simp only [Act.put,List.setIfInBounds_toArray,List.set_cons_zero,List.set_cons_succ,i64_w,i32_w]
      rfl
     refine last_ (i:=7) (N:=some 30) #[yT,yT,yT,yT,yT,yT,yT,yT] rfl rfl (by kernel_rfl) (by decide) (fun K hK=>?_);refine callv_ Tryz.func90 (by kernel_rfl) rfl #[.int .i64 k,.int .u8 (bt a0 k),.pointer (some ⟨w.heap.size+1+1,0,none⟩)] (by rfl) rfl (.tmp 25) rfl rfl (by simp [Act.eval]) ?_;refine (pm3_calls w.heap.size k a0 ms a v w1 W0.out (by omega)).mono ?_;rintro e w2 ⟨rfl,⟨v2,hI2⟩,hB2,hE2⟩;refine ⟨_,rfl,hK.out _ _ ?_⟩;have HI2:=A_ hI2;have HB2:Aside0 (Below w.heap.size w w2):=⟨HB0.out.trans hB2⟩;have HA2:=A_ (hE2.trans HA0.out);clear hI2 hB2 hE2 hK;refine done_ (by kernel_rfl) ?_;go_wp2
     go_roundw
     case rel=>exact ⟨k+1,by omega,by go_num,⟨v2,(by rw [Hn.out];exact HI2.out)⟩,HA2,HB2⟩
     case measure=>simp [intOf];omega
   ·have ek:k=a0.size:=by omega
    have Hk:=A_ ek;clear ek;have cM:=cell_of_one hI.marks;clear hI;go_wp2
    go_ret
    refine ⟨_,rfl,?_,hB.out⟩;rw [hmk.out,← Hk.out];exact Kd.R_lower (Kd.R_mono HI.out.row (fun _ _=>trivial)) (by omega)
 ·have hs':decide (300 < (a0.size:Int))=true:=by simp;omega
  have hmk:Aside0 (marks a0=[]):=⟨(by unfold marks;rw [if_neg hs])⟩;clear hs;go_enter Tryz.func59,Tryz.ntmps59;go_wp2
  go_ret
  exact ⟨_,rfl,(by rw [hmk.out];exact Kd.R_nil _ _ _ _ _),(Below.refl _ _).alloc (Nat.le_refl _) _⟩
end Go.Proofs.YtpomhjkbgbociaaGreatDoor.P
end
section
namespace Go.Proofs.YtpomhjkbgbociaaGreatDoor.P
open Go.RowKit Go.Proofs.YtpomhjkbgbociaaGreatDoorW.PrintWords Go.Proofs.YtpomhjkbgbociaaGreatDoorW.PrintLast Go.Proofs.YtpomhjkbgbociaaGreatDoorW.PrintMore
attribute [local go_sem] max2_int min2_int max_two min_two max_three min_three max_four min_four
set_option linter.unusedVariables false
set_option linter.unusedSimpArgs false
set_option maxHeartbeats 8000000
set_option maxRecDepth 100000
def impl_PageBase.l0:Nat→List ByteArray→Int→Int→Option (ByteArray×Bool)
 | 0,_,_,_=>none
 | k+1,x7,x8,x9=>if x9 < x8 then (if 0≤x9 then (if x9 < (x7.length:Int) then ((impl_beginsWith.f (rdOf ByteArray.empty x7 x9) 64).bind fun t747=>(if t747=true then (if 1≤((rdOf ByteArray.empty x7 x9).size:Int) then (some ((rdOf ByteArray.empty x7 x9).extract 1 (rdOf ByteArray.empty x7 x9).size,true)) else (none)) else (impl_PageBase.l0 k x7 x8 (wrap64 (x9+1))))) else (none)) else (none)) else (some ((⟨#[]⟩:ByteArray),false))
def impl_PageBase.f (k:Nat) (a0:ByteArray):Option (ByteArray×Bool):=(impl_pageMarks.f a0).bind fun t743=>(impl_PageBase.l0 k t743 (t743.length:Int) 0)
theorem impl_PageBase.mono_l:∀ k,(∀ y0 y1 y2,LeO (impl_PageBase.l0 k y0 y1 y2) (impl_PageBase.l0 (k+1) y0 y1 y2))
 | 0=>by intros;intro r h;simp [impl_PageBase.l0] at h
 | k+1=>by
  have ih0:=impl_PageBase.mono_l k;intros;unfold impl_PageBase.l0;repeat' first|(with_reducible first|exact ih0 _ _ _|exact LeO.refl _|exact LeO.none _|refine LeO.ite ?_ ?_|refine LeO.bind ?_ (fun _=>?_))|exact LeO.none _|refine LeO.ite ?_ ?_|refine LeO.bind ?_ (fun _=>?_)
theorem impl_PageBase.calls (k:Nat) (a0:ByteArray) (r1:ByteArray) (r2:Bool) (w:World) (h:impl_PageBase.f k a0=some (r1,r2)) :
  Calls Tryz.prog 34 #[.string a0] w fun e w'=>e=.returned (.tuple #[.string r1,.bool r2])∧Below w.heap.size w w':=by
 have HB:=A_ (Below.refl w.heap.size w);unfold impl_PageBase.f at h
 have H:=h;clear h;replace H:=bindA H;obtain ⟨t743,A2,H⟩:=H;have H':=A_ H;clear H;go_enter Tryz.func34,Tryz.ntmps34;go_wp2_with (first|(refine gV 59 (some 7) Tryz.func59 (impl_pageMarks.calls a0 t743 _ A2.out) ?_;rintro v744 w3 ⟨ho0,hb⟩;have HO745:=A_ (Kd.R_lower ho0 (below_size (zz5 HB)));replace HB:=A_ (bS (zz5 HB) hb);(try clear hb ho0);obtain ⟨Ao4,co4,eo4⟩:=Kd.R_slice HO745.out;subst eo4))
 go_loopg [9] k (fun kq v9 w'=>∃ (x9_1:Int),v9=.int .i64 x9_1∧Aside0 (impl_PageBase.l0 kq t743 (t743.length:Int) x9_1=some (r1,r2))∧Aside0 (kq≤k)∧Aside0 (Kd.R Kd.string 9 w' w.heap.size (fun _=>True) (.slice Ao4 t743.length co4) t743)∧Aside0 (Below w.heap.size w w'))
 case atStart=>exact ⟨(0),zz0,H',⟨Nat.le_refl _⟩,⟨(zz8 HO745)⟩,⟨(zz5 HB)⟩⟩
 case round=>
  clear H';obtain ⟨x9_1,rfl,HA,HK1,HO_7,HB⟩:=hrel;cases gk with
  | zero=>exact absurd HA.out (by simp [impl_PageBase.l0])
  | succ k1=>
   obtain ⟨H⟩:=HA;simp only [impl_PageBase.l0] at H
   replace H:=iteEd H;rcases H with ⟨c5b0,H⟩|⟨c5b0,H⟩
   ·replace H:=iteNd H
    obtain ⟨c6b0,H⟩:=H;replace H:=iteNd H;obtain ⟨c7b0,H⟩:=H;replace H:=bindA H;obtain ⟨t747,A8,H⟩:=H;have HF9:=A_ H;clear H;obtain ⟨⟨ad746,e746,hx746_0⟩,p746,q746⟩:=atB (Kd.at_string (Kd.R_reads' HO_7.out).2.2 x9_1);cases e746
    go_upto_if 14 with (first|(refine gR 60 (some 14) Tryz.func60 (impl_beginsWith.calls (rdOf ByteArray.empty t743 x9_1) 64 t747 _ A8.out) ?_;rintro w' ⟨nd,rfl⟩))
    obtain ⟨H⟩:=HF9;replace H:=iteB H;rcases H with ⟨rfl,H⟩|⟨rfl,H⟩
    ·replace H:=iteN H
     obtain ⟨c11,H⟩:=H;have c11b0:=eq_true c11;have c11b1:=dT c11;clear c11;simp only [Option.some.injEq,Prod.mk.injEq] at H
     obtain ⟨rfl,rfl⟩:=H;go_wp2
     go_ret2
     exact ⟨zz12,(zz5 HB)⟩
    ·have H':=A_ H
     clear H;go_wp2
     go_roundg k1
     case measure=>have:=HK1.out;omega
     case rel=>exact ⟨(wrap64 (x9_1+1)),zz0,H',⟨(zz3 HK1)⟩,⟨(zz8 HO_7)⟩,⟨(zz5 HB)⟩⟩
   ·simp only [Option.some.injEq,Prod.mk.injEq] at H
    obtain ⟨rfl,rfl⟩:=H;go_wp2
    go_ret2
    exact ⟨zz12,(zz5 HB)⟩
def impl_PageLinks.l0:Nat→List ByteArray→List ByteArray→Int→Int→Option (List ByteArray)
 | 0,_,_,_,_=>none
 | k+1,x3,x7,x8,x9=>if x9 < x8 then (if 0≤x9 then (if x9 < (x7.length:Int) then ((impl_beginsWith.f (rdOf ByteArray.empty x7 x9) 33).bind fun t792=>(if t792=true then (impl_PageLinks.l0 k x3 x7 x8 (wrap64 (x9+1))) else ((impl_beginsWith.f (rdOf ByteArray.empty x7 x9) 64).bind fun t793=>(if t793=true then (impl_PageLinks.l0 k x3 x7 x8 (wrap64 (x9+1))) else (if x3.length < 8796093022208 then (impl_PageLinks.l0 k (x3++[rdOf ByteArray.empty x7 x9]) x7 x8 (wrap64 (x9+1))) else (none)))))) else (none)) else (none)) else (some x3)
def impl_PageLinks.f (k:Nat) (a0:ByteArray):Option (List ByteArray):=(impl_pageMarks.f a0).bind fun t788=>(impl_PageLinks.l0 k ([]:List ByteArray) t788 (t788.length:Int) 0)
theorem impl_PageLinks.mono_l:∀ k,(∀ y0 y1 y2 y3,LeO (impl_PageLinks.l0 k y0 y1 y2 y3) (impl_PageLinks.l0 (k+1) y0 y1 y2 y3))
 | 0=>by intros;intro r h;simp [impl_PageLinks.l0] at h
 | k+1=>by
  have ih0:=impl_PageLinks.mono_l k;intros;unfold impl_PageLinks.l0;repeat' first|(with_reducible first|exact ih0 _ _ _ _|exact LeO.refl _|exact LeO.none _|refine LeO.ite ?_ ?_|refine LeO.bind ?_ (fun _=>?_))|exact LeO.none _|refine LeO.ite ?_ ?_|refine LeO.bind ?_ (fun _=>?_)
theorem impl_PageLinks.calls (k:Nat) (a0:ByteArray) (r:List ByteArray) (w:World) (h:impl_PageLinks.f k a0=some r) :
  Calls Tryz.prog 36 #[.string a0] w fun e w'=>∃ v0_:Value,e=.returned (v0_)∧Kd.R Kd.string 9 w' w.heap.size (fun _=>True) v0_ r∧Below w.heap.size w w':=by
 have HB:=A_ (Below.refl w.heap.size w);unfold impl_PageLinks.f at h
 have H:=h;clear h;replace H:=bindA H;obtain ⟨t788,A2,H⟩:=H;have H':=A_ H;clear H;go_enter Tryz.func36,Tryz.ntmps36;go_wp2_with (first|(refine gV 59 (some 7) Tryz.func59 (impl_pageMarks.calls a0 t788 _ A2.out) ?_;rintro v789 w3 ⟨ho0,hb⟩;have HO790:=A_ (Kd.R_lower ho0 (below_size (zz5 HB)));replace HB:=A_ (bS (zz5 HB) hb);(try clear hb ho0);obtain ⟨Ao4,co4,eo4⟩:=Kd.R_slice HO790.out;subst eo4))
 go_loopg [3,9] k (fun kq v3 v9 w'=>∃ (x3_1:List ByteArray) (x9_1:Int),v9=.int .i64 x9_1∧Aside0 (impl_PageLinks.l0 kq x3_1 t788 (t788.length:Int) x9_1=some r)∧Aside0 (kq≤k)∧Aside0 (Kd.R Kd.string 9 w' w.heap.size (fun k_=>some k_≠((.slice Ao4 t788.length co4):Value).ownBlock) v3 x3_1)∧Aside0 (Kd.R Kd.string 9 w' w.heap.size (fun k_=>some k_≠(v3:Value).ownBlock) (.slice Ao4 t788.length co4) t788)∧Aside0 (Below w.heap.size w w'))
 case atStart=>exact ⟨(([]:List ByteArray)),(0),zz0,H',⟨Nat.le_refl _⟩,⟨zz4⟩,⟨(by (with_reducible repeat (first|apply Kd.R_alloc|apply Kd.R_drewN|apply Kd.R_drew));exact Kd.R_mono HO790.out (fun _ hk=>(by simp [Value.ownBlock])))⟩,⟨(zz5 HB)⟩⟩
 case round=>
  clear H';obtain ⟨x3_1,x9_1,rfl,HA,HK1,HO_3,HO_7,HB⟩:=hrel;cases gk with
  | zero=>exact absurd HA.out (by simp [impl_PageLinks.l0])
  | succ k1=>
   obtain ⟨H⟩:=HA;simp only [impl_PageLinks.l0] at H
   replace H:=iteEd H;rcases H with ⟨c5b0,H⟩|⟨c5b0,H⟩
   ·replace H:=iteNd H
    obtain ⟨c6b0,H⟩:=H;replace H:=iteNd H;obtain ⟨c7b0,H⟩:=H;replace H:=bindA H;obtain ⟨t792,A8,H⟩:=H;have HF9:=A_ H;clear H;obtain ⟨⟨ad791,e791,hx791_0⟩,p791,q791⟩:=atB (Kd.at_string (Kd.R_reads' HO_7.out).2.2 x9_1);cases e791
    go_wp2_with (first|(refine gR 60 (some 14) Tryz.func60 (impl_beginsWith.calls (rdOf ByteArray.empty t788 x9_1) 33 t792 _ A8.out) ?_;rintro w' ⟨nd,rfl⟩)|((with_reducible refine atG ?_ ?_ fun K_ hK_=>?_);rfl;exact undecG)|((with_reducible refine atI ?_ fun K_ hK_=>?_);exact undecI))
    refine unG hK_ ?_;clear hK_ K_;obtain ⟨H⟩:=HF9;replace H:=iteB H;rcases H with ⟨rfl,H⟩|⟨rfl,H⟩
    ·(first|refine iteT ?_|refine iteF ?_|skip)
     have H':=A_ H;clear H;(try ((with_reducible refine upS ?_);go_simp))
     go_wp2
     go_roundg k1
     case measure=>have:=HK1.out;omega
     case rel=>exact ⟨(x3_1),(wrap64 (x9_1+1)),zz0,H',⟨(zz3 HK1)⟩,⟨(zz8 HO_3)⟩,⟨(zz8 HO_7)⟩,⟨(zz5 HB)⟩⟩
    ·(first|refine iteT ?_|refine iteF ?_|skip)
     replace H:=bindA H;obtain ⟨t793,A11,H⟩:=H;have HF12:=A_ H;clear H;(try ((with_reducible refine upS ?_);go_simp))
     go_upto_if 20 with (first|(go_at_call 60;(with_reducible refine (impl_beginsWith.calls (rdOf ByteArray.empty t788 x9_1) 64 t793 _ A11.out).mono ?_);rintro e w' ⟨rfl,⟨nd,rfl⟩⟩))
     obtain ⟨H⟩:=HF12;replace H:=iteB H;rcases H with ⟨rfl,H⟩|⟨rfl,H⟩
     ·have H':=A_ H
      clear H;go_wp2
      go_roundg k1
      case measure=>have:=HK1.out;omega
      case rel=>exact ⟨(x3_1),(wrap64 (x9_1+1)),zz0,H',⟨(zz3 HK1)⟩,⟨(zz8 HO_3)⟩,⟨(zz8 HO_7)⟩,⟨(zz5 HB)⟩⟩
     ·replace H:=iteN H
      obtain ⟨c14,H⟩:=H;have LMc14:=A_ c14;clear c14;obtain ⟨y794,Ny794⟩:=toY (x3_1++[rdOf ByteArray.empty t788 x9_1]);(first|with_reducible replace H:=bindZ Ny794 H|rw [← Ny794.out] at H|skip)
      have H':=A_ H;clear H;go_wp2_with (first|((with_reducible refine gate_builtin (b:=.append) (xs:=#[.tmp 21,.tmp 23]) rfl ?_);at_builtin;refine Kd.R_append Kd.string (w0:=w) w.heap.size rfl (.tmp 21) (.tmp 23) 35 9 (.string ⟨#[]⟩) 16 rfl Tryz.underlying35 info9 rfl (by decide) (by omega) u3 x3_1 (rdOf ByteArray.empty t788 x9_1) [.string (rdOf ByteArray.empty t788 x9_1)] (fun k_=>some k_≠(.slice (some ad791) t788.length co4:Value).ownBlock) (fun _=>False) rfl rfl ?aP (fun _ hk=>hk.elim) ?aF ?aO ?aB ?aS ?aL ?_;(case aP=>exact rfl);(case aB=>exact (zz5 HB));(case aF=>exact (fun k_ hk=>Kd.fresh' (Kd.R_lt (zz8 HO_7)) k_ hk));(case aO=>exact (zz8 HO_3));(case aS=>exact (below_size (zz5 HB)));(case aL=>exact (zz3 LMc14));intro v795 w15 ho hb hg hat;rw [← Ny794.out] at ho;replace HO_7:=A_ (Kd.R_after (ok:=(fun _=>True)) (zz96 HO_7) hg hat);replace HB:=A_ (hb);have HO796:=A_ (ho);clear HO_3;clear ho hb hg hat))
      go_roundg k1
      case measure=>have:=HK1.out;omega
      case rel=>exact ⟨(y794),(wrap64 (x9_1+1)),zz0,H',⟨(zz3 HK1)⟩,⟨(zz8 HO796)⟩,⟨(zz94 HO_7)⟩,⟨(zz5 HB)⟩⟩
   ·obtain rfl:=sI H
    go_wp2
    go_ret
    exact ⟨_,zz12,(zz97 HO_3),(zz5 HB)⟩
mutual
def impl_PageAddrs.j0:Nat→ByteArray→ByteArray→List ByteArray→Bool→ByteArray→Option (List ByteArray)
 | 0,_,_,_,_,_=>none
 | k+1,x1,x802000,x802001,x802002,x802003=>(impl_PageLinks.f k x1).bind fun t812=>(impl_PageAddrs.l0 k ([]:List ByteArray) t812 (t812.length:Int) 0 x802000 x802001 x802002 x802003)
def impl_PageAddrs.l0:Nat→List ByteArray→List ByteArray→Int→Int→ByteArray→List ByteArray→Bool→ByteArray→Option (List ByteArray)
 | 0,_,_,_,_,_,_,_,_=>none
 | k+1,x10,x35,x36,x37,x802000,x802001,x802002,x802003=>if x37 < x36 then (if 0≤x37 then (if x37 < (x35.length:Int) then ((impl_AddrJoin.f k x802000 x802001 x802002 x802003 (rdOf ByteArray.empty x35 x37)).bind fun bt816=>(if bt816.2.2.2.2=true then ((impl_AddrText.f k bt816.1 bt816.2.1 bt816.2.2.1 bt816.2.2.2.1).bind fun t824=>((slices_Contains_string_string.f k x10 t824).bind fun t825=>(if t825=true then (impl_PageAddrs.l0 k x10 x35 x36 (wrap64 (x37+1)) x802000 x802001 x802002 x802003) else (if x10.length < 8796093022208 then (impl_PageAddrs.l0 k (x10++[t824]) x35 x36 (wrap64 (x37+1)) x802000 x802001 x802002 x802003) else (none))))) else (impl_PageAddrs.l0 k x10 x35 x36 (wrap64 (x37+1)) x802000 x802001 x802002 x802003))) else (none)) else (none)) else (some x10)
end
def impl_PageAddrs.f (k:Nat) (a0_0:ByteArray) (l0_1:List ByteArray) (a0_2:Bool) (a0_3:ByteArray) (a1:ByteArray):Option (List ByteArray):=(impl_AddrOk.f k a0_0 l0_1 a0_2 a0_3).bind fun t800=>(if t800=true then ((impl_PageBase.f k a1).bind fun bt802=>(if bt802.2=true then ((impl_AddrJoin.f k a0_0 l0_1 a0_2 a0_3 bt802.1).bind fun bt804=>(if bt804.2.2.2.2=true then (impl_PageAddrs.j0 k a1 bt804.1 bt804.2.1 bt804.2.2.1 bt804.2.2.2.1) else (impl_PageAddrs.j0 k a1 a0_0 l0_1 a0_2 a0_3))) else (impl_PageAddrs.j0 k a1 a0_0 l0_1 a0_2 a0_3))) else (some ([]:List ByteArray)))
theorem impl_PageAddrs.calls (k:Nat) (a0_0:ByteArray) (P0_1_:Nat→Prop) (A0_1:Option Addr) (c0_1:Nat) (l0_1:List ByteArray) (a0_2:Bool) (a0_3:ByteArray) (a1:ByteArray) (r:List ByteArray) (w:World) (hs0_1:Kd.V Kd.string 9 w w.heap.size (fun k_=>P0_1_ k_) (.slice A0_1 l0_1.length c0_1) l0_1) (h:impl_PageAddrs.f k a0_0 l0_1 a0_2 a0_3 a1=some r) :
  Calls Tryz.prog 16 #[.agg #[.string a0_0,.slice A0_1 l0_1.length c0_1,.bool a0_2,.string a0_3],.string a1] w fun e w'=>∃ v0_:Value,e=.returned (v0_)∧Kd.R Kd.string 9 w' w.heap.size (fun k_=>(w.heap.size≤k_)) v0_ r∧Below w.heap.size w w':=by
 have hu39:=Tryz.underlying39;have HO0_1:=A_ (show Kd.V Kd.string 9 w w.heap.size (fun k_=>(P0_1_ k_∨w.heap.size≤k_)) (.slice A0_1 l0_1.length c0_1) l0_1 from Kd.V_mono hs0_1 (fun k_ hk=>.inl hk));have HB:=A_ (Below.refl w.heap.size w);unfold impl_PageAddrs.f at h
 have H:=h;clear h;replace H:=bindA H;obtain ⟨t800,A3,H⟩:=H;have HF4:=A_ H;clear H;go_enter Tryz.func16,Tryz.ntmps16;go_upto_if 18 with (first|(refine boxF 2 #[.string a0_0,.slice A0_1 l0_1.length c0_1,.bool a0_2,.string a0_3] 39 ?_;intro gb799 hg w5 BK799 hb;replace HO0_1:=A_ (Kd.V_below (Kd.V_elderB (zz221 HO0_1) gb799 (Nat.le_of_eq hg.symm)) hb);have GE799:=geB hg (zz5 HB);replace HB:=A_ (bS (zz5 HB) hb);clear hb hg;obtain ⟨_,_,_,_,_,_,_,_⟩:=cf4 BK799)|(refine gR 33 (some 17) Tryz.func33 (impl_AddrOk.calls k a0_0 _ _ l0_1 a0_2 a0_3 t800 _ ?side1 ?side2 A3.out) ?_;(case side1=>exact (zz222 HO0_1));(case side2=>exact (Kd.V_reads' HO0_1.out).2.1);rintro w7 hb;replace HO0_1:=A_ (Kd.V_below (zz221 HO0_1) hb);replace BK799:=A_ (bB (zz15 BK799) hb);replace HB:=A_ (bS (zz16 HB GE799) hb);(try clear hb)))
 obtain ⟨H⟩:=HF4;replace H:=iteB H;rcases H with ⟨rfl,H⟩|⟨rfl,H⟩
 ·replace H:=bindA H
  obtain ⟨⟨t802,t803⟩,A9,H⟩:=H;try dsimp only at H
  have HC10:=A_ H;clear H;obtain ⟨_,_,_,_,_,_,_,_⟩:=cf4 BK799;go_upto_if 25 with (first|(refine boxF 5 #[.string (⟨#[]⟩:ByteArray),.slice none 0 0,.bool false,.string (⟨#[]⟩:ByteArray)] 39 ?_;intro gb801 hg w12 BK801 hb;replace HO0_1:=A_ (Kd.V_below (Kd.V_elderB (zz221 HO0_1) gb801 (Nat.le_of_eq hg.symm)) hb);have GE801:=geB hg (zz16 HB GE799);replace HB:=A_ (bS (zz16 HB GE799) hb);have NB799_801:=A_ ((by rw [hg];exact Nat.ne_of_lt (blk_lt (zz15 BK799)):gb799≠gb801));have NB801_799:=A_ ((by rw [hg];exact Nat.ne_of_gt (blk_lt (zz15 BK799)):gb801≠gb799));replace BK799:=A_ (bB (zz15 BK799) hb);clear hb hg;have hnb13:=NB801_799.out;have hnc13:=NB799_801.out;obtain ⟨_,_,_,_,_,_,_,_⟩:=cf4 BK801)|(refine gR 34 (some 22) Tryz.func34 (impl_PageBase.calls k a1 t802 t803 _ A9.out) ?_;rintro w15 hb;replace HO0_1:=A_ (Kd.V_below (by (with_reducible repeat (first|apply Kd.V_alloc|apply Kd.V_drewN|apply Kd.V_drew));exact (Kd.V_mono (Kd.V_far (p:=⟨gb801,3,none⟩) (Kd.V_far (p:=⟨gb801,2,none⟩) (Kd.V_far (p:=⟨gb801,1,none⟩) (Kd.V_far (p:=⟨gb801,0,none⟩) (Kd.V_mono HO0_1.out (fun k_ hk=>(⟨hk,hk.2⟩:_∧k_≠gb801))) (fun _ hk=>hk.2) (.string a0_0)) (fun _ hk=>hk.2) (.slice A0_1 l0_1.length c0_1)) (fun _ hk=>hk.2) (.bool a0_2)) (fun _ hk=>hk.2) (.string a0_3)) (fun _ h_=>h_.1))) hb);replace BK799:=A_ (bB (g:=gb799) (o:=.cells #[.string a0_0,.slice A0_1 l0_1.length c0_1,.bool a0_2,.string a0_3] 39 (0,0)) (zz176 BK799 NB799_801) hb);replace BK801:=A_ (bB (g:=gb801) (o:=.cells #[.string a0_0,.slice A0_1 l0_1.length c0_1,.bool a0_2,.string a0_3] 39 (0,0)) (zz32 BK801) hb);replace HB:=A_ (bS (zz73 HB GE799 GE801) hb);(try clear hb)))
  (try simp only [Act.put,List.setIfInBounds_toArray,List.set_cons_zero,List.set_cons_succ])
  go_cut [] (fun wc=>∃ (kq:Nat) (x802000_9:ByteArray) (x802001_9:List ByteArray) (x802002_9:Bool) (x802003_9:ByteArray) (u802001:Value),Aside0 (impl_PageAddrs.j0 kq a1 x802000_9 x802001_9 x802002_9 x802003_9=some r)∧Aside0 (kq≤k)∧Aside0 (Kd.V Kd.string 9 wc w.heap.size (fun k_=>(P0_1_ k_∨w.heap.size≤k_)∧k_≠gb799∧k_≠gb801) (.slice A0_1 l0_1.length c0_1) l0_1)∧Aside0 (Kd.V Kd.string 9 wc w.heap.size (fun k_=>(P0_1_ k_∨w.heap.size≤k_)∧k_≠gb799∧k_≠gb801) u802001 x802001_9)∧Aside0 (wc.heap[gb799]?=some (.cells #[.string a0_0,(.slice A0_1 l0_1.length c0_1),.bool a0_2,.string a0_3] 39 (0,0)))∧Aside0 (wc.heap[gb801]?=some (.cells #[.string x802000_9,u802001,.bool x802002_9,.string x802003_9] 39 (0,0)))∧Aside0 (Below w.heap.size w wc))
  case first=>
   obtain ⟨H⟩:=HC10;replace H:=iteB H;rcases H with ⟨rfl,H⟩|⟨rfl,H⟩
   ·replace H:=bindA H
    obtain ⟨⟨t804,t805,t808,t809,t810⟩,A17,H⟩:=H;try dsimp only at H
    have HF18:=A_ H;clear H;have hnb19:=NB799_801.out;have hnc19:=NB801_799.out;obtain ⟨_,_,_,_,_,_,_,_⟩:=cf4 BK799;go_upto_if 32 with (first|(refine gV 35 (some 29) Tryz.func35 (impl_AddrJoin.calls k a0_0 _ _ l0_1 a0_2 a0_3 t802 t804 t805 t808 t809 t810 _ ?side1 ?side2 A17.out) ?_;(case side1=>exact (zz222 HO0_1));(case side2=>exact (Kd.V_reads' HO0_1.out).2.1);rintro v806 w21 ⟨ho0,hb⟩;replace HO0_1:=A_ (Kd.V_elder' (zz221 HO0_1) (Kd.R_base ho0) hb);have HO807:=A_ (Kd.R_lower (Kd.R_newM (M:=fun k_=>(w.heap.size≤k_)) ho0 (below_size (zz73 HB GE799 GE801)) (fun k_ h_=>h_)) (below_size (zz73 HB GE799 GE801)));replace BK799:=A_ (bB (zz15 BK799) hb);replace BK801:=A_ (bB (zz15 BK801) hb);replace HB:=A_ (bS (zz73 HB GE799 GE801) hb);(try clear hb ho0))|(refine boxF 8 #[.string (⟨#[]⟩:ByteArray),.slice none 0 0,.bool false,.string (⟨#[]⟩:ByteArray)] 39 ?_;intro gb811 hg w22 BK811 hb;replace HO0_1:=A_ (Kd.V_below (Kd.V_elderB (zz221 HO0_1) gb811 (Nat.le_of_eq hg.symm)) hb);replace HO807:=A_ (rB (zz8 HO807) hb);have GE811:=geB hg (zz73 HB GE799 GE801);replace HB:=A_ (bS (zz73 HB GE799 GE801) hb);have NB799_811:=A_ ((by rw [hg];exact Nat.ne_of_lt (blk_lt (zz15 BK799)):gb799≠gb811));have NB811_799:=A_ ((by rw [hg];exact Nat.ne_of_gt (blk_lt (zz15 BK799)):gb811≠gb799));replace BK799:=A_ (bB (zz15 BK799) hb);have NB801_811:=A_ ((by rw [hg];exact Nat.ne_of_lt (blk_lt (zz15 BK801)):gb801≠gb811));have NB811_801:=A_ ((by rw [hg];exact Nat.ne_of_gt (blk_lt (zz15 BK801)):gb811≠gb801));replace BK801:=A_ (bB (zz15 BK801) hb);clear hb hg;have hnb23:=NB811_799.out;have hnc23:=NB799_811.out;have hnb24:=NB811_801.out;have hnc24:=NB801_811.out;obtain ⟨_,_,_,_,_,_,_,_⟩:=cf4 BK811;obtain ⟨Ao26,co26,eo26⟩:=Kd.R_slice HO807.out;subst eo26)|((with_reducible refine gate_store (t:=39) (p:=8) rfl ?_);refine store_event (t:=39) (p:=8) (v:=?vo_w27) (w1:=((((w22.setCell ⟨gb811,0,none⟩ (.string t804)).setCell ⟨gb811,1,none⟩ (.slice Ao26 t805.length co26)).setCell ⟨gb811,2,none⟩ (.bool t808)).setCell ⟨gb811,3,none⟩ (.string t809))) ?hg ?ho ?hn ?hr ?_;(case ho=>rfl);(case hg=>rfl);(case hn=>rfl);(case hr=>exact zz26);intro w27 hw;have n0_:Aside0 (Kd.V Kd.string 9 w27 w.heap.size (fun k_=>(P0_1_ k_∨w.heap.size≤k_)∧some k_≠(.slice Ao26 t805.length co26:Value).ownBlock∧k_≠gb799∧k_≠gb801∧k_≠gb811) (.slice A0_1 l0_1.length c0_1) l0_1):=⟨(by rw [hw];exact (by (with_reducible repeat (first|apply Kd.V_alloc|apply Kd.V_drewN|apply Kd.V_drew));exact Kd.V_mono (Kd.V_far (p:=⟨gb811,3,none⟩) (Kd.V_far (p:=⟨gb811,2,none⟩) (Kd.V_far (p:=⟨gb811,1,none⟩) (Kd.V_far (p:=⟨gb811,0,none⟩) (Kd.V_mono HO0_1.out (fun k_ hk=>(⟨hk,hk.2⟩:_∧k_≠gb811))) (fun _ hk=>hk.2) (.string t804)) (fun _ hk=>hk.2) (.slice Ao26 t805.length co26)) (fun _ hk=>hk.2) (.bool t808)) (fun _ hk=>hk.2) (.string t809)) (fun _ hk=>⟨hk.1.1.1.1.1,⟨hk.1.1.2,⟨hk.1.1.1.1.2,⟨hk.1.1.1.2,hk.1.2⟩⟩⟩⟩)))⟩;have n1_:Aside0 (Kd.R Kd.string 9 w27 w.heap.size (fun k_=>(w.heap.size≤k_)) (.slice Ao26 t805.length co26) t805):=⟨(by rw [hw];exact (zz47 (rt HO807 BK811)))⟩;have n2_:Aside0 (w27.heap[gb799]?=some (.cells #[.string a0_0,.slice A0_1 l0_1.length c0_1,.bool a0_2,.string a0_3] 39 (0,0))):=⟨(by rw [hw];exact (zz176 BK799 NB799_811))⟩;have n3_:Aside0 (w27.heap[gb801]?=some (.cells #[.string a0_0,.slice A0_1 l0_1.length c0_1,.bool a0_2,.string a0_3] 39 (0,0))):=⟨(by rw [hw];exact (zz176 BK801 NB801_811))⟩;have n4_:Aside0 (w27.heap[gb811]?=some (.cells #[.string t804,.slice Ao26 t805.length co26,.bool t808,.string t809] 39 (0,0))):=⟨(by rw [hw];exact (zz32 BK811))⟩;have n5_:Aside0 (Below w.heap.size w w27):=⟨(by rw [hw];exact (zz201 HB GE799 GE801 GE811))⟩;clear hw;clear HO0_1;clear HO807;clear BK799;clear BK801;clear BK811;clear HB;have HO0_1:=n0_;have HO807:=n1_;have BK799:=n2_;have BK801:=n3_;have BK811:=n4_;have HB:=n5_;clear n0_ n1_ n2_ n3_ n4_ n5_))
    obtain ⟨H⟩:=HF18;replace H:=iteB H;rcases H with ⟨rfl,H⟩|⟨rfl,H⟩
    ·have H':=A_ H
     clear H;have hnb29:=NB811_799.out;have hnc29:=NB799_811.out;have hnb30:=NB811_801.out;have hnc30:=NB801_811.out;obtain ⟨_,_,_,_,_,_,_,_⟩:=cf4 BK811;have hnb32:=NB801_799.out;have hnc32:=NB799_801.out;obtain ⟨_,_,_,_,_,_,_,_⟩:=cf4 BK801;go_wp2
     go_meet
     case rel=>exact ⟨_,(t804),(t805),(t808),(t809),(.slice Ao26 t805.length co26),H',⟨zz17⟩,⟨(by (with_reducible repeat (first|apply Kd.V_alloc|apply Kd.V_drewN|apply Kd.V_drew));exact Kd.V_mono (Kd.V_far (p:=⟨gb801,3,none⟩) (Kd.V_far (p:=⟨gb801,2,none⟩) (Kd.V_far (p:=⟨gb801,1,none⟩) (Kd.V_far (p:=⟨gb801,0,none⟩) (Kd.V_mono HO0_1.out (fun k_ hk=>(⟨hk,hk.2.2.2.1⟩:_∧k_≠gb801))) (fun _ hk=>hk.2) (.string t804)) (fun _ hk=>hk.2) (.slice Ao26 t805.length co26)) (fun _ hk=>hk.2) (.bool t808)) (fun _ hk=>hk.2) (.string t809)) (fun _ hk=>⟨hk.1.1,⟨hk.1.2.2.1,hk.1.2.2.2.1⟩⟩))⟩,⟨Kd.V_mono (Kd.R_V (by (with_reducible repeat (first|apply Kd.R_alloc|apply Kd.R_drewN|apply Kd.R_drew));exact Kd.R_mono (ok':=fun k_=>(w.heap.size≤k_)∧k_≠gb799∧k_≠gb801) (Kd.R_far (p:=⟨gb801,3,none⟩) (Kd.R_far (p:=⟨gb801,2,none⟩) (Kd.R_far (p:=⟨gb801,1,none⟩) (Kd.R_far (p:=⟨gb801,0,none⟩) (Kd.R_types (Kd.R_types (Kd.R_types HO807.out BK799.out (by decide)) BK801.out (by decide)) BK801.out (by decide)) (fun _ hk=>hk.2) (.string t804)) (fun _ hk=>hk.2) (.slice Ao26 t805.length co26)) (fun _ hk=>hk.2) (.bool t808)) (fun _ hk=>hk.2) (.string t809)) (fun _ hk=>⟨hk.1.1.1,⟨hk.1.1.2,hk.1.2⟩⟩))) (fun k_ hk=>by first|exact ⟨(.inr (hk.1)),hk.2⟩|exact (.inr (hk)))⟩,⟨(zz176 BK799 NB799_801)⟩,⟨(zz32 BK801)⟩,⟨(zz201 HB GE799 GE801 GE811)⟩⟩
    ·have H':=A_ H
     clear H;go_wp2
     go_meet
     case rel=>exact ⟨_,(a0_0),(l0_1),(a0_2),(a0_3),(.slice A0_1 l0_1.length c0_1),H',⟨zz17⟩,⟨(zz312 HO0_1)⟩,⟨(zz312 HO0_1)⟩,⟨(zz15 BK799)⟩,⟨(zz15 BK801)⟩,⟨(zz201 HB GE799 GE801 GE811)⟩⟩
   ·have H':=A_ H
    clear H;go_wp2
    go_meet
    case rel=>exact ⟨_,(a0_0),(l0_1),(a0_2),(a0_3),(.slice A0_1 l0_1.length c0_1),H',⟨zz17⟩,⟨(zz313 HO0_1)⟩,⟨(zz313 HO0_1)⟩,⟨(zz15 BK799)⟩,⟨(zz15 BK801)⟩,⟨(zz73 HB GE799 GE801)⟩⟩
  case rest=>
   clear HC10;obtain ⟨kq,x802000_9,x802001_9,x802002_9,x802003_9,u802001,HA,HJ9,HO_800001,HO_802001,BK799,BK801,HB⟩:=hcut;cases kq with
   | zero=>exact absurd HA.out (by simp [impl_PageAddrs.j0])
   | succ kj9=>
    obtain ⟨H⟩:=HA;simp only [impl_PageAddrs.j0] at H
    replace H:=bindA H;obtain ⟨t812,A34,H⟩:=H;have H':=A_ H;clear H;go_wp2_with (first|(refine gV 36 (some 35) Tryz.func36 (impl_PageLinks.calls kj9 a1 t812 _ A34.out) ?_;rintro v813 w35 ⟨ho0,hb⟩;replace HO_800001:=A_ (Kd.V_elder' (zz221 HO_800001) (Kd.R_base ho0) hb);replace HO_802001:=A_ (Kd.V_elder' (zz221 HO_802001) (Kd.R_base ho0) hb);have HO814:=A_ (Kd.R_lower (Kd.R_newM (M:=fun k_=>(w.heap.size≤k_)) ho0 (below_size (zz73 HB GE799 GE801)) (fun k_ h_=>h_)) (below_size (zz73 HB GE799 GE801)));replace BK799:=A_ (bB (zz15 BK799) hb);replace BK801:=A_ (bB (zz15 BK801) hb);replace HB:=A_ (bS (zz73 HB GE799 GE801) hb);(try clear hb ho0);obtain ⟨Ao36,co36,eo36⟩:=Kd.R_slice HO814.out;subst eo36))
    go_loopg [10,37] kj9 (fun kq v10 v37 w'=>∃ (x10_2:List ByteArray) (x37_2:Int),v37=.int .i64 x37_2∧Aside0 (impl_PageAddrs.l0 kq x10_2 t812 (t812.length:Int) x37_2 x802000_9 x802001_9 x802002_9 x802003_9=some r)∧Aside0 (kq≤kj9)∧Aside0 (Kd.R Kd.string 9 w' w.heap.size (fun k_=>(w.heap.size≤k_)∧some k_≠((.slice Ao36 t812.length co36):Value).ownBlock) v10 x10_2)∧Aside0 (Kd.R Kd.string 9 w' w.heap.size (fun k_=>(w.heap.size≤k_)∧some k_≠(v10:Value).ownBlock) (.slice Ao36 t812.length co36) t812)∧Aside0 (Kd.V Kd.string 9 w' w.heap.size (fun k_=>(P0_1_ k_∨w.heap.size≤k_)∧some k_≠(v10:Value).ownBlock∧some k_≠((.slice Ao36 t812.length co36):Value).ownBlock∧k_≠gb799∧k_≠gb801) (.slice A0_1 l0_1.length c0_1) l0_1)∧Aside0 (Kd.V Kd.string 9 w' w.heap.size (fun k_=>(P0_1_ k_∨w.heap.size≤k_)∧some k_≠(v10:Value).ownBlock∧some k_≠((.slice Ao36 t812.length co36):Value).ownBlock∧k_≠gb799∧k_≠gb801) u802001 x802001_9)∧Aside0 (w'.heap[gb799]?=some (.cells #[.string a0_0,(.slice A0_1 l0_1.length c0_1),.bool a0_2,.string a0_3] 39 (0,0)))∧Aside0 (w'.heap[gb801]?=some (.cells #[.string x802000_9,u802001,.bool x802002_9,.string x802003_9] 39 (0,0)))∧Aside0 (Below w.heap.size w w'))
    case atStart=>exact ⟨(([]:List ByteArray)),(0),zz0,H',⟨Nat.le_refl _⟩,⟨zz4⟩,⟨(by (with_reducible repeat (first|apply Kd.R_alloc|apply Kd.R_drewN|apply Kd.R_drew));exact Kd.R_mono HO814.out (fun _ hk=>⟨hk.1,(by simp [Value.ownBlock])⟩))⟩,⟨(zz316 HO_800001)⟩,⟨(zz316 HO_802001)⟩,⟨(zz15 BK799)⟩,⟨(zz15 BK801)⟩,⟨(zz73 HB GE799 GE801)⟩⟩
    case round=>
     clear H';obtain ⟨x10_2,x37_2,rfl,HA,HK2,HO_10,HO_35,HO_800001,HO_802001,BK799,BK801,HB⟩:=hrel;cases gk with
     | zero=>exact absurd HA.out (by simp [impl_PageAddrs.l0])
     | succ k2=>
      obtain ⟨H⟩:=HA;simp only [impl_PageAddrs.l0] at H
      replace H:=iteEd H;rcases H with ⟨c37b0,H⟩|⟨c37b0,H⟩
      ·replace H:=iteNd H
       obtain ⟨c38b0,H⟩:=H;replace H:=iteNd H;obtain ⟨c39b0,H⟩:=H;replace H:=bindA H;obtain ⟨⟨t816,t817,t820,t821,t822⟩,A40,H⟩:=H;try dsimp only at H
       have HF41:=A_ H;clear H;obtain ⟨⟨ad815,e815,hx815_0⟩,p815,q815⟩:=atB (Kd.at_string (Kd.R_reads' HO_35.out).2.2 x37_2);cases e815
       have hnb42:=NB801_799.out;have hnc42:=NB799_801.out;obtain ⟨_,_,_,_,_,_,_,_⟩:=cf4 BK801;obtain ⟨Ao44,co44,eo44⟩:=Kd.V_slice HO_802001.out;subst eo44;go_upto_if 48 with (first|(refine gV 35 (some 44) Tryz.func35 (impl_AddrJoin.calls k2 x802000_9 _ _ x802001_9 x802002_9 x802003_9 (rdOf ByteArray.empty t812 x37_2) t816 t817 t820 t821 t822 _ ?side1 ?side2 A40.out) ?_;(case side1=>exact (zz222 HO_802001));(case side2=>exact (Kd.V_reads' HO_802001.out).2.1);rintro v818 w45 ⟨ho0,hb⟩;replace HO_800001:=A_ (Kd.V_elder' (zz221 HO_800001) (Kd.R_base ho0) hb);replace HO_802001:=A_ (Kd.V_elder' (zz221 HO_802001) (Kd.R_base ho0) hb);have HO819:=A_ (Kd.R_lower (Kd.R_new' (Kd.R_new' (Kd.R_newM (M:=fun k_=>(w.heap.size≤k_)) ho0 (below_size (zz73 HB GE799 GE801)) (fun k_ h_=>h_)) (Kd.R_lt (zz8 HO_10))) (Kd.R_lt (zz8 HO_35))) (below_size (zz73 HB GE799 GE801)));replace HO_10:=A_ (Kd.R_elder' (zz8 HO_10) (Kd.R_base ho0) hb);replace HO_35:=A_ (Kd.R_elder' (zz8 HO_35) (Kd.R_base ho0) hb);replace BK799:=A_ (bB (zz15 BK799) hb);replace BK801:=A_ (bB (zz15 BK801) hb);replace HB:=A_ (bS (zz73 HB GE799 GE801) hb);(try clear hb ho0))|(refine boxF 13 #[.string (⟨#[]⟩:ByteArray),.slice none 0 0,.bool false,.string (⟨#[]⟩:ByteArray)] 39 ?_;intro gb823 hg w46 BK823 hb;replace HO_10:=A_ (rB (zz8 HO_10) hb);replace HO_35:=A_ (rB (zz8 HO_35) hb);replace HO_800001:=A_ (Kd.V_below (Kd.V_elderB (zz221 HO_800001) gb823 (Nat.le_of_eq hg.symm)) hb);replace HO_802001:=A_ (Kd.V_below (Kd.V_elderB (zz221 HO_802001) gb823 (Nat.le_of_eq hg.symm)) hb);replace HO819:=A_ (rB (zz8 HO819) hb);have GE823:=geB hg (zz73 HB GE799 GE801);replace HB:=A_ (bS (zz73 HB GE799 GE801) hb);have NB799_823:=A_ ((by rw [hg];exact Nat.ne_of_lt (blk_lt (zz15 BK799)):gb799≠gb823));have NB823_799:=A_ ((by rw [hg];exact Nat.ne_of_gt (blk_lt (zz15 BK799)):gb823≠gb799));replace BK799:=A_ (bB (zz15 BK799) hb);have NB801_823:=A_ ((by rw [hg];exact Nat.ne_of_lt (blk_lt (zz15 BK801)):gb801≠gb823));have NB823_801:=A_ ((by rw [hg];exact Nat.ne_of_gt (blk_lt (zz15 BK801)):gb823≠gb801));replace BK801:=A_ (bB (zz15 BK801) hb);clear hb hg;have hnb47:=NB823_799.out;have hnc47:=NB799_823.out;have hnb48:=NB823_801.out;have hnc48:=NB801_823.out;obtain ⟨_,_,_,_,_,_,_,_⟩:=cf4 BK823;obtain ⟨Ao50,co50,eo50⟩:=Kd.R_slice HO819.out;subst eo50)|((with_reducible refine gate_store (t:=39) (p:=13) rfl ?_);refine store_event (t:=39) (p:=13) (v:=?vo_w51) (w1:=((((w46.setCell ⟨gb823,0,none⟩ (.string t816)).setCell ⟨gb823,1,none⟩ (.slice Ao50 t817.length co50)).setCell ⟨gb823,2,none⟩ (.bool t820)).setCell ⟨gb823,3,none⟩ (.string t821))) ?hg ?ho ?hn ?hr ?_;(case ho=>rfl);(case hg=>rfl);(case hn=>rfl);(case hr=>exact zz26);intro w51 hw;have n0_:Aside0 (Kd.R Kd.string 9 w51 w.heap.size (fun k_=>(w.heap.size≤k_)∧some k_≠(.slice (some ad815) t812.length co36:Value).ownBlock∧some k_≠(.slice Ao50 t817.length co50:Value).ownBlock) u10 x10_2):=⟨(by rw [hw];exact (zz47 (rt HO_10 BK823)))⟩;have n1_:Aside0 (Kd.R Kd.string 9 w51 w.heap.size (fun k_=>(w.heap.size≤k_)∧some k_≠(u10:Value).ownBlock∧some k_≠(.slice Ao50 t817.length co50:Value).ownBlock) (.slice (some ad815) t812.length co36) t812):=⟨(by rw [hw];exact (zz47 (rt HO_35 BK823)))⟩;have n2_:Aside0 (Kd.V Kd.string 9 w51 w.heap.size (fun k_=>(P0_1_ k_∨w.heap.size≤k_)∧some k_≠(u10:Value).ownBlock∧some k_≠(.slice (some ad815) t812.length co36:Value).ownBlock∧some k_≠(.slice Ao50 t817.length co50:Value).ownBlock∧k_≠gb799∧k_≠gb801∧k_≠gb823) (.slice A0_1 l0_1.length c0_1) l0_1):=⟨(by rw [hw];exact (zz320 HO_800001))⟩;have n3_:Aside0 (Kd.V Kd.string 9 w51 w.heap.size (fun k_=>(P0_1_ k_∨w.heap.size≤k_)∧some k_≠(u10:Value).ownBlock∧some k_≠(.slice (some ad815) t812.length co36:Value).ownBlock∧some k_≠(.slice Ao50 t817.length co50:Value).ownBlock∧k_≠gb799∧k_≠gb801∧k_≠gb823) (.slice Ao44 x802001_9.length co44) x802001_9):=⟨(by rw [hw];exact (zz320 HO_802001))⟩;have n4_:Aside0 (Kd.R Kd.string 9 w51 w.heap.size (fun k_=>(w.heap.size≤k_)∧some k_≠(u10:Value).ownBlock∧some k_≠(.slice (some ad815) t812.length co36:Value).ownBlock) (.slice Ao50 t817.length co50) t817):=⟨(by rw [hw];exact (zz47 (rt HO819 BK823)))⟩;have n5_:Aside0 (w51.heap[gb799]?=some (.cells #[.string a0_0,.slice A0_1 l0_1.length c0_1,.bool a0_2,.string a0_3] 39 (0,0))):=⟨(by rw [hw];exact (zz176 BK799 NB799_823))⟩;have n6_:Aside0 (w51.heap[gb801]?=some (.cells #[.string x802000_9,.slice Ao44 x802001_9.length co44,.bool x802002_9,.string x802003_9] 39 (0,0))):=⟨(by rw [hw];exact (zz176 BK801 NB801_823))⟩;have n7_:Aside0 (w51.heap[gb823]?=some (.cells #[.string t816,.slice Ao50 t817.length co50,.bool t820,.string t821] 39 (0,0))):=⟨(by rw [hw];exact (zz32 BK823))⟩;have n8_:Aside0 (Below w.heap.size w w51):=⟨(by rw [hw];exact (zz201 HB GE799 GE801 GE823))⟩;clear hw;clear HO_10;clear HO_35;clear HO_800001;clear HO_802001;clear HO819;clear BK799;clear BK801;clear BK823;clear HB;have HO_10:=n0_;have HO_35:=n1_;have HO_800001:=n2_;have HO_802001:=n3_;have HO819:=n4_;have BK799:=n5_;have BK801:=n6_;have BK823:=n7_;have HB:=n8_;clear n0_ n1_ n2_ n3_ n4_ n5_ n6_ n7_ n8_))
       obtain ⟨H⟩:=HF41;replace H:=iteB H;rcases H with ⟨rfl,H⟩|⟨rfl,H⟩
       ·replace H:=bindA H
        obtain ⟨t824,A53,H⟩:=H;replace H:=bindA H;obtain ⟨t825,A54,H⟩:=H;have HF55:=A_ H;clear H;have hnb56:=NB823_799.out;have hnc56:=NB799_823.out;have hnb57:=NB823_801.out;have hnc57:=NB801_823.out;obtain ⟨_,_,_,_,_,_,_,_⟩:=cf4 BK823;go_upto_if 54 with (first|(refine gR 17 (some 50) Tryz.func17 (impl_AddrText.calls k2 t816 _ _ t817 t820 t821 t824 _ ?side1 ?side2 A53.out) ?_;(case side1=>exact (zz33 HO819));(case side2=>exact (Kd.R_reads' HO819.out).2.1);rintro w59 hb;replace HO_10:=A_ (rB (zz8 HO_10) hb);replace HO_35:=A_ (rB (zz8 HO_35) hb);replace HO_800001:=A_ (Kd.V_below (zz221 HO_800001) hb);replace HO_802001:=A_ (Kd.V_below (zz221 HO_802001) hb);replace HO819:=A_ (rB (zz8 HO819) hb);replace BK799:=A_ (bB (zz15 BK799) hb);replace BK801:=A_ (bB (zz15 BK801) hb);replace BK823:=A_ (bB (zz15 BK823) hb);replace HB:=A_ (bS (zz201 HB GE799 GE801 GE823) hb);(try clear hb);obtain ⟨Ao60,co60,eo60⟩:=Kd.R_slice HO_10.out;subst eo60)|(refine gR 37 (some 53) Tryz.func37 (slices_Contains_string_string.calls k2 _ _ x10_2 t824 t825 _ ?side1 ?side2 A54.out) ?_;(case side1=>exact (zz33 HO_10));(case side2=>exact (Kd.R_reads' HO_10.out).2.1);rintro w' ⟨nd,rfl⟩))
        obtain ⟨H⟩:=HF55;replace H:=iteB H;rcases H with ⟨rfl,H⟩|⟨rfl,H⟩
        ·have H':=A_ H
         clear H;go_wp2
         go_roundg k2
         case measure=>have:=HJ9.out;have:=HK2.out;omega
         case rel=>exact ⟨(x10_2),(wrap64 (x37_2+1)),zz0,H',⟨(zz10 HJ9 HK2)⟩,⟨(zz243 HO_10)⟩,⟨(zz243 HO_35)⟩,⟨(zz328 HO_800001)⟩,⟨(zz328 HO_802001)⟩,⟨(zz15 BK799)⟩,⟨(zz15 BK801)⟩,⟨(zz201 HB GE799 GE801 GE823)⟩⟩
        ·replace H:=iteN H
         obtain ⟨c62,H⟩:=H;have LMc62:=A_ c62;clear c62;obtain ⟨y826,Ny826⟩:=toY (x10_2++[t824]);(first|with_reducible replace H:=bindZ Ny826 H|rw [← Ny826.out] at H|skip)
         have H':=A_ H;clear H;go_wp2_with (first|((with_reducible refine gate_builtin (b:=.append) (xs:=#[.tmp 55,.tmp 57]) rfl ?_);at_builtin;refine Kd.R_append Kd.string (w0:=w) w.heap.size rfl (.tmp 55) (.tmp 57) 35 9 (.string ⟨#[]⟩) 16 rfl Tryz.underlying35 info9 rfl (by decide) (by omega) (.slice Ao60 x10_2.length co60) x10_2 t824 [.string t824] (fun k_=>(w.heap.size≤k_)∧some k_≠(.slice (some ad815) t812.length co36:Value).ownBlock∧some k_≠(.slice Ao50 t817.length co50:Value).ownBlock) (fun _=>False) rfl rfl ?aP (fun _ hk=>hk.elim) ?aF ?aO ?aB ?aS ?aL ?_;(case aP=>exact rfl);(case aB=>exact (zz201 HB GE799 GE801 GE823));(case aF=>exact (fun k_ hk=>⟨(Nat.le_trans (below_size (zz201 HB GE799 GE801 GE823)) hk),Kd.fresh' (Kd.R_lt (zz8 HO_35)) k_ hk,Kd.fresh' (Kd.R_lt (zz8 HO819)) k_ hk⟩));(case aO=>exact (zz8 HO_10));(case aS=>exact (below_size (zz201 HB GE799 GE801 GE823)));(case aL=>exact (zz3 LMc62));intro v827 w63 ho hb hg hat;rw [← Ny826.out] at ho;replace HO_35:=A_ (Kd.R_after (ok:=(fun k_=>(w.heap.size≤k_)∧some k_≠(.slice Ao50 t817.length co50:Value).ownBlock)) (zz329 HO_35) hg hat);replace HO_800001:=A_ (Kd.V_afterv (ok:=(fun k_=>(P0_1_ k_∨w.heap.size≤k_)∧some k_≠(.slice (some ad815) t812.length co36:Value).ownBlock∧some k_≠(.slice Ao50 t817.length co50:Value).ownBlock∧k_≠gb799∧k_≠gb801∧k_≠gb823)) (zz330 HO_800001) hg hat);replace HO_802001:=A_ (Kd.V_afterv (ok:=(fun k_=>(P0_1_ k_∨w.heap.size≤k_)∧some k_≠(.slice (some ad815) t812.length co36:Value).ownBlock∧some k_≠(.slice Ao50 t817.length co50:Value).ownBlock∧k_≠gb799∧k_≠gb801∧k_≠gb823)) (zz330 HO_802001) hg hat);replace BK799:=A_ (blk_grown (zz15 BK799) hg (Kd.R_ne HO_10.out BK799.out (by decide)));replace BK801:=A_ (blk_grown (zz15 BK801) hg (Kd.R_ne HO_10.out BK801.out (by decide)));replace HO819:=A_ (Kd.R_after (ok:=(fun k_=>(w.heap.size≤k_)∧some k_≠(.slice (some ad815) t812.length co36:Value).ownBlock)) (zz329 HO819) hg hat);replace BK823:=A_ (blk_grown (zz15 BK823) hg (Kd.R_ne HO_10.out BK823.out (by decide)));replace HB:=A_ (hb);have HO828:=A_ (ho);clear HO_10;clear ho hb hg hat))
         go_roundg k2
         case measure=>have:=HJ9.out;have:=HK2.out;omega
         case rel=>exact ⟨(y826),(wrap64 (x37_2+1)),zz0,H',⟨(zz10 HJ9 HK2)⟩,⟨(zz243 HO828)⟩,⟨(zz235 HO_35)⟩,⟨(zz331 HO_800001)⟩,⟨(zz331 HO_802001)⟩,⟨(zz15 BK799)⟩,⟨(zz15 BK801)⟩,⟨(zz201 HB GE799 GE801 GE823)⟩⟩
       ·have H':=A_ H
        clear H;go_wp2
        go_roundg k2
        case measure=>have:=HJ9.out;have:=HK2.out;omega
        case rel=>exact ⟨(x10_2),(wrap64 (x37_2+1)),zz0,H',⟨(zz10 HJ9 HK2)⟩,⟨(zz243 HO_10)⟩,⟨(zz243 HO_35)⟩,⟨(zz328 HO_800001)⟩,⟨(zz328 HO_802001)⟩,⟨(zz15 BK799)⟩,⟨(zz15 BK801)⟩,⟨(zz201 HB GE799 GE801 GE823)⟩⟩
      ·obtain rfl:=sI H
       go_wp2
       go_ret
       exact ⟨_,zz12,(zz231 HO_10),(zz73 HB GE799 GE801)⟩
 ·obtain rfl:=sI H
  go_wp2
  go_ret
  exact ⟨_,zz12,zz4,(zz16 HB GE799)⟩
def impl_leads.f (k:Nat) (a0_0:ByteArray) (l0_1:List ByteArray) (a0_2:Bool) (a0_3:ByteArray) (a1:Int) (a2:ByteArray):Option (List ByteArray):=if a1=1 then ((impl_PageAddrs.f k a0_0 l0_1 a0_2 a0_3 a2).bind fun t830=>(some t830)) else (if a1=2 then (some (([a2]:List ByteArray))) else (some ([]:List ByteArray)))
theorem impl_leads.calls (k:Nat) (a0_0:ByteArray) (A0_1:Option Addr) (c0_1:Nat) (l0_1:List ByteArray) (a0_2:Bool) (a0_3:ByteArray) (a1:Int) (a2:ByteArray) (r:List ByteArray) (w:World) (hr0_1:Kd.C Kd.string w A0_1 l0_1.length l0_1) (hc0_1:l0_1.length≤c0_1) (h:impl_leads.f k a0_0 l0_1 a0_2 a0_3 a1 a2=some r) :
  Calls Tryz.prog 50 #[.agg #[.string a0_0,.slice A0_1 l0_1.length c0_1,.bool a0_2,.string a0_3],.int .i64 a1,.string a2] w fun e w'=>∃ v0_:Value,e=.returned (v0_)∧Kd.R Kd.string 9 w' w.heap.size (fun _=>True) v0_ r∧Below w.heap.size w w':=by
 have hu39:=Tryz.underlying39;have HR0_1:=A_ hr0_1;have HC0_1:=A_ hc0_1;clear hr0_1 hc0_1;have HB:=A_ (Below.refl w.heap.size w);unfold impl_leads.f at h
 have H:=h;clear h;have HF4:=A_ H;clear H;go_enter Tryz.func50,Tryz.ntmps50;go_upto_if 8 with (first|(refine boxF 3 #[.string a0_0,.slice A0_1 l0_1.length c0_1,.bool a0_2,.string a0_3] 39 ?_;intro gb829 hg w5 BK829 hb;have GE829:=geB hg (zz5 HB);replace HB:=A_ (bS (zz5 HB) hb);clear hb hg))
 obtain ⟨H⟩:=HF4;replace H:=iteEq H;rcases H with ⟨c6b0,c6b1,H⟩|⟨c6b0,c6b1,c6,H⟩
 ·(first|rw [c6b0]|(simp only [i64_w,i32_w];rw [c6b0])|skip)
  replace H:=bindA H;obtain ⟨t830,A7,H⟩:=H;obtain rfl:=sI H;obtain ⟨_,_,_,_,_,_,_,_⟩:=cf4 BK829;go_wp2_with (first|(refine gV 16 (some 12) Tryz.func16 (impl_PageAddrs.calls k a0_0 (fun k_=>k_ < w.heap.size) _ _ l0_1 a0_2 a0_3 a2 t830 _ ?side1 A7.out) ?_;(case side1=>exact Kd.V_mk HC0_1.out (Kd.F_below (Kd.C_F Kd.heap_string HR0_1.out) (zz16 HB GE829)));rintro v831 w9 ⟨ho0,hb⟩;have HO832:=A_ (Kd.R_lower (Kd.R_mono (ok':=fun k_=>True) ho0 (fun _ hk_=>trivial)) (below_size (zz16 HB GE829)));replace BK829:=A_ (bB (zz15 BK829) hb);replace HB:=A_ (bS (zz16 HB GE829) hb);(try clear hb ho0)))
  go_ret
  exact ⟨_,zz12,(zz8 HO832),(zz16 HB GE829)⟩
 ·(first|rw [c6b0]|(simp only [i64_w,i32_w];rw [c6b0])|skip)
  replace H:=iteEq H;rcases H with ⟨c10b0,c10b1,H⟩|⟨c10b0,c10b1,c10,H⟩
  ·obtain ⟨y833,Ny833⟩:=toY (([a2]:List ByteArray))
   (first|with_reducible replace H:=bindZ Ny833 H|rw [← Ny833.out] at H|skip)
   obtain rfl:=sI H;go_wp2_with (first|((with_reducible refine gD (N:=16) rfl ?_);refine Kd.R_lit Kd.string _ 9 ?hg (N:=16) ?hd (xs:=([a2]:List ByteArray)) (inner:=[.string a2]) (ok:=fun _=>True) (okp:=fun _=>True) ?hr ?hp (fun _ hk=>hk) trivial (Below.refl _ _) (Nat.le_refl _) (by simp) ?_;(case hd=>rfl);(case hg=>rfl);(case hr=>exact zz26);(case hp=>exact (Reps.one (show Kd.M Kd.string _ _ _ a2 [.string a2] from rfl) (Reps.none _ _)));intro v834 w11 ho12 hb hg_ hnew_;clear hg_ hnew_;(first|rw [← Ny833.out] at ho12|(simp only [Int.reduceToNat] at ho12;rw [← Ny833.out] at ho12));have HO835:=A_ (Kd.R_lower ho12 (below_size (zz16 HB GE829)));replace BK829:=A_ (bB (zz15 BK829) hb);replace HB:=A_ (bS (zz16 HB GE829) hb);clear hb ho12))
   go_ret
   exact ⟨_,zz12,(zz8 HO835),(zz16 HB GE829)⟩
  ·obtain rfl:=sI H
   go_wp2
   go_ret
   exact ⟨_,zz12,zz4,(zz16 HB GE829)⟩
end Go.Proofs.YtpomhjkbgbociaaGreatDoor.P
end
