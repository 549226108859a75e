/- Part 3 of the proof of FnExactWorldNotice: the plain functions of what it reaches, that Go comes to just their answers, what they answer, and the words that the walks use; conditions: each theorem's own. -/
import Derived.Test.YtloijngehifbmaaGreatDoorZFnExactWorldNoticeb
import Derived.Test.YtloijngehifbmaaGreatDoorZFnExactWorldNoticea
import Derived.OneCell
import Derived.Laws.RangeAny
import Derived.LoopTactic
import Derived.Lib.SmallJoins
import Derived.Deep.Slices
import Derived.SizedLaws
import Derived.Laws.BitsLemmas
import Derived.Lib.Strings
import Derived.Lib.ConvBytes
import Derived.Laws.Runes
import Derived.Laws.RangeString
import Derived.Laws.Strings3
import Derived.Lib.IndexAny
import Derived.Lib.IndexBytes
import Derived.Deep.LoopGhost

section
namespace Go.Proofs.YtloijngehifbmaaGreatDoor.P
open Go.RowKit Go.Proofs.YtloijngehifbmaaGreatDoorW.PrintWords Go.Proofs.YtloijngehifbmaaGreatDoorW.PrintLast Go.Proofs.YtloijngehifbmaaGreatDoorW.PrintMore
attribute [local go_sem] max2_int min2_int max_two min_two max_three min_three max_four min_four
set_option linter.unusedVariables false
set_option linter.unusedSimpArgs false
set_option maxHeartbeats 8000000
set_option maxRecDepth 100000
def laws_markRuleS.l0:Nat→List (S93)→Int→Int→Option (Int×(List (S93)))
 | 0,_,_,_=>none
 | k+1,x0,x1,x5=>if x5 < (x0.length:Int) then (if 0≤x5 then ((some (x0.set (x5:Int).toNat (⟨((Int.tmod x1 3) == 0),(rd_T93 x0 x5).f1⟩:S93):List (S93))).bind fun y620=>((laws_markText.f k (wrap64 (x1+1))).bind fun t621=>(laws_markRuleS.l0 k (y620.set (x5:Int).toNat (⟨(rd_T93 y620 x5).f0,t621⟩:S93)) (wrap64 ((wrap64 (x1+1))+1)) (wrap64 (x5+1))))) else (none)) else (some (x1,x0))
def laws_markRuleS.f (k:Nat) (l0:List (S93)) (a1:Int):Option (Int×(List (S93))):=laws_markRuleS.l0 k l0 a1 0
theorem laws_markRuleS.calls (k:Nat) (P0_:Nat→Prop) (u9000_:Value) (l0:List (S93)) (a1:Int) (r1:Int) (r2:List (S93)) (w0 w:World) (hB:Below w0.heap.size w0 w) (ho0:Kd.R k93 93 w w0.heap.size P0_ u9000_ l0) (h:laws_markRuleS.f k l0 a1=some (r1,r2)) :
  Calls Tryz.prog 44 #[u9000_,.int .i64 a1] w fun e w'=>e=.returned (.int .i64 r1)∧Kd.R k93 93 w' w0.heap.size (fun k_=>(P0_ k_∨w.heap.size≤k_)) u9000_ r2∧Below w0.heap.size w0 w'∧Kept w w' (fun k_=>P0_ k_):=by
 have HO0:=A_ (show Kd.R k93 93 w w0.heap.size (fun k_=>(P0_ k_∨w.heap.size≤k_)) u9000_ l0 from Kd.R_mono ho0 (fun k_ hk=>(.inl hk)));have HK:=A_ (Kept.refl w (fun k_=>P0_ k_));have HW0:=A_ hB.size;have HB:=A_ hB;clear hB;unfold laws_markRuleS.f at h
 have H:=h;clear h;have H':=A_ H;clear H;go_enter Tryz.func44,Tryz.ntmps44;go_wp2
 go_loopg [1,5] k (fun kq v1 v5 w'=>∃ (x0_1:List (S93)) (x1_1:Int) (x5_1:Int),v1=.int .i64 x1_1∧v5=.int .i64 x5_1∧Aside0 (laws_markRuleS.l0 kq x0_1 x1_1 x5_1=some (r1,r2))∧Aside0 (kq≤k)∧Aside0 (Kd.R k93 93 w' w0.heap.size (fun k_=>(P0_ k_∨w.heap.size≤k_)) u9000_ x0_1)∧Aside0 (Kept w w' (fun k_=>P0_ k_))∧Aside0 (Below w0.heap.size w0 w'))
 case atStart=>exact ⟨(l0),(a1),(0),zz3,zz3,H',⟨Nat.le_refl _⟩,⟨(zz8 HO0)⟩,⟨(zz56 HK)⟩,⟨(zz0 HB)⟩⟩
 case round=>
  clear H';obtain ⟨x0_1,x1_1,x5_1,rfl,rfl,HA,HK1,HO_0,HK,HB⟩:=hrel;cases gk with
  | zero=>exact absurd HA.out (by simp [laws_markRuleS.l0])
  | succ k1=>
   obtain ⟨H⟩:=HA;simp only [laws_markRuleS.l0] at H
   replace H:=iteEd H;rcases H with ⟨c3b0,H⟩|⟨c3b0,H⟩
   ·replace H:=iteNd H
    obtain ⟨c4b0,H⟩:=H;obtain ⟨y620,Ny620⟩:=toY (x0_1.set (x5_1:Int).toNat (⟨((Int.tmod x1_1 3) == 0),(rd_T93 x0_1 x5_1).f1⟩:S93));(first|with_reducible replace H:=bindZ Ny620 H|rw [← Ny620.out] at H|skip)
    replace H:=bindA H;obtain ⟨t621,A6,H⟩:=H;obtain ⟨y622,Ny622⟩:=toY (y620.set (x5_1:Int).toNat (⟨(rd_T93 y620 x5_1).f0,t621⟩:S93));(first|with_reducible replace H:=bindZ Ny622 H|rw [← Ny622.out] at H|skip)
    have H':=A_ H;clear H;obtain ⟨Ao8,co8,eo8⟩:=Kd.R_slice HO_0.out;subst eo8;have p5:0≤(x5_1:Int):=ofD;have q5:(x5_1:Int) < ((x0_1.length:Int):Int):=ofD;obtain ⟨go5,co5,eo5,gb5,gl5,cl5,HG5⟩:=Kd.R_form HO_0.out (by omega);(first|cases eo5|(injection eo5 with ea_ en_ ec_;(first|subst ea_|(injection ea_ with ea_;subst ea_));subst ec_;clear en_))
    have GB5:=A_ gb5;have GG5:=A_ HG5;clear gb5 gl5 HG5;have HMgo5:=A_ (show (P0_ go5∨w.heap.size≤go5) from (HO_0.out.1 _ rfl));obtain ⟨ce5,hcl5,hM5,hcc5,hfr5⟩:=Kd.R_elem HO_0.out z93 (x5_1:Int) p5 q5;obtain rfl:=k93_openM hM5;have hx5_0:wr.cell? ⟨go5,(x5_1:Int).toNat * 2,none⟩=some (.bool ((rd_T93 x0_1 x5_1).f0)):=hcc5 0 _ rfl;have hx5_1:wr.cell? ⟨go5,(x5_1:Int).toNat * 2+1,none⟩=some (.string ((rd_T93 x0_1 x5_1).f1)):=hcc5 1 _ rfl;have hf5_0:wr.frozen? ⟨go5,(x5_1:Int).toNat * 2,none⟩=false:=hfr5 0;have hf5_1:wr.frozen? ⟨go5,(x5_1:Int).toNat * 2+1,none⟩=false:=hfr5 1;clear hcl5 hcc5 hfr5 hM5;replace p5:=eq_true p5;replace q5:=eq_true q5;have HX9:=A_ (show Kd.R k93 93 wr w0.heap.size (fun k_=>(P0_ k_∨w.heap.size≤k_)) (.slice (some ⟨go5,0,none⟩) x0_1.length co8) x0_1 from (zz8 HO_0));obtain ⟨ce9,hcl9,hM9,hcc9,hfr9⟩:=Kd.R_elem HX9.out z93 (x5_1:Int) ofD (by have h_:(x5_1:Int) < ((x0_1.length:Int):Int):=ofD;first|exact h_|(have e_:=(Kd.R_reads' HO_0.out).1;omega)|simpa using h_);obtain rfl:=k93_openM hM9;have HP9:=Kd.R_seg HX9.out (x5_1:Int) ofD (by have h_:(x5_1:Int) < ((x0_1.length:Int):Int):=ofD;first|exact h_|(have e_:=(Kd.R_reads' HO_0.out).1;omega)|simpa using h_) (seg:=[.bool ((Int.tmod x1_1 3) == 0)]) (j:=0) hcl9 hcc9 (show 1≤2 from by decide) (x':=(⟨((Int.tmod x1_1 3) == 0),(rd_T93 x0_1 x5_1).f1⟩:S93)) (k93_mkM _ _ _ (⟨((Int.tmod x1_1 3) == 0),(rd_T93 x0_1 x5_1).f1⟩:S93) ) (fun _ hk=>hk);have hx9_0:=hcc9 0 _ rfl;(try simp only [show (k93).sz=2 from rfl,Nat.mul_one,Nat.add_zero] at hx9_0)
    have hf9_0:=hfr9 0;(try simp only [show (k93).sz=2 from rfl,Nat.mul_one,Nat.add_zero] at hf9_0)
    clear hcl9 hcc9 hfr9 hM9;go_wp2_with (first|((with_reducible refine gate_store (t:=4) (p:=18) rfl ?_);refine store_event (t:=4) (p:=18) (v:=?vo_w10) (w1:=(wr.setCell ⟨go5,(x5_1:Int).toNat * 2,none⟩ (.bool ((Int.tmod x1_1 3) == 0)))) ?hg ?ho ?hn ?hr ?_;(case ho=>rfl);(case hg=>rfl);(case hn=>rfl);(case hr=>exact zz6);intro w10 hw;have hg:wr.grownBy w10 (some go5):=(by rw [hw];exact HP9.2);have hp_:Kd.R k93 93 w10 w0.heap.size (fun k_=>(P0_ k_∨w.heap.size≤k_)) (.slice (some ⟨go5,0,none⟩) x0_1.length co8) y620:=(by rw [hw,Ny620.out];exact HP9.1);clear HP9;replace HB:=A_ ((by rw [hw];exact below_set (HB.out) GB5.out:Below w0.heap.size w0 w10));replace HK:=A_ (Kept.of_grown (S:=(fun k_=>P0_ k_)) hg (zz56 HK) (fun k_ e_=>(HO_0.out.1 k_ e_)));replace HO_0:=A_ (hp_);clear hg hw hp_)|(refine gR 42 (some 24) Tryz.func42 (laws_markText.calls k1 (wrap64 (x1_1+1)) t621 _ A6.out) ?_;rintro w11 hb;replace HO_0:=A_ (rB (zz8 HO_0) hb);replace HK:=A_ (Kept.below (S:=(fun k_=>P0_ k_)) (zz56 HK) hb);replace HB:=A_ (bS (zz0 HB) hb);(try clear hb);have p7:0≤(x5_1:Int):=ofD;have q7:(x5_1:Int) < ((x0_1.length:Int):Int):=ofD;obtain ⟨ce7,hcl7,hM7,hcc7,hfr7⟩:=Kd.R_elem HO_0.out z93 (x5_1:Int) p7 q7;obtain rfl:=k93_openM hM7;have hx7_0:w11.cell? ⟨go5,(x5_1:Int).toNat * 2,none⟩=some (.bool ((rd_T93 y620 x5_1).f0)):=hcc7 0 _ rfl;have hx7_1:w11.cell? ⟨go5,(x5_1:Int).toNat * 2+1,none⟩=some (.string ((rd_T93 y620 x5_1).f1)):=hcc7 1 _ rfl;have hf7_0:w11.frozen? ⟨go5,(x5_1:Int).toNat * 2,none⟩=false:=hfr7 0;have hf7_1:w11.frozen? ⟨go5,(x5_1:Int).toNat * 2+1,none⟩=false:=hfr7 1;clear hcl7 hcc7 hfr7 hM7;replace p7:=eq_true p7;replace q7:=eq_true q7;have HX12:=A_ (show Kd.R k93 93 w11 w0.heap.size (fun k_=>(P0_ k_∨w.heap.size≤k_)) (.slice (some ⟨go5,0,none⟩) x0_1.length co8) y620 from (zz8 HO_0));obtain ⟨ce12,hcl12,hM12,hcc12,hfr12⟩:=Kd.R_elem HX12.out z93 (x5_1:Int) ofD (by have h_:(x5_1:Int) < ((x0_1.length:Int):Int):=ofD;first|exact h_|(have e_:=(Kd.R_reads' HO_0.out).1;omega)|simpa using h_);obtain rfl:=k93_openM hM12;have HP12:=Kd.R_seg HX12.out (x5_1:Int) ofD (by have h_:(x5_1:Int) < ((x0_1.length:Int):Int):=ofD;first|exact h_|(have e_:=(Kd.R_reads' HO_0.out).1;omega)|simpa using h_) (seg:=[.string t621]) (j:=1) hcl12 hcc12 (show 2≤2 from by decide) (x':=(⟨(rd_T93 y620 x5_1).f0,t621⟩:S93)) (k93_mkM _ _ _ (⟨(rd_T93 y620 x5_1).f0,t621⟩:S93) ) (fun _ hk=>hk);have hx12_1:=hcc12 1 _ rfl;(try simp only [show (k93).sz=2 from rfl,Nat.mul_one,Nat.add_zero] at hx12_1);have hf12_1:=hfr12 1;(try simp only [show (k93).sz=2 from rfl,Nat.mul_one,Nat.add_zero] at hf12_1);clear hcl12 hcc12 hfr12 hM12)|((with_reducible refine gate_store (t:=9) (p:=26) rfl ?_);refine store_event (t:=9) (p:=26) (v:=?vo_w13) (w1:=(w11.setCell ⟨go5,(x5_1:Int).toNat * 2+1,none⟩ (.string t621))) ?hg ?ho ?hn ?hr ?_;(case ho=>rfl);(case hg=>rfl);(case hn=>rfl);(case hr=>exact zz6);intro w13 hw;have hg:w11.grownBy w13 (some go5):=(by rw [hw];exact HP12.2);have hp_:Kd.R k93 93 w13 w0.heap.size (fun k_=>(P0_ k_∨w.heap.size≤k_)) (.slice (some ⟨go5,0,none⟩) x0_1.length co8) y622:=(by rw [hw,Ny622.out];exact HP12.1);clear HP12;replace HB:=A_ ((by rw [hw];exact below_set (HB.out) GB5.out:Below w0.heap.size w0 w13));replace HK:=A_ (Kept.of_grown (S:=(fun k_=>P0_ k_)) hg (zz56 HK) (fun k_ e_=>(HO_0.out.1 k_ e_)));replace HO_0:=A_ (hp_);clear hg hw hp_))
    go_roundg k1
    case measure=>have:=HK1.out;omega
    case rel=>exact ⟨(y622),(wrap64 ((wrap64 (x1_1+1))+1)),(wrap64 (x5_1+1)),zz3,zz3,H',⟨(zz17 HK1)⟩,⟨(zz8 HO_0)⟩,⟨(zz56 HK)⟩,⟨(zz0 HB)⟩⟩
   ·simp only [Option.some.injEq,Prod.mk.injEq] at H
    obtain ⟨rfl,rfl⟩:=H;obtain ⟨Ao14,co14,eo14⟩:=Kd.R_slice HO_0.out;subst eo14;go_wp2
    go_ret
    exact ⟨zz1,(zz8 HO_0),(zz0 HB),(zz56 HK)⟩
def laws_markGroup.f (k:Nat) (l0_0:List ByteArray) (l0_1:List (S93)) (a0_2:Int) (a1:Int):Option (Int×List ByteArray×(List (S93))):=(laws_markStringS.f k l0_0 a1).bind fun bt624=>((laws_markRuleS.f k l0_1 bt624.1).bind fun bt626=>(some (bt626.1,bt624.2,bt626.2)))
theorem laws_markGroup.calls (k:Nat) (P0_0_:Nat→Prop) (u9000_:Value) (l0_0:List ByteArray) (P0_1_:Nat→Prop) (u9001_:Value) (l0_1:List (S93)) (a0_2:Int) (a1:Int) (r1:Int) (r2:List ByteArray) (r3:List (S93)) (w0 w:World) (hB:Below w0.heap.size w0 w) (ho0_0:Kd.R Kd.string 9 w w0.heap.size P0_0_ u9000_ l0_0) (ho0_1:Kd.R k93 93 w w0.heap.size P0_1_ u9001_ l0_1) (h:laws_markGroup.f k l0_0 l0_1 a0_2 a1=some (r1,r2,r3)) :
  Calls Tryz.prog 15 #[.agg #[u9000_,u9001_,.int .i64 a0_2],.int .i64 a1] w fun e w'=>e=.returned (.int .i64 r1)∧Kd.R Kd.string 9 w' w0.heap.size (fun k_=>((P0_0_ k_∨P0_1_ k_)∨w.heap.size≤k_)) u9000_ r2∧Kd.R k93 93 w' w0.heap.size (fun k_=>((P0_0_ k_∨P0_1_ k_)∨w.heap.size≤k_)) u9001_ r3∧Below w0.heap.size w0 w'∧Kept w w' (fun k_=>P0_0_ k_∨P0_1_ k_):=by
 have hu32:=Tryz.underlying32;have HO0_0:=A_ (show Kd.R Kd.string 9 w w0.heap.size (fun k_=>((P0_0_ k_∨P0_1_ k_)∨w.heap.size≤k_)) u9000_ l0_0 from Kd.R_mono ho0_0 (fun k_ hk=>(.inl (.inl hk))));have HO0_1:=A_ (show Kd.R k93 93 w w0.heap.size (fun k_=>((P0_0_ k_∨P0_1_ k_)∨w.heap.size≤k_)) u9001_ l0_1 from Kd.R_mono ho0_1 (fun k_ hk=>(.inl (.inr hk))));have HK:=A_ (Kept.refl w (fun k_=>P0_0_ k_∨P0_1_ k_));have HW0:=A_ hB.size;have HB:=A_ hB;clear hB;unfold laws_markGroup.f at h
 have H:=h;clear h;replace H:=bindA H;obtain ⟨⟨t624,t625⟩,A3,H⟩:=H;try dsimp only at H
 replace H:=bindA H;obtain ⟨⟨t626,t627⟩,A4,H⟩:=H;try dsimp only at H
 simp only [Option.some.injEq,Prod.mk.injEq] at H
 obtain ⟨rfl,rfl,rfl⟩:=H;obtain ⟨Ao5,co5,eo5⟩:=Kd.R_slice HO0_0.out;subst eo5;obtain ⟨Ao6,co6,eo6⟩:=Kd.R_slice HO0_1.out;subst eo6;go_enter Tryz.func15,Tryz.ntmps15;go_wp2_with (first|((with_reducible refine gD (N:=2) rfl ?_);refine boxE 2 #[.slice Ao5 l0_0.length co5,.slice Ao6 l0_1.length co6,.int .i64 a0_2] 32 ?_;intro gb623 hg w7 hbox hb;replace HO0_0:=A_ (rB (zz8 HO0_0) hb);replace HO0_1:=A_ (rB (zz8 HO0_1) hb);have BK623:=A_ (hbox);have GW623:=A_ ((by rw [hg];exact (by first|exact HK.out.1|exact (show Kept w _ (fun k_=>P0_0_ k_∨P0_1_ k_) from (zz56 HK)).1):w.heap.size≤gb623));replace HK:=A_ (Kept.below (S:=(fun k_=>P0_0_ k_∨P0_1_ k_)) (zz56 HK) hb);have GE623:=A_ ((by rw [hg];exact (below_size (zz0 HB)):w0.heap.size≤gb623));replace HB:=A_ (bS (zz0 HB) hb);clear hb hbox hg;obtain ⟨_,_,_,_,_,_⟩:=cf3 BK623)|(refine gR 43 (some 8) Tryz.func43 (laws_markStringS.calls k (fun k_=>some k_=(.slice Ao5 l0_0.length co5:Value).ownBlock) (.slice Ao5 l0_0.length co5) l0_0 a1 t624 t625 w0 _ ?side1 ?side2 A3.out) ?_;(case side1=>exact (zz2 HB GE623));(case side2=>exact Kd.R_tight rfl HO0_0.out);rintro w9 ⟨hy0,hb,hkp⟩;replace HO0_1:=A_ (Kd.R_mono (ok':=fun k_=>((P0_0_ k_∨P0_1_ k_)∨w.heap.size≤k_)) (Kd.R_keptB ((Kd.R_apart' HO0_1.out (Kd.R_typed HO0_0.out) (by decide))) hkp (fun k_ hk_ hs_=>(hk_.2) hs_)) (fun k_ hk_=>hk_.1.1));replace BK623:=A_ (blk_kept (zz7 BK623) hkp (fun hs_=>(fun e_=>(Kd.R_ne HO0_0.out BK623.out (by decide)) e_) hs_));replace HK:=A_ (Kept.then_ (S:=(fun k_=>P0_0_ k_∨P0_1_ k_)) (zz71 HK GW623) hkp (fun k_ hs_=>(fun e_=>(HO0_0.out.1 k_ e_.symm)) hs_));replace HO0_0:=A_ (Kd.R_reok rfl hy0 (fun k_ e_=>HO0_0.out.1 k_ e_));replace HB:=A_ (hb);(try clear hb);obtain ⟨_,_,_,_,_,_⟩:=cf3 BK623)|(refine gR 44 (some 12) Tryz.func44 (laws_markRuleS.calls k (fun k_=>some k_=(.slice Ao6 l0_1.length co6:Value).ownBlock) (.slice Ao6 l0_1.length co6) l0_1 t624 t626 t627 w0 _ ?side1 ?side2 A4.out) ?_;(case side1=>exact (zz2 HB GE623));(case side2=>exact Kd.R_tight rfl HO0_1.out);rintro w11 ⟨hy0,hb,hkp⟩;replace HO0_0:=A_ (Kd.R_mono (ok':=fun k_=>((P0_0_ k_∨P0_1_ k_)∨w.heap.size≤k_)) (Kd.R_keptB ((Kd.R_apart' HO0_0.out (Kd.R_typed HO0_1.out) (by decide))) hkp (fun k_ hk_ hs_=>(hk_.2) hs_)) (fun k_ hk_=>hk_.1.1));replace BK623:=A_ (blk_kept (zz7 BK623) hkp (fun hs_=>(fun e_=>(Kd.R_ne HO0_1.out BK623.out (by decide)) e_) hs_));replace HK:=A_ (Kept.then_ (S:=(fun k_=>P0_0_ k_∨P0_1_ k_)) (zz71 HK GW623) hkp (fun k_ hs_=>(fun e_=>(HO0_1.out.1 k_ e_.symm)) hs_));replace HO0_1:=A_ (Kd.R_reok rfl hy0 (fun k_ e_=>HO0_1.out.1 k_ e_));replace HB:=A_ (hb);(try clear hb)))
 go_ret
 exact ⟨zz1,(zz8 HO0_0),(zz8 HO0_1),(zz2 HB GE623),(zz71 HK GW623)⟩
def laws_heldStringS.l0:Nat→List ByteArray→Int→Int→Option (Int)
 | 0,_,_,_=>none
 | k+1,x0,x1,x5=>if x5 < (x0.length:Int) then (if 0≤x5 then ((laws_markText.f k x1).bind fun t629=>(if (rdOf ByteArray.empty x0 x5).toList=t629.toList then (laws_heldStringS.l0 k x0 (wrap64 (x1+1)) (wrap64 (x5+1))) else (some (-1)))) else (none)) else (some x1)
def laws_heldStringS.f (k:Nat) (l0:List ByteArray) (a1:Int):Option (Int):=laws_heldStringS.l0 k l0 a1 0
theorem laws_heldStringS.mono_l:∀ k,(∀ y0 y1 y2,LeO (laws_heldStringS.l0 k y0 y1 y2) (laws_heldStringS.l0 (k+1) y0 y1 y2))
 | 0=>by intros;intro r h;simp [laws_heldStringS.l0] at h
 | k+1=>by
  have ih0:=laws_heldStringS.mono_l k;intros;unfold laws_heldStringS.l0;repeat' first|(with_reducible first|exact ih0 _ _ _|exact laws_markText.mono _ _|exact LeO.refl _|exact LeO.none _|refine LeO.ite ?_ ?_|refine LeO.bind ?_ (fun _=>?_))|exact LeO.none _|refine LeO.ite ?_ ?_|refine LeO.bind ?_ (fun _=>?_)
theorem laws_heldStringS.calls (k:Nat) (A0:Option Addr) (c0:Nat) (l0:List ByteArray) (a1:Int) (r:Int) (w:World) (hr0:Kd.C Kd.string w A0 l0.length l0) (hc0:l0.length≤c0) (h:laws_heldStringS.f k l0 a1=some r) :
  Calls Tryz.prog 45 #[.slice A0 l0.length c0,.int .i64 a1] w fun e w'=>e=.returned (.int .i64 r)∧Below w.heap.size w w':=by
 have HR0:=A_ hr0;have HC0:=A_ hc0;clear hr0 hc0;have HB:=A_ (Below.refl w.heap.size w);unfold laws_heldStringS.f at h
 have H:=h;clear h;have H':=A_ H;clear H;go_enter Tryz.func45,Tryz.ntmps45;go_wp2
 go_loopg [1,5] k (fun kq v1 v5 w'=>∃ (x1_1:Int) (x5_1:Int),v1=.int .i64 x1_1∧v5=.int .i64 x5_1∧Aside0 (laws_heldStringS.l0 kq l0 x1_1 x5_1=some r)∧Aside0 (kq≤k)∧Aside0 (Below w.heap.size w w'))
 case atStart=>exact ⟨(a1),(0),zz3,zz3,H',⟨Nat.le_refl _⟩,⟨(zz0 HB)⟩⟩
 case round=>
  clear H';obtain ⟨x1_1,x5_1,rfl,rfl,HA,HK1,HB⟩:=hrel;cases gk with
  | zero=>exact absurd HA.out (by simp [laws_heldStringS.l0])
  | succ k1=>
   obtain ⟨H⟩:=HA;simp only [laws_heldStringS.l0] at H
   replace H:=iteEd H;rcases H with ⟨c3b0,H⟩|⟨c3b0,H⟩
   ·replace H:=iteNd H
    obtain ⟨c4b0,H⟩:=H;replace H:=bindA H;obtain ⟨t629,A5,H⟩:=H;have HF6:=A_ H;clear H;try go_wp2
    replace HB:=A_ (below_drew1 HB.out);obtain ⟨⟨ad628,e628,hx628_0⟩,p628,q628⟩:=atB (Kd.at_string HR0.out x5_1);have hw628_0:=hx628_0;cases e628
    replace hx628_0:=cbl HB hx628_0;refine start_ (n:=7) (S:=fun w'=>w'.cell? (ad628.add (x5_1).toNat)=some (.string (rdOf ByteArray.empty l0 x5_1))) (ds:=[]) #[yF,yF,yF,yF,yF,yF,yF] (by kernel_rfl) rfl rfl (((HB.out.cell (World.block_lt_of_cell? w _ hw628_0)).trans hw628_0)) (fun hHeld=>?_);generalize wr.drew=w7 at HB hx628_0 hHeld ⊢;refine pureY 0 (some 12) #[yT,yF,yF,yF,yF,yF,yF] ?_;refine pureY 1 (some 13) #[yT,yT,yF,yF,yF,yF,yF] ?_;refine pureY 2 (some 14) #[yT,yT,yT,yF,yF,yF,yF] ?_;refine pureY 4 (some 16) #[yT,yT,yT,yF,yT,yF,yF] ?_;refine take_ (i:=3) (N:=some 15) (v:=?_) (a':=?_) #[yT,yT,yT,yT,yT,yF,yF] rfl rfl (by kernel_rfl) (fun _ _ _ h=>h) (Or.inl ⟨by rfl,?_⟩) hHeld ?_ ?_;rotate_left
    ·intro w' s0
     go_simp
     with_reducible rfl
    rotate_left
    ·simp only [Act.put,List.setIfInBounds_toArray,List.set_cons_zero,List.set_cons_succ,i64_w,i32_w]
     rfl
    refine one_ (i:=5) (N:=some 17) #[yT,yT,yT,yT,yT,yT,yF] rfl rfl (by kernel_rfl) (by decide) (fun K hK=>?_);refine goes_ Tryz.func42 (by kernel_rfl) rfl #[.int .i64 x1_1] (by rfl) rfl rfl zz52 ?_;with_reducible refine (laws_markText.calls k1 x1_1 t629 _ A5.out).mono ?_
    rintro e w8 ⟨rfl,hb⟩;refine ⟨_,rfl,?_⟩;replace HB:=A_ (bS (zz0 HB) hb);(try clear hb)
    (try clear hb2)
    (try clear hk)
    (try clear hi)
    refine hK.out _ _ (((HB.out.cell (World.block_lt_of_cell? w _ hw628_0)).trans hw628_0)) (fun hHeld=>?_);clear hK K;refine nZ 17 ?_;refine pureY 6 (some 18) #[yT,yT,yT,yT,yT,yT,yT] ?_;refine done_ (by kernel_rfl) ?_;go_upto_if 18 with (fail)
    obtain ⟨H⟩:=HF6;replace H:=iteEq H;rcases H with ⟨c9b0,c9b1,H⟩|⟨c9b0,c9b1,c9,H⟩
    ·(first|rw [c9b0]|(simp only [i64_w,i32_w];rw [c9b0])|skip)
     have H':=A_ H;clear H;go_wp2
     go_roundg k1
     case measure=>have:=HK1.out;omega
     case rel=>exact ⟨(wrap64 (x1_1+1)),(wrap64 (x5_1+1)),zz3,zz3,H',⟨(zz17 HK1)⟩,⟨(zz0 HB)⟩⟩
    ·(first|rw [c9b0]|(simp only [i64_w,i32_w];rw [c9b0])|skip)
     obtain rfl:=sI H;go_wp2
     go_ret
     exact ⟨zz1,(zz0 HB)⟩
   ·obtain rfl:=sI H
    go_wp2
    go_ret
    exact ⟨zz1,(zz0 HB)⟩
def laws_heldRuleS.l0:Nat→List (S93)→Int→Int→Option (Int)
 | 0,_,_,_=>none
 | k+1,x0,x1,x5=>if x5 < (x0.length:Int) then (if 0≤x5 then (if (((rd_T93 x0 x5).f0) != ((Int.tmod x1 3) == 0))=true then (some (-1)) else ((laws_markText.f k (wrap64 (x1+1))).bind fun t632=>(if ((rd_T93 x0 x5).f1).toList=t632.toList then (laws_heldRuleS.l0 k x0 (wrap64 ((wrap64 (x1+1))+1)) (wrap64 (x5+1))) else (some (-1))))) else (none)) else (some x1)
def laws_heldRuleS.f (k:Nat) (l0:List (S93)) (a1:Int):Option (Int):=laws_heldRuleS.l0 k l0 a1 0
def laws_heldRuleS.T7:Bool×List (List Nat×List Nat):=(true,[([],[]),([],[]),([0,1],[0,1]),([2],[2]),([3],[3]),([],[]),([5],[5]),([4,6],[4,6])])
def laws_heldRuleS.B7:List Nat:=[0,0,3,7,15,0,32,127]
theorem laws_heldRuleS.tab7:rtab .any (opsOf Tryz.f46 7)=laws_heldRuleS.T7:=by kernel_rfl
theorem laws_heldRuleS.bits7:waitsOk laws_heldRuleS.T7.2 laws_heldRuleS.B7=true:=by kernel_rfl
theorem laws_heldRuleS.calls (k:Nat) (A0:Option Addr) (c0:Nat) (l0:List (S93)) (a1:Int) (r:Int) (w:World) (hr0:Kd.C k93 w A0 l0.length l0) (hc0:l0.length≤c0) (h:laws_heldRuleS.f k l0 a1=some r) :
  Calls Tryz.prog 46 #[.slice A0 l0.length c0,.int .i64 a1] w fun e w'=>e=.returned (.int .i64 r)∧Below w.heap.size w w':=by
 have HR0:=A_ hr0;have HC0:=A_ hc0;clear hr0 hc0;have HB:=A_ (Below.refl w.heap.size w);unfold laws_heldRuleS.f at h
 have H:=h;clear h;have H':=A_ H;clear H;go_enter Tryz.func46,Tryz.ntmps46;go_wp2
 go_loopg [1,5] k (fun kq v1 v5 w'=>∃ (x1_1:Int) (x5_1:Int),v1=.int .i64 x1_1∧v5=.int .i64 x5_1∧Aside0 (laws_heldRuleS.l0 kq l0 x1_1 x5_1=some r)∧Aside0 (kq≤k)∧Aside0 (Below w.heap.size w w'))
 case atStart=>exact ⟨(a1),(0),zz3,zz3,H',⟨Nat.le_refl _⟩,⟨(zz0 HB)⟩⟩
 case round=>
  clear H';obtain ⟨x1_1,x5_1,rfl,rfl,HA,HK1,HB⟩:=hrel;cases gk with
  | zero=>exact absurd HA.out (by simp [laws_heldRuleS.l0])
  | succ k1=>
   obtain ⟨H⟩:=HA;simp only [laws_heldRuleS.l0] at H
   replace H:=iteEd H;rcases H with ⟨c3b0,H⟩|⟨c3b0,H⟩
   ·replace H:=iteNd H
    obtain ⟨c4b0,H⟩:=H;replace H:=iteE H;rcases H with ⟨c5,H⟩|⟨c5,H⟩
    ·have c5b0:(((rd_T93 l0 x5_1).f0) != ((Int.tmod x1_1 3) == 0))=true:=c5
     (try (have c5b1:decide (((rd_T93 l0 x5_1).f0)=((Int.tmod x1_1 3) == 0))=false:=by simpa using c5))
     (try (have c5b2:(((rd_T93 l0 x5_1).f0) == ((Int.tmod x1_1 3) == 0))=false:=by simpa using c5))
     (try (have c5b3:¬ (((rd_T93 l0 x5_1).f0)=((Int.tmod x1_1 3) == 0)):=by simpa using c5))
     clear c5;obtain rfl:=sI H;obtain ⟨⟨ad630,e630,hx630_0,hx630_1⟩,p630,q630⟩:=atB (at_T93 HR0.out x5_1);cases e630
     obtain ⟨hx630_0,hx630_1⟩:=cb2 HB hx630_0 hx630_1;go_wp2
     go_ret
     exact ⟨zz1,(zz0 HB)⟩
    ·have c5b0:(((rd_T93 l0 x5_1).f0) != ((Int.tmod x1_1 3) == 0))=false:=by simpa using c5
     (try (have c5b1:decide (((rd_T93 l0 x5_1).f0)=((Int.tmod x1_1 3) == 0))=true:=by simpa using c5))
     (try (have c5b2:(((rd_T93 l0 x5_1).f0) == ((Int.tmod x1_1 3) == 0))=true:=by simpa using c5))
     clear c5;replace H:=bindA H;obtain ⟨t632,A6,H⟩:=H;have HF7:=A_ H;clear H;obtain ⟨⟨ad630,e630,hx630_0,hx630_1⟩,p630,q630⟩:=atB (at_T93 HR0.out x5_1);cases e630
     obtain ⟨hx630_0,hx630_1⟩:=cb2 HB hx630_0 hx630_1;try go_wp2
     replace HB:=A_ (below_drew1 HB.out);obtain ⟨⟨ad631,e631,hx631_0,hx631_1⟩,p631,q631⟩:=atB (at_T93 HR0.out x5_1);have hw631_1:=hx631_1;have hw631_0:=hx631_0;obtain rfl:ad630=ad631:=(by injection e631);obtain ⟨hx631_0,hx631_1⟩:=cb2 HB hx631_0 hx631_1;refine start_ (n:=8) (S:=fun w'=>w'.cell? (ad630.add ((x5_1).toNat * 2))=some (.bool ((rd_T93 l0 x5_1).f0))∧w'.cell? ⟨(ad630.add ((x5_1).toNat * 2)).block,(ad630.add ((x5_1).toNat * 2)).off+1,none⟩=some (.string ((rd_T93 l0 x5_1).f1))) (ds:=[]) #[yF,yF,yF,yF,yF,yF,yF,yF] (by kernel_rfl) rfl rfl ⟨((HB.out.cell (World.block_lt_of_cell? w _ hw631_0)).trans hw631_0),((HB.out.cell (World.block_lt_of_cell? w _ hw631_1)).trans hw631_1)⟩ (fun hHeld=>?_);refine with_tabW laws_heldRuleS.tab7 laws_heldRuleS.bits7 (fun HT_ HW_=>?_);generalize wr.drew=w8 at HB hx631_0 hx631_1 hHeld ⊢;refine pureZ 0 (some 23) #[yT,yF,yF,yF,yF,yF,yF,yF] ?_;refine pureZ 1 (some 24) #[yT,yT,yF,yF,yF,yF,yF,yF] ?_;refine pureZ 2 (some 25) #[yT,yT,yT,yF,yF,yF,yF,yF] ?_;refine pureZ 3 (some 26) #[yT,yT,yT,yT,yF,yF,yF,yF] ?_;refine pureZ 5 (some 28) #[yT,yT,yT,yT,yF,yT,yF,yF] ?_;refine takeZ2 4 (some 27) #[yT,yT,yT,yT,yT,yT,yF,yF] hHeld ?_;refine oneZ 6 (some 29) #[yT,yT,yT,yT,yT,yT,yT,yF] (fun K hK=>?_);refine goes_ Tryz.func42 (by kernel_rfl) rfl #[.int .i64 (wrap64 (x1_1+1))] (by rfl) rfl rfl zz52 ?_;with_reducible refine (laws_markText.calls k1 (wrap64 (x1_1+1)) t632 _ A6.out).mono ?_
     rintro e w9 ⟨rfl,hb⟩;refine ⟨_,rfl,?_⟩;replace HB:=A_ (bS (zz0 HB) hb);(try clear hb)
     (try clear hb2)
     (try clear hk)
     (try clear hi)
     refine hK.out _ _ ⟨((HB.out.cell (World.block_lt_of_cell? w _ hw631_0)).trans hw631_0),((HB.out.cell (World.block_lt_of_cell? w _ hw631_1)).trans hw631_1)⟩ (fun hHeld=>?_);clear hK K;refine nZ 29 ?_;refine pureZ 7 (some 30) #[yT,yT,yT,yT,yT,yT,yT,yT] ?_;refine done_ (done_of HT_.out (by kernel_rfl)) ?_;go_upto_if 30 with (fail)
     obtain ⟨H⟩:=HF7;replace H:=iteEq H;rcases H with ⟨c10b0,c10b1,H⟩|⟨c10b0,c10b1,c10,H⟩
     ·(first|rw [c10b0]|(simp only [i64_w,i32_w];rw [c10b0])|skip)
      have H':=A_ H;clear H;go_wp2
      go_roundg k1
      case measure=>have:=HK1.out;omega
      case rel=>exact ⟨(wrap64 ((wrap64 (x1_1+1))+1)),(wrap64 (x5_1+1)),zz3,zz3,H',⟨(zz17 HK1)⟩,⟨(zz0 HB)⟩⟩
     ·(first|rw [c10b0]|(simp only [i64_w,i32_w];rw [c10b0])|skip)
      obtain rfl:=sI H;go_wp2
      go_ret
      exact ⟨zz1,(zz0 HB)⟩
   ·obtain rfl:=sI H
    go_wp2
    go_ret
    exact ⟨zz1,(zz0 HB)⟩
def laws_heldGroup.f (k:Nat) (l0_0:List ByteArray) (l0_1:List (S93)) (a0_2:Int) (a1:Int):Option (Int):=(laws_heldStringS.f k l0_0 a1).bind fun t634=>(if t634 < 0 then (some (-1)) else ((laws_heldRuleS.f k l0_1 t634).bind fun t635=>(if t635 < 0 then (some (-1)) else (some t635))))
theorem laws_heldGroup.calls (k:Nat) (A0_0:Option Addr) (c0_0:Nat) (l0_0:List ByteArray) (A0_1:Option Addr) (c0_1:Nat) (l0_1:List (S93)) (a0_2:Int) (a1:Int) (r:Int) (w:World) (hr0_0:Kd.C Kd.string w A0_0 l0_0.length l0_0) (hc0_0:l0_0.length≤c0_0) (hr0_1:Kd.C k93 w A0_1 l0_1.length l0_1) (hc0_1:l0_1.length≤c0_1) (h:laws_heldGroup.f k l0_0 l0_1 a0_2 a1=some r) :
  Calls Tryz.prog 16 #[.agg #[.slice A0_0 l0_0.length c0_0,.slice A0_1 l0_1.length c0_1,.int .i64 a0_2],.int .i64 a1] w fun e w'=>e=.returned (.int .i64 r)∧Below w.heap.size w w':=by
 have hu32:=Tryz.underlying32;have HR0_0:=A_ hr0_0;have HC0_0:=A_ hc0_0;clear hr0_0 hc0_0;have HR0_1:=A_ hr0_1;have HC0_1:=A_ hc0_1;clear hr0_1 hc0_1;have HB:=A_ (Below.refl w.heap.size w);unfold laws_heldGroup.f at h
 have H:=h;clear h;replace H:=bindA H;obtain ⟨t634,A3,H⟩:=H;have HF4:=A_ H;clear H;go_enter Tryz.func16,Tryz.ntmps16;go_upto_if 10 with (first|(refine boxF 2 #[.slice A0_0 l0_0.length c0_0,.slice A0_1 l0_1.length c0_1,.int .i64 a0_2] 32 ?_;intro gb633 hg w5 BK633 hb;have GE633:=geB hg (zz0 HB);replace HB:=A_ (bS (zz0 HB) hb);clear hb hg;obtain ⟨_,_,_,_,_,_⟩:=cf3 BK633)|(refine gR 45 (some 8) Tryz.func45 (laws_heldStringS.calls k _ _ l0_0 a1 t634 _ ?side1 ?side2 A3.out) ?_;(case side1=>exact (zz41 HR0_0 HB));(case side2=>exact HC0_0.out);rintro w7 hb;replace BK633:=A_ (bB (zz7 BK633) hb);replace HB:=A_ (bS (zz2 HB GE633) hb);(try clear hb)))
 obtain ⟨H⟩:=HF4;replace H:=iteEd H;rcases H with ⟨c8b0,H⟩|⟨c8b0,H⟩
 ·(first|rw [c8b0]|(simp only [i64_w,i32_w];rw [c8b0])|skip)
  obtain rfl:=sI H;go_wp2
  go_ret
  exact ⟨zz1,(zz2 HB GE633)⟩
 ·(first|rw [c8b0]|(simp only [i64_w,i32_w];rw [c8b0])|skip)
  replace H:=bindA H;obtain ⟨t635,A9,H⟩:=H;have HF10:=A_ H;clear H;obtain ⟨_,_,_,_,_,_⟩:=cf3 BK633;go_upto_if 16 with (first|(refine gR 46 (some 14) Tryz.func46 (laws_heldRuleS.calls k _ _ l0_1 t634 t635 _ ?side1 ?side2 A9.out) ?_;(case side1=>exact (zz41 HR0_1 HB));(case side2=>exact HC0_1.out);rintro w12 hb;replace BK633:=A_ (bB (zz7 BK633) hb);replace HB:=A_ (bS (zz2 HB GE633) hb);(try clear hb)))
  obtain ⟨H⟩:=HF10;replace H:=iteEd H;rcases H with ⟨c13b0,H⟩|⟨c13b0,H⟩
  ·(first|rw [c13b0]|(simp only [i64_w,i32_w];rw [c13b0])|skip)
   obtain rfl:=sI H;go_wp2
   go_ret
   exact ⟨zz1,(zz2 HB GE633)⟩
  ·(first|rw [c13b0]|(simp only [i64_w,i32_w];rw [c13b0])|skip)
   obtain rfl:=sI H;go_wp2
   go_ret
   exact ⟨zz1,(zz2 HB GE633)⟩
def impl_allSmallLetters.l0:Nat→ByteArray→Int→Option (Bool)
 | 0,_,_=>none
 | k+1,x0,x3=>if x3 < (x0.size:Int) then (if 0≤x3 then (if (bt x0 x3) < 97 then (some false) else (if (bt x0 x3) > 122 then (some false) else (impl_allSmallLetters.l0 k x0 (wrap64 (x3+1))))) else (none)) else (some true)
def impl_allSmallLetters.f (k:Nat) (a0:ByteArray):Option (Bool):=impl_allSmallLetters.l0 k a0 0
theorem impl_allSmallLetters.mono_l:∀ k,(∀ y0 y1,LeO (impl_allSmallLetters.l0 k y0 y1) (impl_allSmallLetters.l0 (k+1) y0 y1))
 | 0=>by intros;intro r h;simp [impl_allSmallLetters.l0] at h
 | k+1=>by
  have ih0:=impl_allSmallLetters.mono_l k;intros;unfold impl_allSmallLetters.l0;repeat' first|(with_reducible first|exact ih0 _ _|exact LeO.refl _|exact LeO.none _|refine LeO.ite ?_ ?_|refine LeO.bind ?_ (fun _=>?_))|exact LeO.none _|refine LeO.ite ?_ ?_|refine LeO.bind ?_ (fun _=>?_)
theorem impl_allSmallLetters.mono:∀ a0 k,LeO (impl_allSmallLetters.f k a0) (impl_allSmallLetters.f (k+1) a0):=by
 intro a0 k;have ih0:=impl_allSmallLetters.mono_l k;unfold impl_allSmallLetters.f
 repeat' first|(with_reducible first|exact ih0 _ _|exact LeO.refl _|exact LeO.none _|refine LeO.ite ?_ ?_|refine LeO.bind ?_ (fun _=>?_))|exact LeO.none _|refine LeO.ite ?_ ?_|refine LeO.bind ?_ (fun _=>?_)
theorem impl_allSmallLetters.calls (k:Nat) (a0:ByteArray) (r:Bool) (w:World) (h:impl_allSmallLetters.f k a0=some r) :
  Calls Tryz.prog 69 #[.string a0] w fun e w'=>e=.returned (.bool r)∧Drawn0 w w':=by
 unfold impl_allSmallLetters.f at h
 have H:=h;clear h;have H':=A_ H;clear H;go_enter Tryz.func69,Tryz.ntmps69;go_wp2
 go_loopg [3] k (fun kq v3 w'=>∃ (x3_1:Int),v3=.int .i64 x3_1∧Aside0 (impl_allSmallLetters.l0 kq a0 x3_1=some r)∧Aside0 (kq≤k)∧Drawn0 w w')
 case atStart=>exact ⟨(0),zz3,H',⟨Nat.le_refl _⟩,zz4⟩
 case round=>
  clear H';obtain ⟨x3_1,rfl,HA,HK1,⟨m1,rfl⟩⟩:=hrel;cases gk with
  | zero=>exact absurd HA.out (by simp [impl_allSmallLetters.l0])
  | succ k1=>
   obtain ⟨H⟩:=HA;simp only [impl_allSmallLetters.l0] at H
   replace H:=iteEd H;rcases H with ⟨c2b0,H⟩|⟨c2b0,H⟩
   ·replace H:=iteNd H
    obtain ⟨c3b0,H⟩:=H;replace H:=iteEd H;rcases H with ⟨c5b0,H⟩|⟨c5b0,H⟩
    ·obtain rfl:=sI H
     have p4:0≤(x3_1:Int):=ofD;have q4:x3_1 < (a0.size:Int):=ofD;have hx4:=bt_at a0 x3_1;replace p4:=eq_true p4;replace q4:=eq_true q4;go_wp2
     go_ret
     exact ⟨zz3,zz4⟩
    ·replace H:=iteEg H
     rcases H with ⟨c7b0,H⟩|⟨c7b0,H⟩
     ·obtain rfl:=sI H
      have p4:0≤(x3_1:Int):=ofD;have q4:x3_1 < (a0.size:Int):=ofD;have hx4:=bt_at a0 x3_1;replace p4:=eq_true p4;replace q4:=eq_true q4;have p6:0≤(x3_1:Int):=ofD;have q6:x3_1 < (a0.size:Int):=ofD;have hx6:=bt_at a0 x3_1;replace p6:=eq_true p6;replace q6:=eq_true q6;go_wp2
      go_ret
      exact ⟨zz3,zz4⟩
     ·have H':=A_ H
      clear H;have p4:0≤(x3_1:Int):=ofD;have q4:x3_1 < (a0.size:Int):=ofD;have hx4:=bt_at a0 x3_1;replace p4:=eq_true p4;replace q4:=eq_true q4;have p6:0≤(x3_1:Int):=ofD;have q6:x3_1 < (a0.size:Int):=ofD;have hx6:=bt_at a0 x3_1;replace p6:=eq_true p6;replace q6:=eq_true q6;go_wp2
      go_roundg k1
      case measure=>have:=HK1.out;omega
      case rel=>exact ⟨(wrap64 (x3_1+1)),zz3,H',⟨(zz17 HK1)⟩,zz4⟩
   ·obtain rfl:=sI H
    go_wp2
    go_ret
    exact ⟨zz3,zz4⟩
mutual
def impl_PathClean.l0:Nat→List ByteArray→List ByteArray→Int→Int→Option (List ByteArray)
 | 0,_,_,_,_=>none
 | k+1,x3,x6,x7,x8=>if x8 < x7 then (if 0≤x8 then (if x8 < (x6.length:Int) then (if (rdOf ByteArray.empty x6 x8).toList=([]:List UInt8) then (impl_PathClean.j1 k x3 (rdOf ByteArray.empty x6 x8) x6 x7 x8 (rdOf ByteArray.empty x6 x8) ((rdOf ByteArray.empty x6 x8).toList == ([]:List UInt8))) else (impl_PathClean.j1 k x3 (rdOf ByteArray.empty x6 x8) x6 x7 x8 (rdOf ByteArray.empty x6 x8) ((rdOf ByteArray.empty x6 x8).toList == ([46]:List UInt8)))) else (none)) else (none)) else (some x3)
def impl_PathClean.j1:Nat→List ByteArray→ByteArray→List ByteArray→Int→Int→ByteArray→Bool→Option (List ByteArray)
 | 0,_,_,_,_,_,_,_=>none
 | k+1,x3,x5,x6,x7,x8,x12,x13=>if x13=true then (impl_PathClean.l0 k x3 x6 x7 (wrap64 (x8+1))) else (if x12.toList=([46,46]:List UInt8) then (if (x3.length:Int) > 0 then (if 0≤(wrap64 ((x3.length:Int) - 1)) then (if (wrap64 ((x3.length:Int) - 1))≤(x3.length:Int) then (impl_PathClean.l0 k (x3.take ((wrap64 ((x3.length:Int) - 1)):Int).toNat) x6 x7 (wrap64 (x8+1))) else (none)) else (none)) else (impl_PathClean.l0 k x3 x6 x7 (wrap64 (x8+1)))) else (if x3.length < 8796093022208 then (impl_PathClean.l0 k (x3++[x5]) x6 x7 (wrap64 (x8+1))) else (none)))
end
def impl_PathClean.f (k:Nat) (l0:List ByteArray):Option (List ByteArray):=impl_PathClean.l0 k ([]:List ByteArray) l0 (l0.length:Int) 0
theorem impl_PathClean.mono_l:∀ k,(∀ y0 y1 y2 y3,LeO (impl_PathClean.l0 k y0 y1 y2 y3) (impl_PathClean.l0 (k+1) y0 y1 y2 y3))∧(∀ y0 y1 y2 y3 y4 y5 y6,LeO (impl_PathClean.j1 k y0 y1 y2 y3 y4 y5 y6) (impl_PathClean.j1 (k+1) y0 y1 y2 y3 y4 y5 y6))
 | 0=>by refine ⟨?_,?_⟩ <;> (intros;intro r h;simp [impl_PathClean.l0,impl_PathClean.j1] at h)
 | k+1=>by
  obtain ⟨ih0,ih1⟩:=impl_PathClean.mono_l k;refine ⟨?_,?_⟩ <;> intros <;> (first|unfold impl_PathClean.l0|unfold impl_PathClean.j1) <;>
  repeat' first|(with_reducible first|exact ih0 _ _ _ _|exact ih1 _ _ _ _ _ _ _|exact LeO.refl _|exact LeO.none _|refine LeO.ite ?_ ?_|refine LeO.bind ?_ (fun _=>?_))|exact LeO.none _|refine LeO.ite ?_ ?_|refine LeO.bind ?_ (fun _=>?_)
theorem impl_PathClean.mono:∀ a0 k,LeO (impl_PathClean.f k a0) (impl_PathClean.f (k+1) a0):=by
 intro a0 k;obtain ⟨ih0,ih1⟩:=impl_PathClean.mono_l k;unfold impl_PathClean.f
 repeat' first|(with_reducible first|exact ih0 _ _ _ _|exact ih1 _ _ _ _ _ _ _|exact LeO.refl _|exact LeO.none _|refine LeO.ite ?_ ?_|refine LeO.bind ?_ (fun _=>?_))|exact LeO.none _|refine LeO.ite ?_ ?_|refine LeO.bind ?_ (fun _=>?_)
theorem impl_PathClean.calls (k:Nat) (A0:Option Addr) (c0:Nat) (l0:List ByteArray) (r:List ByteArray) (w:World) (hr0:Kd.C Kd.string w A0 l0.length l0) (hc0:l0.length≤c0) (h:impl_PathClean.f k l0=some r) :
  Calls Tryz.prog 134 #[.slice A0 l0.length c0] w fun e w'=>∃ v0_:Value,e=.returned (v0_)∧Kd.R Kd.string 9 w' w.heap.size (fun _=>True) v0_ r∧Below w.heap.size w w':=by
 have HR0:=A_ hr0;have HC0:=A_ hc0;clear hr0 hc0;have HB:=A_ (Below.refl w.heap.size w);unfold impl_PathClean.f at h
 have H:=h;clear h;have H':=A_ H;clear H;go_enter Tryz.func134,Tryz.ntmps134;go_wp2
 go_step3
 go_wp2
 go_step3
 go_wp2
 go_loopg [3,8] k (fun kq v3 v8 w'=>∃ (x3_1:List ByteArray) (x8_1:Int),v8=.int .i64 x8_1∧Aside0 (impl_PathClean.l0 kq x3_1 l0 (l0.length:Int) x8_1=some r)∧Aside0 (kq≤k)∧Aside0 (Kd.R Kd.string 9 w' w.heap.size (fun _=>True) v3 x3_1)∧Aside0 (Below w.heap.size w w'))
 case atStart=>exact ⟨(([]:List ByteArray)),(0),zz3,H',⟨Nat.le_refl _⟩,⟨zz75⟩,⟨(zz0 HB)⟩⟩
 case round=>
  clear H';obtain ⟨x3_1,x8_1,rfl,HA,HK1,HO_3,HB⟩:=hrel;cases gk with
  | zero=>exact absurd HA.out (by simp [impl_PathClean.l0])
  | succ k1=>
   obtain ⟨H⟩:=HA;simp only [impl_PathClean.l0] at H
   replace H:=iteEd H;rcases H with ⟨c2b0,H⟩|⟨c2b0,H⟩
   ·replace H:=iteNd H
    obtain ⟨c3b0,H⟩:=H;replace H:=iteNd H;obtain ⟨c4b0,H⟩:=H;have HC5:=A_ H;clear H;obtain ⟨⟨ad493,e493,hx493_0⟩,p493,q493⟩:=atB (Kd.at_string HR0.out x8_1);cases e493
    replace hx493_0:=cbl HB hx493_0;go_upto_if 13 with (fail)
    go_cut [13] (fun v13 wc=>∃ (kq:Nat) (x13_4:Bool),v13=.bool x13_4∧Aside0 (impl_PathClean.j1 kq x3_1 (rdOf ByteArray.empty l0 x8_1) l0 (l0.length:Int) x8_1 (rdOf ByteArray.empty l0 x8_1) x13_4=some r)∧Aside0 (kq≤k1)∧Aside0 (Kd.R Kd.string 9 wc w.heap.size (fun _=>True) u3 x3_1)∧Aside0 (Below w.heap.size w wc))
    case first=>
     obtain ⟨H⟩:=HC5;replace H:=iteE H;rcases H with ⟨c6,H⟩|⟨c6,H⟩
     ·have c6b0:((rdOf ByteArray.empty l0 x8_1).toList == ([]:List UInt8))=true:=beq_iff_eq.mpr c6
      have c6i0:(rdOf ByteArray.empty l0 x8_1).toList.isEmpty=true:=(aid_isEmpty2 _).symm.trans c6b0;have c6b1:((rdOf ByteArray.empty l0 x8_1).toList != ([]:List UInt8))=false:=bne_eq_false_iff_eq.mpr c6;clear c6;(first|rw [c6b0]|(simp only [i64_w,i32_w];rw [c6b0])|skip)
      have H':=A_ H;clear H;go_wp2
      all_goals (first|(exfalso;have h_:(rdOf ByteArray.empty l0 x8_1).toList.isEmpty=false:=(by assumption);rw [c6i0] at h_;cases h_;done)|skip)
      go_meet
      case rel=>exact ⟨_,(((rdOf ByteArray.empty l0 x8_1).toList == ([]:List UInt8))),zz3,H',⟨(zz24 HK1)⟩,⟨(zz8 HO_3)⟩,⟨(zz0 HB)⟩⟩
     ·have c6b0:((rdOf ByteArray.empty l0 x8_1).toList == ([]:List UInt8))=false:=beq_eq_false_iff_ne.mpr c6
      have c6i0:(rdOf ByteArray.empty l0 x8_1).toList.isEmpty=false:=(aid_isEmpty2 _).symm.trans c6b0;have c6b1:((rdOf ByteArray.empty l0 x8_1).toList != ([]:List UInt8))=true:=bne_iff_ne.mpr c6;(first|rw [c6b0]|(simp only [i64_w,i32_w];rw [c6b0])|skip)
      have H':=A_ H;clear H;go_wp2
      all_goals (first|(exfalso;have h_:(rdOf ByteArray.empty l0 x8_1).toList.isEmpty=true:=(by assumption);rw [c6i0] at h_;cases h_;done)|skip)
      go_meet
      case rel=>exact ⟨_,(((rdOf ByteArray.empty l0 x8_1).toList == ([46]:List UInt8))),zz3,H',⟨(zz24 HK1)⟩,⟨(zz8 HO_3)⟩,⟨(zz0 HB)⟩⟩
    case rest=>
     clear HC5;obtain ⟨kq,x13_4,rfl,HA,HJ4,HO_3,HB⟩:=hcut;cases kq with
     | zero=>exact absurd HA.out (by simp [impl_PathClean.j1])
     | succ kj4=>
      obtain ⟨H⟩:=HA;simp only [impl_PathClean.j1] at H
      replace H:=iteB H;rcases H with ⟨rfl,H⟩|⟨rfl,H⟩
      ·have H':=A_ H
       clear H;go_wp2
       go_roundg kj4
       case measure=>have:=HK1.out;have:=HJ4.out;omega
       case rel=>exact ⟨(x3_1),(wrap64 (x8_1+1)),zz3,H',⟨(zz31 HK1 HJ4)⟩,⟨(zz8 HO_3)⟩,⟨(zz0 HB)⟩⟩
      ·replace H:=iteE H
       rcases H with ⟨c8,H⟩|⟨c8,H⟩
       ·obtain ⟨c8b0,c8b1⟩:=eqT c8
        clear c8;replace H:=iteE H;rcases H with ⟨c9,H⟩|⟨c9,H⟩
        ·have c9b0:=gtT c9
         have c9b1:decide (0 < x3_1.length)=true:=dT (by omega);clear c9;obtain ⟨ji10,hji10⟩:∃ j_:Int,(wrap64 ((x3_1.length:Int) - 1))=j_:=⟨_,rfl⟩;(first|rw [hji10] at H|simp only [hji10] at H)
         have hji10w:(IntKind.i64.wrap ((x3_1.length:Int) - 1))=ji10:=(i64_w _).trans hji10;replace H:=iteN H;obtain ⟨c11,H⟩:=H;have c11b0:=eq_true c11;have c11b1:=dT c11;clear c11;replace H:=iteN H;obtain ⟨c12,H⟩:=H;have c12b0:=eq_true c12;have c12b1:=dT c12;clear c12;obtain ⟨y494,Ny494⟩:=toY (x3_1.take ((ji10):Int).toNat);(first|with_reducible replace H:=bindZ Ny494 H|rw [← Ny494.out] at H|skip)
         have H':=A_ H;clear H;obtain ⟨Ao13,co13,eo13⟩:=Kd.R_slice HO_3.out;subst eo13;have q14:((ji10):Int)≤((x3_1.length:Int):Int):=ofD;obtain ⟨i014,hi014,_,hsz14,_⟩:=info_parts info9;have hcut14:=cut_to (P:=Tryz.prog) 29 9 .i64 Tryz.underlying29 hi014 Ao13 x3_1.length co13 (ji10) ofD q14 (Kd.R_reads' HO_3.out).2.1;have hr14:=Kd.R_take (m:=((ji10):Int).toNat) HO_3.out (by omega);have hy14:y494.length=((ji10):Int).toNat:=(by rw [Ny494.out,List.length_take];omega);rw [← Ny494.out] at hr14;rw [← hy14] at hr14 hcut14;clear hy14 hi014 hsz14 HO_3;have HO496:=A_ hr14;clear hr14;replace q14:=eq_true q14;go_wp2
         go_roundg kj4
         case measure=>have:=HK1.out;have:=HJ4.out;omega
         case rel=>exact ⟨(y494),(wrap64 (x8_1+1)),zz3,H',⟨(zz31 HK1 HJ4)⟩,⟨(zz8 HO496)⟩,⟨(zz0 HB)⟩⟩
        ·have c9b0:=gtF c9
         have c9b1:decide (0 < x3_1.length)=false:=dF (by omega);clear c9;have H':=A_ H;clear H;obtain ⟨Ao15,co15,eo15⟩:=Kd.R_slice HO_3.out;subst eo15;go_wp2
         go_roundg kj4
         case measure=>have:=HK1.out;have:=HJ4.out;omega
         case rel=>exact ⟨(x3_1),(wrap64 (x8_1+1)),zz3,H',⟨(zz31 HK1 HJ4)⟩,⟨(zz8 HO_3)⟩,⟨(zz0 HB)⟩⟩
       ·obtain ⟨c8b0,c8b1⟩:=eqF c8
        replace H:=iteN H;obtain ⟨c16,H⟩:=H;have LMc16:=A_ c16;clear c16;obtain ⟨y497,Ny497⟩:=toY (x3_1++[(rdOf ByteArray.empty l0 x8_1)]);(first|with_reducible replace H:=bindZ Ny497 H|rw [← Ny497.out] at H|skip)
        have H':=A_ H;clear H;go_wp2_with (first|((with_reducible refine gate_builtin (b:=.append) (xs:=#[.tmp 26,.tmp 28]) rfl ?_);at_builtin;refine Kd.R_append Kd.string (w0:=w) w.heap.size rfl (.tmp 26) (.tmp 28) 29 9 (.string ⟨#[]⟩) 16 rfl Tryz.underlying29 info9 rfl (by decide) (by omega) u3 x3_1 (rdOf ByteArray.empty l0 x8_1) [.string (rdOf ByteArray.empty l0 x8_1)] (fun _=>True) (fun _=>False) rfl rfl ?aP (fun _ hk=>hk.elim) ?aF ?aO ?aB ?aS ?aL ?_;(case aP=>exact rfl);(case aB=>exact (zz0 HB));(case aF=>exact (fun _ _=>trivial));(case aO=>exact (zz8 HO_3));(case aS=>exact (below_size (zz0 HB)));(case aL=>exact (zz17 LMc16));intro v498 w17 ho hb hg hat;rw [← Ny497.out] at ho;replace HB:=A_ (hb);have HO499:=A_ (ho);clear HO_3;clear ho hb hg hat))
        go_roundg kj4
        case measure=>have:=HK1.out;have:=HJ4.out;omega
        case rel=>exact ⟨(y497),(wrap64 (x8_1+1)),zz3,H',⟨(zz31 HK1 HJ4)⟩,⟨(zz8 HO499)⟩,⟨(zz0 HB)⟩⟩
   ·obtain rfl:=sI H
    go_wp2
    go_ret
    exact ⟨_,zz1,(zz8 HO_3),(zz0 HB)⟩
mutual
def impl_RuleOk.j0:Nat→ByteArray→Bool→Option (Bool)
 | 0,_,_=>none
 | k+1,x0,x17=>if x17=true then (some false) else ((strings_TrimSuffix.f x0 (⟨#[36]⟩:ByteArray)).bind fun t393=>(impl_RuleOk.l0 k t393 0))
def impl_RuleOk.l0:Nat→ByteArray→Int→Option (Bool)
 | 0,_,_=>none
 | k+1,x3,x4=>if x4 < (x3.size:Int) then (if 0≤x4 then ((impl_isPatternByte.f (bt x3 x4)).bind fun t394=>(if t394=true then (impl_RuleOk.l0 k x3 (wrap64 (x4+1))) else (some false))) else (none)) else (some true)
end
def impl_RuleOk.f (k:Nat) (a0:ByteArray):Option (Bool):=if (a0.size:Int) < 1 then (impl_RuleOk.j0 k a0 true) else (if (a0.size:Int) > 16 then (impl_RuleOk.j0 k a0 true) else (if 0 < (a0.size:Int) then (impl_RuleOk.j0 k a0 ((bt a0 0) != 47)) else (none)))
theorem impl_RuleOk.calls (k:Nat) (a0:ByteArray) (r:Bool) (w:World) (h:impl_RuleOk.f k a0=some r) :
  Calls Tryz.prog 87 #[.string a0] w fun e w'=>e=.returned (.bool r)∧Drawn0 w w':=by
 unfold impl_RuleOk.f at h
 have H:=h;clear h;have HC2:=A_ H;clear H;go_enter Tryz.func87,Tryz.ntmps87;go_upto_region 1 with (fail)
 go_cut [17] (fun v17 wc=>∃ (kq:Nat) (x17_1:Bool),v17=.bool x17_1∧Aside0 (impl_RuleOk.j0 kq a0 x17_1=some r)∧Aside0 (kq≤k)∧Drawn0 w wc)
 case first=>
  obtain ⟨H⟩:=HC2;replace H:=iteE H;rcases H with ⟨c3,H⟩|⟨c3,H⟩
  ·have c3b0:=dT c3
   have c3b1:decide (a0.size < 1)=true:=dT (by omega);clear c3;(first|rw [c3b0]|(simp only [i64_w,i32_w];rw [c3b0])|skip)
   have H':=A_ H;clear H;go_wp2
   go_meet
   case rel=>exact ⟨_,(true),zz3,H',⟨zz22⟩,zz4⟩
  ·have c3b0:=dF c3
   have c3b1:decide (a0.size < 1)=false:=dF (by omega);clear c3;(first|rw [c3b0]|(simp only [i64_w,i32_w];rw [c3b0])|skip)
   replace H:=iteE H;rcases H with ⟨c4,H⟩|⟨c4,H⟩
   ·have c4b0:=gtT c4
    have c4b1:decide (16 < a0.size)=true:=dT (by omega);clear c4;have H':=A_ H;clear H;go_wp2
    go_meet
    case rel=>exact ⟨_,(true),zz3,H',⟨zz22⟩,zz4⟩
   ·have c4b0:=gtF c4
    have c4b1:decide (16 < a0.size)=false:=dF (by omega);clear c4;replace H:=iteN H;obtain ⟨c5,H⟩:=H;have c5b0:=dT c5;have c5b1:decide (0 < a0.size)=true:=dT (by omega);clear c5;have H':=A_ H;clear H;have p6:0≤(0:Int):=(by omega);have q6:0 < a0.size:=(by have:(0:Int) < (a0.size:Int):=ofD;omega);have hx6:∀ h:0 < a0.size,((a0[0]'h).toNat:Int)=bt a0 0:=bt_at a0 0;clear p6;have qi6:(0 < (a0.size:Int))=True:=eq_true ofD;replace q6:=eq_true q6;go_wp2
    go_meet
    case rel=>exact ⟨_,(((bt a0 0) != 47)),zz3,H',⟨zz22⟩,zz4⟩
 case rest=>
  clear HC2;obtain ⟨kq,x17_1,rfl,HA,HJ1,⟨mc1,rfl⟩⟩:=hcut;cases kq with
  | zero=>exact absurd HA.out (by simp [impl_RuleOk.j0])
  | succ kj1=>
   obtain ⟨H⟩:=HA;simp only [impl_RuleOk.j0] at H
   replace H:=iteB H;rcases H with ⟨rfl,H⟩|⟨rfl,H⟩
   ·obtain rfl:=sI H
    go_wp2
    go_ret
    exact ⟨zz3,zz4⟩
   ·replace H:=bindA H
    obtain ⟨t393,A8,H⟩:=H;have H':=A_ H;clear H;go_wp2_with (first|(refine gR 115 (some 19) Tryz.func115 (strings_TrimSuffix.calls a0 (⟨#[36]⟩:ByteArray) t393 _ A8.out) ?_;rintro w' ⟨nd,rfl⟩))
    go_loopg [4] kj1 (fun kq v4 w'=>∃ (x4_2:Int),v4=.int .i64 x4_2∧Aside0 (impl_RuleOk.l0 kq t393 x4_2=some r)∧Aside0 (kq≤kj1)∧Drawn0 w w')
    case atStart=>exact ⟨(0),zz3,H',⟨Nat.le_refl _⟩,zz4⟩
    case round=>
     clear H';obtain ⟨x4_2,rfl,HA,HK2,⟨m2,rfl⟩⟩:=hrel;cases gk with
     | zero=>exact absurd HA.out (by simp [impl_RuleOk.l0])
     | succ k2=>
      obtain ⟨H⟩:=HA;simp only [impl_RuleOk.l0] at H
      replace H:=iteEd H;rcases H with ⟨c9b0,H⟩|⟨c9b0,H⟩
      ·replace H:=iteNd H
       obtain ⟨c10b0,H⟩:=H;replace H:=bindA H;obtain ⟨t394,A12,H⟩:=H;have HF13:=A_ H;clear H;have p11:0≤(x4_2:Int):=ofD;have q11:x4_2 < (t393.size:Int):=ofD;have hx11:=bt_at t393 x4_2;replace p11:=eq_true p11;replace q11:=eq_true q11;go_upto_if 30 with (first|(refine gR 116 (some 29) Tryz.func116 (impl_isPatternByte.calls (bt t393 x4_2) t394 _ A12.out) ?_;rintro w' ⟨nd,rfl⟩))
       obtain ⟨H⟩:=HF13;replace H:=iteB H;rcases H with ⟨rfl,H⟩|⟨rfl,H⟩
       ·have H':=A_ H
        clear H;go_wp2
        go_roundg k2
        case measure=>have:=HJ1.out;have:=HK2.out;omega
        case rel=>exact ⟨(wrap64 (x4_2+1)),zz3,H',⟨(zz31 HJ1 HK2)⟩,zz4⟩
       ·obtain rfl:=sI H
        go_wp2
        go_ret
        exact ⟨zz3,zz4⟩
      ·obtain rfl:=sI H
       go_wp2
       go_ret
       exact ⟨zz3,zz4⟩
def impl_readWait.l0:Nat→ByteArray→Int→Int→Option (Int)
 | 0,_,_,_=>none
 | k+1,x0,x3,x4=>if x4 < (x0.size:Int) then (if 0≤x4 then (if (bt x0 x4) < 48 then (some 0) else (if (bt x0 x4) > 57 then (some 0) else (impl_readWait.l0 k x0 (mn (wrap64 ((wrap64 (x3 * 10))+(((bt x0 x4) - 48) % 256))) 20) (wrap64 (x4+1))))) else (none)) else (some x3)
def impl_readWait.f (k:Nat) (a0:ByteArray):Option (Int):=impl_readWait.l0 k a0 0 0
theorem impl_readWait.mono_l:∀ k,(∀ y0 y1 y2,LeO (impl_readWait.l0 k y0 y1 y2) (impl_readWait.l0 (k+1) y0 y1 y2))
 | 0=>by intros;intro r h;simp [impl_readWait.l0] at h
 | k+1=>by
  have ih0:=impl_readWait.mono_l k;intros;unfold impl_readWait.l0;repeat' first|(with_reducible first|exact ih0 _ _ _|exact LeO.refl _|exact LeO.none _|refine LeO.ite ?_ ?_|refine LeO.bind ?_ (fun _=>?_))|exact LeO.none _|refine LeO.ite ?_ ?_|refine LeO.bind ?_ (fun _=>?_)
theorem impl_readWait.mono:∀ a0 k,LeO (impl_readWait.f k a0) (impl_readWait.f (k+1) a0):=by
 intro a0 k;have ih0:=impl_readWait.mono_l k;unfold impl_readWait.f
 repeat' first|(with_reducible first|exact ih0 _ _ _|exact LeO.refl _|exact LeO.none _|refine LeO.ite ?_ ?_|refine LeO.bind ?_ (fun _=>?_))|exact LeO.none _|refine LeO.ite ?_ ?_|refine LeO.bind ?_ (fun _=>?_)
theorem impl_readWait.calls (k:Nat) (a0:ByteArray) (r:Int) (w:World) (h:impl_readWait.f k a0=some r) :
  Calls Tryz.prog 88 #[.string a0] w fun e w'=>e=.returned (.int .i64 r)∧Below w.heap.size w w':=by
 have HB:=A_ (Below.refl w.heap.size w);unfold impl_readWait.f at h
 have H:=h;clear h;have H':=A_ H;clear H;go_enter Tryz.func88,Tryz.ntmps88;go_wp2
 go_loopg [3,4] k (fun kq v3 v4 w'=>∃ (x3_1:Int) (x4_1:Int),v3=.int .i64 x3_1∧v4=.int .i64 x4_1∧Aside0 (impl_readWait.l0 kq a0 x3_1 x4_1=some r)∧Aside0 (kq≤k)∧Aside0 (Below w.heap.size w w'))
 case atStart=>exact ⟨(0),(0),zz3,zz3,H',⟨Nat.le_refl _⟩,⟨(zz0 HB)⟩⟩
 case round=>
  clear H';obtain ⟨x3_1,x4_1,rfl,rfl,HA,HK1,HB⟩:=hrel;cases gk with
  | zero=>exact absurd HA.out (by simp [impl_readWait.l0])
  | succ k1=>
   obtain ⟨H⟩:=HA;simp only [impl_readWait.l0] at H
   replace H:=iteEd H;rcases H with ⟨c2b0,H⟩|⟨c2b0,H⟩
   ·replace H:=iteNd H
    obtain ⟨c3b0,H⟩:=H;replace H:=iteEd H;rcases H with ⟨c5b0,H⟩|⟨c5b0,H⟩
    ·obtain rfl:=sI H
     have p4:0≤(x4_1:Int):=ofD;have q4:x4_1 < (a0.size:Int):=ofD;have hx4:=bt_at a0 x4_1;replace p4:=eq_true p4;replace q4:=eq_true q4;go_wp2
     go_ret
     exact ⟨zz1,(zz0 HB)⟩
    ·replace H:=iteEg H
     rcases H with ⟨c7b0,H⟩|⟨c7b0,H⟩
     ·obtain rfl:=sI H
      have p4:0≤(x4_1:Int):=ofD;have q4:x4_1 < (a0.size:Int):=ofD;have hx4:=bt_at a0 x4_1;replace p4:=eq_true p4;replace q4:=eq_true q4;have p6:0≤(x4_1:Int):=ofD;have q6:x4_1 < (a0.size:Int):=ofD;have hx6:=bt_at a0 x4_1;replace p6:=eq_true p6;replace q6:=eq_true q6;go_wp2
      go_ret
      exact ⟨zz1,(zz0 HB)⟩
     ·obtain ⟨ji9,hji9⟩:∃ j_:Int,(mn (wrap64 ((wrap64 (x3_1 * 10))+(((bt a0 x4_1) - 48) % 256))) 20)=j_:=⟨_,rfl⟩
      (first|rw [hji9] at H|simp only [hji9] at H)
      have hji9_:(if 20 < (wrap64 ((wrap64 (x3_1 * 10))+(((bt a0 x4_1) - 48) % 256))) then 20 else (wrap64 ((wrap64 (x3_1 * 10))+(((bt a0 x4_1) - 48) % 256))))=ji9:=hji9;have H':=A_ H;clear H;have p4:0≤(x4_1:Int):=ofD;have q4:x4_1 < (a0.size:Int):=ofD;have hx4:=bt_at a0 x4_1;replace p4:=eq_true p4;replace q4:=eq_true q4;have p6:0≤(x4_1:Int):=ofD;have q6:x4_1 < (a0.size:Int):=ofD;have hx6:=bt_at a0 x4_1;replace p6:=eq_true p6;replace q6:=eq_true q6;have p8:0≤(x4_1:Int):=ofD;have q8:x4_1 < (a0.size:Int):=ofD;have hx8:=bt_at a0 x4_1;replace p8:=eq_true p8;replace q8:=eq_true q8;go_wp2
      go_roundg k1
      case measure=>have:=HK1.out;omega
      case rel=>exact ⟨(ji9),(wrap64 (x4_1+1)),zz20,zz3,H',⟨(zz17 HK1)⟩,⟨(zz0 HB)⟩⟩
   ·obtain rfl:=sI H
    go_wp2
    go_ret
    exact ⟨zz1,(zz0 HB)⟩
def spec_l1Text.f (k:Nat) (a0_0:ByteArray) (l0_1:List ByteArray) (a0_2:Bool) (a0_3:ByteArray):Option (ByteArray):=if 2+a0_0.size≤9223372036854775807 then ((spec_l1Path.f k a0_0 l0_1 a0_2 a0_3).bind fun t140=>(if 2+a0_0.size+t140.size≤9223372036854775807 then (some (((⟨#[47,47]⟩:ByteArray)++a0_0)++t140)) else (none))) else (none)
theorem spec_l1Text.mono:∀ a0 a1 a2 a3 k,LeO (spec_l1Text.f k a0 a1 a2 a3) (spec_l1Text.f (k+1) a0 a1 a2 a3):=by
 intro a0 a1 a2 a3 k;unfold spec_l1Text.f
 repeat' first|(with_reducible first|exact spec_l1Path.mono _ _ _ _ _|exact LeO.refl _|exact LeO.none _|refine LeO.ite ?_ ?_|refine LeO.bind ?_ (fun _=>?_))|exact LeO.none _|refine LeO.ite ?_ ?_|refine LeO.bind ?_ (fun _=>?_)
theorem spec_l1Text.calls (k:Nat) (a0_0:ByteArray) (A0_1:Option Addr) (c0_1:Nat) (l0_1:List ByteArray) (a0_2:Bool) (a0_3:ByteArray) (r:ByteArray) (w:World) (hr0_1:Kd.C Kd.string w A0_1 l0_1.length l0_1) (hc0_1:l0_1.length≤c0_1) (h:spec_l1Text.f k a0_0 l0_1 a0_2 a0_3=some r) :
  Calls Tryz.prog 122 #[.agg #[.string a0_0,.slice A0_1 l0_1.length c0_1,.bool a0_2,.string a0_3]] w fun e w'=>e=.returned (.string r)∧Below w.heap.size w w':=by
 have hu51:=Tryz.underlying51;have HR0_1:=A_ hr0_1;have HC0_1:=A_ hc0_1;clear hr0_1 hc0_1;have HB:=A_ (Below.refl w.heap.size w);unfold spec_l1Text.f at h
 have H:=h;clear h;replace H:=iteE H;rcases H with ⟨c2,H⟩|⟨c2,H⟩
 ·have c2b0:=eq_true c2
  have c2b1:=dT c2;try have c2b2:(9223372036854775807 < 2+a0_0.size)=False:=eq_false (Nat.not_lt.2 c2)
  replace H:=bindA H;obtain ⟨t140,A3,H⟩:=H;replace H:=iteN H;obtain ⟨c4,H⟩:=H;have c4b0:=eq_true c4;have c4b1:=dT c4;try have c4b2:(9223372036854775807 < 2+a0_0.size+t140.size)=False:=eq_false (Nat.not_lt.2 c4)
  obtain rfl:=sI H;go_enter Tryz.func122,Tryz.ntmps122;try go_wp2_with (first|(refine boxF 1 #[.string a0_0,.slice A0_1 l0_1.length c0_1,.bool a0_2,.string a0_3] 51 ?_;intro gb139 hg w5 BK139 hb;have GE139:=geB hg (zz0 HB);replace HB:=A_ (bS (zz0 HB) hb);clear hb hg))
  replace BK139:=A_ (blk_drew BK139.out);replace HB:=A_ (below_drew1 HB.out);refine start_ (n:=7) (S:=fun w'=>w'.cell? ⟨gb139,0,none⟩=some (.string a0_0)∧w'.cell? ⟨gb139,1,none⟩=some (.slice A0_1 l0_1.length c0_1)∧w'.cell? ⟨gb139,2,none⟩=some (.bool a0_2)∧w'.cell? ⟨gb139,3,none⟩=some (.string a0_3)) (ds:=[]) #[yF,yF,yF,yF,yF,yF,yF] (by kernel_rfl) rfl rfl ⟨(blk_cell BK139.out 0).trans rfl,(blk_cell BK139.out 1).trans rfl,(blk_cell BK139.out 2).trans rfl,(blk_cell BK139.out 3).trans rfl⟩ (fun hHeld=>?_);generalize w5.drew=w6 at BK139 HB hHeld ⊢;refine pureY 0 (some 3) #[yT,yF,yF,yF,yF,yF,yF] ?_;refine takeY4 1 (some 4) #[yT,yT,yF,yF,yF,yF,yF] hHeld ?_;refine pureY 2 (some 5) #[yT,yT,yT,yF,yF,yF,yF] ?_;refine takeY4 3 (some 6) #[yT,yT,yT,yT,yF,yF,yF] hHeld ?_;refine one_ (i:=4) (N:=some 7) #[yT,yT,yT,yT,yT,yF,yF] rfl rfl (by kernel_rfl) (by decide) (fun K hK=>?_);refine goes_ Tryz.func67 (by kernel_rfl) rfl #[.agg #[.string a0_0,.slice A0_1 l0_1.length c0_1,.bool a0_2,.string a0_3]] (by rfl) rfl rfl zz52 ?_;with_reducible refine (spec_l1Path.calls k a0_0 _ _ l0_1 a0_2 a0_3 t140 _ ?side1 ?side2 A3.out).mono ?_
  (case side1=>exact (zz41 HR0_1 HB))
  (case side2=>exact HC0_1.out)
  rintro e w7 ⟨rfl,hb⟩;refine ⟨_,rfl,?_⟩;replace BK139:=A_ (bB (zz7 BK139) hb);replace HB:=A_ (bS (zz2 HB GE139) hb);(try clear hb)
  (try clear hb2)
  (try clear hk)
  (try clear hi)
  refine hK.out _ _ ⟨(blk_cell BK139.out 0).trans rfl,(blk_cell BK139.out 1).trans rfl,(blk_cell BK139.out 2).trans rfl,(blk_cell BK139.out 3).trans rfl⟩ (fun hHeld=>?_);clear hK K;refine nZ 7 ?_;refine pureY 5 (some 8) #[yT,yT,yT,yT,yT,yT,yF] ?_;refine pureY 6 (some 2) #[yT,yT,yT,yT,yT,yT,yT] ?_;refine done_ (by kernel_rfl) ?_;try go_wp2
  go_ret
  exact ⟨zz1,(zz2 HB GE139)⟩
 ·exact absurd H (by simp)
def spec_l1Norm.f (k:Nat) (a0:ByteArray):Option (Bool):=(spec_EscNorm.f k a0).bind fun bt141=>(if bt141.2=true then (some (bt141.1.toList == a0.toList)) else (some false))
theorem spec_l1Norm.mono:∀ a0 k,LeO (spec_l1Norm.f k a0) (spec_l1Norm.f (k+1) a0):=by
 intro a0 k;unfold spec_l1Norm.f
 repeat' first|(with_reducible first|exact spec_EscNorm.mono _ _|exact LeO.refl _|exact LeO.none _|refine LeO.ite ?_ ?_|refine LeO.bind ?_ (fun _=>?_))|exact LeO.none _|refine LeO.ite ?_ ?_|refine LeO.bind ?_ (fun _=>?_)
theorem spec_l1Norm.calls (k:Nat) (a0:ByteArray) (r:Bool) (w:World) (h:spec_l1Norm.f k a0=some r) :
  Calls Tryz.prog 151 #[.string a0] w fun e w'=>e=.returned (.bool r)∧Below w.heap.size w w':=by
 have HB:=A_ (Below.refl w.heap.size w);unfold spec_l1Norm.f at h
 have H:=h;clear h;replace H:=bindA H;obtain ⟨⟨t141,t142⟩,A2,H⟩:=H;try dsimp only at H
 have HF3:=A_ H;clear H;go_enter Tryz.func151,Tryz.ntmps151;go_wp2_with (first|(refine gR 119 (some 7) Tryz.func119 (spec_EscNorm.calls k a0 t141 t142 _ A2.out) ?_;rintro w4 hb;replace HB:=A_ (bS (zz0 HB) hb);(try clear hb))|((with_reducible refine atG ?_ ?_ fun K_ hK_=>?_);rfl;exact undecG)|((with_reducible refine atI ?_ fun K_ hK_=>?_);exact undecI))
 refine unG hK_ ?_;clear hK_ K_;obtain ⟨H⟩:=HF3;replace H:=iteB H;rcases H with ⟨rfl,H⟩|⟨rfl,H⟩
 ·(first|refine iteT ?_|refine iteF ?_|skip)
  obtain rfl:=sI H;(try ((with_reducible refine upS ?_);go_simp))
  go_wp2
  go_ret
  exact ⟨zz1,(zz0 HB)⟩
 ·(first|refine iteT ?_|refine iteF ?_|skip)
  obtain rfl:=sI H;(try ((with_reducible refine upS ?_);go_simp))
  go_wp2
  go_ret
  exact ⟨zz1,(zz0 HB)⟩
def spec_l11Get.f (k:Nat) (l0:List (S57)) (a1:ByteArray) (a2:Int):Option (Int×ByteArray):=(spec_l11At.f k l0 a1).bind fun bt242=>(if bt242.2.2.2.2=true then (if a2 < bt242.2.2.2.1 then (some (3,(⟨#[]⟩:ByteArray))) else (if bt242.2.2.1.toList=([]:List UInt8) then (some (1,bt242.2.1)) else (some (2,bt242.2.2.1)))) else (some (0,(⟨#[]⟩:ByteArray))))
theorem spec_l11Get.calls (k:Nat) (A0:Option Addr) (c0:Nat) (l0:List (S57)) (a1:ByteArray) (a2:Int) (r1:Int) (r2:ByteArray) (w:World) (hr0:Kd.C k57 w A0 l0.length l0) (hc0:l0.length≤c0) (h:spec_l11Get.f k l0 a1 a2=some (r1,r2)) :
  Calls Tryz.prog 73 #[.slice A0 l0.length c0,.string a1,.int .i64 a2] w fun e w'=>e=.returned (.tuple #[.int .i64 r1,.string r2])∧Below w.heap.size w w':=by
 have hu57:=Tryz.underlying57;have HR0:=A_ hr0;have HC0:=A_ hc0;clear hr0 hc0;have HB:=A_ (Below.refl w.heap.size w);unfold spec_l11Get.f at h
 have H:=h;clear h;replace H:=bindA H;obtain ⟨⟨t242,t243,t244,t245,t246⟩,A4,H⟩:=H;try dsimp only at H
 have HF5:=A_ H;clear H;go_enter Tryz.func73,Tryz.ntmps73;go_upto_if 16 with (first|(go_at_call 103;(with_reducible refine (spec_l11At.calls k _ _ l0 a1 t242 t243 t244 t245 t246 _ ?side1 ?side2 A4.out).mono ?_);(case side1=>exact (zz81 HR0));(case side2=>exact HC0.out);rintro e w6 ⟨rfl,hb⟩;replace HB:=A_ (bS (zz0 HB) hb);(try clear hb))|(refine boxF 8 #[.string (⟨#[]⟩:ByteArray),.string (⟨#[]⟩:ByteArray),.string (⟨#[]⟩:ByteArray),.int .i64 0] 57 ?_;intro gb247 hg w7 BK247 hb;have GE247:=geB hg (zz0 HB);replace HB:=A_ (bS (zz0 HB) hb);clear hb hg;obtain ⟨_,_,_,_,_,_,_,_⟩:=cf4 BK247)|((with_reducible refine gate_store (t:=57) (p:=8) rfl ?_);(try (rw [drewN_self w7];generalize hq_:World.drewN w7 _=w7;have HB:=A_ (below_at hq_ HB.out);clear hq_ BK247 HB;have BK247:=A_ (blk_at hq_ BK247.out)));refine store_event (t:=57) (p:=8) (v:=?vo_w9) (w1:=((((w7.setCell ⟨gb247,0,none⟩ (.string t242)).setCell ⟨gb247,1,none⟩ (.string t243)).setCell ⟨gb247,2,none⟩ (.string t244)).setCell ⟨gb247,3,none⟩ (.int .i64 t245))) ?hg ?ho ?hn ?hr ?_;(case ho=>rfl);(case hg=>rfl);(case hn=>rfl);(case hr=>exact zz6);intro w9 hw;have n0_:Aside0 (w9.heap[gb247]?=some (.cells #[.string t242,.string t243,.string t244,.int .i64 t245] 57 (0,0))):=⟨(by rw [hw];exact (zz38 BK247))⟩;have n1_:Aside0 (Below w.heap.size w w9):=⟨(by rw [hw];exact (zz2 HB GE247))⟩;clear hw;clear BK247;clear HB;have BK247:=n0_;have HB:=n1_;clear n0_ n1_))
 repeat (go_quiet (first|(go_at_call 103;(with_reducible refine (spec_l11At.calls k _ _ l0 a1 t242 t243 t244 t245 t246 _ ?side1 ?side2 A4.out).mono ?_);(case side1=>exact (zz81 HR0));(case side2=>exact HC0.out);rintro e w6 ⟨rfl,hb⟩;replace HB:=A_ (bS (zz0 HB) hb);(try clear hb))|(refine boxF 8 #[.string (⟨#[]⟩:ByteArray),.string (⟨#[]⟩:ByteArray),.string (⟨#[]⟩:ByteArray),.int .i64 0] 57 ?_;intro gb247 hg w7 BK247 hb;have GE247:=geB hg (zz0 HB);replace HB:=A_ (bS (zz0 HB) hb);clear hb hg;obtain ⟨_,_,_,_,_,_,_,_⟩:=cf4 BK247)|((with_reducible refine gate_store (t:=57) (p:=8) rfl ?_);(try (rw [drewN_self w7];generalize hq_:World.drewN w7 _=w7;have HB:=A_ (below_at hq_ HB.out);clear hq_ BK247 HB;have BK247:=A_ (blk_at hq_ BK247.out)));refine store_event (t:=57) (p:=8) (v:=?vo_w9) (w1:=((((w7.setCell ⟨gb247,0,none⟩ (.string t242)).setCell ⟨gb247,1,none⟩ (.string t243)).setCell ⟨gb247,2,none⟩ (.string t244)).setCell ⟨gb247,3,none⟩ (.int .i64 t245))) ?hg ?ho ?hn ?hr ?_;(case ho=>rfl);(case hg=>rfl);(case hn=>rfl);(case hr=>exact zz6);intro w9 hw;have n0_:Aside0 (w9.heap[gb247]?=some (.cells #[.string t242,.string t243,.string t244,.int .i64 t245] 57 (0,0))):=⟨(by rw [hw];exact (zz38 BK247))⟩;have n1_:Aside0 (Below w.heap.size w w9):=⟨(by rw [hw];exact (zz2 HB GE247))⟩;clear hw;clear BK247;clear HB;have BK247:=n0_;have HB:=n1_;clear n0_ n1_));go_upto_if 16 with (first|(go_at_call 103;(with_reducible refine (spec_l11At.calls k _ _ l0 a1 t242 t243 t244 t245 t246 _ ?side1 ?side2 A4.out).mono ?_);(case side1=>exact (zz81 HR0));(case side2=>exact HC0.out);rintro e w6 ⟨rfl,hb⟩;replace HB:=A_ (bS (zz0 HB) hb);(try clear hb))|(refine boxF 8 #[.string (⟨#[]⟩:ByteArray),.string (⟨#[]⟩:ByteArray),.string (⟨#[]⟩:ByteArray),.int .i64 0] 57 ?_;intro gb247 hg w7 BK247 hb;have GE247:=geB hg (zz0 HB);replace HB:=A_ (bS (zz0 HB) hb);clear hb hg;obtain ⟨_,_,_,_,_,_,_,_⟩:=cf4 BK247)|((with_reducible refine gate_store (t:=57) (p:=8) rfl ?_);(try (rw [drewN_self w7];generalize hq_:World.drewN w7 _=w7;have HB:=A_ (below_at hq_ HB.out);clear hq_ BK247 HB;have BK247:=A_ (blk_at hq_ BK247.out)));refine store_event (t:=57) (p:=8) (v:=?vo_w9) (w1:=((((w7.setCell ⟨gb247,0,none⟩ (.string t242)).setCell ⟨gb247,1,none⟩ (.string t243)).setCell ⟨gb247,2,none⟩ (.string t244)).setCell ⟨gb247,3,none⟩ (.int .i64 t245))) ?hg ?ho ?hn ?hr ?_;(case ho=>rfl);(case hg=>rfl);(case hn=>rfl);(case hr=>exact zz6);intro w9 hw;have n0_:Aside0 (w9.heap[gb247]?=some (.cells #[.string t242,.string t243,.string t244,.int .i64 t245] 57 (0,0))):=⟨(by rw [hw];exact (zz38 BK247))⟩;have n1_:Aside0 (Below w.heap.size w w9):=⟨(by rw [hw];exact (zz2 HB GE247))⟩;clear hw;clear BK247;clear HB;have BK247:=n0_;have HB:=n1_;clear n0_ n1_)))
 obtain ⟨H⟩:=HF5;replace H:=iteB H;rcases H with ⟨rfl,H⟩|⟨rfl,H⟩
 ·replace H:=iteE H
  rcases H with ⟨c11,H⟩|⟨c11,H⟩
  ·have c11b0:=dT c11
   clear c11;(first|rw [c11b0]|(simp only [i64_w,i32_w];rw [c11b0])|skip)
   simp only [Option.some.injEq,Prod.mk.injEq] at H
   obtain ⟨rfl,rfl⟩:=H;obtain ⟨_,_,_,_,_,_,_,_⟩:=cf4 BK247;go_wp2
   repeat (go_quiet (fail);try go_wp2)
   go_ret2
   exact ⟨zz1,(zz2 HB GE247)⟩
  ·have c11b0:=dF c11
   clear c11;(first|rw [c11b0]|(simp only [i64_w,i32_w];rw [c11b0])|skip)
   replace H:=iteEq H;rcases H with ⟨c13b0,c13b1,H⟩|⟨c13b0,c13b1,c13,H⟩
   ·simp only [Option.some.injEq,Prod.mk.injEq] at H
    obtain ⟨rfl,rfl⟩:=H;obtain ⟨_,_,_,_,_,_,_,_⟩:=cf4 BK247;go_wp2
    repeat (go_quiet (fail);try go_wp2)
    go_ret2
    exact ⟨zz1,(zz2 HB GE247)⟩
   ·simp only [Option.some.injEq,Prod.mk.injEq] at H
    obtain ⟨rfl,rfl⟩:=H;obtain ⟨_,_,_,_,_,_,_,_⟩:=cf4 BK247;go_wp2
    repeat (go_quiet (fail);try go_wp2)
    go_ret2
    exact ⟨zz1,(zz2 HB GE247)⟩
 ·simp only [Option.some.injEq,Prod.mk.injEq] at H
  obtain ⟨rfl,rfl⟩:=H;go_wp2
  repeat (go_quiet (fail);try go_wp2)
  go_ret2
  exact ⟨zz1,(zz2 HB GE247)⟩
def spec_l11Last.f (k:Nat) (l0:List (S57)) (a1:ByteArray):Option (Int×ByteArray):=(spec_l11Get.f k l0 a1 2).bind fun bt248=>(some (bt248.1,bt248.2))
theorem spec_l11Last.calls (k:Nat) (A0:Option Addr) (c0:Nat) (l0:List (S57)) (a1:ByteArray) (r1:Int) (r2:ByteArray) (w:World) (hr0:Kd.C k57 w A0 l0.length l0) (hc0:l0.length≤c0) (h:spec_l11Last.f k l0 a1=some (r1,r2)) :
  Calls Tryz.prog 35 #[.slice A0 l0.length c0,.string a1] w fun e w'=>e=.returned (.tuple #[.int .i64 r1,.string r2])∧Below w.heap.size w w':=by
 have HR0:=A_ hr0;have HC0:=A_ hc0;clear hr0 hc0;have HB:=A_ (Below.refl w.heap.size w);unfold spec_l11Last.f at h
 have H:=h;clear h;replace H:=bindA H;obtain ⟨⟨t248,t249⟩,A3,H⟩:=H;try dsimp only at H
 simp only [Option.some.injEq,Prod.mk.injEq] at H
 obtain ⟨rfl,rfl⟩:=H;go_enter Tryz.func35,Tryz.ntmps35;go_wp2_with (first|(refine gR 73 (some 8) Tryz.func73 (spec_l11Get.calls k _ _ l0 a1 2 t248 t249 _ ?side1 ?side2 A3.out) ?_;(case side1=>exact (zz81 HR0));(case side2=>exact HC0.out);rintro w4 hb;replace HB:=A_ (bS (zz0 HB) hb);(try clear hb)))
 go_ret2
 exact ⟨zz1,(zz0 HB)⟩
end Go.Proofs.YtloijngehifbmaaGreatDoor.P
end
section
namespace Go.Proofs.YtloijngehifbmaaGreatDoor.P
open Go.RowKit Go.Proofs.YtloijngehifbmaaGreatDoorW.PrintWords Go.Proofs.YtloijngehifbmaaGreatDoorW.PrintLast Go.Proofs.YtloijngehifbmaaGreatDoorW.PrintMore
attribute [local go_sem] max2_int min2_int max_two min_two max_three min_three max_four min_four
set_option linter.unusedVariables false
set_option linter.unusedSimpArgs false
def spec_NoticeFor.f (k:Nat) (l0:List (S32)) (a1:ByteArray):Option (List ByteArray×(List (S93))×Int):=(spec_l2Of.f k l0 a1).bind fun bt267=>(if bt267.2.2.2=true then (some ((([a1]:List ByteArray)),bt267.2.1,bt267.2.2.1)) else ((spec_l2Of.f k l0 (⟨#[42]⟩:ByteArray)).bind fun bt279=>(some ((([a1]:List ByteArray)),bt279.2.1,bt279.2.2.1))))
set_option maxHeartbeats 8000000 in
set_option maxRecDepth 100000 in
theorem spec_NoticeFor.calls (k:Nat) (A0:Option Addr) (c0:Nat) (l0:List (S32)) (a1:ByteArray) (r1:List ByteArray) (r2:List (S93)) (r3:Int) (w:World) (hr0:Kd.C k32 w A0 l0.length l0) (hc0:l0.length≤c0) (h:spec_NoticeFor.f k l0 a1=some (r1,r2,r3)) :
  Calls Tryz.prog 74 #[.slice A0 l0.length c0,.string a1] w fun e w'=>∃ v0_ v1_:Value,e=.returned (.agg #[v0_,v1_,.int .i64 r3])∧Kd.R Kd.string 9 w' w.heap.size (fun _=>True) v0_ r1∧Kd.R k93 93 w' w.heap.size (fun _=>True) v1_ r2∧Below w.heap.size w w':=by
 have hu32:=Tryz.underlying32
 have HR0:=Aside0.mk hr0
 have HC0:=Aside0.mk hc0
 clear hr0 hc0
 have HB:=Aside0.mk (Below.refl w.heap.size w)
 have H:((spec_l2Of.f k l0 a1).bind fun bt267=>(if bt267.2.2.2=true then (some ((([a1]:List ByteArray)),bt267.2.1,bt267.2.2.1)) else ((spec_l2Of.f k l0 (⟨#[42]⟩:ByteArray)).bind fun bt279=>(some ((([a1]:List ByteArray)),bt279.2.1,bt279.2.2.1)))))=some (r1,r2,r3):=h
 clear h
 replace H:=Option.bind_eq_some_iff.mp H
 obtain ⟨⟨t267,t270,t273,t274⟩,A30,H⟩:=H
 replace H:(if t274=true then (some ((([a1]:List ByteArray)),t270,t273)) else ((spec_l2Of.f k l0 (⟨#[42]⟩:ByteArray)).bind fun bt279=>(some ((([a1]:List ByteArray)),bt279.2.1,bt279.2.2.1))))=some (r1,r2,r3):=H
 have A3:=Aside0.mk A30
 clear A30
 have HF4:=Aside0.mk H
 clear H
 go_enter Tryz.func74,Tryz.ntmps74
 go_upto_if 14 with (first|((with_reducible refine gate_dst (N:=4) rfl ?_);refine box_event ?hg (N:=4) ?hd (cs:=#[.slice none 0 0,.slice none 0 0,.int .i64 0]) (t:=32) ?hr ?_;(case hd=>rfl);(case hg=>rfl);(case hr=>first|(go_simp;done)|(go_simp;rfl));intro gb266 hg w5 hbox hb;have n0_:=Aside0.mk (below_step (by repeat (first|(with_reducible first|exact HB.out|apply below_alloc|apply pw_below_drewN|apply below_drew1)|exact HB.out)) hb);have n1_:=Aside0.mk (hbox);have n2_:=Aside0.mk ((by rw [hg];exact (below_size (by repeat (first|(with_reducible first|exact HB.out|apply below_alloc|apply pw_below_drewN|apply below_drew1)|exact HB.out))):w.heap.size≤gb266));have n3_:=Aside0.mk ((by rw [hg];exact (below_size (by repeat (first|(with_reducible first|exact HB.out|apply below_alloc|apply pw_below_drewN|apply below_drew1)|exact HB.out))):w.heap.size≤gb266));clear HB;have HB:=n0_;have BK266:=n1_;have GW266:=n2_;have GE266:=n3_;clear n0_ n1_ n2_ n3_;clear hb hbox hg)|((with_reducible refine gate_callee (f:=104) rfl ?_);refine goesL_ (some 10) rfl rfl Tryz.func104 (by kernel_rfl) rfl #[.slice A0 l0.length c0,.string a1] rfl (by (try simp only [List.map_toArray,List.map_cons,List.map_nil]);first|done|rfl|(simp only [List.length_drop,List.length_take];rfl)) ?_;(with_reducible refine (spec_l2Of.calls k _ _ l0 a1 t267 t270 t273 t274 _ ?side1 ?side2 A3.out).mono ?_);(case side1=>repeat (first|exact (Kd.C_below HR0.out HB.out)|(with_reducible refine Kd.C_alloc ?_ _)|(with_reducible refine Kd.C_drewN ?_ _)|(with_reducible refine Kd.C_drew ?_)));(case side2=>exact HC0.out);rintro e w6 ⟨v268,v271,rfl,ho0,ho1,hb⟩;refine ⟨_,rfl,?_⟩;have n0_:=Aside0.mk (Kd.R_lower ho0 (below_size (by repeat (first|(with_reducible first|exact HB.out|apply below_alloc|apply pw_below_drewN|apply below_drew1|refine below_set ?_ GE266.out)|exact HB.out))));have n1_:=Aside0.mk (Kd.R_lower ho1 (below_size (by repeat (first|(with_reducible first|exact HB.out|apply below_alloc|apply pw_below_drewN|apply below_drew1|refine below_set ?_ GE266.out)|exact HB.out))));have n2_:=Aside0.mk (blk_below (g:=gb266) (o:=.cells #[.slice none 0 0,.slice none 0 0,.int .i64 0] 32 (0,0)) (by (with_reducible repeat (first|refine blk_drewN ?_ _|refine blk_drew ?_|refine blk_alloc ?_ _));exact BK266.out) hb);have n3_:=Aside0.mk (below_step (by repeat (first|(with_reducible first|exact HB.out|apply below_alloc|apply pw_below_drewN|apply below_drew1|refine below_set ?_ GE266.out)|exact HB.out)) hb);clear BK266;clear HB;have HO269:=n0_;have HO272:=n1_;have BK266:=n2_;have HB:=n3_;clear n0_ n1_ n2_ n3_;(try clear hb);(try clear hb2);(try clear hk);(try clear hi);(try clear ho0);(try clear ho1))|((with_reducible refine gate_dst (N:=5) rfl ?_);refine box_event ?hg (N:=5) ?hd (cs:=#[.slice none 0 0,.slice none 0 0,.int .i64 0]) (t:=32) ?hr ?_;(case hd=>rfl);(case hg=>rfl);(case hr=>first|(go_simp;done)|(go_simp;rfl));intro gb275 hg w7 hbox hb;have n0_:=Aside0.mk (Kd.R_below (by (with_reducible repeat (first|apply Kd.R_alloc|apply Kd.R_drewN|apply Kd.R_drew));exact HO269.out) hb);have n1_:=Aside0.mk (Kd.R_below (by (with_reducible repeat (first|apply Kd.R_alloc|apply Kd.R_drewN|apply Kd.R_drew));exact HO272.out) hb);have n2_:=Aside0.mk (blk_below (g:=gb266) (o:=.cells #[.slice none 0 0,.slice none 0 0,.int .i64 0] 32 (0,0)) (by (with_reducible repeat (first|refine blk_drewN ?_ _|refine blk_drew ?_|refine blk_alloc ?_ _));exact BK266.out) hb);have n3_:=Aside0.mk (below_step (by repeat (first|(with_reducible first|exact HB.out|apply below_alloc|apply pw_below_drewN|apply below_drew1|refine below_set ?_ GE266.out)|exact HB.out)) hb);have n4_:=Aside0.mk (hbox);have n5_:=Aside0.mk ((by rw [hg];exact (below_size (by repeat (first|(with_reducible first|exact HB.out|apply below_alloc|apply pw_below_drewN|apply below_drew1|refine below_set ?_ GE266.out)|exact HB.out))):w.heap.size≤gb275));have n6_:=Aside0.mk ((by rw [hg];exact (below_size (by repeat (first|(with_reducible first|exact HB.out|apply below_alloc|apply pw_below_drewN|apply below_drew1|refine below_set ?_ GE266.out)|exact HB.out))):w.heap.size≤gb275));have n7_:=Aside0.mk ((by rw [hg];exact Nat.ne_of_lt (blk_lt (g:=gb266) (o:=.cells #[.slice none 0 0,.slice none 0 0,.int .i64 0] 32 (0,0)) (by (with_reducible repeat (first|refine blk_drewN ?_ _|refine blk_drew ?_|refine blk_alloc ?_ _));exact BK266.out)):gb266≠gb275));have n8_:=Aside0.mk ((by rw [hg];exact Nat.ne_of_gt (blk_lt (g:=gb266) (o:=.cells #[.slice none 0 0,.slice none 0 0,.int .i64 0] 32 (0,0)) (by (with_reducible repeat (first|refine blk_drewN ?_ _|refine blk_drew ?_|refine blk_alloc ?_ _));exact BK266.out)):gb275≠gb266));clear HO269;clear HO272;clear BK266;clear HB;have HO269:=n0_;have HO272:=n1_;have BK266:=n2_;have HB:=n3_;have BK275:=n4_;have GW275:=n5_;have GE275:=n6_;have NB266_275:=n7_;have NB275_266:=n8_;clear n0_ n1_ n2_ n3_ n4_ n5_ n6_ n7_ n8_;clear hb hbox hg;obtain ⟨Ao8,co8,eo8⟩:=Kd.R_slice HO269.out;subst eo8;have hnb9:=NB275_266.out;have hnc9:=NB266_275.out;have hcz10_0:w7.cell? ⟨gb275,0,none⟩=some (.slice none 0 0):=(blk_cell BK275.out 0).trans rfl;have hcz10_1:w7.cell? ⟨gb275,1,none⟩=some (.slice none 0 0):=(blk_cell BK275.out 1).trans rfl;have hcz10_2:w7.cell? ⟨gb275,2,none⟩=some (.int .i64 0):=(blk_cell BK275.out 2).trans rfl;have hfz10_0:=blk_frozen BK275.out 0;have hfz10_1:=blk_frozen BK275.out 1;have hfz10_2:=blk_frozen BK275.out 2;obtain ⟨Ao11,co11,eo11⟩:=Kd.R_slice HO272.out;subst eo11)|((with_reducible refine gate_store (t:=32) (p:=5) rfl ?_);refine store_event (t:=32) (p:=5) (v:=?vo_w12) (w1:=(((w7.setCell ⟨gb275,0,none⟩ (.slice Ao8 t267.length co8)).setCell ⟨gb275,1,none⟩ (.slice Ao11 t270.length co11)).setCell ⟨gb275,2,none⟩ (.int .i64 t273))) ?hg ?ho ?hn ?hr ?_;(case ho=>rfl);(case hg=>rfl);(case hn=>rfl);(case hr=>first|(go_simp;done)|(go_simp;rfl));intro w12 hw;have n0_:Aside0 (Kd.R Kd.string 9 w12 w.heap.size (fun _=>True) (.slice Ao8 t267.length co8) t267):=⟨(by rw [hw];exact (by (with_reducible repeat (first|apply Kd.R_alloc|apply Kd.R_drewN|apply Kd.R_drew));exact Kd.R_mono (Kd.R_far (p:=⟨gb275,2,none⟩) (Kd.R_far (p:=⟨gb275,1,none⟩) (Kd.R_far (p:=⟨gb275,0,none⟩) (Kd.R_types HO269.out BK275.out (by decide)) (fun _ hk=>hk.2) (.slice Ao8 t267.length co8)) (fun _ hk=>hk.2) (.slice Ao11 t270.length co11)) (fun _ hk=>hk.2) (.int .i64 t273)) (fun _ hk=>trivial)))⟩;have n1_:Aside0 (Kd.R k93 93 w12 w.heap.size (fun _=>True) (.slice Ao11 t270.length co11) t270):=⟨(by rw [hw];exact (by (with_reducible repeat (first|apply Kd.R_alloc|apply Kd.R_drewN|apply Kd.R_drew));exact Kd.R_mono (Kd.R_far (p:=⟨gb275,2,none⟩) (Kd.R_far (p:=⟨gb275,1,none⟩) (Kd.R_far (p:=⟨gb275,0,none⟩) (Kd.R_types HO272.out BK275.out (by decide)) (fun _ hk=>hk.2) (.slice Ao8 t267.length co8)) (fun _ hk=>hk.2) (.slice Ao11 t270.length co11)) (fun _ hk=>hk.2) (.int .i64 t273)) (fun _ hk=>trivial)))⟩;have n2_:Aside0 (w12.heap[gb266]?=some (.cells #[.slice none 0 0,.slice none 0 0,.int .i64 0] 32 (0,0))):=⟨(by rw [hw];exact (by (with_reducible repeat (first|refine blk_drewN ?_ _|refine blk_drew ?_|refine blk_alloc ?_ _));refine blk_far ?_ NB266_275.out _;(with_reducible repeat (first|refine blk_drewN ?_ _|refine blk_drew ?_|refine blk_alloc ?_ _));refine blk_far ?_ NB266_275.out _;(with_reducible repeat (first|refine blk_drewN ?_ _|refine blk_drew ?_|refine blk_alloc ?_ _));refine blk_far ?_ NB266_275.out _;(with_reducible repeat (first|refine blk_drewN ?_ _|refine blk_drew ?_|refine blk_alloc ?_ _));exact BK266.out))⟩;have n3_:Aside0 (w12.heap[gb275]?=some (.cells #[.slice Ao8 t267.length co8,.slice Ao11 t270.length co11,.int .i64 t273] 32 (0,0))):=⟨(by rw [hw];exact (by (with_reducible repeat (first|refine blk_drewN ?_ _|refine blk_drew ?_|refine blk_alloc ?_ _));refine blk_put (cs:=#[.slice Ao8 t267.length co8,.slice Ao11 t270.length co11,.int .i64 0]) ?_ 2 _ rfl;(with_reducible repeat (first|refine blk_drewN ?_ _|refine blk_drew ?_|refine blk_alloc ?_ _));refine blk_put (cs:=#[.slice Ao8 t267.length co8,.slice none 0 0,.int .i64 0]) ?_ 1 _ rfl;(with_reducible repeat (first|refine blk_drewN ?_ _|refine blk_drew ?_|refine blk_alloc ?_ _));refine blk_put (cs:=#[.slice none 0 0,.slice none 0 0,.int .i64 0]) ?_ 0 _ rfl;(with_reducible repeat (first|refine blk_drewN ?_ _|refine blk_drew ?_|refine blk_alloc ?_ _));exact BK275.out))⟩;have n4_:Aside0 (Below w.heap.size w w12):=⟨(by rw [hw];exact (by repeat (first|(with_reducible first|exact HB.out|apply below_alloc|apply pw_below_drewN|apply below_drew1|refine below_set ?_ GE266.out|refine below_set ?_ GE275.out)|exact HB.out)))⟩;clear hw;clear HO269;clear HO272;clear BK266;clear BK275;clear HB;have HO269:=n0_;have HO272:=n1_;have BK266:=n2_;have BK275:=n3_;have HB:=n4_;clear n0_ n1_ n2_ n3_ n4_))
 have H:=HF4.out
 clear HF4
 by_cases c13:t274=true
 ·subst c13
  have H1:(some ((([a1]:List ByteArray)),t270,t273))=some (r1,r2,r3):=by rw [if_pos rfl] at H;exact H
  clear H
  have H:=H1
  clear H1
  obtain ⟨y276,hy276⟩:∃ y_:List ByteArray,y_=(([a1]:List ByteArray)):=⟨_,rfl⟩
  replace H:(some (y276,t270,t273))=some (r1,r2,r3):=by first|(rw [hy276];with_reducible exact H)|(have H2_:=(Option.bind_some _ _).symm.trans H;rw [hy276];with_reducible exact H2_)|(have H2_:=(Option.bind_some _ _).symm.trans H;with_reducible exact H2_)|with_reducible exact H|(rw [hy276];exact H)|exact H
  have Ny276:=Aside0.mk hy276
  clear hy276
  simp only [Option.some.injEq,Prod.mk.injEq] at H
  obtain ⟨rfl,rfl,rfl⟩:=H
  go_wp2_with (first|((with_reducible refine gate_dst (N:=21) rfl ?_);refine Kd.R_lit Kd.string _ 9 ?hg (N:=21) ?hd (xs:=([a1]:List ByteArray)) (inner:=[.string a1]) (ok:=fun _=>True) (okp:=fun _=>True) ?hr ?hp (fun _ hk=>hk) trivial (Below.refl _ _) (Nat.le_refl _) (by simp) ?_;(case hd=>rfl);(case hg=>rfl);(case hr=>first|(go_simp;done)|(go_simp;rfl));(case hp=>exact (Reps.one (show Kd.M Kd.string _ _ _ a1 [.string a1] from rfl) (Reps.none _ _)));intro v277 w14 ho15 hb hg_ hnew_;clear hg_ hnew_;(first|rw [← Ny276.out] at ho15|(simp only [Int.reduceToNat] at ho15;rw [← Ny276.out] at ho15));have n0_:=Aside0.mk (Kd.R_elder' (by (with_reducible repeat (first|apply Kd.R_alloc|apply Kd.R_drewN|apply Kd.R_drew));exact HO269.out) (Kd.R_base ho15) hb);have n1_:=Aside0.mk (Kd.R_below (by (with_reducible repeat (first|apply Kd.R_alloc|apply Kd.R_drewN|apply Kd.R_drew));exact HO272.out) hb);have n2_:=Aside0.mk (Kd.R_lower (Kd.R_new' ho15 (Kd.R_lt (by (with_reducible repeat (first|apply Kd.R_alloc|apply Kd.R_drewN|apply Kd.R_drew));exact HO269.out))) (below_size (by repeat (first|(with_reducible first|exact HB.out|apply below_alloc|apply pw_below_drewN|apply below_drew1|refine below_set ?_ GE266.out|refine below_set ?_ GE275.out)|exact HB.out))));have n3_:=Aside0.mk (blk_below (g:=gb266) (o:=.cells #[.slice none 0 0,.slice none 0 0,.int .i64 0] 32 (0,0)) (by (with_reducible repeat (first|refine blk_drewN ?_ _|refine blk_drew ?_|refine blk_alloc ?_ _));exact BK266.out) hb);have n4_:=Aside0.mk (blk_below (g:=gb275) (o:=.cells #[.slice Ao8 t267.length co8,.slice Ao11 t270.length co11,.int .i64 t273] 32 (0,0)) (by (with_reducible repeat (first|refine blk_drewN ?_ _|refine blk_drew ?_|refine blk_alloc ?_ _));exact BK275.out) hb);have n5_:=Aside0.mk (below_step (by repeat (first|(with_reducible first|exact HB.out|apply below_alloc|apply pw_below_drewN|apply below_drew1|refine below_set ?_ GE266.out|refine below_set ?_ GE275.out)|exact HB.out)) hb);clear HO269;clear HO272;clear BK266;clear BK275;clear HB;have HO269:=n0_;have HO272:=n1_;have HO278:=n2_;have BK266:=n3_;have BK275:=n4_;have HB:=n5_;clear n0_ n1_ n2_ n3_ n4_ n5_;clear hb ho15;obtain ⟨Ao16,co16,eo16⟩:=Kd.R_slice HO278.out;subst eo16;have hnb17:=NB275_266.out;have hnc17:=NB266_275.out;have hcz18_0:w14.cell? ⟨gb275,0,none⟩=some (.slice Ao8 t267.length co8):=(blk_cell BK275.out 0).trans rfl;have hcz18_1:w14.cell? ⟨gb275,1,none⟩=some (.slice Ao11 t270.length co11):=(blk_cell BK275.out 1).trans rfl;have hcz18_2:w14.cell? ⟨gb275,2,none⟩=some (.int .i64 t273):=(blk_cell BK275.out 2).trans rfl;have hfz18_0:=blk_frozen BK275.out 0;have hfz18_1:=blk_frozen BK275.out 1;have hfz18_2:=blk_frozen BK275.out 2;have hcz19_0:w14.cell? ⟨gb266,0,none⟩=some (.slice none 0 0):=(blk_cell BK266.out 0).trans rfl;have hcz19_1:w14.cell? ⟨gb266,1,none⟩=some (.slice none 0 0):=(blk_cell BK266.out 1).trans rfl;have hcz19_2:w14.cell? ⟨gb266,2,none⟩=some (.int .i64 0):=(blk_cell BK266.out 2).trans rfl;have hfz19_0:=blk_frozen BK266.out 0;have hfz19_1:=blk_frozen BK266.out 1;have hfz19_2:=blk_frozen BK266.out 2))
  refine bodyPost_ret (results_cell_row rfl _ _ gb266 32 #[.slice Ao16 y276.length co16,.slice Ao11 t270.length co11,.int .i64 t273] (0,0) _ rfl (by (with_reducible repeat (first|refine blk_drewN ?_ _|refine blk_drew ?_|refine blk_alloc ?_ _));refine blk_put (cs:=#[.slice Ao16 y276.length co16,.slice Ao11 t270.length co11,.int .i64 0]) ?_ 2 _ rfl;(with_reducible repeat (first|refine blk_drewN ?_ _|refine blk_drew ?_|refine blk_alloc ?_ _));refine blk_put (cs:=#[.slice Ao16 y276.length co16,.slice none 0 0,.int .i64 0]) ?_ 1 _ rfl;(with_reducible repeat (first|refine blk_drewN ?_ _|refine blk_drew ?_|refine blk_alloc ?_ _));refine blk_put (cs:=#[.slice none 0 0,.slice none 0 0,.int .i64 0]) ?_ 0 _ rfl;(with_reducible repeat (first|refine blk_drewN ?_ _|refine blk_drew ?_|refine blk_alloc ?_ _));refine blk_far ?_ NB266_275.out _;(with_reducible repeat (first|refine blk_drewN ?_ _|refine blk_drew ?_|refine blk_alloc ?_ _));exact BK266.out) Tryz.underlying32 rfl (by kernel_rfl)) rfl ?_
  exact ⟨_,_,by first|rfl|(simp [errW_none,errW_some] <;> rfl)|(simp [*,errW_none,errW_some] <;> rfl),by (with_reducible repeat (first|apply Kd.R_alloc|apply Kd.R_drewN|apply Kd.R_drew));exact Kd.R_mono (Kd.R_far (p:=⟨gb266,2,none⟩) (Kd.R_far (p:=⟨gb266,1,none⟩) (Kd.R_far (p:=⟨gb266,0,none⟩) (Kd.R_far (p:=⟨gb275,0,none⟩) (Kd.R_types (Kd.R_types HO278.out BK275.out (by decide)) BK266.out (by decide)) (fun _ hk=>hk.1.2) (.slice Ao16 y276.length co16)) (fun _ hk=>hk.2) (.slice Ao16 y276.length co16)) (fun _ hk=>hk.2) (.slice Ao11 t270.length co11)) (fun _ hk=>hk.2) (.int .i64 t273)) (fun _ hk=>trivial),by (with_reducible repeat (first|apply Kd.R_alloc|apply Kd.R_drewN|apply Kd.R_drew));exact Kd.R_mono (Kd.R_far (p:=⟨gb266,2,none⟩) (Kd.R_far (p:=⟨gb266,1,none⟩) (Kd.R_far (p:=⟨gb266,0,none⟩) (Kd.R_far (p:=⟨gb275,0,none⟩) (Kd.R_types (Kd.R_types HO272.out BK275.out (by decide)) BK266.out (by decide)) (fun _ hk=>hk.1.2) (.slice Ao16 y276.length co16)) (fun _ hk=>hk.2) (.slice Ao16 y276.length co16)) (fun _ hk=>hk.2) (.slice Ao11 t270.length co11)) (fun _ hk=>hk.2) (.int .i64 t273)) (fun _ hk=>trivial),by repeat (first|(with_reducible first|exact HB.out|apply below_alloc|apply pw_below_drewN|apply below_drew1|refine below_set ?_ GE266.out|refine below_set ?_ GE275.out)|exact HB.out)⟩
 ·replace c13:=Bool.eq_false_iff.mpr c13
  subst c13
  have H1:((spec_l2Of.f k l0 (⟨#[42]⟩:ByteArray)).bind fun bt279=>(some ((([a1]:List ByteArray)),bt279.2.1,bt279.2.2.1)))=some (r1,r2,r3):=by rw [if_neg (show ¬ (false=true) by decide)] at H;exact H
  clear H
  have H:=H1
  clear H1
  replace H:=Option.bind_eq_some_iff.mp H
  obtain ⟨⟨t279,t282,t285,t286⟩,A200,H⟩:=H
  replace H:(some ((([a1]:List ByteArray)),t282,t285))=some (r1,r2,r3):=H
  have A20:=Aside0.mk A200
  clear A200
  obtain ⟨y287,hy287⟩:∃ y_:List ByteArray,y_=(([a1]:List ByteArray)):=⟨_,rfl⟩
  replace H:(some (y287,t282,t285))=some (r1,r2,r3):=by first|(rw [hy287];with_reducible exact H)|(have H2_:=(Option.bind_some _ _).symm.trans H;rw [hy287];with_reducible exact H2_)|(have H2_:=(Option.bind_some _ _).symm.trans H;with_reducible exact H2_)|with_reducible exact H|(rw [hy287];exact H)|exact H
  have Ny287:=Aside0.mk hy287
  clear hy287
  simp only [Option.some.injEq,Prod.mk.injEq] at H
  obtain ⟨rfl,rfl,rfl⟩:=H
  go_wp2_with (first|((with_reducible refine gate_callee (f:=104) rfl ?_);refine goesL_ (some 17) rfl rfl Tryz.func104 (by kernel_rfl) rfl #[.slice A0 l0.length c0,.string (⟨#[42]⟩:ByteArray)] rfl (by (try simp only [List.map_toArray,List.map_cons,List.map_nil]);first|done|rfl|(simp only [List.length_drop,List.length_take];rfl)) ?_;(with_reducible refine (spec_l2Of.calls k _ _ l0 (⟨#[42]⟩:ByteArray) t279 t282 t285 t286 _ ?side1 ?side2 A20.out).mono ?_);(case side1=>repeat (first|exact (Kd.C_below HR0.out HB.out)|(with_reducible refine Kd.C_alloc ?_ _)|(with_reducible refine Kd.C_drewN ?_ _)|(with_reducible refine Kd.C_drew ?_)));(case side2=>exact HC0.out);rintro e w21 ⟨v280,v283,rfl,ho0,ho1,hb⟩;refine ⟨_,rfl,?_⟩;have n0_:=Aside0.mk (Kd.R_elder' (by (with_reducible repeat (first|apply Kd.R_alloc|apply Kd.R_drewN|apply Kd.R_drew));exact HO269.out) (Kd.R_base ho0) hb);have n1_:=Aside0.mk (Kd.R_elder' (by (with_reducible repeat (first|apply Kd.R_alloc|apply Kd.R_drewN|apply Kd.R_drew));exact HO272.out) (Kd.R_base ho1) hb);have n2_:=Aside0.mk (Kd.R_lower (Kd.R_new' ho0 (Kd.R_lt (by (with_reducible repeat (first|apply Kd.R_alloc|apply Kd.R_drewN|apply Kd.R_drew));exact HO269.out))) (below_size (by repeat (first|(with_reducible first|exact HB.out|apply below_alloc|apply pw_below_drewN|apply below_drew1|refine below_set ?_ GE266.out|refine below_set ?_ GE275.out)|exact HB.out))));have n3_:=Aside0.mk (Kd.R_lower (Kd.R_new' ho1 (Kd.R_lt (by (with_reducible repeat (first|apply Kd.R_alloc|apply Kd.R_drewN|apply Kd.R_drew));exact HO272.out))) (below_size (by repeat (first|(with_reducible first|exact HB.out|apply below_alloc|apply pw_below_drewN|apply below_drew1|refine below_set ?_ GE266.out|refine below_set ?_ GE275.out)|exact HB.out))));have n4_:=Aside0.mk (blk_below (g:=gb266) (o:=.cells #[.slice none 0 0,.slice none 0 0,.int .i64 0] 32 (0,0)) (by (with_reducible repeat (first|refine blk_drewN ?_ _|refine blk_drew ?_|refine blk_alloc ?_ _));exact BK266.out) hb);have n5_:=Aside0.mk (blk_below (g:=gb275) (o:=.cells #[.slice Ao8 t267.length co8,.slice Ao11 t270.length co11,.int .i64 t273] 32 (0,0)) (by (with_reducible repeat (first|refine blk_drewN ?_ _|refine blk_drew ?_|refine blk_alloc ?_ _));exact BK275.out) hb);have n6_:=Aside0.mk (below_step (by repeat (first|(with_reducible first|exact HB.out|apply below_alloc|apply pw_below_drewN|apply below_drew1|refine below_set ?_ GE266.out|refine below_set ?_ GE275.out)|exact HB.out)) hb);clear HO269;clear HO272;clear BK266;clear BK275;clear HB;have HO269:=n0_;have HO272:=n1_;have HO281:=n2_;have HO284:=n3_;have BK266:=n4_;have BK275:=n5_;have HB:=n6_;clear n0_ n1_ n2_ n3_ n4_ n5_ n6_;(try clear hb);(try clear hb2);(try clear hk);(try clear hi);(try clear ho0);(try clear ho1);obtain ⟨Ao22,co22,eo22⟩:=Kd.R_slice HO281.out;subst eo22;have hnb23:=NB275_266.out;have hnc23:=NB266_275.out;have hcz24_0:w21.cell? ⟨gb275,0,none⟩=some (.slice Ao8 t267.length co8):=(blk_cell BK275.out 0).trans rfl;have hcz24_1:w21.cell? ⟨gb275,1,none⟩=some (.slice Ao11 t270.length co11):=(blk_cell BK275.out 1).trans rfl;have hcz24_2:w21.cell? ⟨gb275,2,none⟩=some (.int .i64 t273):=(blk_cell BK275.out 2).trans rfl;have hfz24_0:=blk_frozen BK275.out 0;have hfz24_1:=blk_frozen BK275.out 1;have hfz24_2:=blk_frozen BK275.out 2;obtain ⟨Ao25,co25,eo25⟩:=Kd.R_slice HO284.out;subst eo25)|((with_reducible refine gate_dst (N:=21) rfl ?_);refine Kd.R_lit Kd.string _ 9 ?hg (N:=21) ?hd (xs:=([a1]:List ByteArray)) (inner:=[.string a1]) (ok:=fun _=>True) (okp:=fun _=>True) ?hr ?hp (fun _ hk=>hk) trivial (Below.refl _ _) (Nat.le_refl _) (by simp) ?_;(case hd=>rfl);(case hg=>rfl);(case hr=>first|(go_simp;done)|(go_simp;rfl));(case hp=>exact (Reps.one (show Kd.M Kd.string _ _ _ a1 [.string a1] from rfl) (Reps.none _ _)));intro v288 w26 ho27 hb hg_ hnew_;clear hg_ hnew_;(first|rw [← Ny287.out] at ho27|(simp only [Int.reduceToNat] at ho27;rw [← Ny287.out] at ho27));have n0_:=Aside0.mk (Kd.R_elder' (by (with_reducible repeat (first|apply Kd.R_alloc|apply Kd.R_drewN|apply Kd.R_drew));exact (Kd.R_mono (Kd.R_far (p:=⟨gb275,2,none⟩) (Kd.R_far (p:=⟨gb275,1,none⟩) (Kd.R_far (p:=⟨gb275,0,none⟩) (Kd.R_types HO269.out BK275.out (by decide)) (fun _ hk=>hk.2) (.slice Ao22 t279.length co22)) (fun _ hk=>hk.2) (.slice Ao25 t282.length co25)) (fun _ hk=>hk.2) (.int .i64 t285)) (fun _ h_=>h_.1))) (Kd.R_base ho27) hb);have n1_:=Aside0.mk (Kd.R_below (by (with_reducible repeat (first|apply Kd.R_alloc|apply Kd.R_drewN|apply Kd.R_drew));exact (Kd.R_mono (Kd.R_far (p:=⟨gb275,2,none⟩) (Kd.R_far (p:=⟨gb275,1,none⟩) (Kd.R_far (p:=⟨gb275,0,none⟩) (Kd.R_types HO272.out BK275.out (by decide)) (fun _ hk=>hk.2) (.slice Ao22 t279.length co22)) (fun _ hk=>hk.2) (.slice Ao25 t282.length co25)) (fun _ hk=>hk.2) (.int .i64 t285)) (fun _ h_=>h_.1))) hb);have n2_:=Aside0.mk (Kd.R_elder' (by (with_reducible repeat (first|apply Kd.R_alloc|apply Kd.R_drewN|apply Kd.R_drew));exact (Kd.R_mono (Kd.R_far (p:=⟨gb275,2,none⟩) (Kd.R_far (p:=⟨gb275,1,none⟩) (Kd.R_far (p:=⟨gb275,0,none⟩) (Kd.R_types HO281.out BK275.out (by decide)) (fun _ hk=>hk.2) (.slice Ao22 t279.length co22)) (fun _ hk=>hk.2) (.slice Ao25 t282.length co25)) (fun _ hk=>hk.2) (.int .i64 t285)) (fun _ h_=>h_.1))) (Kd.R_base ho27) hb);have n3_:=Aside0.mk (Kd.R_below (by (with_reducible repeat (first|apply Kd.R_alloc|apply Kd.R_drewN|apply Kd.R_drew));exact (Kd.R_mono (Kd.R_far (p:=⟨gb275,2,none⟩) (Kd.R_far (p:=⟨gb275,1,none⟩) (Kd.R_far (p:=⟨gb275,0,none⟩) (Kd.R_types HO284.out BK275.out (by decide)) (fun _ hk=>hk.2) (.slice Ao22 t279.length co22)) (fun _ hk=>hk.2) (.slice Ao25 t282.length co25)) (fun _ hk=>hk.2) (.int .i64 t285)) (fun _ h_=>h_.1))) hb);have n4_:=Aside0.mk (Kd.R_lower (Kd.R_new' (Kd.R_new' ho27 (Kd.R_lt (by (with_reducible repeat (first|apply Kd.R_alloc|apply Kd.R_drewN|apply Kd.R_drew));exact (Kd.R_mono (Kd.R_far (p:=⟨gb275,2,none⟩) (Kd.R_far (p:=⟨gb275,1,none⟩) (Kd.R_far (p:=⟨gb275,0,none⟩) (Kd.R_types HO269.out BK275.out (by decide)) (fun _ hk=>hk.2) (.slice Ao22 t279.length co22)) (fun _ hk=>hk.2) (.slice Ao25 t282.length co25)) (fun _ hk=>hk.2) (.int .i64 t285)) (fun _ h_=>h_.1))))) (Kd.R_lt (by (with_reducible repeat (first|apply Kd.R_alloc|apply Kd.R_drewN|apply Kd.R_drew));exact (Kd.R_mono (Kd.R_far (p:=⟨gb275,2,none⟩) (Kd.R_far (p:=⟨gb275,1,none⟩) (Kd.R_far (p:=⟨gb275,0,none⟩) (Kd.R_types HO281.out BK275.out (by decide)) (fun _ hk=>hk.2) (.slice Ao22 t279.length co22)) (fun _ hk=>hk.2) (.slice Ao25 t282.length co25)) (fun _ hk=>hk.2) (.int .i64 t285)) (fun _ h_=>h_.1))))) (below_size (by repeat (first|(with_reducible first|exact HB.out|apply below_alloc|apply pw_below_drewN|apply below_drew1|refine below_set ?_ GE266.out|refine below_set ?_ GE275.out)|exact HB.out))));have n5_:=Aside0.mk (blk_below (g:=gb266) (o:=.cells #[.slice none 0 0,.slice none 0 0,.int .i64 0] 32 (0,0)) (by (with_reducible repeat (first|refine blk_drewN ?_ _|refine blk_drew ?_|refine blk_alloc ?_ _));refine blk_far ?_ NB266_275.out _;(with_reducible repeat (first|refine blk_drewN ?_ _|refine blk_drew ?_|refine blk_alloc ?_ _));refine blk_far ?_ NB266_275.out _;(with_reducible repeat (first|refine blk_drewN ?_ _|refine blk_drew ?_|refine blk_alloc ?_ _));refine blk_far ?_ NB266_275.out _;(with_reducible repeat (first|refine blk_drewN ?_ _|refine blk_drew ?_|refine blk_alloc ?_ _));exact BK266.out) hb);have n6_:=Aside0.mk (blk_below (g:=gb275) (o:=.cells #[.slice Ao22 t279.length co22,.slice Ao25 t282.length co25,.int .i64 t285] 32 (0,0)) (by (with_reducible repeat (first|refine blk_drewN ?_ _|refine blk_drew ?_|refine blk_alloc ?_ _));refine blk_put (cs:=#[.slice Ao22 t279.length co22,.slice Ao25 t282.length co25,.int .i64 t273]) ?_ 2 _ rfl;(with_reducible repeat (first|refine blk_drewN ?_ _|refine blk_drew ?_|refine blk_alloc ?_ _));refine blk_put (cs:=#[.slice Ao22 t279.length co22,.slice Ao11 t270.length co11,.int .i64 t273]) ?_ 1 _ rfl;(with_reducible repeat (first|refine blk_drewN ?_ _|refine blk_drew ?_|refine blk_alloc ?_ _));refine blk_put (cs:=#[.slice Ao8 t267.length co8,.slice Ao11 t270.length co11,.int .i64 t273]) ?_ 0 _ rfl;(with_reducible repeat (first|refine blk_drewN ?_ _|refine blk_drew ?_|refine blk_alloc ?_ _));exact BK275.out) hb);have n7_:=Aside0.mk (below_step (by repeat (first|(with_reducible first|exact HB.out|apply below_alloc|apply pw_below_drewN|apply below_drew1|refine below_set ?_ GE266.out|refine below_set ?_ GE275.out)|exact HB.out)) hb);clear HO269;clear HO272;clear HO281;clear HO284;clear BK266;clear BK275;clear HB;have HO269:=n0_;have HO272:=n1_;have HO281:=n2_;have HO284:=n3_;have HO289:=n4_;have BK266:=n5_;have BK275:=n6_;have HB:=n7_;clear n0_ n1_ n2_ n3_ n4_ n5_ n6_ n7_;clear hb ho27;obtain ⟨Ao28,co28,eo28⟩:=Kd.R_slice HO289.out;subst eo28;have hcz29_0:w26.cell? ⟨gb275,0,none⟩=some (.slice Ao22 t279.length co22):=(blk_cell BK275.out 0).trans rfl;have hcz29_1:w26.cell? ⟨gb275,1,none⟩=some (.slice Ao25 t282.length co25):=(blk_cell BK275.out 1).trans rfl;have hcz29_2:w26.cell? ⟨gb275,2,none⟩=some (.int .i64 t285):=(blk_cell BK275.out 2).trans rfl;have hfz29_0:=blk_frozen BK275.out 0;have hfz29_1:=blk_frozen BK275.out 1;have hfz29_2:=blk_frozen BK275.out 2;have hcz30_0:w26.cell? ⟨gb266,0,none⟩=some (.slice none 0 0):=(blk_cell BK266.out 0).trans rfl;have hcz30_1:w26.cell? ⟨gb266,1,none⟩=some (.slice none 0 0):=(blk_cell BK266.out 1).trans rfl;have hcz30_2:w26.cell? ⟨gb266,2,none⟩=some (.int .i64 0):=(blk_cell BK266.out 2).trans rfl;have hfz30_0:=blk_frozen BK266.out 0;have hfz30_1:=blk_frozen BK266.out 1;have hfz30_2:=blk_frozen BK266.out 2))
  refine bodyPost_ret (results_cell_row rfl _ _ gb266 32 #[.slice Ao28 y287.length co28,.slice Ao25 t282.length co25,.int .i64 t285] (0,0) _ rfl (by (with_reducible repeat (first|refine blk_drewN ?_ _|refine blk_drew ?_|refine blk_alloc ?_ _));refine blk_put (cs:=#[.slice Ao28 y287.length co28,.slice Ao25 t282.length co25,.int .i64 0]) ?_ 2 _ rfl;(with_reducible repeat (first|refine blk_drewN ?_ _|refine blk_drew ?_|refine blk_alloc ?_ _));refine blk_put (cs:=#[.slice Ao28 y287.length co28,.slice none 0 0,.int .i64 0]) ?_ 1 _ rfl;(with_reducible repeat (first|refine blk_drewN ?_ _|refine blk_drew ?_|refine blk_alloc ?_ _));refine blk_put (cs:=#[.slice none 0 0,.slice none 0 0,.int .i64 0]) ?_ 0 _ rfl;(with_reducible repeat (first|refine blk_drewN ?_ _|refine blk_drew ?_|refine blk_alloc ?_ _));refine blk_far ?_ NB266_275.out _;(with_reducible repeat (first|refine blk_drewN ?_ _|refine blk_drew ?_|refine blk_alloc ?_ _));exact BK266.out) Tryz.underlying32 rfl (by kernel_rfl)) rfl ?_
  exact ⟨_,_,by first|rfl|(simp [errW_none,errW_some] <;> rfl)|(simp [*,errW_none,errW_some] <;> rfl),by (with_reducible repeat (first|apply Kd.R_alloc|apply Kd.R_drewN|apply Kd.R_drew));exact Kd.R_mono (Kd.R_far (p:=⟨gb266,2,none⟩) (Kd.R_far (p:=⟨gb266,1,none⟩) (Kd.R_far (p:=⟨gb266,0,none⟩) (Kd.R_far (p:=⟨gb275,0,none⟩) (Kd.R_types (Kd.R_types HO289.out BK275.out (by decide)) BK266.out (by decide)) (fun _ hk=>hk.1.2) (.slice Ao28 y287.length co28)) (fun _ hk=>hk.2) (.slice Ao28 y287.length co28)) (fun _ hk=>hk.2) (.slice Ao25 t282.length co25)) (fun _ hk=>hk.2) (.int .i64 t285)) (fun _ hk=>trivial),by (with_reducible repeat (first|apply Kd.R_alloc|apply Kd.R_drewN|apply Kd.R_drew));exact Kd.R_mono (Kd.R_far (p:=⟨gb266,2,none⟩) (Kd.R_far (p:=⟨gb266,1,none⟩) (Kd.R_far (p:=⟨gb266,0,none⟩) (Kd.R_far (p:=⟨gb275,0,none⟩) (Kd.R_types (Kd.R_types HO284.out BK275.out (by decide)) BK266.out (by decide)) (fun _ hk=>hk.1.2) (.slice Ao28 y287.length co28)) (fun _ hk=>hk.2) (.slice Ao28 y287.length co28)) (fun _ hk=>hk.2) (.slice Ao25 t282.length co25)) (fun _ hk=>hk.2) (.int .i64 t285)) (fun _ hk=>trivial),by repeat (first|(with_reducible first|exact HB.out|apply below_alloc|apply pw_below_drewN|apply below_drew1|refine below_set ?_ GE266.out|refine below_set ?_ GE275.out)|exact HB.out)⟩
end Go.Proofs.YtloijngehifbmaaGreatDoor.P
end
section
namespace Go.Proofs.YtloijngehifbmaaGreatDoor.P
open Go.RowKit Go.Proofs.YtloijngehifbmaaGreatDoorW.PrintWords Go.Proofs.YtloijngehifbmaaGreatDoorW.PrintLast Go.Proofs.YtloijngehifbmaaGreatDoorW.PrintMore
attribute [local go_sem] max2_int min2_int max_two min_two max_three min_three max_four min_four
set_option linter.unusedVariables false
set_option linter.unusedSimpArgs false
set_option maxHeartbeats 8000000
set_option maxRecDepth 100000
def impl_isHouse.f (k:Nat) (a0:ByteArray):Option (Bool):=if (a0.size:Int) ≥ 1 then (if (a0.size:Int)≤5 then ((impl_allSmallLetters.f k a0).bind fun t453=>(some t453)) else (some false)) else (some false)
theorem impl_isHouse.mono:∀ a0 k,LeO (impl_isHouse.f k a0) (impl_isHouse.f (k+1) a0):=by
 intro a0 k;unfold impl_isHouse.f
 repeat' first|(with_reducible first|exact impl_allSmallLetters.mono _ _|exact LeO.refl _|exact LeO.none _|refine LeO.ite ?_ ?_|refine LeO.bind ?_ (fun _=>?_))|exact LeO.none _|refine LeO.ite ?_ ?_|refine LeO.bind ?_ (fun _=>?_)
theorem impl_isHouse.calls (k:Nat) (a0:ByteArray) (r:Bool) (w:World) (h:impl_isHouse.f k a0=some r) :
  Calls Tryz.prog 38 #[.string a0] w fun e w'=>e=.returned (.bool r)∧Drawn0 w w':=by
 unfold impl_isHouse.f at h
 have H:=h;clear h;replace H:=iteE H;rcases H with ⟨c2,H⟩|⟨c2,H⟩
 ·have c2b0:=geT c2
  have c2b1:decide (1≤a0.size)=true:=dT (by omega);clear c2;replace H:=iteE H;rcases H with ⟨c3,H⟩|⟨c3,H⟩
  ·have c3b0:=dT c3
   have c3b1:decide (a0.size≤5)=true:=dT (by omega);clear c3;replace H:=bindA H;obtain ⟨t453,A4,H⟩:=H;obtain rfl:=sI H;go_enter Tryz.func38,Tryz.ntmps38;go_wp2_with (first|(go_at_call 69;(with_reducible refine (impl_allSmallLetters.calls k a0 t453 _ A4.out).mono ?_);rintro e w' ⟨rfl,⟨nd,rfl⟩⟩))
   go_ret
   exact ⟨zz3,zz4⟩
  ·have c3b0:=dF c3
   have c3b1:decide (a0.size≤5)=false:=dF (by omega);clear c3;obtain rfl:=sI H;go_enter Tryz.func38,Tryz.ntmps38;go_wp2
   go_ret
   exact ⟨zz3,zz4⟩
 ·have c2b0:=geF c2
  have c2b1:decide (1≤a0.size)=false:=dF (by omega);clear c2;obtain rfl:=sI H;go_enter Tryz.func38,Tryz.ntmps38;go_wp2
  go_ret
  exact ⟨zz3,zz4⟩
def impl_isName.f (k:Nat) (a0:ByteArray):Option (Bool):=if (a0.size:Int) ≥ 1 then (if (a0.size:Int)≤8 then ((impl_allSmallLetters.f k a0).bind fun t424=>(some t424)) else (some false)) else (some false)
theorem impl_isName.calls (k:Nat) (a0:ByteArray) (r:Bool) (w:World) (h:impl_isName.f k a0=some r) :
  Calls Tryz.prog 30 #[.string a0] w fun e w'=>e=.returned (.bool r)∧Drawn0 w w':=by
 unfold impl_isName.f at h
 have H:=h;clear h;replace H:=iteE H;rcases H with ⟨c2,H⟩|⟨c2,H⟩
 ·have c2b0:=geT c2
  have c2b1:decide (1≤a0.size)=true:=dT (by omega);clear c2;replace H:=iteE H;rcases H with ⟨c3,H⟩|⟨c3,H⟩
  ·have c3b0:=dT c3
   have c3b1:decide (a0.size≤8)=true:=dT (by omega);clear c3;replace H:=bindA H;obtain ⟨t424,A4,H⟩:=H;obtain rfl:=sI H;go_enter Tryz.func30,Tryz.ntmps30;go_wp2_with (first|(go_at_call 69;(with_reducible refine (impl_allSmallLetters.calls k a0 t424 _ A4.out).mono ?_);rintro e w' ⟨rfl,⟨nd,rfl⟩⟩))
   go_ret
   exact ⟨zz3,zz4⟩
  ·have c3b0:=dF c3
   have c3b1:decide (a0.size≤8)=false:=dF (by omega);clear c3;obtain rfl:=sI H;go_enter Tryz.func30,Tryz.ntmps30;go_wp2
   go_ret
   exact ⟨zz3,zz4⟩
 ·have c2b0:=geF c2
  have c2b1:decide (1≤a0.size)=false:=dF (by omega);clear c2;obtain rfl:=sI H;go_enter Tryz.func30,Tryz.ntmps30;go_wp2
  go_ret
  exact ⟨zz3,zz4⟩
def impl_isGroupName.f (k:Nat) (a0:ByteArray):Option (Bool):=if a0.toList=([42]:List UInt8) then (some true) else ((impl_isName.f k a0).bind fun t578=>(some t578))
theorem impl_isGroupName.calls (k:Nat) (a0:ByteArray) (r:Bool) (w:World) (h:impl_isGroupName.f k a0=some r) :
  Calls Tryz.prog 86 #[.string a0] w fun e w'=>e=.returned (.bool r)∧Drawn0 w w':=by
 unfold impl_isGroupName.f at h
 have H:=h;clear h;replace H:=iteEq H;rcases H with ⟨c2b0,c2b1,H⟩|⟨c2b0,c2b1,c2,H⟩
 ·obtain rfl:=sI H
  go_enter Tryz.func86,Tryz.ntmps86;go_wp2
  go_ret
  exact ⟨zz3,zz4⟩
 ·replace H:=bindA H
  obtain ⟨t578,A3,H⟩:=H;obtain rfl:=sI H;go_enter Tryz.func86,Tryz.ntmps86;go_wp2_with (first|(go_at_call 30;(with_reducible refine (impl_isName.calls k a0 t578 _ A3.out).mono ?_);rintro e w' ⟨rfl,⟨nd,rfl⟩⟩))
  go_ret
  exact ⟨zz3,zz4⟩
end Go.Proofs.YtloijngehifbmaaGreatDoor.P
end
section
namespace Go.Proofs.YtloijngehifbmaaGreatDoor.P
open Go.RowKit Go.Proofs.YtloijngehifbmaaGreatDoorW.PrintWords Go.Proofs.YtloijngehifbmaaGreatDoorW.PrintLast Go.Proofs.YtloijngehifbmaaGreatDoorW.PrintMore
set_option linter.unusedVariables false
section
variable {P:Program} {ops:Array Oper} {Q:Exit→Act→World→Prop}
theorem callv_ {oi:Oper} {N:Option Tmp} {a:Act} {w:World} {K:Act→World→Prop} {f:FuncId} {fn:Func} {as1:Array Operand} {ts:Array TypeId} {cap:Array Value} (hf:P.funcs[f]?=some fn) (hname:(fn.name == "runtime.NumGoroutine")=false) (hb:fn.body.isSome=true) (args:Array Value)
  (hw:Region.wanted oi (yielded ops a.tmps)=true) (hN:oi.dst=N) (t:Operand) (hop:oi.op=.call { callee:=.value t,args:=as1,argTypes:=ts }) (hv:a.eval t=.func (.func f) #[] cap) (hargs:as1.map a.eval++cap=args)
  (h:Calls P f args w fun e w'=>∃ v,e=.returned v∧K (a.put N v) w'):if Region.wanted oi (yielded ops a.tmps)=true then Oper.wp P oi a w K Q else K (a.put N undef) w:=by
 refine call_ f args hw hN ?_ h
 have he:=enters_ hf hname hb args w
 unfold execOp
 simp [hop,resolve,hv,Deferred.ofValue,invoke,hargs,he]
end
theorem size_set (w:World) (p:Addr) (u:Value):(w.setCell p u).heap.size=w.heap.size:=by simp
end Go.Proofs.YtloijngehifbmaaGreatDoor.P
end
section
namespace Go.Proofs.YtloijngehifbmaaGreatDoor.P
open Go.RowKit Go.Proofs.YtloijngehifbmaaGreatDoorW.PrintWords Go.Proofs.YtloijngehifbmaaGreatDoorW.PrintLast Go.Proofs.YtloijngehifbmaaGreatDoorW.PrintMore
set_option linter.unusedVariables false
abbrev Gp:=S32
abbrev kGp:Kd Gp:=k32
def lastG (l:List Gp):Gp:=l.getD (l.length - 1) z32
def lineName (k:Nat) (x1 x2:ByteArray):Option Bool:=
  if x1.toList=([99,97,108,108,101,114]:List UInt8) then (if x2.toList=([42]:List UInt8) then some true else spec_l2Name.f k x2) else some false
def lineRule (k:Nat) (x1 x2:ByteArray) (m:Nat):Option Bool:=
  if x1.toList=([108,101,116]:List UInt8)∨x1.toList=([98,97,114]:List UInt8) then (spec_RuleOk.f k x2).bind fun b=>some (b && decide (m < 6)) else some false
def spec_l2Line.f (k:Nat) (l0:List Gp) (x1 x2:ByteArray) (x3:Bool):Option (List Gp×Bool):=
  if l0.length < 1000000 then
    (lineName k x1 x2).bind fun b=>if b=true then
      (if x3=true∨l0.length=0 then some (l0++[⟨[x2],[],0⟩],false)
       else if (lastG l0).f0.length < 1000000 then some (l0.set (l0.length - 1) ⟨(lastG l0).f0++[x2],(lastG l0).f1,(lastG l0).f2⟩,false) else none)
    else if l0.length=0 then some (l0,x3)
    else (lineRule k x1 x2 (lastG l0).f1.length).bind fun c=>if c=true then
      some (l0.set (l0.length - 1) ⟨(lastG l0).f0,(lastG l0).f1++[⟨x1.toList == ([108,101,116]:List UInt8),x2⟩],(lastG l0).f2⟩,true)
    else if x1.toList=([119,97,105,116]:List UInt8) then (spec_l2Num.f k x2 20).bind fun m=>some (l0.set (l0.length - 1) ⟨(lastG l0).f0,(lastG l0).f1,m⟩,true)
    else some (l0,x3)
  else none
theorem lineRule_lt {k m:Nat} {x1 x2:ByteArray} (h:lineRule k x1 x2 m=some true):m < 6:=by
  unfold lineRule at h
  split at h
  · obtain ⟨b,_,h2⟩:=Option.bind_eq_some_iff.mp h
    have:=Option.some.inj h2
    simp only [Bool.and_eq_true,decide_eq_true_eq] at this
    exact this.2
  · cases h
structure Lines (w0 w wc:World) (base:Nat) (ok:Nat→Prop) (u:Value) (l:List Gp):Prop where
  S:Kd.S kGp 32 wc base ok u l
  B:Below base w0 wc
  K:Kept w wc ok
  le:base≤wc.heap.size
theorem Lines.drewN {w0 w wc:World} {base:Nat} {ok:Nat→Prop} {u:Value} {l:List Gp} (h:Lines w0 w wc base ok u l) (m:Nat):Lines w0 w (wc.drewN m) base ok u l:=
  ⟨Kd.S_drewN h.S m,pw_below_drewN h.B m,h.K.drewN m,h.le⟩
theorem Lines.drawn {w0 w wc wd:World} {base:Nat} {ok:Nat→Prop} {u:Value} {l:List Gp} (h:Lines w0 w wc base ok u l) (hd:Drawn0 wc wd):Lines w0 w wd base ok u l:=by
  obtain ⟨m,rfl⟩:=hd
  exact h.drewN m
theorem Lines.below {w0 w wc wd:World} {base:Nat} {ok:Nat→Prop} {u:Value} {l:List Gp} (h:Lines w0 w wc base ok u l) (hb:Below wc.heap.size wc wd):Lines w0 w wd base ok u l:=
  ⟨Kd.S_below h.S hb,h.B.trans (hb.mono h.le),h.K.below hb,Nat.le_trans h.le hb.size⟩
theorem Lines.last {w0 w wc:World} {base:Nat} {ok:Nat→Prop} {u:Value} {l:List Gp} (h:Lines w0 w wc base ok u l) (hp:0 < l.length) :
    ∃ g cap v0 v1 oki,u=.slice (some ⟨g,0,none⟩) l.length cap∧Kd.string.R 9 wc base oki v0 (lastG l).f0∧k93.R 93 wc base oki v1 (lastG l).f1 ∧
      (wc.cell? ⟨g,(l.length - 1) * 3,none⟩=some v0∧wc.cell? ⟨g,(l.length - 1) * 3+1,none⟩=some v1∧wc.cell? ⟨g,(l.length - 1) * 3+2,none⟩=some (.int .i64 (lastG l).f2))∧(∀ j,wc.frozen? ⟨g,(l.length - 1) * 3+j,none⟩=false)∧(∀ k,oki k→ok k∧k≠g) ∧
      Kd.H kGp 32 wc base ok (.slice (some ⟨g,0,none⟩) l.length cap) l ((l.length - 1:Nat):Int) oki [v0,v1,.int .i64 (lastG l).f2]:=by
  obtain ⟨g,cap,rfl,_,_,_⟩:=Kd.S_form h.S hp
  obtain ⟨oki,c,hcl,hM,hcc,hfr,hoki,hH⟩:=Kd.S_elem h.S z32 ((l.length - 1:Nat):Int) (by omega) (by omega)
  obtain ⟨v0,v1,rfl,g0,g1⟩:=k32_openM hM
  have e:(((l.length - 1:Nat):Int)).toNat=l.length - 1:=by omega
  rw [e] at hcc hfr g0 g1
  exact ⟨g,cap,v0,v1,oki,rfl,g0,g1,⟨hcc 0 _ rfl,hcc 1 _ rfl,hcc 2 _ rfl⟩,hfr,hoki,hH⟩
theorem infoGp:(Tryz.prog.info? 32).map (fun i=>(i.zero,i.size,i.bytes))=some (some (.agg #[.slice none 0 0,.slice none 0 0,.int .i64 0]),3,56):=by kernel_rfl
theorem infoRu:(Tryz.prog.info? 93).map (fun i=>(i.zero,i.size,i.bytes))=some (some (.agg #[.bool false,.string ⟨#[]⟩]),2,24):=by kernel_rfl
theorem Lines.fresh {w0 w wc w3:World} {base:Nat} {ok:Nat→Prop} {u v0 v1:Value} {l:List Gp} {x:Gp} (h:Lines w0 w wc base ok u l) (hfr:∀ k,w.heap.size≤k→ok k)
    (hst:∀ k,k < wc.heap.size→w3.heap[k]?=wc.heap[k]?) (hle:wc.heap.size≤w3.heap.size)
    (r0:Kd.string.R 9 w3 base (fun _=>True) v0 x.f0) (r1:k93.R 93 w3 base (fun _=>True) v1 x.f1)
    (h0:∃ b,v0.ownBlock=some b∧wc.heap.size≤b) (h1:∃ b,v1.ownBlock=some b∧wc.heap.size≤b) :
    ∃ okp:Nat→Prop,kGp.M w3 base okp x [v0,v1,.int .i64 x.f2]∧(∀ k,okp k→ok k∧some k≠u.ownBlock)∧(∀ k,w3.heap.size≤k→ok k)∧Kd.S kGp 32 w3 base (fun k=>ok k∧¬ okp k) u l∧Kept w w3 ok:=by
  obtain ⟨b0,e0,z0⟩:=h0
  obtain ⟨b1,e1,z1⟩:=h1
  have hw:w.heap.size≤wc.heap.size:=h.K.1
  have hold:∀ k,some k=v0.ownBlock∨some k=v1.ownBlock→wc.heap.size≤k:=by
    rintro k (hk|hk)
    · rw [e0] at hk;injection hk with hk;omega
    · rw [e1] at hk;injection hk with hk;omega
  refine ⟨fun k=>some k=v0.ownBlock∨some k=v1.ownBlock,k32_mkM _ _ _ x (Kd.R_mono (Kd.R_tight rfl r0) (fun k hk=>.inl hk)) (Kd.R_mono (Kd.R_tight rfl r1) (fun k hk=>.inr hk)),fun k hk=>⟨hfr k (by have:=hold k hk;omega),fun he=>?_⟩,fun k hk=>hfr k (by omega),?_,?_⟩
  · have:=Kd.S_lt h.S k he.symm
    have:=hold k hk
    omega
  · refine Kd.S_step (Kd.S_mono (Kd.S_bound h.S) (fun k hk=>⟨hk.1,fun h2=>?_⟩)) (fun k _ hlt=>hst k hlt)
    have:=hold k h2
    have:=hk.2.2.1
    omega
  · exact h.K.then_ (S2:=fun _=>False) ⟨hle,fun i hi _=>hst i hi⟩ (fun _ hk=>hk.elim)
theorem infoStrs:(Tryz.prog.info? 29).map (·.size)=some 1:=by kernel_rfl
theorem infoRus:(Tryz.prog.info? 30).map (·.size)=some 1:=by kernel_rfl
theorem infoInt:(Tryz.prog.info? 3).map (·.size)=some 1:=by kernel_rfl
set_option maxHeartbeats 8000000 in
set_option maxRecDepth 100000 in
theorem spec_l2Line.calls (k:Nat) (base:Nat) (ok:Nat→Prop) (u:Value) (l0:List Gp) (x1 x2:ByteArray) (x3:Bool) (r:List Gp) (rb:Bool) (w0 w:World) (hl:Lines w0 w w base ok u l0) (hfr:∀ k,w.heap.size≤k→ok k) (h:spec_l2Line.f k l0 x1 x2 x3=some (r,rb)) :
    Calls Tryz.prog 106 #[u,.string x1,.string x2,.bool x3] w fun e w'=>∃ v',e=.returned (.tuple #[v',.bool rb])∧Lines w0 w w' base ok v' r:=by
  obtain ⟨A,cc,hu⟩:=Kd.S_slice hl.S
  subst hu
  unfold spec_l2Line.f at h
  split at h
  case isFalse=>cases h
  rename_i hbig
  obtain ⟨b,hb,h2⟩:=Option.bind_eq_some_iff.mp h
  clear h
  have HL:=Aside0.mk hl
  have HF:=Aside0.mk hfr
  have H2:=Aside0.mk h2
  have HN:=Aside0.mk hb
  have HG:=Aside0.mk hbig
  clear hl h2 hb hfr hbig
  go_enter Tryz.func106,Tryz.ntmps106
  go_upto_region 2 with (fail)
  go_cut [14] (fun v14 wc=>v14=.bool b∧Aside0 (Lines w0 w wc base ok (.slice A l0.length cc) l0))
  case first=>
    have hn:=HN.out
    unfold lineName at hn
    by_cases c1:x1.toList=([99,97,108,108,101,114]:List UInt8)
    · rw [if_pos c1] at hn
      have c1b0:(x1.toList == ([99,97,108,108,101,114]:List UInt8))=true:=beq_iff_eq.mpr c1
      clear c1
      by_cases c2:x2.toList=([42]:List UInt8)
      · rw [if_pos c2] at hn
        have c2b0:(x2.toList == ([42]:List UInt8))=true:=beq_iff_eq.mpr c2
        clear c2
        obtain rfl:=Option.some.inj hn
        clear hn
        go_wp2
        go_meet
        case rel=>exact ⟨rfl,HL⟩
      · rw [if_neg c2] at hn
        have c2b0:(x2.toList == ([42]:List UInt8))=false:=beq_eq_false_iff_ne.mpr c2
        clear c2
        have HN1:=Aside0.mk hn
        clear hn
        go_wp2_with (first|(go_at_call 26;(with_reducible refine (spec_l2Name.calls k x2 b _ HN1.out).mono ?_);rintro e w' ⟨rfl,⟨nd,rfl⟩⟩))
        go_meet
        case rel=>exact ⟨rfl,⟨HL.out.drewN _⟩⟩
    · rw [if_neg c1] at hn
      have c1b0:(x1.toList == ([99,97,108,108,101,114]:List UInt8))=false:=beq_eq_false_iff_ne.mpr c1
      clear c1
      obtain rfl:=Option.some.inj hn
      clear hn
      go_wp2
      go_meet
      case rel=>exact ⟨rfl,HL⟩
  case rest=>
    clear HN
    obtain ⟨rfl,HL1⟩:=hcut
    clear HL
    cases b with
    | true=>
      have h2:=H2.out
      rw [if_pos rfl] at h2
      clear H2
      by_cases c3:x3=true∨l0.length=0
      · rw [if_pos c3] at h2
        obtain ⟨rfl,rfl⟩:=Prod.mk.inj (Option.some.inj h2)
        clear h2
        have e10:l0.length=0→decide (wrap64 ((l0.length:Int) - 1) < 0)=true:=fun h=>decide_eq_true (by rw [h];unfold wrap64;omega)
        have c3':x3=true∨(x3=false∧l0.length=0):=by cases x3 <;> simp_all
        clear c3
        rcases c3' with rfl|⟨rfl,c4⟩
        case' inr=>replace e10:=e10 c4;clear c4
        case' inl=>clear e10
        all_goals
          go_wp2_with (first
            | ((with_reducible refine gate_dst (N:=32) rfl ?_);refine Kd.R_lit Kd.string base 9 ?hg (N:=32) ?hd (xs:=[x2]) (inner:=[.string x2]) (ok:=fun _=>True) (okp:=fun _=>False) ?hr ?hp (fun _ hk=>hk.elim) trivial HL1.out.B HL1.out.le (by simp) ?_;(case hd=>rfl);(case hg=>rfl);(case hr=>first|(go_simp;done)|(go_simp;rfl));(case hp=>exact Reps.one rfl (Reps.none _ _));intro v32 w32 ho32 hb32 hg32 hn32;obtain ⟨A32,c32,rfl⟩:=Kd.R_slice ho32;have HO32:=Aside0.mk ho32;have HB32:=Aside0.mk hb32;have HG32:=Aside0.mk hg32;have HN32:=Aside0.mk hn32;clear ho32 hb32 hg32 hn32)
            | ((with_reducible refine gate_dst (N:=33) rfl ?_);refine Kd.R_lit k93 base 93 ?hg (N:=33) ?hd (xs:=[]) (inner:=[]) (ok:=fun _=>True) (okp:=fun _=>False) ?hr ?hp (fun _ hk=>hk.elim) trivial HB32.out (Nat.le_trans HL1.out.le HG32.out.size) (by simp) ?_;(case hd=>rfl);(case hg=>rfl);(case hr=>first|(go_simp;done)|(go_simp;rfl));(case hp=>exact Reps.none _ _);intro v33 w33 ho33 hb33 hg33 hn33;obtain ⟨A33,c33,rfl⟩:=Kd.R_slice ho33;have HO33:=Aside0.mk ho33;have HB33:=Aside0.mk hb33;have HG33:=Aside0.mk hg33;have HN33:=Aside0.mk hn33;clear ho33 hb33 hg33 hn33)
            | ((with_reducible refine gate_builtin (b:=.append) (xs:=#[.tmp 30,.tmp 35]) rfl ?_);at_builtin
               obtain ⟨okp,hM,hokp,hnew,hS,hK⟩:=Lines.fresh (x:=⟨[x2],[],0⟩) HL1.out HF.out (fun k hk=>(HG33.out.block k (Nat.lt_of_lt_of_le hk HG32.out.size) (by simp)).trans (HG32.out.block k hk (by simp))) (Nat.le_trans HG32.out.size HG33.out.size) (Kd.R_grown HO32.out HG33.out (fun _ _=>by simp)) HO33.out HN32.out (by obtain ⟨b,e,hb⟩:=HN33.out;exact ⟨b,e,Nat.le_trans HG32.out.size hb⟩)
               refine Kd.S_append kGp (w0:=w0) base rfl (.tmp 30) (.tmp 35) 43 32 (.agg #[.slice none 0 0,.slice none 0 0,.int .i64 0]) 56 rfl Tryz.underlying43 infoGp rfl (by decide) (by omega) (.slice A l0.length cc) l0 ⟨[x2],[],0⟩ [.slice A32 [x2].length c32,.slice A33 [].length c33,.int .i64 0] ok okp rfl rfl hM hokp hnew hS HB33.out (Nat.le_trans HL1.out.le (Nat.le_trans HG32.out.size HG33.out.size)) (by have:=HG.out;omega) ?_
               intro v1 w1 hS1 hB1 hG1 hat
               have HS1:=Aside0.mk hS1
               have HB1:=Aside0.mk hB1
               have HG1:=Aside0.mk (Kept.of_grown hG1 hK (fun k hk=>.inl (Kd.S_R hS |>.1 k hk |>.1)))
               have HZ1:=Aside0.mk (Nat.le_trans (Nat.le_trans HL1.out.le (Nat.le_trans HG32.out.size HG33.out.size)) hG1.size)
               clear hM hokp hnew hS hK hS1 hB1 hG1 hat))
          go_ret2
          exact ⟨v1,rfl,HS1.out,HB1.out,HG1.out,HZ1.out⟩
      · rw [if_neg c3] at h2
        split at h2
        case isFalse=>cases h2
        rename_i hsm
        obtain ⟨rfl,rfl⟩:=Prod.mk.inj (Option.some.inj h2)
        clear h2
        have c4:l0.length≠0:=fun h=>c3 (.inr h)
        obtain rfl:x3=false:=by cases x3 <;> simp_all
        clear c3
        have hbig:=HG.out
        obtain ⟨g,cap,v0,v1,oki,eu,g0,g1,⟨hx0,hx1,hx2⟩,hff,hoki,hH⟩:=HL1.out.last (by omega)
        injection eu with eu1 eu2 eu3
        subst eu1
        subst eu3
        obtain ⟨A0,cc0,rfl⟩:=Kd.R_slice g0
        obtain ⟨j,hj⟩:∃ j,l0.length - 1=j:=⟨_,rfl⟩
        have ej:wrap64 ((l0.length:Int) - 1)=(j:Int):=by unfold wrap64;omega
        rw [hj] at hx0 hx1 hx2 hff hH
        rw [ej]
        have e10:decide ((j:Int) < 0)=false:=decide_eq_false (by omega)
        have p0:(0≤(j:Int))=True:=eq_true (by omega)
        have q0:((j:Int) < (l0.length:Int))=True:=eq_true (by omega)
        have hf0:=hff 0
        rw [Nat.add_zero] at hf0
        have G0:=Aside0.mk g0
        have G1:=Aside0.mk g1
        have HH:=Aside0.mk hH
        have HS2:=Aside0.mk hsm
        clear g0 g1 hH hsm
        go_wp2_with (first
          | ((with_reducible refine gate_builtin (b:=.append) (xs:=#[.tmp 43,.tmp 45]) rfl ?_);at_builtin
             refine Kd.R_append Kd.string (w0:=w0) base rfl (.tmp 43) (.tmp 45) 29 9 (.string ⟨#[]⟩) 16 rfl Tryz.underlying29 info9 rfl (by decide) (by omega) (.slice A0 (lastG l0).f0.length cc0) (lastG l0).f0 x2 [.string x2] (fun k=>oki k∨(ok k∧wc.heap.size≤k)) (fun _=>False) rfl rfl rfl (fun _ hk=>hk.elim) (fun k hk=>.inr ⟨HF.out k (Nat.le_trans HL1.out.K.1 hk),hk⟩) (Kd.R_mono G0.out (fun _ hk=>.inl hk)) HL1.out.B HL1.out.le (by have:=HS2.out;omega) ?_
             intro v3 w1 ho hb hg hat
             have H1:=Aside0.mk (Kd.H_grown (Kd.H_widen HH.out) hg (fun k e=>.inl (G0.out.1 k e)))
             have R1:=Aside0.mk (Kd.R_over' (v:=.slice A0 (lastG l0).f0.length cc0) G1.out (Kd.R_typed G0.out) (by decide) hg)
             have K1:=Aside0.mk (Kept.of_grown hg HL1.out.K (fun k hk=>.inl (hoki k (G0.out.1 k hk)).1))
             obtain ⟨A3,cc3,rfl⟩:=Kd.R_slice ho
             have en:((lastG l0).f0++[x2]).length=(lastG l0).f0.length+1:=by rw [List.length_append,List.length_singleton]
             rw [en] at ho
             have R0:=Aside0.mk ho
             have B1:=Aside0.mk hb
             have Z1:=Aside0.mk (Nat.le_trans HL1.out.le hg.size)
             clear ho hb hg hat hx0 hx1 hx2 hff hf0)
          | ((with_reducible refine gate_store (t:=29) (p:=48) rfl ?_)
             refine Kd.H_store kGp (w0:=w0) base rfl rfl 29 (.tmp 48) (.tmp 46) rfl 32 (j:Int) 0 l0 ⟨(lastG l0).f0++[x2],(lastG l0).f1,(lastG l0).f2⟩ (.slice A3 ((lastG l0).f0.length+1) cc3) [.slice A3 ((lastG l0).f0.length+1) cc3] [.slice A0 (lastG l0).f0.length cc0,v1,.int .i64 (lastG l0).f2] ok (fun k=>oki k∨(ok k∧wc.heap.size≤k)) (fun k=>oki k∨(ok k∧wc.heap.size≤k)) rfl (by rw [Int.toNat_natCast];rfl) rfl (Kd.R_val R0.out).1 infoStrs (by intro q hq;rw [List.mem_singleton.1 hq];exact (Kd.R_val R0.out).2) H1.out (by omega) (by omega) (show 0+1≤3 by decide) (k32_mkM _ _ _ _ R0.out (Kd.R_mono R1.out (fun _ hk=>.inl hk))) (fun _ hk=>hk) B1.out ?_
             intro w2 hS hB hg2
             have S2:=Aside0.mk hS
             have B2:=Aside0.mk hB
             have K2:=Aside0.mk (Kept.of_grown hg2 K1.out (fun k hk=>.inl (by injection hk with hk;subst hk;exact (Kd.S_R hS).1 _ rfl)))
             have Z2:=Aside0.mk (Nat.le_trans Z1.out hg2.size)
             clear hS hB hg2))
        go_ret2
        have e2:=S2.out
        rw [Int.toNat_natCast] at e2
        first|exact ⟨.slice (some ⟨g,0,none⟩) l0.length cc,rfl,e2,B2.out,K2.out,Z2.out⟩|(rw [← hj] at e2;exact ⟨.slice (some ⟨g,0,none⟩) l0.length cc,rfl,e2,B2.out,K2.out,Z2.out⟩)
    | false=>
      have h2:=H2.out
      rw [if_neg (by decide)] at h2
      clear H2
      by_cases c4:l0.length=0
      · rw [if_pos c4] at h2
        obtain ⟨rfl,rfl⟩:=Prod.mk.inj (Option.some.inj h2)
        clear h2
        have e10:decide (wrap64 ((l0.length:Int) - 1) < 0)=true:=decide_eq_true (by rw [c4];unfold wrap64;omega)
        clear c4
        go_wp2
        go_ret2
        exact ⟨_,rfl,HL1.out⟩
      · rw [if_neg c4] at h2
        obtain ⟨c,hc,h3⟩:=Option.bind_eq_some_iff.mp h2
        clear h2
        have hbig:=HG.out
        obtain ⟨g,cap,_,_,_,eu,_⟩:=HL1.out.last (by omega)
        injection eu with eu1 eu2 eu3
        subst eu1
        clear eu2 eu3
        obtain ⟨j,hj⟩:∃ j,l0.length - 1=j:=⟨_,rfl⟩
        have ej:wrap64 ((l0.length:Int) - 1)=(j:Int):=by unfold wrap64;omega
        rw [ej]
        have e10:decide ((j:Int) < 0)=false:=decide_eq_false (by omega)
        have p0:(0≤(j:Int))=True:=eq_true (by omega)
        have q0:((j:Int) < (l0.length:Int))=True:=eq_true (by omega)
        have HC:=Aside0.mk hc
        have H3:=Aside0.mk h3
        clear hc h3
        go_upto_region 9 with (fail)
        go_cut [55] (fun v55 wd2=>v55=.bool c∧Aside0 (Drawn0 wc wd2))
        case first=>
          have HQ:=HL1.out
          obtain ⟨g_,cap_,v0,v1,oki,eu,g0,g1,⟨hx0,hx1,hx2⟩,hff,hoki,hH⟩:=HQ.last (by omega)
          injection eu with eu1 eu2 eu3
          injection eu1 with eu1
          injection eu1 with eg _ _
          subst eg
          subst eu3
          obtain ⟨A0,cc0,rfl⟩:=Kd.R_slice g0
          obtain ⟨A1,cc1,rfl⟩:=Kd.R_slice g1
          rw [hj] at hx0 hx1 hx2 hff hH
          have hf1:=hff 1
          have hf2:=hff 2
          have G0:=Aside0.mk g0
          have G1:=Aside0.mk g1
          have HH:=Aside0.mk hH
          clear g0 g1 hH
          have hc:=HC.out
          unfold lineRule at hc
          have two:((x1.toList == ([108,101,116]:List UInt8))=true∨((x1.toList == ([108,101,116]:List UInt8))=false∧(x1.toList == ([98,97,114]:List UInt8))=true))∨((x1.toList == ([108,101,116]:List UInt8))=false∧(x1.toList == ([98,97,114]:List UInt8))=false):=by
            cases (x1.toList == ([108,101,116]:List UInt8)) <;> cases (x1.toList == ([98,97,114]:List UInt8)) <;> simp
          rcases two with two|⟨a1,a2⟩
          · rw [if_pos (by rcases two with two|⟨_,two⟩ <;> simp [beq_iff_eq.1 two])] at hc
            obtain ⟨bo,hbo,hc2⟩:=Option.bind_eq_some_iff.mp hc
            have hce:=Option.some.inj hc2
            have HB:=Aside0.mk hbo
            have HE:=Aside0.mk hce
            clear hc hbo hc2 hce HC
            rcases two with a1|⟨a1,a2⟩
            all_goals
              cases bo
              case false=>
                go_wp2_with (first|(go_at_call 123;(with_reducible refine (spec_RuleOk.calls k x2 false _ HB.out).mono ?_);rintro e w' ⟨rfl,⟨nd,rfl⟩⟩))
                go_meet
                case rel=>exact ⟨by rw [← HE.out];rfl,⟨⟨_,rfl⟩⟩⟩
              case true=>
                go_wp2_with (first|(go_at_call 123;(with_reducible refine (spec_RuleOk.calls k x2 true _ HB.out).mono ?_);rintro e w' ⟨rfl,⟨nd,rfl⟩⟩))
                go_meet
                case rel=>exact ⟨by rw [← HE.out,Bool.true_and];simp;omega,⟨⟨_,rfl⟩⟩⟩
          · rw [if_neg (by rintro (h|h) <;> simp [h] at a1 a2)] at hc
            obtain rfl:=Option.some.inj hc
            clear hc HC
            go_wp2
            go_meet
            case rel=>exact ⟨rfl,⟨Drawn0.refl _⟩⟩
        case rest=>
          obtain ⟨rfl,hd⟩:=hcut
          have HQ:=HL1.out.drawn hd.out
          clear hd
          obtain ⟨g_,cap_,v0,v1,oki,eu,g0,g1,⟨hx0,hx1,hx2⟩,hff,hoki,hH⟩:=HQ.last (by omega)
          injection eu with eu1 eu2 eu3
          injection eu1 with eu1
          injection eu1 with eg _ _
          subst eg
          subst eu3
          obtain ⟨A0,cc0,rfl⟩:=Kd.R_slice g0
          obtain ⟨A1,cc1,rfl⟩:=Kd.R_slice g1
          rw [hj] at hx0 hx1 hx2 hff hH
          have hf1:=hff 1
          have hf2:=hff 2
          have G0:=Aside0.mk g0
          have G1:=Aside0.mk g1
          have HH:=Aside0.mk hH
          clear g0 g1 hH
          have HW:=Aside0.mk HQ
          clear HL1 HQ
          have h3:=H3.out
          clear H3
          cases c with
          | true=>
            rw [if_pos rfl] at h3
            obtain ⟨rfl,rfl⟩:=Prod.mk.inj (Option.some.inj h3)
            clear h3
            have HS2:=Aside0.mk (lineRule_lt HC.out)
            clear HC
            go_wp2_with (first
              | ((with_reducible refine gate_builtin (b:=.append) (xs:=#[.tmp 81,.tmp 86]) rfl ?_);at_builtin
                 refine Kd.R_append k93 (w0:=w0) base rfl (.tmp 81) (.tmp 86) 30 93 (.agg #[.bool false,.string ⟨#[]⟩]) 24 rfl Tryz.underlying30 infoRu rfl (by decide) (by omega) (.slice A1 (lastG l0).f1.length cc1) (lastG l0).f1 ⟨x1.toList == ([108,101,116]:List UInt8),x2⟩ [.bool (x1.toList == ([108,101,116]:List UInt8)),.string x2] (fun k=>oki k∨(ok k∧wc.heap.size≤k)) (fun _=>False) rfl rfl (k93_mkM _ _ _ _) (fun _ hk=>hk.elim) (fun k hk=>.inr ⟨HF.out k (Nat.le_trans HW.out.K.1 hk),hk⟩) (Kd.R_mono G1.out (fun _ hk=>.inl hk)) HW.out.B HW.out.le (by have:=HS2.out;omega) ?_
                 intro v3 w1 ho hb hg hat
                 have H1:=Aside0.mk (Kd.H_grown (Kd.H_widen HH.out) hg (fun k e=>.inl (G1.out.1 k e)))
                 have R1:=Aside0.mk (Kd.R_over' (v:=.slice A1 (lastG l0).f1.length cc1) G0.out (Kd.R_typed G1.out) (by decide) hg)
                 have K1:=Aside0.mk (Kept.of_grown hg HW.out.K (fun k hk=>.inl (hoki k (G1.out.1 k hk)).1))
                 obtain ⟨A3,cc3,rfl⟩:=Kd.R_slice ho
                 have en:((lastG l0).f1++[(⟨x1.toList == ([108,101,116]:List UInt8),x2⟩:S93)]).length=(lastG l0).f1.length+1:=by rw [List.length_append,List.length_singleton]
                 rw [en] at ho
                 have R0:=Aside0.mk ho
                 have B1:=Aside0.mk hb
                 have Z1:=Aside0.mk (Nat.le_trans HW.out.le hg.size)
                 clear ho hb hg hat hx0 hx1 hx2 hff hf1 hf2)
              | ((with_reducible refine gate_store (t:=30) (p:=89) rfl ?_)
                 refine Kd.H_store kGp (w0:=w0) base rfl rfl 30 (.tmp 89) (.tmp 87) rfl 32 (j:Int) 1 l0 ⟨(lastG l0).f0,(lastG l0).f1++[⟨x1.toList == ([108,101,116]:List UInt8),x2⟩],(lastG l0).f2⟩ (.slice A3 ((lastG l0).f1.length+1) cc3) [.slice A3 ((lastG l0).f1.length+1) cc3] [.slice A0 (lastG l0).f0.length cc0,.slice A1 (lastG l0).f1.length cc1,.int .i64 (lastG l0).f2] ok (fun k=>oki k∨(ok k∧wc.heap.size≤k)) (fun k=>oki k∨(ok k∧wc.heap.size≤k)) rfl (by rw [Int.toNat_natCast];rfl) rfl (Kd.R_val R0.out).1 infoRus (by intro q hq;rw [List.mem_singleton.1 hq];exact (Kd.R_val R0.out).2) H1.out (by omega) (by omega) (show 1+1≤3 by decide) (k32_mkM _ _ _ ⟨(lastG l0).f0,(lastG l0).f1++[⟨x1.toList == ([108,101,116]:List UInt8),x2⟩],(lastG l0).f2⟩ (Kd.R_mono R1.out (fun _ hk=>.inl hk)) R0.out) (fun _ hk=>hk) B1.out ?_
                 intro w2 hS hB hg2
                 have S2:=Aside0.mk hS
                 have B2:=Aside0.mk hB
                 have K2:=Aside0.mk (Kept.of_grown hg2 K1.out (fun k hk=>.inl (by injection hk with hk;subst hk;exact (Kd.S_R hS).1 _ rfl)))
                 have Z2:=Aside0.mk (Nat.le_trans Z1.out hg2.size)
                 clear hS hB hg2))
            go_ret2
            have e2:=S2.out
            rw [Int.toNat_natCast] at e2
            first|exact ⟨.slice (some ⟨g,0,none⟩) l0.length cc,rfl,e2,B2.out,K2.out,Z2.out⟩|(rw [← hj] at e2;exact ⟨.slice (some ⟨g,0,none⟩) l0.length cc,rfl,e2,B2.out,K2.out,Z2.out⟩)
          | false=>
            rw [if_neg (by decide)] at h3
            clear HC
            by_cases c5:x1.toList=([119,97,105,116]:List UInt8)
            · rw [if_pos c5] at h3
              have c5b:(x1.toList == ([119,97,105,116]:List UInt8))=true:=beq_iff_eq.mpr c5
              clear c5
              obtain ⟨m,hm,h4⟩:=Option.bind_eq_some_iff.mp h3
              obtain ⟨rfl,rfl⟩:=Prod.mk.inj (Option.some.inj h4)
              have HM:=Aside0.mk hm
              clear h3 hm h4
              go_wp2_with (first
                | (go_at_call 138;(with_reducible refine (spec_l2Num.calls k x2 20 m _ HM.out).mono ?_);rintro e w5 ⟨rfl,hb5⟩
                   have HW5:=Aside0.mk (HW.out.below hb5)
                   have HH5:=Aside0.mk (Kd.H_below HH.out hb5)
                   have G05:=Aside0.mk (Kd.R_below G0.out hb5)
                   have G15:=Aside0.mk (Kd.R_below G1.out hb5)
                   clear hb5)
                | ((with_reducible refine gate_store (t:=3) (p:=99) rfl ?_)
                   refine Kd.H_store kGp (w0:=w0) base rfl rfl 3 (.tmp 99) (.tmp 97) rfl 32 (j:Int) 2 l0 ⟨(lastG l0).f0,(lastG l0).f1,m⟩ (.int .i64 m) [.int .i64 m] [.slice A0 (lastG l0).f0.length cc0,.slice A1 (lastG l0).f1.length cc1,.int .i64 (lastG l0).f2] ok oki oki rfl (by rw [Int.toNat_natCast];rfl) rfl rfl infoInt (by intro q hq;rw [List.mem_singleton.1 hq];rfl) HH5.out (by omega) (by omega) (show 2+1≤3 by decide) (k32_mkM _ _ _ ⟨(lastG l0).f0,(lastG l0).f1,m⟩ G05.out G15.out) (fun _ hk=>hk) HW5.out.B ?_
                   intro w2 hS hB hg2
                   have S2:=Aside0.mk hS
                   have B2:=Aside0.mk hB
                   have K2:=Aside0.mk (Kept.of_grown hg2 HW5.out.K (fun k hk=>.inl (by injection hk with hk;subst hk;exact (Kd.S_R hS).1 _ rfl)))
                   have Z2:=Aside0.mk (Nat.le_trans HW5.out.le hg2.size)
                   clear hS hB hg2))
              go_ret2
              have e2:=S2.out
              rw [Int.toNat_natCast] at e2
              first|exact ⟨.slice (some ⟨g,0,none⟩) l0.length cc,rfl,e2,B2.out,K2.out,Z2.out⟩|(rw [← hj] at e2;exact ⟨.slice (some ⟨g,0,none⟩) l0.length cc,rfl,e2,B2.out,K2.out,Z2.out⟩)
            · rw [if_neg c5] at h3
              have c5b:(x1.toList == ([119,97,105,116]:List UInt8))=false:=beq_eq_false_iff_ne.mpr c5
              clear c5
              obtain ⟨rfl,rfl⟩:=Prod.mk.inj (Option.some.inj h3)
              clear h3
              go_wp2
              go_ret2
              exact ⟨_,rfl,HW.out⟩
def sLoop (k:Nat):List ByteArray→List Gp→Bool→Option (List Gp)
  | [],gs,_=>some gs
  | s :: r,gs,b=>(spec_l1Cut.f k s 32).bind fun t=>(spec_l2Line.f k gs t.1 t.2.1 b).bind fun q=>sLoop k r q.1 q.2
def spec_NoticeRead.f (k:Nat) (a0:ByteArray):Option (List Gp):=(spec_l1Split.f k a0 10).bind fun ls=>if ls.length≤1000000000 then sLoop k (ls.take 40) [] false else none
theorem nxt (i:Nat) (h:i < 1000000000):(Value.int .i64 (wrap64 ((i:Int)+1)))=.int .i64 ((i+1:Nat):Int):=by
  congr 1
  show wrap64 _=_
  unfold wrap64
  omega
theorem lines_none (w w1:World) (v:Value) (h:kGp.R 32 w1 w.heap.size (fun _=>True) v []):Kd.S kGp 32 w1 w.heap.size (fun _=>True) v []:=by
  obtain ⟨h0,inner,ho,hr⟩:=h
  exact ⟨fun _=>0,h0,inner,ho,by have:=hr.1;simpa using this,fun j p hj=>by simp at hj⟩
theorem string_at {W:World} {base:Nat} {ok:Nat→Prop} {v:Value} {xs:List ByteArray} (h:Kd.string.R 9 W base ok v xs) {i:Nat} (hi:i < xs.length) :
    ∃ g cap,v=.slice (some ⟨g,0,none⟩) xs.length cap∧base≤g∧g < W.heap.size∧W.cell? ⟨g,i,none⟩=some (.string xs[i]):=by
  obtain ⟨g,cap,rfl,hb,hl,_⟩:=Kd.R_form h (by omega)
  obtain ⟨c,hcl,hM,hcc,_⟩:=Kd.R_elem h (ByteArray.empty) (i:Int) (by omega) (by omega)
  have e:(i:Int).toNat=i:=by omega
  rw [e] at hM hcc
  have hc:c=[.string xs[i]]:=by
    have:c=[.string (xs.getD i ByteArray.empty)]:=hM
    rw [this,List.getD_eq_getElem?_getD,List.getElem?_eq_getElem hi];rfl
  subst hc
  refine ⟨g,cap,rfl,hb,hl,?_⟩
  have:=hcc 0 _ rfl
  rwa [Nat.add_zero,show Kd.string.sz=1 from rfl,Nat.mul_one] at this
set_option maxHeartbeats 8000000 in
set_option maxRecDepth 100000 in
theorem spec_NoticeRead.calls (k:Nat) (a0:ByteArray) (r:List Gp) (w:World) (h:spec_NoticeRead.f k a0=some r) :
    Calls Tryz.prog 75 #[.string a0] w fun e w'=>∃ v0_:Value,e=.returned (v0_)∧Kd.S kGp 32 w' w.heap.size (fun _=>True) v0_ r∧Below w.heap.size w w':=by
  unfold spec_NoticeRead.f at h
  obtain ⟨ls,hls,h2⟩:=Option.bind_eq_some_iff.mp h
  split at h2
  case isFalse=>cases h2
  rename_i hbig
  have HS:=Aside0.mk hls
  have H0:=Aside0.mk h2
  clear h hls h2
  go_enter Tryz.func75,Tryz.ntmps75
  go_wp2_with (first
    | ((with_reducible refine gate_dst (N:=10) rfl ?_);refine Kd.R_lit kGp w.heap.size 32 ?hg (N:=10) ?hd (xs:=[]) (inner:=[]) (ok:=fun _=>True) (okp:=fun _=>False) ?hr ?hp (fun _ hk=>hk.elim) trivial (Below.refl _ _) (Nat.le_refl _) (by simp) ?_;(case hd=>rfl);(case hg=>rfl);(case hr=>first|(go_simp;done)|(go_simp;rfl));(case hp=>exact Reps.none _ _);intro v10 w10 ho hb hg hn;obtain ⟨A10,c10,rfl⟩:=Kd.R_slice ho;have HL:=Aside0.mk (show Lines w w w10 w.heap.size (fun _=>True) (.slice A10 0 c10) [] from ⟨lines_none _ _ _ ho,hb,⟨hg.size,fun i _ hn=>absurd trivial hn⟩,hg.size⟩);clear ho hb hg hn)
    | (go_at_call 105;(with_reducible refine (spec_l1Split.calls k a0 10 ls _ HS.out).mono ?_);rintro e w12 ⟨v12,rfl,ho12,hb12⟩;obtain ⟨A12,c12,rfl⟩:=Kd.R_slice ho12;have HL2:=Aside0.mk (HL.out.below hb12);have HO:=Aside0.mk ho12;have HZ:=Aside0.mk hb12.size;have HB12:=Aside0.mk hb12;clear ho12 hb12))
  have e40:(ls.take 40).length=min 40 ls.length:=List.length_take
  have HO1:=Aside0.mk (Kd.R_tight rfl HO.out)
  have HL3:=Aside0.mk (show Lines w w w12 w.heap.size (fun k=>some k≠(Value.slice A12 ls.length c12).ownBlock) (.slice A10 0 c10) [] from
    ⟨Kd.S_below (Kd.S_mono (Kd.S_bound HL.out.S) (fun k hk he=>by have:=Kd.R_base HO.out k he.symm;have:=hk.2.2.1;omega)) HB12.out,HL2.out.B,Kept.of_below HL2.out.B _,HL2.out.le⟩)
  clear HL HL2 HO HZ HB12 HS
  go_loopg [3,4,6] (ls.take 40).length (fun g v3 v4 v6 wx=>∃ (i:Nat) (gs:List Gp) (b:Bool),v4=.bool b∧v6=.int .i64 i∧i+g=(ls.take 40).length∧Aside0 (sLoop k ((ls.take 40).drop i) gs b=some r)∧Aside0 (Lines w w wx w.heap.size (fun k=>some k≠(Value.slice A12 ls.length c12).ownBlock) v3 gs)∧Aside0 (Kd.string.R 9 wx w10.heap.size (fun k=>some k=(Value.slice A12 ls.length c12).ownBlock) (.slice A12 ls.length c12) ls))
  case atStart=>exact ⟨0,[],false,rfl,rfl,by omega,⟨by simpa using H0.out⟩,HL3,HO1⟩
  case round=>
    clear H0 HL3 HO1
    obtain ⟨i,gs,b,rfl,rfl,hig,H,HL,HO⟩:=hrel
    have hS:=Kd.S_slice HL.out.S
    obtain ⟨A3,c3,e3⟩:=hS
    subst e3
    cases gk with
    | zero=>
      have hr:gs=r:=by
        have:=H.out
        rw [List.drop_of_length_le (by omega)] at this
        exact Option.some.inj this
      subst hr
      by_cases c1:i < ls.length
      · have c1b:decide ((i:Int) < (ls.length:Int))=true:=decide_eq_true (by omega)
        have c1n:decide (i < ls.length)=true:=decide_eq_true (by omega)
        have c2b:decide ((i:Int) < 40)=false:=decide_eq_false (by omega)
        have c2n:decide (i < 40)=false:=decide_eq_false (by omega)
        clear c1
        go_wp2
        go_ret
        exact ⟨_,rfl,Kd.S_mono HL.out.S (fun _ _=>trivial),HL.out.B⟩
      · have c1b:decide ((i:Int) < (ls.length:Int))=false:=decide_eq_false (by omega)
        have c1n:decide (i < ls.length)=false:=decide_eq_false (by omega)
        clear c1
        go_wp2
        go_ret
        exact ⟨_,rfl,Kd.S_mono HL.out.S (fun _ _=>trivial),HL.out.B⟩
    | succ g1=>
      have hi:i < ls.length:=by omega
      have c1b:decide ((i:Int) < (ls.length:Int))=true:=decide_eq_true (by omega)
      have c1n:decide (i < ls.length)=true:=decide_eq_true (by omega)
      have c2b:decide ((i:Int) < 40)=true:=decide_eq_true (by omega)
      have c2n:decide (i < 40)=true:=decide_eq_true (by omega)
      obtain ⟨gl,cl,eu,hb0,hb1,hx0⟩:=string_at HO.out hi
      injection eu with eu1 eu2 eu3
      subst eu1
      subst eu3
      have p0:(0≤(i:Int))=True:=eq_true (by omega)
      have q0:((i:Int) < (ls.length:Int))=True:=eq_true (by omega)
      have h1:=H.out
      rw [List.drop_eq_getElem_cons (by omega:i < (ls.take 40).length),List.getElem_take] at h1
      unfold sLoop at h1
      obtain ⟨⟨t1,t2,t3⟩,A1,h2⟩:=Option.bind_eq_some_iff.mp h1
      obtain ⟨⟨gs2,b2⟩,A2,h3⟩:=Option.bind_eq_some_iff.mp h2
      have HA1:=Aside0.mk A1
      have HA2:=Aside0.mk A2
      have H':=Aside0.mk h3
      generalize ls[i]=s at hx0 HA1
      clear H h1 h2 h3 A1 A2
      have q1:(i < ls.length)=True:=eq_true (by omega)
      go_wp2_with (first
        | (go_at_call 62;(with_reducible refine (spec_l1Cut.calls k s 32 t1 t2 t3 _ HA1.out).mono ?_);rintro e w' ⟨rfl,⟨nd,rfl⟩⟩)
        | (go_at_call 106
           have HQ:=Aside0.mk (HL.out.drewN nd)
           have HP:=Aside0.mk (Kd.R_drewN HO.out nd)
           (with_reducible refine (spec_l2Line.calls k w.heap.size (fun k=>some k≠(Value.slice (some ⟨gl,0,none⟩) ls.length c12).ownBlock) (.slice A3 gs.length c3) gs t1 t2 b gs2 b2 w _ ⟨HQ.out.S,HQ.out.B,Kept.refl _ _,HQ.out.le⟩ (fun k hk he=>by have:=Kd.R_lt HP.out k he.symm;omega) HA2.out).mono ?_)
           rintro e w5 ⟨v5,rfl,h5⟩
           have H5:=Aside0.mk h5
           have HK5:=Aside0.mk (HQ.out.K.then_ h5.K (fun k hk=>.inl hk))
           have HO5:=Aside0.mk (Kd.R_step HP.out (fun k hk hlt=>h5.K.2 k hlt (fun h=>h hk)))
           clear h5))
      go_roundg g1
      case measure=>omega
      case rel=>exact ⟨i+1,gs2,b2,rfl,by first|rw [nxt i (by omega)]|simp,by omega,H',⟨⟨H5.out.S,H5.out.B,HK5.out,H5.out.le⟩⟩,HO5⟩
def strings_explode.f (a0:ByteArray) (a1:Int):Option (List ByteArray):=none
theorem strings_explode.calls (a0:ByteArray) (a1:Int) (r:List ByteArray) (w:World) (h:strings_explode.f a0 a1=some r) :
  Calls Tryz.prog 112 #[.string a0,.int .i64 a1] w fun e w'=>∃ v0_:Value,e=.returned (v0_)∧Kd.R Kd.string 9 w' w.heap.size (fun _=>True) v0_ r∧Below w.heap.size w w':=by
 cases h
end Go.Proofs.YtloijngehifbmaaGreatDoor.P
end
section
namespace Go.Proofs.YtloijngehifbmaaGreatDoor.P
open Go.RowKit Go.Proofs.YtloijngehifbmaaGreatDoorW.PrintWords Go.Proofs.YtloijngehifbmaaGreatDoorW.PrintLast Go.Proofs.YtloijngehifbmaaGreatDoorW.PrintMore
attribute [local go_sem] max2_int min2_int max_two min_two max_three min_three max_four min_four
set_option linter.unusedVariables false
set_option linter.unusedSimpArgs false
set_option maxHeartbeats 8000000
set_option maxRecDepth 100000
mutual
def spec_AddrOk.j0:Nat→Bool→ByteArray→List ByteArray→Bool→ByteArray→Option (Bool)
 | 0,_,_,_,_,_=>none
 | k+1,x29,x144000,x144001,x144002,x144003=>if x29=true then (some false) else (spec_AddrOk.l0 k 0 x144000 x144001 x144002 x144003)
def spec_AddrOk.l0:Nat→Int→ByteArray→List ByteArray→Bool→ByteArray→Option (Bool)
 | 0,_,_,_,_,_=>none
 | k+1,x3,x144000,x144001,x144002,x144003=>if x3 < (x144001.length:Int) then (if 0≤x3 then ((spec_l1Norm.f k (rdOf ByteArray.empty x144001 x3)).bind fun t147=>(if t147=true then (if (rdOf ByteArray.empty x144001 x3).toList=([]:List UInt8) then (some false) else (if (rdOf ByteArray.empty x144001 x3).toList=([46]:List UInt8) then (some false) else (if (rdOf ByteArray.empty x144001 x3).toList=([46,46]:List UInt8) then (some false) else (spec_AddrOk.l0 k (wrap64 (x3+1)) x144000 x144001 x144002 x144003)))) else (some false))) else (none)) else ((spec_l1Text.f k x144000 x144001 x144002 x144003).bind fun t151=>(some (decide ((t151.size:Int)≤60))))
end
def spec_AddrOk.f (k:Nat) (a0_0:ByteArray) (l0_1:List ByteArray) (a0_2:Bool) (a0_3:ByteArray):Option (Bool):=(spec_l1House.f k a0_0).bind fun t144=>(if t144=true then (if (l0_1.length:Int) > 5 then (spec_AddrOk.j0 k true a0_0 l0_1 a0_2 a0_3) else ((spec_l1Norm.f k a0_3).bind fun t145=>(if t145=true then (if a0_2=true then (spec_AddrOk.j0 k false a0_0 l0_1 a0_2 a0_3) else (spec_AddrOk.j0 k (a0_3.toList != ([]:List UInt8)) a0_0 l0_1 a0_2 a0_3)) else (spec_AddrOk.j0 k true a0_0 l0_1 a0_2 a0_3)))) else (spec_AddrOk.j0 k true a0_0 l0_1 a0_2 a0_3))
theorem spec_AddrOk.mono_l:∀ k,(∀ y0 y1 y2 y3 y4,LeO (spec_AddrOk.j0 k y0 y1 y2 y3 y4) (spec_AddrOk.j0 (k+1) y0 y1 y2 y3 y4))∧(∀ y0 y1 y2 y3 y4,LeO (spec_AddrOk.l0 k y0 y1 y2 y3 y4) (spec_AddrOk.l0 (k+1) y0 y1 y2 y3 y4))
 | 0=>by refine ⟨?_,?_⟩ <;> (intros;intro r h;simp [spec_AddrOk.j0,spec_AddrOk.l0] at h)
 | k+1=>by
  obtain ⟨ih0,ih1⟩:=spec_AddrOk.mono_l k;refine ⟨?_,?_⟩ <;> intros <;> (first|unfold spec_AddrOk.j0|unfold spec_AddrOk.l0) <;>
  repeat' first|(with_reducible first|exact ih0 _ _ _ _ _|exact ih1 _ _ _ _ _|exact spec_l1House.mono _ _|exact spec_l1Norm.mono _ _|exact spec_l1Text.mono _ _ _ _ _|exact LeO.refl _|exact LeO.none _|refine LeO.ite ?_ ?_|refine LeO.bind ?_ (fun _=>?_))|exact LeO.none _|refine LeO.ite ?_ ?_|refine LeO.bind ?_ (fun _=>?_)
theorem spec_AddrOk.calls (k:Nat) (a0_0:ByteArray) (A0_1:Option Addr) (c0_1:Nat) (l0_1:List ByteArray) (a0_2:Bool) (a0_3:ByteArray) (r:Bool) (w:World) (hr0_1:Kd.C Kd.string w A0_1 l0_1.length l0_1) (hc0_1:l0_1.length≤c0_1) (h:spec_AddrOk.f k a0_0 l0_1 a0_2 a0_3=some r) :
  Calls Tryz.prog 121 #[.agg #[.string a0_0,.slice A0_1 l0_1.length c0_1,.bool a0_2,.string a0_3]] w fun e w'=>e=.returned (.bool r)∧Below w.heap.size w w':=by
 have hu51:=Tryz.underlying51;have HR0_1:=A_ hr0_1;have HC0_1:=A_ hc0_1;clear hr0_1 hc0_1;have HB:=A_ (Below.refl w.heap.size w);unfold spec_AddrOk.f at h
 have H:=h;clear h;have HC2:=A_ H;clear H;go_enter Tryz.func121,Tryz.ntmps121;go_upto_region 1 with (first|((with_reducible refine gD (N:=1) rfl ?_);(try (refine gate_guard (by rfl) ?_;dsimp only));refine boxE 1 #[.string a0_0,.slice A0_1 l0_1.length c0_1,.bool a0_2,.string a0_3] 51 ?_;intro gb143 hg w3 hbox hb;have BK143:=A_ (hbox);have GE143:=geB hg (zz0 HB);replace HB:=A_ (bS (zz0 HB) hb);clear hb hbox hg))
 (try simp only [Act.put,List.setIfInBounds_toArray,List.set_cons_zero,List.set_cons_succ])
 go_cut [29] (fun v29 wc=>∃ (kq:Nat) (x29_1:Bool),v29=.bool x29_1∧Aside0 (spec_AddrOk.j0 kq x29_1 a0_0 l0_1 a0_2 a0_3=some r)∧Aside0 (kq≤k)∧Aside0 (wc.heap[gb143]?=some (.cells #[.string a0_0,(.slice A0_1 l0_1.length c0_1),.bool a0_2,.string a0_3] 51 (0,0)))∧Aside0 (Below w.heap.size w wc))
 case first=>
  obtain ⟨H⟩:=HC2;replace H:=bindA H;obtain ⟨t144,A4,H⟩:=H;have HF5:=A_ H;clear H;obtain ⟨_,_,_,_,_,_,_,_⟩:=cf4 BK143;go_wp2_with (first|(refine gR 34 (some 6) Tryz.func34 (spec_l1House.calls k a0_0 t144 _ A4.out) ?_;rintro w' ⟨nd,rfl⟩)|((with_reducible refine atG ?_ ?_ fun K_ hK_=>?_);rfl;exact undecG)|((with_reducible refine atI ?_ fun K_ hK_=>?_);exact undecI))
  refine unG hK_ ?_;clear hK_ K_;obtain ⟨H⟩:=HF5;replace H:=iteB H;rcases H with ⟨rfl,H⟩|⟨rfl,H⟩
  ·(first|refine iteT ?_|refine iteF ?_|skip)
   replace H:=iteE H;rcases H with ⟨c8,H⟩|⟨c8,H⟩
   ·have c8b0:=gtT c8
    have c8b1:decide (5 < l0_1.length)=true:=dT (by omega);clear c8;have H':=A_ H;clear H;obtain ⟨_,_,_,_,_,_,_,_⟩:=cf4 BK143;go_wp2
    go_meet
    case rel=>exact ⟨_,(true),zz3,H',⟨zz22⟩,⟨(zz7 BK143)⟩,⟨(zz2 HB GE143)⟩⟩
   ·have c8b0:=gtF c8
    have c8b1:decide (5 < l0_1.length)=false:=dF (by omega);clear c8;replace H:=bindA H;obtain ⟨t145,A10,H⟩:=H;have HF11:=A_ H;clear H;obtain ⟨_,_,_,_,_,_,_,_⟩:=cf4 BK143;go_wp2_with (first|(go_at_call 151;(with_reducible refine (spec_l1Norm.calls k a0_3 t145 _ A10.out).mono ?_);rintro e w13 ⟨rfl,hb⟩;replace BK143:=A_ (bB (zz7 BK143) hb);replace HB:=A_ (bS (zz2 HB GE143) hb);(try clear hb))|((with_reducible refine atG ?_ ?_ fun K_ hK_=>?_);rfl;exact undecG)|((with_reducible refine atI ?_ fun K_ hK_=>?_);exact undecI))
    refine unG hK_ ?_;clear hK_ K_;obtain ⟨H⟩:=HF11;replace H:=iteB H;rcases H with ⟨rfl,H⟩|⟨rfl,H⟩
    ·(first|refine iteT ?_|refine iteF ?_|skip)
     replace H:=iteB H;rcases H with ⟨rfl,H⟩|⟨rfl,H⟩
     ·have H':=A_ H
      clear H;obtain ⟨_,_,_,_,_,_,_,_⟩:=cf4 BK143;go_wp2
      go_meet
      case rel=>exact ⟨_,(false),zz3,H',⟨zz22⟩,⟨(zz7 BK143)⟩,⟨(zz2 HB GE143)⟩⟩
     ·have H':=A_ H
      clear H;obtain ⟨_,_,_,_,_,_,_,_⟩:=cf4 BK143;go_wp2
      go_meet
      case rel=>exact ⟨_,((a0_3.toList != ([]:List UInt8))),zz3,H',⟨zz22⟩,⟨(zz7 BK143)⟩,⟨(zz2 HB GE143)⟩⟩
    ·(first|refine iteT ?_|refine iteF ?_|skip)
     have H':=A_ H;clear H;(try ((with_reducible refine upS ?_);go_simp))
     go_wp2
     go_meet
     case rel=>exact ⟨_,(true),zz3,H',⟨zz22⟩,⟨(zz7 BK143)⟩,⟨(zz2 HB GE143)⟩⟩
  ·(first|refine iteT ?_|refine iteF ?_|skip)
   have H':=A_ H;clear H;(try ((with_reducible refine upS ?_);go_simp))
   go_wp2
   go_meet
   case rel=>exact ⟨_,(true),zz3,H',⟨zz22⟩,⟨(zz7 BK143)⟩,⟨(zz2 HB GE143)⟩⟩
 case rest=>
  clear HC2;obtain ⟨kq,x29_1,rfl,HA,HJ1,BK143,HB⟩:=hcut;cases kq with
  | zero=>exact absurd HA.out (by simp [spec_AddrOk.j0])
  | succ kj1=>
   obtain ⟨H⟩:=HA;simp only [spec_AddrOk.j0] at H
   replace H:=iteB H;rcases H with ⟨rfl,H⟩|⟨rfl,H⟩
   ·obtain rfl:=sI H
    go_wp2
    go_ret
    exact ⟨zz1,(zz2 HB GE143)⟩
   ·have H':=A_ H
    clear H;go_wp2
    go_loopg [3] kj1 (fun kq v3 w'=>∃ (x3_2:Int),v3=.int .i64 x3_2∧Aside0 (spec_AddrOk.l0 kq x3_2 a0_0 l0_1 a0_2 a0_3=some r)∧Aside0 (kq≤kj1)∧Aside0 (w'.heap[gb143]?=some (.cells #[.string a0_0,(.slice A0_1 l0_1.length c0_1),.bool a0_2,.string a0_3] 51 (0,0)))∧Aside0 (Below w.heap.size w w'))
    case atStart=>exact ⟨(0),zz3,H',⟨Nat.le_refl _⟩,⟨(zz7 BK143)⟩,⟨(zz2 HB GE143)⟩⟩
    case round=>
     clear H';obtain ⟨x3_2,rfl,HA,HK2,BK143,HB⟩:=hrel;cases gk with
     | zero=>exact absurd HA.out (by simp [spec_AddrOk.l0])
     | succ k2=>
      obtain ⟨H⟩:=HA;simp only [spec_AddrOk.l0] at H
      replace H:=iteEd H;rcases H with ⟨c19b0,H⟩|⟨c19b0,H⟩
      ·replace H:=iteNd H
       obtain ⟨c20b0,H⟩:=H;replace H:=bindA H;obtain ⟨t147,A21,H⟩:=H;have HF22:=A_ H;clear H;obtain ⟨_,_,_,_,_,_,_,_⟩:=cf4 BK143;obtain ⟨⟨ad146,e146,hx146_0⟩,p146,q146⟩:=atB (Kd.at_string HR0_1.out x3_2);cases e146
       replace hx146_0:=cbl HB hx146_0;go_wp2_with (first|(refine gR 151 (some 42) Tryz.func151 (spec_l1Norm.calls k2 (rdOf ByteArray.empty l0_1 x3_2) t147 _ A21.out) ?_;rintro w24 hb;replace BK143:=A_ (bB (zz7 BK143) hb);replace HB:=A_ (bS (zz2 HB GE143) hb);(try clear hb))|((with_reducible refine atG ?_ ?_ fun K_ hK_=>?_);rfl;exact undecG)|((with_reducible refine atI ?_ fun K_ hK_=>?_);exact undecI))
       refine unG hK_ ?_;clear hK_ K_;obtain ⟨H⟩:=HF22;replace H:=iteB H;rcases H with ⟨rfl,H⟩|⟨rfl,H⟩
       ·(first|refine iteT ?_|refine iteF ?_|skip)
        replace H:=iteEq H;rcases H with ⟨c26b0,c26b1,H⟩|⟨c26b0,c26b1,c26,H⟩
        ·obtain rfl:=sI H
         obtain ⟨_,_,_,_,_,_,_,_⟩:=cf4 BK143;obtain ⟨⟨ad148,e148,hx148_0⟩,p148,q148⟩:=atB (Kd.at_string HR0_1.out x3_2);obtain rfl:ad146=ad148:=(by injection e148);replace hx148_0:=cbl HB hx148_0;go_wp2
         go_ret
         exact ⟨zz1,(zz2 HB GE143)⟩
        ·replace H:=iteEq H
         rcases H with ⟨c28b0,c28b1,H⟩|⟨c28b0,c28b1,c28,H⟩
         ·obtain rfl:=sI H
          obtain ⟨_,_,_,_,_,_,_,_⟩:=cf4 BK143;obtain ⟨⟨ad148,e148,hx148_0⟩,p148,q148⟩:=atB (Kd.at_string HR0_1.out x3_2);obtain rfl:ad146=ad148:=(by injection e148);replace hx148_0:=cbl HB hx148_0;obtain ⟨⟨ad149,e149,hx149_0⟩,p149,q149⟩:=atB (Kd.at_string HR0_1.out x3_2);obtain rfl:ad146=ad149:=(by injection e149);replace hx149_0:=cbl HB hx149_0;go_wp2
          go_ret
          exact ⟨zz1,(zz2 HB GE143)⟩
         ·replace H:=iteEq H
          rcases H with ⟨c30b0,c30b1,H⟩|⟨c30b0,c30b1,c30,H⟩
          ·obtain rfl:=sI H
           obtain ⟨_,_,_,_,_,_,_,_⟩:=cf4 BK143;obtain ⟨⟨ad148,e148,hx148_0⟩,p148,q148⟩:=atB (Kd.at_string HR0_1.out x3_2);obtain rfl:ad146=ad148:=(by injection e148);replace hx148_0:=cbl HB hx148_0;obtain ⟨⟨ad149,e149,hx149_0⟩,p149,q149⟩:=atB (Kd.at_string HR0_1.out x3_2);obtain rfl:ad146=ad149:=(by injection e149);replace hx149_0:=cbl HB hx149_0;obtain ⟨⟨ad150,e150,hx150_0⟩,p150,q150⟩:=atB (Kd.at_string HR0_1.out x3_2);obtain rfl:ad146=ad150:=(by injection e150);replace hx150_0:=cbl HB hx150_0;go_wp2
           go_ret
           exact ⟨zz1,(zz2 HB GE143)⟩
          ·have H':=A_ H
           clear H;obtain ⟨_,_,_,_,_,_,_,_⟩:=cf4 BK143;obtain ⟨⟨ad148,e148,hx148_0⟩,p148,q148⟩:=atB (Kd.at_string HR0_1.out x3_2);obtain rfl:ad146=ad148:=(by injection e148);replace hx148_0:=cbl HB hx148_0;obtain ⟨⟨ad149,e149,hx149_0⟩,p149,q149⟩:=atB (Kd.at_string HR0_1.out x3_2);obtain rfl:ad146=ad149:=(by injection e149);replace hx149_0:=cbl HB hx149_0;obtain ⟨⟨ad150,e150,hx150_0⟩,p150,q150⟩:=atB (Kd.at_string HR0_1.out x3_2);obtain rfl:ad146=ad150:=(by injection e150);replace hx150_0:=cbl HB hx150_0;go_wp2
           go_roundg k2
           case measure=>have:=HJ1.out;have:=HK2.out;omega
           case rel=>exact ⟨(wrap64 (x3_2+1)),zz3,H',⟨(zz31 HJ1 HK2)⟩,⟨(zz7 BK143)⟩,⟨(zz2 HB GE143)⟩⟩
       ·(first|refine iteT ?_|refine iteF ?_|skip)
        obtain rfl:=sI H;(try ((with_reducible refine upS ?_);go_simp))
        go_wp2
        go_ret
        exact ⟨zz1,(zz2 HB GE143)⟩
      ·replace H:=bindA H
       obtain ⟨t151,A33,H⟩:=H;obtain rfl:=sI H;obtain ⟨_,_,_,_,_,_,_,_⟩:=cf4 BK143;go_wp2_with (first|(refine gR 122 (some 69) Tryz.func122 (spec_l1Text.calls k2 a0_0 _ _ l0_1 a0_2 a0_3 t151 _ ?side1 ?side2 A33.out) ?_;(case side1=>exact (zz41 HR0_1 HB));(case side2=>exact HC0_1.out);rintro w35 hb;replace BK143:=A_ (bB (zz7 BK143) hb);replace HB:=A_ (bS (zz2 HB GE143) hb);(try clear hb)))
       go_ret
       exact ⟨zz1,(zz2 HB GE143)⟩
def spec_l1Way.l0:Nat→ByteArray→Bool→List ByteArray→List ByteArray→Int→ByteArray→List ByteArray→Bool→ByteArray→Option (ByteArray×List ByteArray×Bool×ByteArray×Bool)
 | 0,_,_,_,_,_,_,_,_,_=>none
 | k+1,x6,x7,x8,x9,x10,x153000,x153001,x153002,x153003=>if x10 < (x9.length:Int) then (if 0≤x10 then ((spec_EscNorm.f k (rdOf ByteArray.empty x9 x10)).bind fun bt167=>(if bt167.2=true then (if x8.length < 8796093022208 then (spec_l1Way.l0 k x6 x7 (x8++[bt167.1]) x9 (wrap64 (x10+1)) x153000 x153001 x153002 x153003) else (none)) else (some ((⟨#[]⟩:ByteArray),([]:List ByteArray),false,(⟨#[]⟩:ByteArray),false)))) else (none)) else ((spec_EscNorm.f k x6).bind fun bt172=>((spec_PathClean.f k x8).bind fun t174=>(if bt172.2=true then ((spec_AddrOk.f k x153000 t174 x7 bt172.1).bind fun t178=>(if t178=true then (some (x153000,t174,x7,bt172.1,true)) else (some ((⟨#[]⟩:ByteArray),([]:List ByteArray),false,(⟨#[]⟩:ByteArray),false)))) else (some ((⟨#[]⟩:ByteArray),([]:List ByteArray),false,(⟨#[]⟩:ByteArray),false)))))
def spec_l1Way.f (k:Nat) (a0_0:ByteArray) (l0_1:List ByteArray) (a0_2:Bool) (a0_3:ByteArray) (a1:ByteArray):Option (ByteArray×List ByteArray×Bool×ByteArray×Bool):=(spec_l1Cut.f k a1 63).bind fun bt154=>((some (([]:List ByteArray):List ByteArray)).bind fun y157=>(if y157.length+l0_1.length < 8796093022208 then ((spec_l1Split.f k bt154.1 47).bind fun t163=>(spec_l1Way.l0 k bt154.2.1 bt154.2.2 (y157++l0_1) t163 0 a0_0 l0_1 a0_2 a0_3)) else (none)))
def spec_l1Way.T12:Bool×List (List Nat×List Nat):=(true,[([],[]),([0],[0]),([],[]),([2],[2]),([],[]),([],[]),([1,3,4,5],[1,3,4,5]),([],[]),([7,6,3,0,1,2,3,4,5,6,7],[6,7])])
def spec_l1Way.B12:List Nat:=[0,1,0,4,0,0,63,0,255]
theorem spec_l1Way.tab12:rtab .any (opsOf Tryz.f91 12)=spec_l1Way.T12:=by kernel_rfl
theorem spec_l1Way.bits12:waitsOk spec_l1Way.T12.2 spec_l1Way.B12=true:=by kernel_rfl
theorem spec_l1Way.calls (k:Nat) (a0_0:ByteArray) (A0_1:Option Addr) (c0_1:Nat) (l0_1:List ByteArray) (a0_2:Bool) (a0_3:ByteArray) (a1:ByteArray) (r1:ByteArray) (r2:List ByteArray) (r3:Bool) (r4:ByteArray) (r5:Bool) (w:World) (hr0_1:Kd.C Kd.string w A0_1 l0_1.length l0_1) (hc0_1:l0_1.length≤c0_1) (h:spec_l1Way.f k a0_0 l0_1 a0_2 a0_3 a1=some (r1,r2,r3,r4,r5)) :
  Calls Tryz.prog 91 #[.agg #[.string a0_0,.slice A0_1 l0_1.length c0_1,.bool a0_2,.string a0_3],.string a1] w fun e w'=>∃ v1_:Value,e=.returned (.tuple #[.agg #[.string r1,v1_,.bool r3,.string r4],.bool r5])∧Kd.R Kd.string 9 w' w.heap.size (fun _=>True) v1_ r2∧Below w.heap.size w w':=by
 have hu51:=Tryz.underlying51;have HR0_1:=A_ hr0_1;have HC0_1:=A_ hc0_1;clear hr0_1 hc0_1;have HB:=A_ (Below.refl w.heap.size w);unfold spec_l1Way.f at h
 have H:=h;clear h;replace H:=bindA H;obtain ⟨⟨t154,t155,t156⟩,A3,H⟩:=H;try dsimp only at H
 obtain ⟨y157,Ny157,H⟩:=bindY H;replace H:=iteE H;rcases H with ⟨c4,H⟩|⟨c4,H⟩
 ·have LMc4:=A_ c4
  clear c4;obtain ⟨y160,Ny160⟩:=toY (y157++l0_1);(first|with_reducible replace H:=bindZ Ny160 H|rw [← Ny160.out] at H|skip)
  replace H:=bindA H;obtain ⟨t163,A5,H⟩:=H;have H':=A_ H;clear H;go_enter Tryz.func91,Tryz.ntmps91;go_wp2_with (first|(refine boxF 2 #[.string a0_0,.slice A0_1 l0_1.length c0_1,.bool a0_2,.string a0_3] 51 ?_;intro gb152 hg w6 BK152 hb;have GE152:=geB hg (zz0 HB);replace HB:=A_ (bS (zz0 HB) hb);clear hb hg)|(refine boxF 4 #[.string (⟨#[]⟩:ByteArray),.slice none 0 0,.bool false,.string (⟨#[]⟩:ByteArray)] 51 ?_;intro gb153 hg w7 BK153 hb;have GE153:=geB hg (zz2 HB GE152);replace HB:=A_ (bS (zz2 HB GE152) hb);have NB152_153:=A_ ((by rw [hg];exact Nat.ne_of_lt (blk_lt (zz7 BK152)):gb152≠gb153));have NB153_152:=A_ ((by rw [hg];exact Nat.ne_of_gt (blk_lt (zz7 BK152)):gb153≠gb152));replace BK152:=A_ (bB (zz7 BK152) hb);clear hb hg)|(refine gR 62 (some 18) Tryz.func62 (spec_l1Cut.calls k a1 63 t154 t155 t156 _ A3.out) ?_;rintro w' ⟨nd,rfl⟩)|((with_reducible refine gD (N:=22) rfl ?_);refine Kd.R_lit Kd.string _ 9 ?hg (N:=22) ?hd (xs:=([]:List ByteArray)) (inner:=[]) (ok:=fun _=>True) (okp:=fun _=>True) ?hr ?hp (fun _ hk=>hk) trivial (Below.refl _ _) (Nat.le_refl _) (by simp) ?_;(case hd=>rfl);(case hg=>rfl);(case hr=>exact zz6);(case hp=>exact (Reps.none _ _));intro v158 w8 ho9 hb hg_ hnew_;clear hg_ hnew_;(first|rw [← Ny157.out] at ho9|(simp only [Int.reduceToNat] at ho9;rw [← Ny157.out] at ho9));have HO159:=A_ (Kd.R_lower ho9 (below_size (zz11 HB GE152 GE153)));replace BK152:=A_ (bB (zz7 BK152) hb);replace BK153:=A_ (bB (zz7 BK153) hb);replace HB:=A_ (bS (zz11 HB GE152 GE153) hb);clear hb ho9;have hnb10:=NB152_153.out;have hnc10:=NB153_152.out;obtain ⟨_,_,_,_,_,_,_,_⟩:=cf4 BK152)|((with_reducible refine gate_builtin (b:=.append) (xs:=#[.tmp 22,.tmp 24]) rfl ?_);at_builtin;refine Kd.R_append_rows Kd.string (w0:=w) w.heap.size rfl (.tmp 22) (.tmp 24) 29 9 (.string ⟨#[]⟩) 16 rfl Tryz.underlying29 info9 rfl (by decide) (by omega) v158 y157 l0_1 _ _ _ (fun _=>True) (fun _=>False) rfl rfl ?aO ?aR (fun _ _ h=>h) (fun _ h=>h.elim) ?aF ?aB ?aS ?aL ?_;(case aR=>exact (zz41 HR0_1 HB));(case aB=>exact (zz11 HB GE152 GE153));(case aF=>exact (fun _ _=>trivial));(case aO=>exact (zz8 HO159));(case aS=>exact (below_size (zz11 HB GE152 GE153)));(case aL=>exact (zz17 LMc4));intro v161 w12 ho hb hg hat;rw [← Ny160.out] at ho;replace BK152:=A_ (blk_grown (zz7 BK152) hg (Kd.R_ne HO159.out BK152.out (by decide)));replace BK153:=A_ (blk_grown (zz7 BK153) hg (Kd.R_ne HO159.out BK153.out (by decide)));replace HB:=A_ (hb);have HO162:=A_ (ho);clear HO159;clear ho hb hg hat)|(refine gV 105 (some 27) Tryz.func105 (spec_l1Split.calls k t154 47 t163 _ A5.out) ?_;rintro v164 w13 ⟨ho0,hb⟩;have HO165:=A_ (Kd.R_lower (Kd.R_new' ho0 (Kd.R_lt (zz8 HO162))) (below_size (zz11 HB GE152 GE153)));replace HO162:=A_ (Kd.R_elder' (zz8 HO162) (Kd.R_base ho0) hb);replace BK152:=A_ (bB (zz7 BK152) hb);replace BK153:=A_ (bB (zz7 BK153) hb);replace HB:=A_ (bS (zz11 HB GE152 GE153) hb);(try clear hb ho0)))
  go_loopg [8,10] k (fun kq v8 v10 w'=>∃ (x8_1:List ByteArray) (x10_1:Int) (x154000_1:ByteArray) (x154002_1:Bool) (x154003_1:ByteArray),v10=.int .i64 x10_1∧Aside0 (spec_l1Way.l0 kq t155 t156 x8_1 t163 x10_1 a0_0 l0_1 a0_2 a0_3=some (r1,r2,r3,r4,r5))∧Aside0 (kq≤k)∧Aside0 (Kd.R Kd.string 9 w' w.heap.size (fun k_=>some k_≠(v164:Value).ownBlock) v8 x8_1)∧Aside0 (Kd.R Kd.string 9 w' w.heap.size (fun k_=>some k_≠(v8:Value).ownBlock) v164 t163)∧Aside0 (w'.heap[gb152]?=some (.cells #[.string a0_0,(.slice A0_1 l0_1.length c0_1),.bool a0_2,.string a0_3] 51 (0,0)))∧Aside0 (w'.heap[gb153]?=some (.cells #[.string x154000_1,(.slice none 0 0),.bool x154002_1,.string x154003_1] 51 (0,0)))∧Aside0 (Below w.heap.size w w'))
  case atStart=>exact ⟨(y160),(0),((⟨#[]⟩:ByteArray)),(false),((⟨#[]⟩:ByteArray)),zz3,H',⟨Nat.le_refl _⟩,⟨(zz107 HO162)⟩,⟨(zz107 HO165)⟩,⟨(zz7 BK152)⟩,⟨(zz7 BK153)⟩,⟨(zz11 HB GE152 GE153)⟩⟩
  case round=>
   clear H';obtain ⟨x8_1,x10_1,x154000_1,x154002_1,x154003_1,rfl,HA,HK1,HO_8,HO_9,BK152,BK153,HB⟩:=hrel;cases gk with
   | zero=>exact absurd HA.out (by simp [spec_l1Way.l0])
   | succ k1=>
    obtain ⟨H⟩:=HA;simp only [spec_l1Way.l0] at H
    replace H:=iteEd H;rcases H with ⟨c14b0,H⟩|⟨c14b0,H⟩
    ·replace H:=iteNd H
     obtain ⟨c15b0,H⟩:=H;replace H:=bindA H;obtain ⟨⟨t167,t168⟩,A16,H⟩:=H;try dsimp only at H
     have HF17:=A_ H;clear H;obtain ⟨Ao18,co18,eo18⟩:=Kd.R_slice HO_9.out;subst eo18;obtain ⟨⟨ad166,e166,hx166_0⟩,p166,q166⟩:=atB (Kd.at_string (Kd.R_reads' HO_9.out).2.2 x10_1);cases e166
     go_upto_if 43 with (first|(refine gR 119 (some 39) Tryz.func119 (spec_EscNorm.calls k1 (rdOf ByteArray.empty t163 x10_1) t167 t168 _ A16.out) ?_;rintro w19 hb;replace HO_8:=A_ (rB (zz8 HO_8) hb);replace HO_9:=A_ (rB (zz8 HO_9) hb);replace BK152:=A_ (bB (zz7 BK152) hb);replace BK153:=A_ (bB (zz7 BK153) hb);replace HB:=A_ (bS (zz11 HB GE152 GE153) hb);(try clear hb)))
     obtain ⟨H⟩:=HF17;replace H:=iteB H;rcases H with ⟨rfl,H⟩|⟨rfl,H⟩
     ·replace H:=iteN H
      obtain ⟨c21,H⟩:=H;have LMc21:=A_ c21;clear c21;obtain ⟨y169,Ny169⟩:=toY (x8_1++[t167]);(first|with_reducible replace H:=bindZ Ny169 H|rw [← Ny169.out] at H|skip)
      have H':=A_ H;clear H;go_wp2_with (first|((with_reducible refine gate_builtin (b:=.append) (xs:=#[.tmp 45,.tmp 47]) rfl ?_);at_builtin;refine Kd.R_append Kd.string (w0:=w) w.heap.size rfl (.tmp 45) (.tmp 47) 29 9 (.string ⟨#[]⟩) 16 rfl Tryz.underlying29 info9 rfl (by decide) (by omega) u8 x8_1 t167 [.string t167] (fun k_=>some k_≠(.slice (some ad166) t163.length co18:Value).ownBlock) (fun _=>False) rfl rfl ?aP (fun _ hk=>hk.elim) ?aF ?aO ?aB ?aS ?aL ?_;(case aP=>exact rfl);(case aB=>exact (zz11 HB GE152 GE153));(case aF=>exact (fun k_ hk=>Kd.fresh' (Kd.R_lt (zz8 HO_9)) k_ hk));(case aO=>exact (zz8 HO_8));(case aS=>exact (below_size (zz11 HB GE152 GE153)));(case aL=>exact (zz17 LMc21));intro v170 w22 ho hb hg hat;rw [← Ny169.out] at ho;replace HO_9:=A_ (Kd.R_after (ok:=(fun _=>True)) (zz109 HO_9) hg hat);replace BK152:=A_ (blk_grown (zz7 BK152) hg (Kd.R_ne HO_8.out BK152.out (by decide)));replace BK153:=A_ (blk_grown (zz7 BK153) hg (Kd.R_ne HO_8.out BK153.out (by decide)));replace HB:=A_ (hb);have HO171:=A_ (ho);clear HO_8;clear ho hb hg hat))
      go_roundg k1
      case measure=>have:=HK1.out;omega
      case rel=>exact ⟨(y169),(wrap64 (x10_1+1)),(x154000_1),(x154002_1),(x154003_1),zz3,H',⟨(zz17 HK1)⟩,⟨(zz8 HO171)⟩,⟨(zz107 HO_9)⟩,⟨(zz7 BK152)⟩,⟨(zz7 BK153)⟩,⟨(zz11 HB GE152 GE153)⟩⟩
     ·simp only [Option.some.injEq,Prod.mk.injEq] at H
      obtain ⟨rfl,rfl,rfl,rfl,rfl⟩:=H;have hnb23:=NB153_152.out;have hnc23:=NB152_153.out;obtain ⟨_,_,_,_,_,_,_,_⟩:=cf4 BK153;go_wp2
      refine pR (results_ct rfl _ _ gb153 51 #[.string (⟨#[]⟩:ByteArray),.slice none 0 0,.bool false,.string (⟨#[]⟩:ByteArray)] (0,0) _ rfl (zz38 BK153) Tryz.underlying51 rfl (by kernel_rfl)) rfl ?_;exact ⟨_,zz1,zz75,(zz11 HB GE152 GE153)⟩
    ·replace H:=bindA H
     obtain ⟨⟨t172,t173⟩,A25,H⟩:=H;try dsimp only at H
     replace H:=bindA H;obtain ⟨t174,A26,H⟩:=H;have HF27:=A_ H;clear H;obtain ⟨Ao28,co28,eo28⟩:=Kd.R_slice HO_9.out;subst eo28;try go_wp2_with (first|(refine gR 119 (some 51) Tryz.func119 (spec_EscNorm.calls k1 t155 t172 t173 _ A25.out) ?_;rintro w29 hb;replace HO_8:=A_ (rB (zz8 HO_8) hb);replace HO_9:=A_ (rB (zz8 HO_9) hb);replace BK152:=A_ (bB (zz7 BK152) hb);replace BK153:=A_ (bB (zz7 BK153) hb);replace HB:=A_ (bS (zz11 HB GE152 GE153) hb);(try clear hb);obtain ⟨Ao30,co30,eo30⟩:=Kd.R_slice HO_8.out;subst eo30))
     replace HO_8:=A_ (Kd.R_drew HO_8.out);replace HO_9:=A_ (Kd.R_drew HO_9.out);replace BK152:=A_ (blk_drew BK152.out);replace BK153:=A_ (blk_drew BK153.out);replace HB:=A_ (below_drew1 HB.out);refine start_ (n:=9) (S:=fun w'=>w'.cell? ⟨gb152,0,none⟩=some (.string a0_0)∧w'.cell? ⟨gb152,1,none⟩=some (.slice A0_1 l0_1.length c0_1)∧w'.cell? ⟨gb152,2,none⟩=some (.bool a0_2)∧w'.cell? ⟨gb152,3,none⟩=some (.string a0_3)) (ds:=[]) #[yF,yF,yF,yF,yF,yF,yF,yF,yF] (by kernel_rfl) rfl rfl ⟨(blk_cell BK152.out 0).trans rfl,(blk_cell BK152.out 1).trans rfl,(blk_cell BK152.out 2).trans rfl,(blk_cell BK152.out 3).trans rfl⟩ (fun hHeld=>?_);refine with_tabW spec_l1Way.tab12 spec_l1Way.bits12 (fun HT_ HW_=>?_);generalize w29.drew=w31 at HO_8 HO_9 BK152 BK153 HB hHeld ⊢;refine pureZ 0 (some 54) #[yT,yF,yF,yF,yF,yF,yF,yF,yF] ?_;refine pureZ 2 (some 56) #[yT,yF,yT,yF,yF,yF,yF,yF,yF] ?_;refine pureZ 4 (some 58) #[yT,yF,yT,yF,yT,yF,yF,yF,yF] ?_;refine pureZ 5 (some 59) #[yT,yF,yT,yF,yT,yT,yF,yF,yF] ?_;refine takeZ4 1 (some 55) #[yT,yT,yT,yF,yT,yT,yF,yF,yF] hHeld ?_;refine join_ (σ:=Value×Nat) 1 #[yT,yT,yT,yT,yT,yT,yT,yT,yF] (fun s_=>[(57,s_.1),(15,.pointer (some ⟨s_.2,0,none⟩)),(60,.agg #[.string a0_0,s_.1,.bool t156,.string t172])]) (fun s_ w'=>(w'.cell? ⟨gb152,0,none⟩=some (.string a0_0)∧w'.cell? ⟨gb152,1,none⟩=some (.slice A0_1 l0_1.length c0_1)∧w'.cell? ⟨gb152,2,none⟩=some (.bool a0_2)∧w'.cell? ⟨gb152,3,none⟩=some (.string a0_3))∧(Kd.R Kd.string 9 w' w.heap.size (fun k_=>some k_≠(.slice Ao30 x8_1.length co30:Value).ownBlock∧some k_≠(.slice Ao28 t163.length co28:Value).ownBlock) s_.1 t174)∧(Kd.R Kd.string 9 w' w.heap.size (fun k_=>some k_≠(s_.1:Value).ownBlock∧some k_≠(.slice Ao28 t163.length co28:Value).ownBlock) (.slice Ao30 x8_1.length co30) x8_1)∧(Kd.R Kd.string 9 w' w.heap.size (fun k_=>some k_≠(s_.1:Value).ownBlock∧some k_≠(.slice Ao30 x8_1.length co30:Value).ownBlock) (.slice Ao28 t163.length co28) t163)∧(w'.heap[gb152]?=some (.cells #[.string a0_0,.slice A0_1 l0_1.length c0_1,.bool a0_2,.string a0_3] 51 (0,0)))∧(w'.heap[gb153]?=some (.cells #[.string x154000_1,.slice none 0 0,.bool x154002_1,.string x154003_1] 51 (0,0)))∧(w'.heap[s_.2]?=some (.cells #[.string (⟨#[]⟩:ByteArray),.slice none 0 0,.bool false,.string (⟨#[]⟩:ByteArray)] 51 (0,0)))∧(w.heap.size≤s_.2)∧(w.heap.size≤s_.2)∧(gb152≠s_.2)∧(s_.2≠gb152)∧(gb153≠s_.2)∧(s_.2≠gb153)∧(Below w.heap.size w w')) ?_ ?_;rotate_left
     ·intro hCont
      refine twoZ 3 7 (some 57) (some 15) #[yT,yT,yT,yT,yT,yT,yF,yF,yF] #[yT,yT,yT,yF,yT,yT,yF,yT,yF] (fun K hK=>?_) (fun K hK=>?_)
      ·skip
       refine goes_ Tryz.func120 (by kernel_rfl) rfl #[.slice Ao30 x8_1.length co30] (by rfl) rfl rfl zz52 ?_;with_reducible refine (spec_PathClean.calls k1 _ _ x8_1 t174 _ ?side1 ?side2 A26.out).mono ?_
       (case side1=>exact (zz110 HO_8))
       (case side2=>exact (Kd.R_reads' HO_8.out).2.1)
       rintro e w32 ⟨v175,rfl,ho0,hb⟩;refine ⟨_,rfl,?_⟩;have HO176:=A_ (Kd.R_lower (Kd.R_new' (Kd.R_new' ho0 (Kd.R_lt (zz8 HO_8))) (Kd.R_lt (zz8 HO_9))) (below_size (zz11 HB GE152 GE153)));replace HO_8:=A_ (Kd.R_elder' (zz8 HO_8) (Kd.R_base ho0) hb);replace HO_9:=A_ (Kd.R_elder' (zz8 HO_9) (Kd.R_base ho0) hb);replace BK152:=A_ (bB (zz7 BK152) hb);replace BK153:=A_ (bB (zz7 BK153) hb);replace HB:=A_ (bS (zz11 HB GE152 GE153) hb);(try clear hb)
       (try clear hb2)
       (try clear hk)
       (try clear hi)
       (try clear ho0)
       obtain ⟨Ao33,co33,eo33⟩:=Kd.R_slice HO176.out;(first|subst eo33|(injection eo33 with f1_ f2_ f3_;have f4_:=f1_.symm;have f5_:=f3_.symm;clear f1_ f2_ f3_;subst f4_;subst f5_))
       refine hK.out _ _ ⟨(blk_cell BK152.out 0).trans rfl,(blk_cell BK152.out 1).trans rfl,(blk_cell BK152.out 2).trans rfl,(blk_cell BK152.out 3).trans rfl⟩ (fun hHeld=>?_);clear hK K;refine nZ 57 ?_;refine pureZ 6 (some 60) #[yT,yT,yT,yT,yT,yT,yT,yF,yF] ?_;refine oneZ 7 (some 15) #[yT,yT,yT,yT,yT,yT,yT,yT,yF] (fun K hK=>?_);refine box_step ?hg (N:=15) ?hd (cs:=#[.string (⟨#[]⟩:ByteArray),.slice none 0 0,.bool false,.string (⟨#[]⟩:ByteArray)]) (t:=51) ?hr ?_;(case hd=>rfl);(case hg=>rfl);(case hr=>exact zz6);intro gb177 hg w34 hbox hb;replace HO_8:=A_ (rB (zz8 HO_8) hb);replace HO_9:=A_ (rB (zz8 HO_9) hb);replace HO176:=A_ (rB (zz8 HO176) hb);have BK177:=A_ (hbox);have GW177:=A_ ((by rw [hg];exact (below_size (zz11 HB GE152 GE153)):w.heap.size≤gb177));have GE177:=A_ ((by rw [hg];exact (below_size (zz11 HB GE152 GE153)):w.heap.size≤gb177));replace HB:=A_ (bS (zz11 HB GE152 GE153) hb);have NB152_177:=A_ ((by rw [hg];exact Nat.ne_of_lt (blk_lt (zz7 BK152)):gb152≠gb177));have NB177_152:=A_ ((by rw [hg];exact Nat.ne_of_gt (blk_lt (zz7 BK152)):gb177≠gb152));replace BK152:=A_ (bB (zz7 BK152) hb);have NB153_177:=A_ ((by rw [hg];exact Nat.ne_of_lt (blk_lt (zz7 BK153)):gb153≠gb177));have NB177_153:=A_ ((by rw [hg];exact Nat.ne_of_gt (blk_lt (zz7 BK153)):gb177≠gb153));replace BK153:=A_ (bB (zz7 BK153) hb);clear hb hbox hg;refine hK.out _ _ ⟨(blk_cell BK152.out 0).trans rfl,(blk_cell BK152.out 1).trans rfl,(blk_cell BK152.out 2).trans rfl,(blk_cell BK152.out 3).trans rfl⟩ (fun hHeld=>?_);clear hK K;refine nZ 15 ?_;exact norm_ viaP (hCont (.slice Ao33 t174.length co33,gb177) _ ⟨hHeld,(zz111 HO176),(zz112 HO_8),(zz112 HO_9),(zz7 BK152),(zz7 BK153),(zz7 BK177),GW177.out,GE177.out,NB152_177.out,NB177_152.out,NB153_177.out,NB177_153.out,(zz13 HB GE152 GE153 GE177)⟩)
      ·skip
       refine box_step ?hg (N:=15) ?hd (cs:=#[.string (⟨#[]⟩:ByteArray),.slice none 0 0,.bool false,.string (⟨#[]⟩:ByteArray)]) (t:=51) ?hr ?_;(case hd=>rfl);(case hg=>rfl);(case hr=>exact zz6);intro gb177 hg w32 hbox hb;replace HO_8:=A_ (rB (zz8 HO_8) hb);replace HO_9:=A_ (rB (zz8 HO_9) hb);have BK177:=A_ (hbox);have GW177:=A_ ((by rw [hg];exact (below_size (zz11 HB GE152 GE153)):w.heap.size≤gb177));have GE177:=A_ ((by rw [hg];exact (below_size (zz11 HB GE152 GE153)):w.heap.size≤gb177));replace HB:=A_ (bS (zz11 HB GE152 GE153) hb);have NB152_177:=A_ ((by rw [hg];exact Nat.ne_of_lt (blk_lt (zz7 BK152)):gb152≠gb177));have NB177_152:=A_ ((by rw [hg];exact Nat.ne_of_gt (blk_lt (zz7 BK152)):gb177≠gb152));replace BK152:=A_ (bB (zz7 BK152) hb);have NB153_177:=A_ ((by rw [hg];exact Nat.ne_of_lt (blk_lt (zz7 BK153)):gb153≠gb177));have NB177_153:=A_ ((by rw [hg];exact Nat.ne_of_gt (blk_lt (zz7 BK153)):gb177≠gb153));replace BK153:=A_ (bB (zz7 BK153) hb);clear hb hbox hg;refine hK.out _ _ ⟨(blk_cell BK152.out 0).trans rfl,(blk_cell BK152.out 1).trans rfl,(blk_cell BK152.out 2).trans rfl,(blk_cell BK152.out 3).trans rfl⟩ (fun hHeld=>?_);clear hK K;refine nZ 15 ?_;refine oneZ 3 (some 57) #[yT,yT,yT,yT,yT,yT,yF,yT,yF] (fun K hK=>?_);refine goes_ Tryz.func120 (by kernel_rfl) rfl #[.slice Ao30 x8_1.length co30] (by rfl) rfl rfl zz52 ?_;with_reducible refine (spec_PathClean.calls k1 _ _ x8_1 t174 _ ?side1 ?side2 A26.out).mono ?_
       (case side1=>exact (zz110 HO_8))
       (case side2=>exact (Kd.R_reads' HO_8.out).2.1)
       rintro e w33 ⟨v175,rfl,ho0,hb⟩;refine ⟨_,rfl,?_⟩;have HO176:=A_ (Kd.R_lower (Kd.R_new' (Kd.R_new' ho0 (Kd.R_lt (zz8 HO_8))) (Kd.R_lt (zz8 HO_9))) (below_size (zz13 HB GE152 GE153 GE177)));replace HO_8:=A_ (Kd.R_elder' (zz8 HO_8) (Kd.R_base ho0) hb);replace HO_9:=A_ (Kd.R_elder' (zz8 HO_9) (Kd.R_base ho0) hb);replace BK152:=A_ (bB (zz7 BK152) hb);replace BK153:=A_ (bB (zz7 BK153) hb);replace BK177:=A_ (bB (zz7 BK177) hb);replace HB:=A_ (bS (zz13 HB GE152 GE153 GE177) hb);(try clear hb)
       (try clear hb2)
       (try clear hk)
       (try clear hi)
       (try clear ho0)
       obtain ⟨Ao34,co34,eo34⟩:=Kd.R_slice HO176.out;(first|subst eo34|(injection eo34 with f1_ f2_ f3_;have f4_:=f1_.symm;have f5_:=f3_.symm;clear f1_ f2_ f3_;subst f4_;subst f5_))
       refine hK.out _ _ ⟨(blk_cell BK152.out 0).trans rfl,(blk_cell BK152.out 1).trans rfl,(blk_cell BK152.out 2).trans rfl,(blk_cell BK152.out 3).trans rfl⟩ (fun hHeld=>?_);clear hK K;refine nZ 57 ?_;refine pureZ 6 (some 60) #[yT,yT,yT,yT,yT,yT,yT,yT,yF] ?_;exact norm_ viaP (hCont (.slice Ao34 t174.length co34,gb177) _ ⟨hHeld,(zz111 HO176),(zz112 HO_8),(zz112 HO_9),(zz7 BK152),(zz7 BK153),(zz7 BK177),GW177.out,GE177.out,NB152_177.out,NB177_152.out,NB153_177.out,NB177_153.out,(zz13 HB GE152 GE153 GE177)⟩)
     rintro ⟨v175,gb177⟩ w35 ⟨hS_,h0_,h1_,h2_,h3_,h4_,h5_,h6_,h7_,h8_,h9_,h10_,h11_,h12_⟩;have n0_:=A_ h0_;have n1_:=A_ h1_;have n2_:=A_ h2_;have n3_:=A_ h3_;have n4_:=A_ h4_;have n5_:=A_ h5_;have n6_:=A_ h6_;have n7_:=A_ h7_;have n8_:=A_ h8_;have n9_:=A_ h9_;have n10_:=A_ h10_;have n11_:=A_ h11_;have n12_:=A_ h12_;(try dsimp only at n0_ n1_ n2_ n3_ n4_ n5_ n6_ n7_ n8_ n9_ n10_ n11_ n12_)
     clear HO_8;clear HO_9;clear BK152;clear BK153;clear HB;clear h0_ h1_ h2_ h3_ h4_ h5_ h6_ h7_ h8_ h9_ h10_ h11_ h12_;have HO176:=n0_;have HO_8:=n1_;have HO_9:=n2_;have BK152:=n3_;have BK153:=n4_;have BK177:=n5_;have GW177:=n6_;have GE177:=n7_;have NB152_177:=n8_;have NB177_152:=n9_;have NB153_177:=n10_;have NB177_153:=n11_;have HB:=n12_;clear n0_ n1_ n2_ n3_ n4_ n5_ n6_ n7_ n8_ n9_ n10_ n11_ n12_;have hHeld:w35.cell? ⟨gb152,0,none⟩=some (.string a0_0)∧w35.cell? ⟨gb152,1,none⟩=some (.slice A0_1 l0_1.length c0_1)∧w35.cell? ⟨gb152,2,none⟩=some (.bool a0_2)∧w35.cell? ⟨gb152,3,none⟩=some (.string a0_3):=hS_;obtain ⟨Ao36,co36,eo36⟩:=Kd.R_slice HO176.out;(first|subst eo36|(injection eo36 with f1_ f2_ f3_;have f4_:=f1_.symm;have f5_:=f3_.symm;clear f1_ f2_ f3_;subst f4_;subst f5_))
     refine norm_ (a':=?_) ?_ ?_;rotate_left
     ·simp only [putAll,Act.put,List.setIfInBounds_toArray,List.set_cons_zero,List.set_cons_succ]
      rfl
     refine oneZ 8 (none) #[yT,yT,yT,yT,yT,yT,yT,yT,yT] (fun K hK=>?_);have hs37:w35.cell? ⟨gb177,0,none⟩=some (.string (⟨#[]⟩:ByteArray)):=(blk_cell BK177.out 0).trans rfl;have hfs37:=blk_frozen BK177.out 0;have hns37_0:=NB152_177.out;have hns37_1:=NB153_177.out;have hms37_0:=NB177_152.out;have hms37_1:=NB177_153.out;have hs38:w35.cell? ⟨gb177,1,none⟩=some (.slice none 0 0):=(blk_cell BK177.out 1).trans rfl;have hfs38:=blk_frozen BK177.out 1;have hns38_0:=NB152_177.out;have hns38_1:=NB153_177.out;have hms38_0:=NB177_152.out;have hms38_1:=NB177_153.out;have hs39:w35.cell? ⟨gb177,2,none⟩=some (.bool false):=(blk_cell BK177.out 2).trans rfl;have hfs39:=blk_frozen BK177.out 2;have hns39_0:=NB152_177.out;have hns39_1:=NB153_177.out;have hms39_0:=NB177_152.out;have hms39_1:=NB177_153.out;have hs40:w35.cell? ⟨gb177,3,none⟩=some (.string (⟨#[]⟩:ByteArray)):=(blk_cell BK177.out 3).trans rfl;have hfs40:=blk_frozen BK177.out 3;have hns40_0:=NB152_177.out;have hns40_1:=NB153_177.out;have hms40_0:=NB177_152.out;have hms40_1:=NB177_153.out;refine skip_ (w1:=?_) (by rfl) rfl ?_ ?_;rotate_left
     ·go_simp
      rfl
     refine hK.out _ _ ⟨((cell_far (p:=⟨gb177,_,none⟩) NB152_177.out _).trans (((cell_far (p:=⟨gb177,_,none⟩) NB152_177.out _).trans (((cell_far (p:=⟨gb177,_,none⟩) NB152_177.out _).trans (((cell_far (p:=⟨gb177,_,none⟩) NB152_177.out _).trans (hHeld.1)))))))),((cell_far (p:=⟨gb177,_,none⟩) NB152_177.out _).trans (((cell_far (p:=⟨gb177,_,none⟩) NB152_177.out _).trans (((cell_far (p:=⟨gb177,_,none⟩) NB152_177.out _).trans (((cell_far (p:=⟨gb177,_,none⟩) NB152_177.out _).trans (hHeld.2.1)))))))),((cell_far (p:=⟨gb177,_,none⟩) NB152_177.out _).trans (((cell_far (p:=⟨gb177,_,none⟩) NB152_177.out _).trans (((cell_far (p:=⟨gb177,_,none⟩) NB152_177.out _).trans (((cell_far (p:=⟨gb177,_,none⟩) NB152_177.out _).trans (hHeld.2.2.1)))))))),((cell_far (p:=⟨gb177,_,none⟩) NB152_177.out _).trans (((cell_far (p:=⟨gb177,_,none⟩) NB152_177.out _).trans (((cell_far (p:=⟨gb177,_,none⟩) NB152_177.out _).trans (((cell_far (p:=⟨gb177,_,none⟩) NB152_177.out _).trans (hHeld.2.2.2))))))))⟩ (fun hHeld=>?_);clear hK K;refine done_ (done_of HT_.out (by kernel_rfl)) ?_;have n0_:Aside0 (Kd.R Kd.string 9 ((((w35.setCell ⟨gb177,0,none⟩ (.string a0_0)).setCell ⟨gb177,1,none⟩ (.slice Ao36 t174.length co36)).setCell ⟨gb177,2,none⟩ (.bool t156)).setCell ⟨gb177,3,none⟩ (.string t172)) w.heap.size (fun k_=>some k_≠(.slice Ao28 t163.length co28:Value).ownBlock∧some k_≠(.slice Ao36 t174.length co36:Value).ownBlock) (.slice Ao30 x8_1.length co30) x8_1):=⟨(zz10 (rt HO_8 BK177))⟩;have n1_:Aside0 (Kd.R Kd.string 9 ((((w35.setCell ⟨gb177,0,none⟩ (.string a0_0)).setCell ⟨gb177,1,none⟩ (.slice Ao36 t174.length co36)).setCell ⟨gb177,2,none⟩ (.bool t156)).setCell ⟨gb177,3,none⟩ (.string t172)) w.heap.size (fun k_=>some k_≠(.slice Ao30 x8_1.length co30:Value).ownBlock∧some k_≠(.slice Ao36 t174.length co36:Value).ownBlock) (.slice Ao28 t163.length co28) t163):=⟨(zz10 (rt HO_9 BK177))⟩;have n2_:Aside0 (Kd.R Kd.string 9 ((((w35.setCell ⟨gb177,0,none⟩ (.string a0_0)).setCell ⟨gb177,1,none⟩ (.slice Ao36 t174.length co36)).setCell ⟨gb177,2,none⟩ (.bool t156)).setCell ⟨gb177,3,none⟩ (.string t172)) w.heap.size (fun k_=>some k_≠(.slice Ao30 x8_1.length co30:Value).ownBlock∧some k_≠(.slice Ao28 t163.length co28:Value).ownBlock) (.slice Ao36 t174.length co36) t174):=⟨(zz10 (rt HO176 BK177))⟩;have n3_:Aside0 (((((w35.setCell ⟨gb177,0,none⟩ (.string a0_0)).setCell ⟨gb177,1,none⟩ (.slice Ao36 t174.length co36)).setCell ⟨gb177,2,none⟩ (.bool t156)).setCell ⟨gb177,3,none⟩ (.string t172)).heap[gb152]?=some (.cells #[.string a0_0,.slice A0_1 l0_1.length c0_1,.bool a0_2,.string a0_3] 51 (0,0))):=⟨(zz12 BK152 NB152_177)⟩;have n4_:Aside0 (((((w35.setCell ⟨gb177,0,none⟩ (.string a0_0)).setCell ⟨gb177,1,none⟩ (.slice Ao36 t174.length co36)).setCell ⟨gb177,2,none⟩ (.bool t156)).setCell ⟨gb177,3,none⟩ (.string t172)).heap[gb153]?=some (.cells #[.string x154000_1,.slice none 0 0,.bool x154002_1,.string x154003_1] 51 (0,0))):=⟨(zz12 BK153 NB153_177)⟩;have n5_:Aside0 (((((w35.setCell ⟨gb177,0,none⟩ (.string a0_0)).setCell ⟨gb177,1,none⟩ (.slice Ao36 t174.length co36)).setCell ⟨gb177,2,none⟩ (.bool t156)).setCell ⟨gb177,3,none⟩ (.string t172)).heap[gb177]?=some (.cells #[.string a0_0,.slice Ao36 t174.length co36,.bool t156,.string t172] 51 (0,0))):=⟨(zz38 BK177)⟩;have n6_:Aside0 (Below w.heap.size w ((((w35.setCell ⟨gb177,0,none⟩ (.string a0_0)).setCell ⟨gb177,1,none⟩ (.slice Ao36 t174.length co36)).setCell ⟨gb177,2,none⟩ (.bool t156)).setCell ⟨gb177,3,none⟩ (.string t172))):=⟨(zz13 HB GE152 GE153 GE177)⟩;(try clear HO_8)
     (try clear HO_9)
     (try clear HO176)
     (try clear BK152)
     (try clear BK153)
     (try clear BK177)
     (try clear HB)
     generalize ((((w35.setCell ⟨gb177,0,none⟩ (.string a0_0)).setCell ⟨gb177,1,none⟩ (.slice Ao36 t174.length co36)).setCell ⟨gb177,2,none⟩ (.bool t156)).setCell ⟨gb177,3,none⟩ (.string t172))=w41 at n0_ n1_ n2_ n3_ n4_ n5_ n6_ ⊢;have HO_8:=n0_;have HO_9:=n1_;have HO176:=n2_;have BK152:=n3_;have BK153:=n4_;have BK177:=n5_;have HB:=n6_;clear n0_ n1_ n2_ n3_ n4_ n5_ n6_;go_wp2_with (first|((with_reducible refine atG ?_ ?_ fun K_ hK_=>?_);rfl;exact undecG)|((with_reducible refine atI ?_ fun K_ hK_=>?_);exact undecI))
     refine unG hK_ ?_;clear hK_ K_;obtain ⟨H⟩:=HF27;replace H:=iteB H;rcases H with ⟨rfl,H⟩|⟨rfl,H⟩
     ·(first|refine iteT ?_|refine iteF ?_|skip)
      replace H:=bindA H;obtain ⟨t178,A43,H⟩:=H;have HF44:=A_ H;clear H;have hnb45:=NB177_152.out;have hnc45:=NB152_177.out;have hnb46:=NB177_153.out;have hnc46:=NB153_177.out;obtain ⟨_,_,_,_,_,_,_,_⟩:=cf4 BK177;(try ((with_reducible refine upS ?_);go_simp))
      go_upto_if 67 with (first|(go_at_call 121;(with_reducible refine (spec_AddrOk.calls k1 a0_0 _ _ t174 t156 t172 t178 _ ?side1 ?side2 A43.out).mono ?_);(case side1=>exact (zz110 HO176));(case side2=>exact (Kd.R_reads' HO176.out).2.1);rintro e w48 ⟨rfl,hb⟩;replace HO_8:=A_ (rB (zz8 HO_8) hb);replace HO_9:=A_ (rB (zz8 HO_9) hb);replace HO176:=A_ (rB (zz8 HO176) hb);replace BK152:=A_ (bB (zz7 BK152) hb);replace BK153:=A_ (bB (zz7 BK153) hb);replace BK177:=A_ (bB (zz7 BK177) hb);replace HB:=A_ (bS (zz13 HB GE152 GE153 GE177) hb);(try clear hb)))
      obtain ⟨H⟩:=HF44;replace H:=iteB H;rcases H with ⟨rfl,H⟩|⟨rfl,H⟩
      ·simp only [Option.some.injEq,Prod.mk.injEq] at H
       obtain ⟨rfl,rfl,rfl,rfl,rfl⟩:=H;have hnb50:=NB177_152.out;have hnc50:=NB152_177.out;have hnb51:=NB177_153.out;have hnc51:=NB153_177.out;obtain ⟨_,_,_,_,_,_,_,_⟩:=cf4 BK177;have hnb53:=NB153_152.out;have hnc53:=NB152_153.out;obtain ⟨_,_,_,_,_,_,_,_⟩:=cf4 BK153;go_wp2
       refine pR (results_ct rfl _ _ gb153 51 #[.string a0_0,.slice Ao36 t174.length co36,.bool t156,.string t172] (0,0) _ rfl (zz38 BK153) Tryz.underlying51 rfl (by kernel_rfl)) rfl ?_;exact ⟨_,zz1,(zz10 (rt HO176 BK153)),(zz13 HB GE152 GE153 GE177)⟩
      ·simp only [Option.some.injEq,Prod.mk.injEq] at H
       obtain ⟨rfl,rfl,rfl,rfl,rfl⟩:=H;have hnb55:=NB153_152.out;have hnc55:=NB152_153.out;have hnb56:=NB153_177.out;have hnc56:=NB177_153.out;obtain ⟨_,_,_,_,_,_,_,_⟩:=cf4 BK153;go_wp2
       refine pR (results_ct rfl _ _ gb153 51 #[.string (⟨#[]⟩:ByteArray),.slice none 0 0,.bool false,.string (⟨#[]⟩:ByteArray)] (0,0) _ rfl (zz38 BK153) Tryz.underlying51 rfl (by kernel_rfl)) rfl ?_;exact ⟨_,zz1,zz75,(zz13 HB GE152 GE153 GE177)⟩
     ·(first|refine iteT ?_|refine iteF ?_|skip)
      simp only [Option.some.injEq,Prod.mk.injEq] at H
      obtain ⟨rfl,rfl,rfl,rfl,rfl⟩:=H;have hnb58:=NB153_152.out;have hnc58:=NB152_153.out;have hnb59:=NB153_177.out;have hnc59:=NB177_153.out;obtain ⟨_,_,_,_,_,_,_,_⟩:=cf4 BK153;(try ((with_reducible refine upS ?_);go_simp))
      go_wp2
      refine pR (results_ct rfl _ _ gb153 51 #[.string (⟨#[]⟩:ByteArray),.slice none 0 0,.bool false,.string (⟨#[]⟩:ByteArray)] (0,0) _ rfl (zz38 BK153) Tryz.underlying51 rfl (by kernel_rfl)) rfl ?_;exact ⟨_,zz1,zz75,(zz13 HB GE152 GE153 GE177)⟩
 ·exact absurd H (by simp)
def spec_AddrText.f (k:Nat) (a0_0:ByteArray) (l0_1:List ByteArray) (a0_2:Bool) (a0_3:ByteArray):Option (ByteArray):=(spec_AddrOk.f k a0_0 l0_1 a0_2 a0_3).bind fun t216=>(if t216=true then ((spec_l1Text.f k a0_0 l0_1 a0_2 a0_3).bind fun t217=>(some t217)) else (some (⟨#[]⟩:ByteArray)))
theorem spec_AddrText.calls (k:Nat) (a0_0:ByteArray) (A0_1:Option Addr) (c0_1:Nat) (l0_1:List ByteArray) (a0_2:Bool) (a0_3:ByteArray) (r:ByteArray) (w:World) (hr0_1:Kd.C Kd.string w A0_1 l0_1.length l0_1) (hc0_1:l0_1.length≤c0_1) (h:spec_AddrText.f k a0_0 l0_1 a0_2 a0_3=some r) :
  Calls Tryz.prog 93 #[.agg #[.string a0_0,.slice A0_1 l0_1.length c0_1,.bool a0_2,.string a0_3]] w fun e w'=>e=.returned (.string r)∧Below w.heap.size w w':=by
 have hu51:=Tryz.underlying51;have HR0_1:=A_ hr0_1;have HC0_1:=A_ hc0_1;clear hr0_1 hc0_1;have HB:=A_ (Below.refl w.heap.size w);unfold spec_AddrText.f at h
 have H:=h;clear h;replace H:=bindA H;obtain ⟨t216,A2,H⟩:=H;have HF3:=A_ H;clear H;go_enter Tryz.func93,Tryz.ntmps93;go_upto_if 5 with (first|(refine boxF 1 #[.string a0_0,.slice A0_1 l0_1.length c0_1,.bool a0_2,.string a0_3] 51 ?_;intro gb215 hg w4 BK215 hb;have GE215:=geB hg (zz0 HB);replace HB:=A_ (bS (zz0 HB) hb);clear hb hg;obtain ⟨_,_,_,_,_,_,_,_⟩:=cf4 BK215)|(refine gR 121 (some 4) Tryz.func121 (spec_AddrOk.calls k a0_0 _ _ l0_1 a0_2 a0_3 t216 _ ?side1 ?side2 A2.out) ?_;(case side1=>exact (zz41 HR0_1 HB));(case side2=>exact HC0_1.out);rintro w6 hb;replace BK215:=A_ (bB (zz7 BK215) hb);replace HB:=A_ (bS (zz2 HB GE215) hb);(try clear hb)))
 obtain ⟨H⟩:=HF3;replace H:=iteB H;rcases H with ⟨rfl,H⟩|⟨rfl,H⟩
 ·replace H:=bindA H
  obtain ⟨t217,A8,H⟩:=H;obtain rfl:=sI H;obtain ⟨_,_,_,_,_,_,_,_⟩:=cf4 BK215;go_wp2_with (first|(refine gR 122 (some 7) Tryz.func122 (spec_l1Text.calls k a0_0 _ _ l0_1 a0_2 a0_3 t217 _ ?side1 ?side2 A8.out) ?_;(case side1=>exact (zz41 HR0_1 HB));(case side2=>exact HC0_1.out);rintro w10 hb;replace BK215:=A_ (bB (zz7 BK215) hb);replace HB:=A_ (bS (zz2 HB GE215) hb);(try clear hb)))
  go_ret
  exact ⟨zz1,(zz2 HB GE215)⟩
 ·obtain rfl:=sI H
  go_wp2
  go_ret
  exact ⟨zz1,(zz2 HB GE215)⟩
def spec_l11Said.f (k:Nat) (a0:Int) (a1:ByteArray) (a2:ByteArray):Option (List ByteArray×(List (S93))×Int):=if a0=1 then ((spec_NoticeRead.f k a1).bind fun t299=>((spec_NoticeFor.f k t299 a2).bind fun bt302=>(some (bt302.1,bt302.2.1,bt302.2.2)))) else (if a0=3 then ((spec_l11Barred.f a2).bind fun bt309=>(some (bt309.1,bt309.2.1,bt309.2.2))) else ((spec_NoticeFor.f k (([]:List (S32))) a2).bind fun bt319=>(some (bt319.1,bt319.2.1,bt319.2.2))))
theorem spec_l11Said.calls (k:Nat) (a0:Int) (a1:ByteArray) (a2:ByteArray) (r1:List ByteArray) (r2:List (S93)) (r3:Int) (w:World) (h:spec_l11Said.f k a0 a1 a2=some (r1,r2,r3)) :
  Calls Tryz.prog 37 #[.int .i64 a0,.string a1,.string a2] w fun e w'=>∃ v0_ v1_:Value,e=.returned (.agg #[v0_,v1_,.int .i64 r3])∧Kd.R Kd.string 9 w' w.heap.size (fun _=>True) v0_ r1∧Kd.R k93 93 w' w.heap.size (fun _=>True) v1_ r2∧Below w.heap.size w w':=by
 have hu32:=Tryz.underlying32;have HB:=A_ (Below.refl w.heap.size w);unfold spec_l11Said.f at h
 have H:=h;clear h;have HF4:=A_ H;clear H;go_enter Tryz.func37,Tryz.ntmps37;go_upto_if 8 with (first|(refine boxF 6 #[.slice none 0 0,.slice none 0 0,.int .i64 0] 32 ?_;intro gb298 hg w5 BK298 hb;have GE298:=geB hg (zz0 HB);replace HB:=A_ (bS (zz0 HB) hb);clear hb hg))
 obtain ⟨H⟩:=HF4;replace H:=iteEq H;rcases H with ⟨c6b0,c6b1,H⟩|⟨c6b0,c6b1,c6,H⟩
 ·(first|rw [c6b0]|(simp only [i64_w,i32_w];rw [c6b0])|skip)
  replace H:=bindA H;obtain ⟨t299,A7,H⟩:=H;replace H:=bindA H;obtain ⟨⟨t302,t305,t308⟩,A8,H⟩:=H;try dsimp only at H
  simp only [Option.some.injEq,Prod.mk.injEq] at H
  obtain ⟨rfl,rfl,rfl⟩:=H;go_wp2_with (first|(refine gV 75 (some 11) Tryz.func75 (spec_NoticeRead.calls k a1 t299 _ A7.out) ?_;rintro v300 w9 ⟨ho0,hb⟩;have HO301:=A_ (Kd.S_lower (Kd.S_newB ho0 (zz7 BK298)) (below_size (zz2 HB GE298)));replace BK298:=A_ (bB (zz7 BK298) hb);replace HB:=A_ (bS (zz2 HB GE298) hb);(try clear hb ho0);obtain ⟨Ao10,co10,eo10⟩:=Kd.S_slice HO301.out;subst eo10)|((with_reducible refine gC (f:=74) rfl ?_);refine gsL (some 13) Tryz.func74 #[.slice Ao10 t299.length co10,.string a2] ?_;(with_reducible refine (spec_NoticeFor.calls k _ _ t299 a2 t302 t305 t308 _ ?side1 ?side2 A8.out).mono ?_);(case side1=>exact (zz113 HO301));(case side2=>exact (Kd.S_reads' HO301.out).2.1);rintro e w11 ⟨v303,v306,rfl,ho0,ho1,hb⟩;refine ⟨_,rfl,?_⟩;replace HO301:=A_ (Kd.S_mono (Kd.S_told (Kd.S_told (Kd.S_old (by (with_reducible repeat (first|apply Kd.S_alloc|apply Kd.S_drewN|apply Kd.S_drew));exact HO301.out) hb) (Kd.R_base ho0)) (Kd.R_base ho1)) (fun _ h_=>h_.1));have HO304:=A_ (Kd.R_lower ho0 (below_size (zz2 HB GE298)));have HO307:=A_ (Kd.R_lower ho1 (below_size (zz2 HB GE298)));replace BK298:=A_ (bB (zz7 BK298) hb);replace HB:=A_ (bS (zz2 HB GE298) hb);(try clear hb ho0 ho1);obtain ⟨Ao12,co12,eo12⟩:=Kd.R_slice HO304.out;subst eo12;obtain ⟨_,_,_,_,_,_⟩:=cf3 BK298;obtain ⟨Ao14,co14,eo14⟩:=Kd.R_slice HO307.out;subst eo14))
  refine pR (results_cell_row rfl _ _ gb298 32 #[.slice Ao12 t302.length co12,.slice Ao14 t305.length co14,.int .i64 t308] (0,0) _ rfl (zz9 BK298) Tryz.underlying32 rfl (by kernel_rfl)) rfl ?_;exact ⟨_,_,zz1,(zz10 (rt HO304 BK298)),(zz10 (rt HO307 BK298)),(zz2 HB GE298)⟩
 ·(first|rw [c6b0]|(simp only [i64_w,i32_w];rw [c6b0])|skip)
  replace H:=iteEq H;rcases H with ⟨c15b0,c15b1,H⟩|⟨c15b0,c15b1,c15,H⟩
  ·replace H:=bindA H
   obtain ⟨⟨t309,t312,t315⟩,A16,H⟩:=H;try dsimp only at H
   simp only [Option.some.injEq,Prod.mk.injEq] at H
   obtain ⟨rfl,rfl,rfl⟩:=H;go_wp2_with (first|((with_reducible refine gC (f:=76) rfl ?_);refine gsL (some 17) Tryz.func76 #[.string a2] ?_;(with_reducible refine (spec_l11Barred.calls a2 t309 t312 t315 _ A16.out).mono ?_);rintro e w17 ⟨v310,v313,rfl,ho0,ho1,hb⟩;refine ⟨_,rfl,?_⟩;have HO311:=A_ (Kd.R_lower ho0 (below_size (zz2 HB GE298)));have HO314:=A_ (Kd.R_lower ho1 (below_size (zz2 HB GE298)));replace BK298:=A_ (bB (zz7 BK298) hb);replace HB:=A_ (bS (zz2 HB GE298) hb);(try clear hb ho0 ho1);obtain ⟨Ao18,co18,eo18⟩:=Kd.R_slice HO311.out;subst eo18;obtain ⟨_,_,_,_,_,_⟩:=cf3 BK298;obtain ⟨Ao20,co20,eo20⟩:=Kd.R_slice HO314.out;subst eo20))
   refine pR (results_cell_row rfl _ _ gb298 32 #[.slice Ao18 t309.length co18,.slice Ao20 t312.length co20,.int .i64 t315] (0,0) _ rfl (zz9 BK298) Tryz.underlying32 rfl (by kernel_rfl)) rfl ?_;exact ⟨_,_,zz1,(zz10 (rt HO311 BK298)),(zz10 (rt HO314 BK298)),(zz2 HB GE298)⟩
  ·obtain ⟨y316,Ny316⟩:=toY (([]:List (S32)))
   (first|with_reducible replace H:=bindZ Ny316 H|rw [← Ny316.out] at H|skip)
   replace H:=bindA H;obtain ⟨⟨t319,t322,t325⟩,A21,H⟩:=H;try dsimp only at H
   simp only [Option.some.injEq,Prod.mk.injEq] at H
   obtain ⟨rfl,rfl,rfl⟩:=H;go_wp2_with (first|((with_reducible refine gD (N:=18) rfl ?_);refine Kd.S_lit k32 _ 32 ?hg (N:=18) ?hd (xs:=([]:List (S32))) (inner:=[]) (ok:=fun _=>True) (okp:=fun _=>True) ?hr ?hp (fun _ hk=>hk) trivial (Below.refl _ _) (Nat.le_refl _) (by simp) ?_;(case hd=>rfl);(case hg=>rfl);(case hr=>exact zz6);(case hp=>exact (Reps.none _ _));intro v317 w22 ho23 hb hg_ hnew_;clear hg_ hnew_;(first|rw [← Ny316.out] at ho23|(simp only [Int.reduceToNat] at ho23;rw [← Ny316.out] at ho23));have HO318:=A_ (Kd.S_lower (Kd.S_newB ho23 (zz7 BK298)) (below_size (zz2 HB GE298)));replace BK298:=A_ (bB (zz7 BK298) hb);replace HB:=A_ (bS (zz2 HB GE298) hb);clear hb ho23;obtain ⟨Ao24,co24,eo24⟩:=Kd.S_slice HO318.out;subst eo24)|((with_reducible refine gC (f:=74) rfl ?_);refine gsL (some 20) Tryz.func74 #[.slice Ao24 y316.length co24,.string a2] ?_;(with_reducible refine (spec_NoticeFor.calls k _ _ y316 a2 t319 t322 t325 _ ?side1 ?side2 A21.out).mono ?_);(case side1=>exact (zz113 HO318));(case side2=>exact (Kd.S_reads' HO318.out).2.1);rintro e w25 ⟨v320,v323,rfl,ho0,ho1,hb⟩;refine ⟨_,rfl,?_⟩;replace HO318:=A_ (Kd.S_mono (Kd.S_told (Kd.S_told (Kd.S_old (by (with_reducible repeat (first|apply Kd.S_alloc|apply Kd.S_drewN|apply Kd.S_drew));exact HO318.out) hb) (Kd.R_base ho0)) (Kd.R_base ho1)) (fun _ h_=>h_.1));have HO321:=A_ (Kd.R_lower ho0 (below_size (zz2 HB GE298)));have HO324:=A_ (Kd.R_lower ho1 (below_size (zz2 HB GE298)));replace BK298:=A_ (bB (zz7 BK298) hb);replace HB:=A_ (bS (zz2 HB GE298) hb);(try clear hb ho0 ho1);obtain ⟨Ao26,co26,eo26⟩:=Kd.R_slice HO321.out;subst eo26;obtain ⟨_,_,_,_,_,_⟩:=cf3 BK298;obtain ⟨Ao28,co28,eo28⟩:=Kd.R_slice HO324.out;subst eo28))
   refine pR (results_cell_row rfl _ _ gb298 32 #[.slice Ao26 t319.length co26,.slice Ao28 t322.length co28,.int .i64 t325] (0,0) _ rfl (zz9 BK298) Tryz.underlying32 rfl (by kernel_rfl)) rfl ?_;exact ⟨_,_,zz1,(zz10 (rt HO321 BK298)),(zz10 (rt HO324 BK298)),(zz2 HB GE298)⟩
end Go.Proofs.YtloijngehifbmaaGreatDoor.P
end
section
namespace Go.Proofs.YtloijngehifbmaaGreatDoor.P
open Go.RowKit Go.Proofs.YtloijngehifbmaaGreatDoorW.PrintWords Go.Proofs.YtloijngehifbmaaGreatDoorW.PrintLast Go.Proofs.YtloijngehifbmaaGreatDoorW.PrintMore
set_option linter.unusedVariables false
set_option linter.unusedSimpArgs false
theorem row_at {w:World} {A:Option Addr} {xs:List ByteArray} (h:Kd.C Kd.string w A xs.length xs) (hn:0 < xs.length) :
  ∃ bk o,A=some ⟨bk,o,none⟩∧bk < w.heap.size∧∀ (j:Nat) x,xs[j]?=some x→w.cell? ⟨bk,o+j,none⟩=some (.string x):=by
 obtain ⟨_,_,h3⟩:=h
 obtain ⟨ad,rfl,hc⟩:=h3 hn
 have cells:∀ (j:Nat) x,xs[j]?=some x→w.cell? (ad.add j)=some (.string x):=by
  intro j x hx
  obtain ⟨c,hl,hk,hcell⟩:=hc j x hx
  have hk':c=[Value.string x]:=hk
  subst hk'
  have:=hcell 0 (.string x) rfl
  rw [show j * Kd.string.sz+0=j from by show j * 1+0=j;omega] at this
  exact this
 have h0:=cells 0 xs[0] (List.getElem?_eq_getElem hn)
 obtain ⟨bk,o,sp⟩:=ad
 have h0':w.cell? ⟨bk,o,sp⟩=some (.string xs[0]):=h0
 have hsp:sp=none:=by
  cases sp with
  | none=>rfl
  | some y=>
   unfold World.cell? at h0'
   simp at h0'
   split at h0' <;> simp at h0'
 subst hsp
 refine ⟨bk,o,rfl,?_,fun j x hx=>?_⟩
 ·rcases Nat.lt_or_ge bk w.heap.size with h|h
  ·exact h
  ·unfold World.cell? at h0'
   simp [Array.getElem?_eq_none h] at h0'
 ·have:=cells j x hx
  unfold Addr.add at this
  split at this
  ·rename_i hj;subst hj;exact this
  ·exact this
end Go.Proofs.YtloijngehifbmaaGreatDoor.P
end
section
namespace Go.Proofs.YtloijngehifbmaaGreatDoor.P
open Go.RowKit Go.Proofs.YtloijngehifbmaaGreatDoorW.PrintWords Go.Proofs.YtloijngehifbmaaGreatDoorW.PrintLast Go.Proofs.YtloijngehifbmaaGreatDoorW.PrintMore
set_option linter.unusedVariables false
set_option linter.unusedSimpArgs false
set_option maxHeartbeats 8000000
set_option maxRecDepth 100000
def hexS:ByteArray:=⟨#[48,49,50,51,52,53,54,55,56,57,65,66,67,68,69,70]⟩
def figAt (k:Nat):Nat:=if k < 10 then 48+k else 55+k
def figI (b:Int):Int×Bool:=if 48≤b∧b≤57 then (b - 48,true) else if 65≤b∧b≤70 then (b - 55,true) else (0,false)
def impl_figureValue.f (a0:Int):Option (Int×Bool):=if 0≤a0∧a0 < 256 then some (figI (if 97≤a0∧a0≤102 then a0 - 32 else a0)) else none
theorem hex_at:∀ k:Nat,k < 16→hexS.size=16∧∃ h:k < hexS.size,(hexS[k]'h).toNat=figAt k:=by decide +kernel
theorem fig_hit {k:Nat} {b:Int} (hk:k < 16) (h:(figAt k:Int)=b):figI b=((k:Int),true):=by
 unfold figAt at h;unfold figI
 split at h
 ·rw [if_pos (by omega)];congr 1;omega
 ·rw [if_neg (by omega),if_pos (by omega)];congr 1;omega
theorem fig_miss {b:Int} (h:∀ j:Nat,j < 16→(figAt j:Int)≠b):figI b=(0,false):=by
 unfold figI
 split
 ·rename_i hh
  exact absurd (by unfold figAt;rw [if_pos (by omega)];omega) (h (b - 48).toNat (by omega))
 ·split
  ·rename_i hh
   exact absurd (by unfold figAt;rw [if_neg (by omega)];omega) (h (b - 55).toNat (by omega))
  ·rfl
theorem impl_figureValue.calls (a0:Int) (r0:Int) (r1:Bool) (w:World) (h:impl_figureValue.f a0=some (r0,r1)) :
  Calls Tryz.prog 168 #[.int .u8 a0] w fun e w'=>e=.returned (.tuple #[.int .i64 r0,.bool r1])∧Below w.heap.size w w':=by
 unfold impl_figureValue.f at h
 split at h
 case isFalse=>cases h
 rename_i hh
 have h:=sI h;obtain ⟨b,hb⟩:∃ b,b=(if 97≤a0∧a0≤102 then a0 - 32 else a0):=⟨_,rfl⟩;rw [← hb] at h;by_cases h1:97≤a0
 ·by_cases h2:a0≤102
  ·rw [if_pos ⟨h1,h2⟩] at hb
   go_enter Tryz.func168,Tryz.ntmps168;go_wp2
   go_loopw [4] (fun n w'=>∃ k:Nat,k≤16∧w'=w.iter hexS k∧∀ j:Nat,j < k→(figAt j:Int)≠(a0 - 32)) (fun _ w'=>16 - w'.iterPos w.heap.size)
   case atStart=>exact ⟨0,by omega,rfl,fun j hj=>absurd hj (by omega)⟩
   case round=>
    obtain ⟨k,hk,rfl,hne⟩:=hrel;have hbel:∀ p,Below w.heap.size w (w.iter hexS p):=fun p=>(Below.refl _ _).alloc (Nat.le_refl _) _
    by_cases hlt:k < 16
    ·obtain ⟨hsz,hx,hf⟩:=hex_at k hlt
     have hnx:∀ ty,(Instr.next (.pointer (some ⟨w.heap.size,0,none⟩)) true ty).run Tryz.prog (w.iter hexS k)=.ok (.tuple #[.bool true,.int .i64 k,.int .i32 (figAt k:Nat)]) (w.iter hexS (k+1)):=fun ty=>by
      have hfl:figAt k < 128:=by unfold figAt;split <;> omega
      rw [← hf];exact run_next_ascii w hexS k ty hx (by rw [hf];exact hfl)
     by_cases he:(figAt k:Int)=(a0 - 32)
     ·have hr:=fig_hit hlt he
      rw [← hb,h,Prod.mk.injEq] at hr;obtain ⟨rfl,rfl⟩:=hr;go_wp2
      go_ret2
      exact ⟨rfl,hbel _⟩
     ·go_wp2
      refine ⟨⟨k+1,by omega,rfl,fun j hj=>?_⟩,by simp;omega⟩;by_cases e:j=k
      ·subst e;exact he
      ·exact hne j (by omega)
    ·obtain rfl:k=16:=by omega
     have hr:=fig_miss hne;rw [← hb,h,Prod.mk.injEq] at hr;obtain ⟨rfl,rfl⟩:=hr;have hnx:∀ ty,(Instr.next (.pointer (some ⟨w.heap.size,0,none⟩)) true ty).run Tryz.prog (w.iter hexS 16)=_:=fun ty=>run_next_end w hexS 16 ty (by decide)
     go_wp2
     go_ret2
     exact ⟨rfl,hbel _⟩
  ·rw [if_neg (fun e=>h2 e.2)] at hb
   go_enter Tryz.func168,Tryz.ntmps168;go_wp2
   go_loopw [4] (fun n w'=>∃ k:Nat,k≤16∧w'=w.iter hexS k∧∀ j:Nat,j < k→(figAt j:Int)≠a0) (fun _ w'=>16 - w'.iterPos w.heap.size)
   case atStart=>exact ⟨0,by omega,rfl,fun j hj=>absurd hj (by omega)⟩
   case round=>
    obtain ⟨k,hk,rfl,hne⟩:=hrel;have hbel:∀ p,Below w.heap.size w (w.iter hexS p):=fun p=>(Below.refl _ _).alloc (Nat.le_refl _) _
    by_cases hlt:k < 16
    ·obtain ⟨hsz,hx,hf⟩:=hex_at k hlt
     have hnx:∀ ty,(Instr.next (.pointer (some ⟨w.heap.size,0,none⟩)) true ty).run Tryz.prog (w.iter hexS k)=.ok (.tuple #[.bool true,.int .i64 k,.int .i32 (figAt k:Nat)]) (w.iter hexS (k+1)):=fun ty=>by
      have hfl:figAt k < 128:=by unfold figAt;split <;> omega
      rw [← hf];exact run_next_ascii w hexS k ty hx (by rw [hf];exact hfl)
     by_cases he:(figAt k:Int)=a0
     ·have hr:=fig_hit hlt he
      rw [← hb,h,Prod.mk.injEq] at hr;obtain ⟨rfl,rfl⟩:=hr;go_wp2
      go_ret2
      exact ⟨rfl,hbel _⟩
     ·go_wp2
      refine ⟨⟨k+1,by omega,rfl,fun j hj=>?_⟩,by simp;omega⟩;by_cases e:j=k
      ·subst e;exact he
      ·exact hne j (by omega)
    ·obtain rfl:k=16:=by omega
     have hr:=fig_miss hne;rw [← hb,h,Prod.mk.injEq] at hr;obtain ⟨rfl,rfl⟩:=hr;have hnx:∀ ty,(Instr.next (.pointer (some ⟨w.heap.size,0,none⟩)) true ty).run Tryz.prog (w.iter hexS 16)=_:=fun ty=>run_next_end w hexS 16 ty (by decide)
     go_wp2
     go_ret2
     exact ⟨rfl,hbel _⟩
 ·rw [if_neg (fun e=>h1 e.1)] at hb
  go_enter Tryz.func168,Tryz.ntmps168;go_wp2
  go_loopw [4] (fun n w'=>∃ k:Nat,k≤16∧w'=w.iter hexS k∧∀ j:Nat,j < k→(figAt j:Int)≠a0) (fun _ w'=>16 - w'.iterPos w.heap.size)
  case atStart=>exact ⟨0,by omega,rfl,fun j hj=>absurd hj (by omega)⟩
  case round=>
   obtain ⟨k,hk,rfl,hne⟩:=hrel;have hbel:∀ p,Below w.heap.size w (w.iter hexS p):=fun p=>(Below.refl _ _).alloc (Nat.le_refl _) _
   by_cases hlt:k < 16
   ·obtain ⟨hsz,hx,hf⟩:=hex_at k hlt
    have hnx:∀ ty,(Instr.next (.pointer (some ⟨w.heap.size,0,none⟩)) true ty).run Tryz.prog (w.iter hexS k)=.ok (.tuple #[.bool true,.int .i64 k,.int .i32 (figAt k:Nat)]) (w.iter hexS (k+1)):=fun ty=>by
     have hfl:figAt k < 128:=by unfold figAt;split <;> omega
     rw [← hf];exact run_next_ascii w hexS k ty hx (by rw [hf];exact hfl)
    by_cases he:(figAt k:Int)=a0
    ·have hr:=fig_hit hlt he
     rw [← hb,h,Prod.mk.injEq] at hr;obtain ⟨rfl,rfl⟩:=hr;go_wp2
     go_ret2
     exact ⟨rfl,hbel _⟩
    ·go_wp2
     refine ⟨⟨k+1,by omega,rfl,fun j hj=>?_⟩,by simp;omega⟩;by_cases e:j=k
     ·subst e;exact he
     ·exact hne j (by omega)
   ·obtain rfl:k=16:=by omega
    have hr:=fig_miss hne;rw [← hb,h,Prod.mk.injEq] at hr;obtain ⟨rfl,rfl⟩:=hr;have hnx:∀ ty,(Instr.next (.pointer (some ⟨w.heap.size,0,none⟩)) true ty).run Tryz.prog (w.iter hexS 16)=_:=fun ty=>run_next_end w hexS 16 ty (by decide)
    go_wp2
    go_ret2
    exact ⟨rfl,hbel _⟩
end Go.Proofs.YtloijngehifbmaaGreatDoor.P
end
section
namespace Go.Proofs.YtloijngehifbmaaGreatDoor.Wd
open Go.RowKit Go.Proofs.YtloijngehifbmaaGreatDoor.P Go.Proofs.YtloijngehifbmaaGreatDoorW.PrintWords Go.Proofs.YtloijngehifbmaaGreatDoorW.PrintLast Go.Proofs.YtloijngehifbmaaGreatDoorW.PrintMore Go.ChangeShapes Go.WideShapes Go.Deep Go.Joins
set_option linter.unusedVariables false
set_option linter.unusedSimpArgs false
abbrev Lg:=S49
instance:Inhabited Lg:=⟨z49⟩
def lgD {H:Type} (p:Lg):DataW H:=.agg [.lit (.string p.f0.data.toList),.lit (.string p.f1.data.toList),.lit (.string p.f2.data.toList),.lit (.int .i64 p.f3)]
theorem weights_all {H:Type} {P:Program} {e:TypeId}:∀ {ds:List (DataW H)} {d:DataW H},d ∈ ds→∀ n ∈ d.weights P e,n ∈ DataW.weightsAll P e ds
 | d0 :: ds,d,h,n,hn=>by
  simp only [DataW.weightsAll,List.mem_append]
  rcases List.mem_cons.1 h with rfl|h'
  ·exact .inl hn
  ·exact .inr (weights_all h' n hn)
theorem lg_weights {H:Type} (p:Lg):∀ n ∈ [p.f0.size,p.f1.size,p.f2.size],n ∈ (lgD (H:=H) p).weights Tryz.prog 49:=by
 intro n hn
 simp only [lgD,DataW.weights,Tryz.underlying49]
 simp only [List.map,DataW.weightsEach,DataW.weights]
 simp only [List.mem_cons,List.not_mem_nil,or_false] at hn
 rcases hn with rfl|rfl|rfl <;> simp
theorem list4 {α:Type} {l:List α} (h:l.length=4):∃ a b c d,l=[a,b,c,d]:=by
 match l,h with
 | [a,b,c,d],_=>exact ⟨a,b,c,d,rfl⟩
theorem lg_of {H:Type} {enc:TypeId×Value→H} {W:World} {base:Nat} {sp:Nat→Bool} {held:Bool} {n:Nat} {cs:List Value} {y:DataW H×List MemPlace}
  (h:DataW.trod enc Tryz.prog W base sp held n 49 cs=some y):∃ p:Lg,y.1=lgD p∧cs=[.string p.f0,.string p.f1,.string p.f2,.int .i64 p.f3]:=by
 obtain ⟨y0,y1,y2,y3,m,hy,hl,h0,h1,h2,h3⟩:=trod_struct4 Tryz.underlying49 h
 have hC:Tryz.prog.cellsOf 49=4:=by kernel_rfl
 have hS:Tryz.prog.cellsOf 9=1:=by kernel_rfl
 have hI:Tryz.prog.cellsOf 3=1:=by kernel_rfl
 rw [hC] at hl
 obtain ⟨c0,c1,c2,c3,rfl⟩:=list4 hl
 simp only [hS,hI,List.drop_zero,List.drop_succ_cons,List.take_succ_cons,List.take_zero] at h0 h1 h2 h3
 obtain ⟨s0,e0,r0,_⟩:=DataW.trod_string Tryz.underlying9 h0
 obtain ⟨s1,e1,r1,_⟩:=DataW.trod_string Tryz.underlying9 h1
 obtain ⟨s2,e2,r2,_⟩:=DataW.trod_string Tryz.underlying9 h2
 obtain ⟨i3,e3,r3,_⟩:=DataW.trod_int Tryz.underlying3 h3
 refine ⟨⟨s0,s1,s2,i3⟩,?_,?_⟩
 ·rw [hy,r0,r1,r2,r3];rfl
 ·simp only [List.cons.injEq,and_true] at e0 e1 e2 e3
  rw [e0,e1,e2,e3]
theorem pages_open {H:Type} {enc:TypeId×Value→H} {W:World} {n:Nat} {cs:List Value} {x:DataW H×List MemPlace} (h:DataW.trod enc Tryz.prog W 0 (fun _=>true) true n 22 cs=some x) :
  ∃ (A:Option Addr) (l:List Lg) (c:Nat),cs=[.slice A l.length c]∧Kd.C k49 W A l.length l∧l.length≤c ∧
   ∀ B,B≤9223372036854775807→(∀ n ∈ x.1.weights Tryz.prog 22,n≤B)→l.length * 56≤B∧∀ p ∈ l,p.f0.size≤B∧p.f1.size≤B∧p.f2.size≤B:=by
 have hC:Tryz.prog.cellsOf 49=4:=by kernel_rfl
 have hB:Tryz.prog.bytesOf 49=56:=by kernel_rfl
 rcases open_slice Tryz.underlying22 h with ⟨e,_⟩|⟨a,len,cap,m,k,D,Pl,e,_,hl,hm,hmm,hx,each⟩
 ·exact ⟨none,[],0,e,⟨rfl,by simp,fun h=>by simp at h⟩,Nat.le_refl _,fun B _ _=>⟨by simp,by simp⟩⟩
 ·have hmm':m=cap:=by simpa using hmm
  obtain ⟨f,hf⟩:=choose_lt (p:=fun i (p:Lg)=>D i=lgD p∧W.cells? 0 (a.add (i * 4)) 4=some [.string p.f0,.string p.f1,.string p.f2,.int .i64 p.f3]) (n:=m) (fun i hi=>by
   obtain ⟨cs',h1,h2⟩:=each i hi
   obtain ⟨p,hp,hcs⟩:=lg_of h2
   rw [hC] at h1
   exact ⟨p,hp,by rw [h1,hcs]⟩)
  refine ⟨some a,(List.range len).map f,cap,?_,⟨rfl,?_,fun hn=>⟨a,rfl,fun j p hj=>?_⟩⟩,?_,fun B hB2 hw=>?_⟩
  ·rw [e];simp
  ·have:maxLen=2 ^ 63 - 1:=rfl
   simp
   omega
  ·obtain ⟨hjl,hp⟩:=List.getElem?_eq_some_iff.1 hj
   simp only [List.length_map,List.length_range] at hjl
   simp only [List.getElem_map,List.getElem_range] at hp
   subst hp
   obtain ⟨hD,hc⟩:=hf j (by omega)
   obtain ⟨_,_,hcell⟩:=World.cells?_some hc
   refine ⟨_,rfl,k49_mk W (f j),fun i u hu=>?_⟩
   have hi:i < 4:=(List.getElem?_eq_some_iff.1 hu).1
   have:=hcell i hi
   rw [Go.Deep.add_add] at this
   exact this.trans hu
  ·simp;omega
  ·rw [hx] at hw
   simp only [DataW.weights,Tryz.underlying22,List.mem_cons,List.mem_append] at hw
   have h1:=hw _ (.inl rfl)
   rw [hB] at h1
   simp only [List.length_map,List.length_range] at h1
   refine ⟨by simp;omega,fun p hp=>?_⟩
   obtain ⟨i,hi,rfl⟩:=List.mem_map.1 hp
   have hil:=List.mem_range.1 hi
   have hD:=(hf i (by omega)).1
   have each2:∀ n ∈ [(f i).f0.size,(f i).f1.size,(f i).f2.size],n≤B:=fun n hn=>hw n (.inr (.inl (weights_all (d:=D i) (List.mem_map.2 ⟨i,hi,rfl⟩) n (by rw [hD];exact lg_weights (f i) n hn))))
   exact ⟨each2 _ (by simp),each2 _ (by simp),each2 _ (by simp)⟩
end Go.Proofs.YtloijngehifbmaaGreatDoor.Wd
end
section
namespace Go.Proofs.YtloijngehifbmaaGreatDoor.B
open Go.RowKit Go.Proofs.YtloijngehifbmaaGreatDoorW.PrintWords Go.Proofs.YtloijngehifbmaaGreatDoorW.PrintLast Go.Proofs.YtloijngehifbmaaGreatDoorW.PrintMore
set_option linter.unusedVariables false
set_option linter.unusedSimpArgs false
theorem w64 {n:Int} (h0:-9223372036854775808≤n) (h1:n < 9223372036854775808):wrap64 n=n:=by
 unfold wrap64;omega
abbrev L (s:ByteArray):List UInt8:=s.data.toList
theorem L_size (s:ByteArray):(L s).length=s.size:=(Lib.size_eq s).symm
theorem L_app (a b:ByteArray):L (a++b)=L a++L b:=by simp [L]
theorem L_ext (s:ByteArray) (a b:Nat):L (s.extract a b)=((L s).drop a).take (b - a):=Lib.extract_data s a b
theorem L_inj {a b:ByteArray} (h:L a=L b):a=b:=by
 cases a;cases b;congr 1;exact Array.toList_inj.1 h
theorem toList_inj {a b:ByteArray}:a.toList=b.toList↔a=b:=by
 rw [Lib.toList_data,Lib.toList_data];exact ⟨fun h=>L_inj h,fun h=>by rw [h]⟩
theorem toList_nil {a:ByteArray}:a.toList=([]:List UInt8)↔a.size=0:=by
 rw [Lib.toList_data,Lib.size_eq];exact List.length_eq_zero_iff.symm
theorem bt_L (s:ByteArray) (i:Nat):bt s i=(((L s).getD i 0).toNat:Int):=by
 unfold bt
 simp only [Int.toNat_natCast]
 split
 ·rename_i h
  rw [List.getD_eq_getElem?_getD,List.getElem?_eq_getElem (by rw [L_size];exact h)]
  simp [L]
  rfl
 ·rename_i h
  rw [List.getD_eq_getElem?_getD,List.getElem?_eq_none (by rw [L_size];omega)]
  rfl
theorem Ev_succ {α:Type} {g:Nat→Option α} {r:α} (h:Ev (fun k=>g (k+1)) r):Ev g r:=Ev.step (f:=fun k=>g (k+1)) (fun _=>rfl) h
end Go.Proofs.YtloijngehifbmaaGreatDoor.B
end
section
namespace Go.Proofs.YtloijngehifbmaaGreatDoor.Ad
open Go.RowKit Go.Proofs.YtloijngehifbmaaGreatDoorW.PrintWords Go.Proofs.YtloijngehifbmaaGreatDoor.B
set_option linter.unusedVariables false
set_option linter.unusedSimpArgs false
abbrev ofL (l:List UInt8):ByteArray:=⟨l.toArray⟩
theorem L_of (l:List UInt8):L (ofL l)=l:=by simp [L]
theorem of_L (s:ByteArray):ofL (L s)=s:=by apply L_inj;simp [L]
theorem ofL_app (a b:List UInt8):ofL (a++b)=ofL a++ofL b:=by apply L_inj;rw [L_of,L_app,L_of,L_of]
theorem ofL_size (l:List UInt8):(ofL l).size=l.length:=by rw [← L_size,L_of]
def plainB (c:UInt8):Bool:=(decide (97≤c.toNat) && decide (c.toNat≤122)) || (decide (48≤c.toNat) && decide (c.toNat≤57)) || c.toNat == 46 || c.toNat == 45
def hexN (c:UInt8):Option Nat:=
 if 48≤c.toNat∧c.toNat≤57 then some (c.toNat - 48) else if 97≤c.toNat∧c.toNat≤102 then some (c.toNat - 87) else if 65≤c.toNat∧c.toNat≤70 then some (c.toNat - 55) else none
theorem hexN_lt {c:UInt8} {x:Nat} (h:hexN c=some x):x < 16:=by
 unfold hexN at h
 split at h
 ·injection h;omega
 ·split at h
  ·injection h;omega
  ·split at h
   ·injection h;omega
   ·cases h
def fig (n:Nat):UInt8:=if n < 10 then UInt8.ofNat (48+n) else UInt8.ofNat (55+n)
def encN (n:Nat):List UInt8:=if plainB (UInt8.ofNat n) then [UInt8.ofNat n] else [37,fig (n / 16),fig (n % 16)]
theorem encN_len (n:Nat):(encN n).length≤3:=by unfold encN;split <;> simp
def esc:List UInt8→Option (List UInt8)
 | []=>some []
 | c :: r=>if c=37 then (match r with
   | a :: b :: q=>(match hexN a,hexN b with
    | some x,some y=>(esc q).map (encN (x * 16+y)++·)
    | _,_=>none)
   | _=>none) else (esc r).map (encN c.toNat++·)
theorem esc_short {r:List UInt8} (h:r.length≤1):esc (37 :: r)=none:=by
 match r,h with
 | [],_=>simp [esc]
 | [_],_=>simp [esc]
 | _ :: _ :: _,h=>simp at h
theorem esc_bad1 {a:UInt8} (b:UInt8) (q:List UInt8) (h:hexN a=none):esc (37 :: a :: b :: q)=none:=by simp [esc,h]
theorem esc_bad2 (a:UInt8) {b:UInt8} (q:List UInt8) (h:hexN b=none):esc (37 :: a :: b :: q)=none:=by
 cases ha:hexN a <;> simp [esc,h,ha]
theorem esc_sign {a b:UInt8} {x y:Nat} (q:List UInt8) (ha:hexN a=some x) (hb:hexN b=some y):esc (37 :: a :: b :: q)=(esc q).map (encN (x * 16+y)++·):=by simp [esc,ha,hb]
theorem esc_plain {c:UInt8} (r:List UInt8) (h:c≠37):esc (c :: r)=(esc r).map (encN c.toNat++·):=by rw [esc.eq_def];exact if_neg h
def escO (o:Option (List UInt8)):ByteArray×Bool:=match o with
 | some r=>(ofL r,true)
 | none=>(⟨#[]⟩,false)
def escNorm (s:ByteArray):ByteArray×Bool:=if s.size > 60 then (⟨#[]⟩,false) else escO (esc (L s))
def isNorm (s:ByteArray):Bool:=(escNorm s).2 && ((escNorm s).1.toList == s.toList)
theorem esc_len (n:Nat):∀ (l r:List UInt8),l.length≤n→esc l=some r→r.length≤3 * l.length:=by
 induction n with
 | zero=>
  intro l r hl h
  obtain rfl:l=[]:=List.length_eq_zero_iff.1 (by omega)
  simp [esc] at h
  subst h
  simp
 | succ n ih=>
  intro l r hl h
  match l,hl,h with
  | [],_,h=>simp [esc] at h;subst h;simp
  | c :: q,hl,h=>
   unfold esc at h
   split at h
   ·match q,hl,h with
    | a :: b :: q',hl,h=>
     simp only at h
     split at h
     ·obtain ⟨t,ht,rfl⟩:=Option.map_eq_some_iff.1 h
      have:=ih q' t (by simp at hl;omega) ht
      exact Nat.le_trans (by rw [List.length_append];exact Nat.add_le_add (encN_len _) this) (by simp only [List.length_cons];omega)
     ·cases h
    | [],_,h=>simp at h
    | [_],_,h=>simp at h
   ·obtain ⟨t,ht,rfl⟩:=Option.map_eq_some_iff.1 h
    have:=ih q t (by simp at hl;omega) ht
    exact Nat.le_trans (by rw [List.length_append];exact Nat.add_le_add (encN_len _) this) (by simp only [List.length_cons];omega)
theorem escNorm_size (s:ByteArray):(escNorm s).1.size≤180:=by
 unfold escNorm
 split
 ·exact Nat.zero_le _
 ·unfold escO
  split
  ·rename_i h1 _ r h
   have:=esc_len _ _ _ (Nat.le_refl _) h
   rw [ofL_size]
   rw [L_size] at this
   omega
  ·exact Nat.zero_le _
def body:List ByteArray→ByteArray
 | []=>⟨#[47]⟩
 | p :: r=>r.foldl (fun a q=>(a++⟨#[47]⟩)++q) ((⟨#[47]⟩:ByteArray)++p)
def pathB (parts:List ByteArray) (asks:Bool) (ask:ByteArray):ByteArray:=if asks=true then (body parts++⟨#[63]⟩)++ask else body parts
def textB (house:ByteArray) (parts:List ByteArray) (asks:Bool) (ask:ByteArray):ByteArray:=((⟨#[47,47]⟩:ByteArray)++house)++pathB parts asks ask
def partOk (p:ByteArray):Bool:=isNorm p && !(p.toList == []) && !(p.toList == [46]) && !(p.toList == [46,46])
def smallFrom (s:ByteArray):Nat→Nat→Bool
 | 0,_=>true
 | d+1,i=>if bt s i < 97 then false else if bt s i > 122 then false else smallFrom s d (i+1)
def isSmall (s:ByteArray):Bool:=smallFrom s s.size 0
def isHouse (s:ByteArray):Bool:=decide (1≤s.size) && decide (s.size≤5) && isSmall s
def addrOk (house:ByteArray) (parts:List ByteArray) (asks:Bool) (ask:ByteArray):Bool:=
 isHouse house && decide (parts.length≤5) && isNorm ask && (asks || ask.toList == []) && parts.all partOk && decide ((textB house parts asks ask).size≤60)
def addrText (house:ByteArray) (parts:List ByteArray) (asks:Bool) (ask:ByteArray):ByteArray:=if addrOk house parts asks ask=true then textB house parts asks ask else ⟨#[]⟩
theorem isNorm_size {s:ByteArray} (h:isNorm s=true):s.size≤60:=by
 unfold isNorm escNorm at h
 split at h
 ·simp at h
 ·omega
def sm (b:UInt8):UInt8:=if 65≤b.toNat∧b.toNat≤90 then b+32 else b
def smallB (s:ByteArray):ByteArray:=ofL ((L s).map sm)
end Go.Proofs.YtloijngehifbmaaGreatDoor.Ad
end
section
namespace Go.Proofs.YtloijngehifbmaaGreatDoor.P
open Go.RowKit Go.Proofs.YtloijngehifbmaaGreatDoorW.PrintWords Go.Proofs.YtloijngehifbmaaGreatDoorW.PrintLast Go.Proofs.YtloijngehifbmaaGreatDoorW.PrintMore Go.Proofs.YtloijngehifbmaaGreatDoor.B Go.Proofs.YtloijngehifbmaaGreatDoor.Ad
set_option linter.unusedVariables false
set_option linter.unusedSimpArgs false
def SmRow (b:Nat) (s:ByteArray) (i:Nat) (w:World):Prop:=
 b < w.heap.size∧∀ j,j < s.size→w.cell? ⟨b,j,none⟩=some (.int .u8 ((if j < i then sm ((L s).getD j 0) else (L s).getD j 0).toNat:Nat))∧w.frozen? ⟨b,j,none⟩=false
theorem sm_start (w:World) (e:TypeId) (s:ByteArray):SmRow w.heap.size s 0 (Lib.bytesWorld w e s):=by
 refine ⟨by rw [Lib.bytesWorld_size];omega,fun j hj=>⟨?_,?_⟩⟩
 ·rw [Lib.bytesWorld_cell w e s j hj];simp [L]
 ·have hk:s.size≤(Lib.bytesCells w e s).size:=by rw [Lib.bytesCells];simp
  simp only [World.frozen?,Lib.bytesWorld_at_new]
  simp
  omega
theorem sm_below (w:World) (e:TypeId) (s:ByteArray):Below w.heap.size w (Lib.bytesWorld w e s):=by
 refine ⟨rfl,rfl,rfl,by rw [Lib.bytesWorld_size];omega,fun j hj=>Lib.bytesWorld_at_old w e s j hj⟩
theorem sm_set {b:Nat} {s:ByteArray} {i:Nat} {w:World} (h:SmRow b s i w) (hi:i < s.size):SmRow b s (i+1) (w.setCell ⟨b,i,none⟩ (.int .u8 ((sm ((L s).getD i 0)).toNat:Nat))):=by
 refine ⟨by rw [size_set];exact h.1,fun j hj=>⟨?_,by rw [World.frozen?_setCell];exact (h.2 j hj).2⟩⟩
 rcases Nat.lt_trichotomy j i with h1|h1|h1
 ·rw [World.cell?_setCell_other _ _ _ _ (by intro e;injection e with _ e;omega),(h.2 j hj).1,if_pos h1,if_pos (by omega)]
 ·subst h1;rw [World.cell?_setCell_same _ _ _ (h.2 j hj).1,if_pos (by omega)]
 ·rw [World.cell?_setCell_other _ _ _ _ (by intro e;injection e with _ e;omega),(h.2 j hj).1,if_neg (by omega),if_neg (by omega)]
theorem sm_skip {b:Nat} {s:ByteArray} {i:Nat} {w:World} (h:SmRow b s i w) (hi:i < s.size) (he:sm ((L s).getD i 0)=(L s).getD i 0):SmRow b s (i+1) w:=by
 refine ⟨h.1,fun j hj=>⟨?_,(h.2 j hj).2⟩⟩
 rw [(h.2 j hj).1]
 rcases Nat.lt_trichotomy j i with h1|h1|h1
 ·rw [if_pos h1,if_pos (by omega)]
 ·subst h1;rw [if_neg (by omega),if_pos (by omega),he]
 ·rw [if_neg (by omega),if_neg (by omega)]
end Go.Proofs.YtloijngehifbmaaGreatDoor.P
end
section
namespace Go.Proofs.YtloijngehifbmaaGreatDoor.P
open Go.RowKit Go.Proofs.YtloijngehifbmaaGreatDoorW.PrintWords Go.Proofs.YtloijngehifbmaaGreatDoorW.PrintLast Go.Proofs.YtloijngehifbmaaGreatDoorW.PrintMore Go.Proofs.YtloijngehifbmaaGreatDoor.B Go.Proofs.YtloijngehifbmaaGreatDoor.Ad
set_option linter.unusedVariables false
set_option linter.unusedSimpArgs false
set_option maxHeartbeats 8000000
set_option maxRecDepth 100000
def strings_Join.f (l0:List ByteArray) (a1:ByteArray):Option (ByteArray):=
 if l0.length≤140737488355328∧(Lib.join (l0.map L) (L a1)).length≤140737488355328 then some (ofL (Lib.join (l0.map L) (L a1))) else none
theorem strings_Join.calls (A0:Option Addr) (c0:Nat) (l0:List ByteArray) (a1:ByteArray) (r:ByteArray) (w:World) (hr0:Kd.C Kd.string w A0 l0.length l0) (hc0:l0.length≤c0) (h:strings_Join.f l0 a1=some r) :
  Calls Tryz.prog 137 #[.slice A0 l0.length c0,.string a1] w fun e w'=>e=.returned (.string r)∧Below w.heap.size w w':=by
 unfold strings_Join.f at h
 split at h
 ·rename_i hh
  obtain rfl:=sI h;rcases Nat.eq_zero_or_pos l0.length with h0|h0
  ·obtain rfl:l0=[]:=List.length_eq_zero_iff.1 h0
   exact (Tryz.strings_Join_none A0 c0 a1 w).mono fun e w' ⟨he,hw⟩=>⟨he,hw ▸ Below.refl _ _⟩
  ·obtain ⟨bk,o,rfl,hb,hcells⟩:=row_at hr0 h0
   exact Tryz.strings_Join bk o c0 l0 a1 w hcells hb hh.1 hc0 hh.2
 ·cases h
def stringslite_Index.f (a0:ByteArray) (a1:ByteArray):Option (Int):=match L a1 with
 | [c]=>some (Lib.indexByte (L a0) c)
 | _=>none
theorem one_of_L {a:ByteArray} {c:UInt8} (h:L a=[c]):a=⟨#[c]⟩:=L_inj (by rw [h])
theorem stringslite_Index.calls (a0:ByteArray) (a1:ByteArray) (r:Int) (w:World) (h:stringslite_Index.f a0 a1=some r) :
  Calls Tryz.prog 126 #[.string a0,.string a1] w fun e w'=>e=.returned (.int .i64 r)∧Below w.heap.size w w':=by
 unfold stringslite_Index.f at h
 split at h
 ·rename_i c hc
  obtain rfl:=sI h;obtain rfl:=one_of_L hc;exact (Tryz.stringslite_Index_one a0 c w).mono fun e w' ⟨he,hw⟩=>⟨he,hw ▸ Below.refl _ _⟩
 ·cases h
def strings_Count.f (a0:ByteArray) (a1:ByteArray):Option (Int):=match L a1 with
 | [c]=>some (Lib.countByte (L a0) c)
 | _=>none
theorem strings_Count.calls (a0:ByteArray) (a1:ByteArray) (r:Int) (w:World) (h:strings_Count.f a0 a1=some r) :
  Calls Tryz.prog 113 #[.string a0,.string a1] w fun e w'=>e=.returned (.int .i64 r)∧Below w.heap.size w w':=by
 unfold strings_Count.f at h
 split at h
 ·rename_i c hc
  obtain rfl:=sI h;obtain rfl:=one_of_L hc;exact (Tryz.strings_Count_one a0 c w).mono fun e w' ⟨he,hw⟩=>⟨he,hw ▸ Below.refl _ _⟩
 ·cases h
def slices_Clone_string_string.f (l0:List ByteArray):Option (List ByteArray):=if l0.length * 16≤140737488355328 then some l0 else none
theorem slices_Clone_string_string.calls (A0:Option Addr) (c0:Nat) (l0:List ByteArray) (r:List ByteArray) (w:World) (hr0:Kd.C Kd.string w A0 l0.length l0) (hc0:l0.length≤c0) (h:slices_Clone_string_string.f l0=some r) :
  Calls Tryz.prog 133 #[.slice A0 l0.length c0] w fun e w'=>∃ v0_:Value,e=.returned (v0_)∧Kd.R Kd.string 9 w' w.heap.size (fun _=>True) v0_ r∧Below w.heap.size w w':=by
 unfold slices_Clone_string_string.f at h
 split at h
 ·rename_i hh
  obtain rfl:=sI h;rcases Nat.eq_zero_or_pos l0.length with h0|h0
  ·obtain rfl:l0=[]:=List.length_eq_zero_iff.1 h0
   cases A0 with
   | none=>exact (Tryz.slices_Clone_string_nil 0 c0 w).mono fun e w' ⟨he,hw⟩=>⟨_,he,Kd.R_nil _ _ _ _ _,hw ▸ Below.refl _ _⟩
   | some a=>exact (Tryz.slices_Clone_string_zero a c0 w).mono fun e w' ⟨v,he,ho,_,hb⟩=>⟨v,he,Kd.R_of_own ho (fun _ _=>trivial),hb⟩
  ·obtain ⟨bk,o,rfl,hb,hcells⟩:=row_at hr0 h0
   refine (Tryz.slices_Clone_string bk o l0.length c0 l0 w (Nat.le_refl _) hh (fun j hj=>?_)).mono fun e w' ⟨v,he,ho,_,hb'⟩=>⟨v,he,Kd.R_of_own ?_ (fun _ _=>trivial),hb'⟩
   ·rw [List.getD_eq_getElem?_getD,List.getElem?_eq_getElem hj]
    exact hcells j _ (List.getElem?_eq_getElem hj)
   ·rw [List.take_length] at ho
    exact ho
 ·cases h
def sq:ByteArray:=⟨#[47,63]⟩
theorem sq_at:sq.size=2∧(∀ h:0 < sq.size,(sq[0]'h).toNat=47)∧(∀ h:1 < sq.size,(sq[1]'h).toNat=63):=by decide +kernel
theorem valid_same (r:Int):Utf8.valid r=Lib.validRune r:=by
 unfold Utf8.valid Lib.validRune
 rw [Bool.eq_iff_iff];simp only [Bool.or_eq_true,Bool.and_eq_true,decide_eq_true_eq]
 omega
theorem decode_skip (s:ByteArray) (pos:Nat) (h:pos < s.size) (ha:128≤(s[pos]'h).toNat) :
  pos+(Utf8.decode s pos).2≤s.size∧∀ j,pos≤j→j < pos+(Utf8.decode s pos).2→∀ hj:j < s.size,128≤(s[j]'hj).toNat:=by
 have hn:¬ (s[pos]'h).toNat < 128:=by omega
 have one:pos+1≤s.size∧∀ j,pos≤j→j < pos+1→∀ hj:j < s.size,128≤(s[j]'hj).toNat:=by
  refine ⟨h,fun j h1 h2 hj=>?_⟩;obtain rfl:j=pos:=by omega
  exact ha
 have cont:∀ k,(decide (pos+k < s.size) && ((s.get! (pos+k)).toNat / 64 == 2))=true→pos+k < s.size∧∀ hj:pos+k < s.size,128≤(s[pos+k]'hj).toNat:=by
  intro k hk;simp only [Bool.and_eq_true,decide_eq_true_eq,beq_iff_eq] at hk
  refine ⟨hk.1,fun hj=>?_⟩;have e:=get_at s (pos+k) hj;rw [Nat.add_zero] at e;rw [e] at hk;omega
 simp only [Utf8.decode,get_at s pos h,hn,if_false]
 split
 ·rename_i h1
  simp only [Bool.and_eq_true] at h1
  obtain ⟨l1,b1⟩:=cont 1 (by simpa using h1.2);split
  ·refine ⟨(by show pos+2≤_;omega),fun j h2 h3 hj=>?_⟩
   have h3':j < pos+2:=h3;rcases (by omega:j=pos∨j=pos+1) with e|e
   ·subst e;exact ha
   ·subst e;exact b1 hj
  ·exact one
 ·split
  ·rename_i _ h1
   simp only [Bool.and_eq_true] at h1
   obtain ⟨l1,b1⟩:=cont 1 (by simpa using h1.1.2);obtain ⟨l2,b2⟩:=cont 2 (by simpa using h1.2);split
   ·refine ⟨(by show pos+3≤_;omega),fun j h2 h3 hj=>?_⟩
    have h3':j < pos+3:=h3;rcases (by omega:j=pos∨j=pos+1∨j=pos+2) with e|e|e
    ·subst e;exact ha
    ·subst e;exact b1 hj
    ·subst e;exact b2 hj
   ·exact one
  ·split
   ·rename_i _ _ h1
    simp only [Bool.and_eq_true] at h1
    obtain ⟨l1,b1⟩:=cont 1 (by simpa using h1.1.1.2);obtain ⟨l2,b2⟩:=cont 2 (by simpa using h1.1.2);obtain ⟨l3,b3⟩:=cont 3 (by simpa using h1.2);split
    ·refine ⟨(by show pos+4≤_;omega),fun j h2 h3 hj=>?_⟩
     have h3':j < pos+4:=h3;rcases (by omega:j=pos∨j=pos+1∨j=pos+2∨j=pos+3) with e|e|e|e
     ·subst e;exact ha
     ·subst e;exact b1 hj
     ·subst e;exact b2 hj
     ·subst e;exact b3 hj
    ·exact one
   ·exact one
theorem noAny_skip {s:ByteArray} {pos n:Nat} (h:Lib.NoAny (L s) (L sq) pos) (hb:∀ j,pos≤j→j < pos+n→∀ hj:j < s.size,128≤(s[j]'hj).toNat):Lib.NoAny (L s) (L sq) (pos+n):=by
 intro j b hj hx;rcases Nat.lt_or_ge j pos with hlt|hge
 ·exact h j b hlt hx
 ·obtain ⟨hl,he⟩:=List.getElem?_eq_some_iff.1 hx
  have hjs:j < s.size:=by rw [← L_size];exact hl
  have h1:=hb j hge hj hjs;have h2:(s[j]'hjs)=b:=by rw [← he];rfl
  rw [h2] at h1;have:L sq=[47,63]:=rfl;rw [this];simp only [List.contains_cons,List.contains_nil,Bool.or_false,Bool.or_eq_false_iff,beq_eq_false_iff_ne]
  constructor
  ·rintro rfl;exact absurd h1 (by decide)
  ·rintro rfl;exact absurd h1 (by decide)
theorem indexRune_far (r:Int) (w:World) (h0:128≤r) (h1:r≤2147483647) :
  Calls Tryz.prog 128 #[.string sq,.int .i32 r] w fun e w'=>e=.returned (.int .i64 (-1))∧Below w.heap.size w w':=by
 have g0:decide (0≤r)=true:=dT (by omega);have g1:decide (r < 128)=false:=dF (by omega);obtain ⟨hsz,hs0,hs1⟩:=sq_at;by_cases hr:r=65533
 ·subst hr
  have n0:=fun ty=>run_next_ascii (P:=Tryz.prog) w sq 0 ty (by rw [hsz];decide) (by rw [hs0];decide)
  have n1:=fun ty=>run_next_ascii (P:=Tryz.prog) w sq 1 ty (by rw [hsz];decide) (by rw [hs1];decide)
  rw [hs0] at n0;rw [hs1] at n1;have n2:=fun ty=>run_next_end (P:=Tryz.prog) w sq 2 ty (by rw [hsz];decide)
  clear hsz hs0 hs1 h0 h1 g0 g1;go_enter Tryz.func128,Tryz.ntmps128;go_wp2
  go_loopg [5,6] 2 (fun g _ _ wx=>∃ i:Nat,i+g=2∧wx=w.iter sq i)
  case atStart=>exact ⟨0,by omega,rfl⟩
  case round=>
   obtain ⟨i,hig,rfl⟩:=hrel;cases gk with
   | zero=>
    obtain rfl:i=2:=by omega
    go_wp2
    go_ret
    exact ⟨rfl,(Below.refl _ _).alloc (Nat.le_refl _) _⟩
   | succ g=>
    rcases (by omega:i=0∨i=1) with e|e
    ·subst e
     go_wp2
     go_roundg g
     case measure=>omega
     case rel=>exact ⟨1,by omega,rfl⟩
    ·subst e
     go_wp2
     go_roundg g
     case measure=>omega
     case rel=>exact ⟨2,by omega,rfl⟩
 ·have g2:(r == 65533)=false:=by simp [hr]
  cases hv:Lib.validRune r with
  | false=>
   go_enter Tryz.func128,Tryz.ntmps128;go_wp2_with (go_at_call 159;refine (Tryz.utf8_ValidRune _ _).mono ?_;rintro e w' ⟨rfl,hw⟩;rw [hw,hv])
   go_ret
   exact ⟨rfl,Below.refl _ _⟩
  | true=>
   obtain ⟨e1,e2,e3⟩:=encode_facts r (by rw [valid_same];exact hv) h0;go_enter Tryz.func128,Tryz.ntmps128;go_wp2_with (go_at_call 159;refine (Tryz.utf8_ValidRune _ _).mono ?_;rintro e w' ⟨rfl,hw⟩;rw [hw,hv])
   go_step3
   go_wp2
   generalize Utf8.encode r=nd at e1 e2 e3 ⊢;refine wp_loop_rounds 1 ?_;rw [rounds_succ];by_cases hn:nd.size=2
   ·obtain ⟨x,hx⟩:∃ x:UInt8,∀ h:1 < nd.size,nd[1]'h=x:=⟨nd[1]'(by omega),fun _=>rfl⟩
    have hx1:128≤x.toNat:=by
     have:=e3 (by omega);simp only [hn] at this
     rw [← hx (by omega)];exact this
    clear e3;have hne:((63:Int) != (x.toNat:Int))=true:=by simp;omega
    have hnz:((nd.size:Nat):Int) - 1=1:=by omega
    rw [hnz];have HN:=A_ hn;have hlt:(1:Int) < (nd.size:Int):=by omega
    clear hn hnz e1 e2;have hs1':=hs1 (by rw [hsz];decide);have hi1:(1:Int) < (sq.size:Int):=by rw [hsz];decide
    have hs2:(2:Int)≤(sq.size:Int):=by rw [hsz];decide
    go_wp2
    go_step3
    go_wp2
    go_quiet (fail)
    have HB:Aside0 (Below w.heap.size w (w.drewN nq)):=⟨pw_below_drewN (Below.refl _ _) nq⟩;generalize w.drewN nq=w1 at HB ⊢;have hib:Lib.indexByte (sq.extract 2 2).data.toList ((x.toNat:Int)).toNat.toUInt8=-1:=rfl;go_wp2
    go_quiet ((go_at_call 158;exact Calls.quiet_of_same (Tryz.strings_IndexByte _ _ _)))
    go_wp2
    rw [Exit.noGoto_ret];go_wp2
    rw [Exit.noGoto_ret];go_ret
    exact ⟨rfl,pw_below_drewN HB.out _⟩
   ·have hge:decide ((nd.size:Int) - 1 < 2)=false:=dF (by omega)
    go_wp2
    rw [Exit.noGoto_ret];go_ret
    exact ⟨rfl,Below.refl _ _⟩
def strings_IndexAny.f (a0 a1:ByteArray):Option Int:=if L a1=[47,63]∧a0.size < 4294967281 then some (Lib.indexAny (L a0) (L a1)) else none
def iterTo (w:World) (b:Nat) (s:ByteArray) (p:Nat):World:={ w with heap:=w.heap.setIfInBounds b (.stringIter s p) }
theorem iterTo_at {w:World} {b:Nat} {s:ByteArray} {p q:Nat} (h:w.heap[b]?=some (.stringIter s q)):(iterTo w b s p).heap[b]?=some (.stringIter s p):=by
 obtain ⟨hl,_⟩:=Array.getElem?_eq_some_iff.1 h;simp [iterTo,hl]
theorem iterTo_below {w0 w:World} {b:Nat} {s:ByteArray} {p:Nat} (h:Below w0.heap.size w0 w) (hb:w0.heap.size≤b):Below w0.heap.size w0 (iterTo w b s p):=
 ⟨h.os,h.tape,h.output,(by simp [iterTo];exact h.size),fun i hi=>by
  rw [← h.block i hi];simp only [iterTo]
  exact Array.getElem?_setIfInBounds_ne (by omega)⟩
theorem run_next_in {P:Program} (w:World) (b:Nat) (s:ByteArray) (pos:Nat) (hb:w.heap[b]?=some (.stringIter s pos)) (h:pos < s.size) (ty:TypeId) :
  (Instr.next (.pointer (some ⟨b,0,none⟩)) true ty).run P w=.ok (.tuple #[.bool true,.int .i64 pos,.int .i32 (Utf8.decode s pos).1]) (iterTo w b s (pos+(Utf8.decode s pos).2)):=by
 simp only [Instr.next,getObj,setObj,Sem.run_bind,Sem.run,hb,Result.andThen,h,if_true,iterTo]
 simp [goInt]
theorem run_next_out {P:Program} (w:World) (b:Nat) (s:ByteArray) (pos:Nat) (hb:w.heap[b]?=some (.stringIter s pos)) (h:¬ pos < s.size) (ty:TypeId) :
  (Instr.next (.pointer (some ⟨b,0,none⟩)) true ty).run P w=.ok (.tuple #[.bool false]) w:=by
 simp [Instr.next,getObj,Sem.run,hb,h]
theorem indexAny_few (s:ByteArray) (w:World) (h8:s.size≤8) :
  Calls Tryz.prog 98 #[.string s,.string sq] w fun e w'=>e=.returned (.int .i64 (Lib.indexAny (L s) (L sq)))∧Below w.heap.size w w':=by
 have hemp:sq.toList.isEmpty=false:=by decide +kernel
 have hn1:((sq.size:Int) == 1)=false:=by decide +kernel
 have h8z:decide ((8:Int) < (s.size:Int))=false:=dF (by omega);go_enter Tryz.func98,Tryz.ntmps98;go_wp2_with (go_at_call 129;refine (Tryz.strings_shouldUseASCIISet _ _).mono ?_;rintro e w' ⟨rfl,hw⟩;rw [hw,h8z])
 go_loopg [9,10] s.size (fun g _ _ wx=>∃ i:Nat,i+g=s.size∧Aside0 (wx.heap[w.heap.size]?=some (.stringIter s i))∧Aside0 (Lib.NoAny (L s) (L sq) i)∧Aside0 (Below w.heap.size w wx))
 case atStart=>exact ⟨0,by omega,⟨World.iter_heap w s 0⟩,⟨Lib.NoAny.zero _ _⟩,⟨(Below.refl _ _).alloc (Nat.le_refl _) _⟩⟩
 case round=>
  obtain ⟨i,hig,hI,HN,HB⟩:=hrel;cases gk with
  | zero=>
   obtain rfl:i=s.size:=by omega
   have hnx:=run_next_out (P:=Tryz.prog) wr w.heap.size s s.size hI.out (by omega);go_wp2
   go_ret
   exact ⟨(by rw [Lib.indexAny_none (by rw [L_size];exact HN.out)];rfl),HB.out⟩
  | succ g=>
   have hi:i < s.size:=by omega
   have hnx:=run_next_in (P:=Tryz.prog) wr w.heap.size s i hI.out hi;obtain ⟨x,hx⟩:∃ x:UInt8,s[i]'hi=x:=⟨_,rfl⟩;have Hx:Aside0 ((L s)[i]?=some x):=⟨(by rw [← hx];exact Lib.data_getElem? s i hi)⟩;by_cases hlt:x.toNat < 128
   ·have hd:=decode_ascii s i hi (by rw [hx];exact hlt)
    rw [hx] at hd;rw [hd] at hnx;clear hd;have HI2:Aside0 ((iterTo wr w.heap.size s (i+1)).heap[w.heap.size]?=some (.stringIter s (i+1))):=⟨iterTo_at hI.out⟩;have HB2:Aside0 (Below w.heap.size w (iterTo wr w.heap.size s (i+1))):=⟨iterTo_below HB.out (Nat.le_refl _)⟩;simp only at hnx
    have hcon:=Lib.contains_iff_indexByte (L sq) x;have hback:((x.toNat:Int)).toNat.toUInt8=x:=by simp
    obtain ⟨q,hq⟩:∃ q,Lib.indexByte sq.data.toList x=q:=⟨_,rfl⟩;have hcon:(L sq).contains x=decide (0≤q):=by rw [← hq];exact hcon
    clear hx HB hI;generalize iterTo wr w.heap.size s (i+1)=w2 at hnx HI2 HB2;cases hin:(L sq).contains x
    ·rw [hin] at hcon
     have hlt0:¬ ((0:Int)≤q):=of_decide_eq_false hcon.symm;clear hcon;have HS:Aside0 (Lib.NoAny (L s) (L sq) (i+1)):=⟨HN.out.succ Hx.out hin⟩;clear hin;go_wp2_with (go_at_call 128;refine (Tryz.strings_IndexRune_ascii _ _ _ (by omega) (by omega)).mono ?_;rintro e w' ⟨rfl,hw⟩;rw [hw,hback,hq])
     go_roundg g
     case measure=>omega
     case rel=>exact ⟨i+1,by omega,HI2,HS,HB2⟩
    ·rw [hin] at hcon
     have hge:(0:Int)≤q:=of_decide_eq_true hcon.symm;clear hcon;have HE:Aside0 (Lib.indexAny (L s) (L sq)=i):=⟨Lib.indexAny_hit HN.out Hx.out hin⟩;clear hin;go_wp2_with (go_at_call 128;refine (Tryz.strings_IndexRune_ascii _ _ _ (by omega) (by omega)).mono ?_;rintro e w' ⟨rfl,hw⟩;rw [hw,hback,hq])
     go_ret
     exact ⟨(by rw [HE.out];rfl),HB2.out⟩
   ·obtain ⟨hd1,hd2⟩:=decode_high s i hi (by rw [hx];omega)
    have hd3:=decode_le s i;obtain ⟨hk1,hk2⟩:=decode_skip s i hi (by rw [hx];omega);generalize (Utf8.decode s i).2=n at hnx hd2 hk1 hk2;generalize (Utf8.decode s i).1=c at hnx hd1 hd3;have HI2:Aside0 ((iterTo wr w.heap.size s (i+n)).heap[w.heap.size]?=some (.stringIter s (i+n))):=⟨iterTo_at hI.out⟩;have HB2:Aside0 (Below w.heap.size w (iterTo wr w.heap.size s (i+n))):=⟨iterTo_below HB.out (Nat.le_refl _)⟩;have HS:Aside0 (Lib.NoAny (L s) (L sq) (i+n)):=⟨noAny_skip HN.out hk2⟩;have hlo:(128:Int)≤(c:Int):=by omega
    have hhi:(c:Int)≤2147483647:=by omega
    have HK:=A_ hk1;have HD:=A_ hd2;clear hx HB hI HN Hx hk1 hk2 hd1 hd2 hd3 hlt;generalize iterTo wr w.heap.size s (i+n)=w2 at hnx HI2 HB2;go_wp2_with (go_at_call 128;refine (indexRune_far _ _ hlo hhi).mono ?_;rintro e w' ⟨rfl,hb⟩)
    have HC:=A_ hb;clear hb;go_roundg (g+1 - n)
    case measure=>have:=HK.out;have:=HD.out;omega
    case rel=>exact ⟨i+n,(zz17 HK),⟨(HC.out.block _ (by obtain ⟨hl,_⟩:=Array.getElem?_eq_some_iff.1 HI2.out;exact hl)).trans HI2.out⟩,HS,⟨HB2.out.trans (HC.out.mono HB2.out.size)⟩⟩
theorem strings_IndexAny.calls (a0 a1:ByteArray) (r:Int) (w:World) (h:strings_IndexAny.f a0 a1=some r) :
  Calls Tryz.prog 98 #[.string a0,.string a1] w fun e w'=>e=.returned (.int .i64 r)∧Below w.heap.size w w':=by
 unfold strings_IndexAny.f at h
 split at h
 ·rename_i hh
  obtain rfl:=sI h;obtain rfl:a1=sq:=L_inj (by rw [hh.1];rfl);rcases Nat.lt_or_ge 8 a0.size with h8|h8
  ·refine (Tryz.strings_IndexAny_long (fun w=>by kernel_rfl) a0 sq w (by decide +kernel) h8 hh.2 (by decide +kernel) (fun j b hb=>?_)).mono fun e w' ⟨he,hw⟩=>⟨he,hw ▸ ((Below.refl _ _).alloc (Nat.le_refl _) _).alloc (by simp) _⟩
   have hb':([47,63]:List UInt8)[j]?=some b:=hb;match j,hb' with
   | 0,hb'=>injection hb' with hb';subst hb';decide
   | 1,hb'=>injection hb' with hb';subst hb';decide
  ·exact indexAny_few a0 w h8
 ·cases h
end Go.Proofs.YtloijngehifbmaaGreatDoor.P
end
section
namespace Go.Proofs.YtloijngehifbmaaGreatDoor.P
open Go.RowKit Go.Proofs.YtloijngehifbmaaGreatDoorW.PrintWords Go.Proofs.YtloijngehifbmaaGreatDoorW.PrintLast Go.Proofs.YtloijngehifbmaaGreatDoorW.PrintMore
attribute [local go_sem] max2_int min2_int max_two min_two max_three min_three max_four min_four
set_option linter.unusedVariables false
set_option linter.unusedSimpArgs false
set_option maxHeartbeats 8000000
set_option maxRecDepth 100000
def impl_writePath.f (a0_0:ByteArray) (l0_1:List ByteArray) (a0_2:Bool) (a0_3:ByteArray):Option (ByteArray):=(strings_Join.f l0_1 (⟨#[47]⟩:ByteArray)).bind fun t483=>(if 1+t483.size≤9223372036854775807 then (if a0_2=true then (if 1+a0_3.size≤9223372036854775807 then (if 1+t483.size+1+a0_3.size≤9223372036854775807 then (some (((⟨#[47]⟩:ByteArray)++t483)++((⟨#[63]⟩:ByteArray)++a0_3))) else (none)) else (none)) else (some ((⟨#[47]⟩:ByteArray)++t483))) else (none))
theorem impl_writePath.calls (a0_0:ByteArray) (A0_1:Option Addr) (c0_1:Nat) (l0_1:List ByteArray) (a0_2:Bool) (a0_3:ByteArray) (r:ByteArray) (w:World) (hr0_1:Kd.C Kd.string w A0_1 l0_1.length l0_1) (hc0_1:l0_1.length≤c0_1) (h:impl_writePath.f a0_0 l0_1 a0_2 a0_3=some r) :
  Calls Tryz.prog 102 #[.agg #[.string a0_0,.slice A0_1 l0_1.length c0_1,.bool a0_2,.string a0_3]] w fun e w'=>e=.returned (.string r)∧Below w.heap.size w w':=by
 have hu51:=Tryz.underlying51;have HR0_1:=A_ hr0_1;have HC0_1:=A_ hc0_1;clear hr0_1 hc0_1;have HB:=A_ (Below.refl w.heap.size w);unfold impl_writePath.f at h
 have H:=h;clear h;replace H:=bindA H;obtain ⟨t483,A2,H⟩:=H;replace H:=iteE H;rcases H with ⟨c3,H⟩|⟨c3,H⟩
 ·have c3b0:=eq_true c3
  have c3b1:=dT c3;try have c3b2:(9223372036854775807 < 1+t483.size)=False:=eq_false (Nat.not_lt.2 c3)
  have HF4:=A_ H;clear H;go_enter Tryz.func102,Tryz.ntmps102;go_upto_if 9 with (first|(refine boxF 1 #[.string a0_0,.slice A0_1 l0_1.length c0_1,.bool a0_2,.string a0_3] 51 ?_;intro gb482 hg w5 BK482 hb;have GE482:=geB hg (zz0 HB);replace HB:=A_ (bS (zz0 HB) hb);clear hb hg;obtain ⟨_,_,_,_,_,_,_,_⟩:=cf4 BK482)|(refine gR 137 (some 6) Tryz.func137 (strings_Join.calls _ _ l0_1 (⟨#[47]⟩:ByteArray) t483 _ ?side1 ?side2 A2.out) ?_;(case side1=>exact (zz41 HR0_1 HB));(case side2=>exact HC0_1.out);rintro w7 hb;replace BK482:=A_ (bB (zz7 BK482) hb);replace HB:=A_ (bS (zz2 HB GE482) hb);(try clear hb);obtain ⟨_,_,_,_,_,_,_,_⟩:=cf4 BK482))
  obtain ⟨H⟩:=HF4;replace H:=iteB H;rcases H with ⟨rfl,H⟩|⟨rfl,H⟩
  ·replace H:=iteN H
   obtain ⟨c10,H⟩:=H;have c10b0:=eq_true c10;have c10b1:=dT c10;try have c10b2:(9223372036854775807 < 1+a0_3.size)=False:=eq_false (Nat.not_lt.2 c10)
   replace H:=iteN H;obtain ⟨c11,H⟩:=H;have c11b0:=eq_true c11;have c11b1:=dT c11;try have c11b2:(9223372036854775807 < 1+t483.size+1+a0_3.size)=False:=eq_false (Nat.not_lt.2 c11)
   obtain rfl:=sI H;obtain ⟨_,_,_,_,_,_,_,_⟩:=cf4 BK482;go_wp2
   go_ret
   exact ⟨zz1,(zz2 HB GE482)⟩
  ·obtain rfl:=sI H
   go_wp2
   go_ret
   exact ⟨zz1,(zz2 HB GE482)⟩
 ·exact absurd H (by simp)
def impl_writeAddr.f (a0_0:ByteArray) (l0_1:List ByteArray) (a0_2:Bool) (a0_3:ByteArray):Option (ByteArray):=if 2+a0_0.size≤9223372036854775807 then ((impl_writePath.f a0_0 l0_1 a0_2 a0_3).bind fun t485=>(if 2+a0_0.size+t485.size≤9223372036854775807 then (some (((⟨#[47,47]⟩:ByteArray)++a0_0)++t485)) else (none))) else (none)
theorem impl_writeAddr.calls (a0_0:ByteArray) (A0_1:Option Addr) (c0_1:Nat) (l0_1:List ByteArray) (a0_2:Bool) (a0_3:ByteArray) (r:ByteArray) (w:World) (hr0_1:Kd.C Kd.string w A0_1 l0_1.length l0_1) (hc0_1:l0_1.length≤c0_1) (h:impl_writeAddr.f a0_0 l0_1 a0_2 a0_3=some r) :
  Calls Tryz.prog 136 #[.agg #[.string a0_0,.slice A0_1 l0_1.length c0_1,.bool a0_2,.string a0_3]] w fun e w'=>e=.returned (.string r)∧Below w.heap.size w w':=by
 have hu51:=Tryz.underlying51;have HR0_1:=A_ hr0_1;have HC0_1:=A_ hc0_1;clear hr0_1 hc0_1;have HB:=A_ (Below.refl w.heap.size w);unfold impl_writeAddr.f at h
 have H:=h;clear h;replace H:=iteE H;rcases H with ⟨c2,H⟩|⟨c2,H⟩
 ·have c2b0:=eq_true c2
  have c2b1:=dT c2;try have c2b2:(9223372036854775807 < 2+a0_0.size)=False:=eq_false (Nat.not_lt.2 c2)
  replace H:=bindA H;obtain ⟨t485,A3,H⟩:=H;replace H:=iteN H;obtain ⟨c4,H⟩:=H;have c4b0:=eq_true c4;have c4b1:=dT c4;try have c4b2:(9223372036854775807 < 2+a0_0.size+t485.size)=False:=eq_false (Nat.not_lt.2 c4)
  obtain rfl:=sI H;go_enter Tryz.func136,Tryz.ntmps136;try go_wp2_with (first|(refine boxF 1 #[.string a0_0,.slice A0_1 l0_1.length c0_1,.bool a0_2,.string a0_3] 51 ?_;intro gb484 hg w5 BK484 hb;have GE484:=geB hg (zz0 HB);replace HB:=A_ (bS (zz0 HB) hb);clear hb hg))
  replace BK484:=A_ (blk_drew BK484.out);replace HB:=A_ (below_drew1 HB.out);refine start_ (n:=7) (S:=fun w'=>w'.cell? ⟨gb484,0,none⟩=some (.string a0_0)∧w'.cell? ⟨gb484,1,none⟩=some (.slice A0_1 l0_1.length c0_1)∧w'.cell? ⟨gb484,2,none⟩=some (.bool a0_2)∧w'.cell? ⟨gb484,3,none⟩=some (.string a0_3)) (ds:=[]) #[yF,yF,yF,yF,yF,yF,yF] (by kernel_rfl) rfl rfl ⟨(blk_cell BK484.out 0).trans rfl,(blk_cell BK484.out 1).trans rfl,(blk_cell BK484.out 2).trans rfl,(blk_cell BK484.out 3).trans rfl⟩ (fun hHeld=>?_);generalize w5.drew=w6 at BK484 HB hHeld ⊢;refine pureY 0 (some 3) #[yT,yF,yF,yF,yF,yF,yF] ?_;refine takeY4 1 (some 4) #[yT,yT,yF,yF,yF,yF,yF] hHeld ?_;refine pureY 2 (some 5) #[yT,yT,yT,yF,yF,yF,yF] ?_;refine takeY4 3 (some 6) #[yT,yT,yT,yT,yF,yF,yF] hHeld ?_;refine one_ (i:=4) (N:=some 7) #[yT,yT,yT,yT,yT,yF,yF] rfl rfl (by kernel_rfl) (by decide) (fun K hK=>?_);refine goes_ Tryz.func102 (by kernel_rfl) rfl #[.agg #[.string a0_0,.slice A0_1 l0_1.length c0_1,.bool a0_2,.string a0_3]] (by rfl) rfl rfl zz52 ?_;with_reducible refine (impl_writePath.calls a0_0 _ _ l0_1 a0_2 a0_3 t485 _ ?side1 ?side2 A3.out).mono ?_
  (case side1=>exact (zz41 HR0_1 HB))
  (case side2=>exact HC0_1.out)
  rintro e w7 ⟨rfl,hb⟩;refine ⟨_,rfl,?_⟩;replace BK484:=A_ (bB (zz7 BK484) hb);replace HB:=A_ (bS (zz2 HB GE484) hb);(try clear hb)
  (try clear hb2)
  (try clear hk)
  (try clear hi)
  refine hK.out _ _ ⟨(blk_cell BK484.out 0).trans rfl,(blk_cell BK484.out 1).trans rfl,(blk_cell BK484.out 2).trans rfl,(blk_cell BK484.out 3).trans rfl⟩ (fun hHeld=>?_);clear hK K;refine nZ 7 ?_;refine pureY 5 (some 8) #[yT,yT,yT,yT,yT,yT,yF] ?_;refine pureY 6 (some 2) #[yT,yT,yT,yT,yT,yT,yT] ?_;refine done_ (by kernel_rfl) ?_;try go_wp2
  go_ret
  exact ⟨zz1,(zz2 HB GE484)⟩
 ·exact absurd H (by simp)
def stringslite_Cut.f (a0:ByteArray) (a1:ByteArray):Option (ByteArray×ByteArray×Bool):=(stringslite_Index.f a0 a1).bind fun t425=>(if t425 ≥ 0 then (if 0≤t425 then (if t425≤(a0.size:Int) then (if 0≤(wrap64 (t425+(a1.size:Int))) then (if (wrap64 (t425+(a1.size:Int)))≤(a0.size:Int) then (some (a0.extract 0 (t425:Int).toNat,a0.extract ((wrap64 (t425+(a1.size:Int))):Int).toNat a0.size,true)) else (none)) else (none)) else (none)) else (none)) else (some (a0,(⟨#[]⟩:ByteArray),false)))
theorem stringslite_Cut.calls (a0:ByteArray) (a1:ByteArray) (r1:ByteArray) (r2:ByteArray) (r3:Bool) (w:World) (h:stringslite_Cut.f a0 a1=some (r1,r2,r3)) :
  Calls Tryz.prog 96 #[.string a0,.string a1] w fun e w'=>e=.returned (.tuple #[.string r1,.string r2,.bool r3])∧Below w.heap.size w w':=by
 have HB:=A_ (Below.refl w.heap.size w);unfold stringslite_Cut.f at h
 have H:=h;clear h;replace H:=bindA H;obtain ⟨t425,A3,H⟩:=H;have HF4:=A_ H;clear H;go_enter Tryz.func96,Tryz.ntmps96;go_upto_if 12 with (first|(go_at_call 126;(with_reducible refine (stringslite_Index.calls a0 a1 t425 _ A3.out).mono ?_);rintro e w5 ⟨rfl,hb⟩;replace HB:=A_ (bS (zz0 HB) hb);(try clear hb)))
 repeat (go_quiet (first|(go_at_call 126;(with_reducible refine (stringslite_Index.calls a0 a1 t425 _ A3.out).mono ?_);rintro e w5 ⟨rfl,hb⟩;replace HB:=A_ (bS (zz0 HB) hb);(try clear hb)));go_upto_if 12 with (first|(go_at_call 126;(with_reducible refine (stringslite_Index.calls a0 a1 t425 _ A3.out).mono ?_);rintro e w5 ⟨rfl,hb⟩;replace HB:=A_ (bS (zz0 HB) hb);(try clear hb))))
 obtain ⟨H⟩:=HF4;replace H:=iteEe H;rcases H with ⟨c6b0,H⟩|⟨c6b0,H⟩
 ·(first|rw [c6b0]|(simp only [i64_w,i32_w];rw [c6b0])|skip)
  replace H:=iteN H;obtain ⟨c7,H⟩:=H;have c7b0:=eq_true c7;have c7b1:=dT c7;clear c7;replace H:=iteN H;obtain ⟨c8,H⟩:=H;have c8b0:=eq_true c8;have c8b1:=dT c8;clear c8;obtain ⟨ji9,hji9⟩:∃ j_:Int,(wrap64 (t425+(a1.size:Int)))=j_:=⟨_,rfl⟩;(first|rw [hji9] at H|simp only [hji9] at H)
  have hji9w:(IntKind.i64.wrap (t425+(a1.size:Int)))=ji9:=(i64_w _).trans hji9;replace H:=iteN H;obtain ⟨c10,H⟩:=H;have c10b0:=eq_true c10;have c10b1:=dT c10;clear c10;replace H:=iteN H;obtain ⟨c11,H⟩:=H;have c11b0:=eq_true c11;have c11b1:=dT c11;clear c11;simp only [Option.some.injEq,Prod.mk.injEq] at H
  obtain ⟨rfl,rfl,rfl⟩:=H;go_wp2
  repeat (go_quiet (fail);try go_wp2)
  go_ret3
  exact ⟨(by first|rfl|(simp [errW_none,errW_some] <;> rfl)|(simp only [← hji9];first|rfl|(simp [errW_none,errW_some] <;> rfl))|(simp [*,errW_none,errW_some] <;> rfl)),(zz0 HB)⟩
 ·(first|rw [c6b0]|(simp only [i64_w,i32_w];rw [c6b0])|skip)
  simp only [Option.some.injEq,Prod.mk.injEq] at H
  obtain ⟨rfl,rfl,rfl⟩:=H;go_wp2
  repeat (go_quiet (fail);try go_wp2)
  go_ret3
  exact ⟨zz1,(zz0 HB)⟩
def strings_Cut.f (a0:ByteArray) (a1:ByteArray):Option (ByteArray×ByteArray×Bool):=(stringslite_Cut.f a0 a1).bind fun bt426=>(some (bt426.1,bt426.2.1,bt426.2.2))
theorem strings_Cut.calls (a0:ByteArray) (a1:ByteArray) (r1:ByteArray) (r2:ByteArray) (r3:Bool) (w:World) (h:strings_Cut.f a0 a1=some (r1,r2,r3)) :
  Calls Tryz.prog 70 #[.string a0,.string a1] w fun e w'=>e=.returned (.tuple #[.string r1,.string r2,.bool r3])∧Below w.heap.size w w':=by
 have HB:=A_ (Below.refl w.heap.size w);unfold strings_Cut.f at h
 have H:=h;clear h;replace H:=bindA H;obtain ⟨⟨t426,t427,t428⟩,A3,H⟩:=H;try dsimp only at H
 simp only [Option.some.injEq,Prod.mk.injEq] at H
 obtain ⟨rfl,rfl,rfl⟩:=H;go_enter Tryz.func70,Tryz.ntmps70;go_wp2_with (first|(refine gR 96 (some 9) Tryz.func96 (stringslite_Cut.calls a0 a1 t426 t427 t428 _ A3.out) ?_;rintro w4 hb;replace HB:=A_ (bS (zz0 HB) hb);(try clear hb)))
 go_ret3
 exact ⟨zz1,(zz0 HB)⟩
def strings_Index.f (a0:ByteArray) (a1:ByteArray):Option (Int):=(stringslite_Index.f a0 a1).bind fun t432=>(some t432)
theorem strings_Index.calls (a0:ByteArray) (a1:ByteArray) (r:Int) (w:World) (h:strings_Index.f a0 a1=some r) :
  Calls Tryz.prog 114 #[.string a0,.string a1] w fun e w'=>e=.returned (.int .i64 r)∧Below w.heap.size w w':=by
 have HB:=A_ (Below.refl w.heap.size w);unfold strings_Index.f at h
 have H:=h;clear h;replace H:=bindA H;obtain ⟨t432,A3,H⟩:=H;obtain rfl:=sI H;go_enter Tryz.func114,Tryz.ntmps114;go_wp2_with (first|(refine gR 126 (some 7) Tryz.func126 (stringslite_Index.calls a0 a1 t432 _ A3.out) ?_;rintro w4 hb;replace HB:=A_ (bS (zz0 HB) hb);(try clear hb)))
 go_ret
 exact ⟨zz1,(zz0 HB)⟩
def impl_signByte.f (a0:ByteArray) (a1:Int):Option (Int×Bool):=if (wrap64 ((a0.size:Int) - a1)) < 3 then (some (0,false)) else (if 0≤(wrap64 (a1+1)) then (if (wrap64 (a1+1)) < (a0.size:Int) then ((impl_figureValue.f (bt a0 (wrap64 (a1+1)))).bind fun bt454=>(if 0≤(wrap64 (a1+2)) then (if (wrap64 (a1+2)) < (a0.size:Int) then ((impl_figureValue.f (bt a0 (wrap64 (a1+2)))).bind fun bt456=>(if bt454.2=true then (if bt456.2=true then (some ((wrap64 ((wrap64 (bt454.1 * 16))+bt456.1)) % 256,true)) else (some (0,false))) else (some (0,false)))) else (none)) else (none))) else (none)) else (none))
theorem impl_signByte.calls (a0:ByteArray) (a1:Int) (r1:Int) (r2:Bool) (w:World) (h:impl_signByte.f a0 a1=some (r1,r2)) :
  Calls Tryz.prog 160 #[.string a0,.int .i64 a1] w fun e w'=>e=.returned (.tuple #[.int .u8 r1,.bool r2])∧Below w.heap.size w w':=by
 have HB:=A_ (Below.refl w.heap.size w);unfold impl_signByte.f at h
 have H:=h;clear h;replace H:=iteEd H;rcases H with ⟨c3b0,H⟩|⟨c3b0,H⟩
 ·simp only [Option.some.injEq,Prod.mk.injEq] at H
  obtain ⟨rfl,rfl⟩:=H;go_enter Tryz.func160,Tryz.ntmps160;go_wp2
  go_ret2
  exact ⟨zz1,(zz0 HB)⟩
 ·obtain ⟨ji4,hji4⟩:∃ j_:Int,(wrap64 (a1+1))=j_:=⟨_,rfl⟩
  (first|rw [hji4] at H|simp only [hji4] at H)
  have hji4w:(IntKind.i64.wrap (a1+1))=ji4:=(i64_w _).trans hji4;replace H:=iteE H;rcases H with ⟨c5,H⟩|⟨c5,H⟩
  ·have c5b0:=dT c5
   clear c5;replace H:=iteNd H;obtain ⟨c6b0,H⟩:=H;replace H:=bindA H;obtain ⟨⟨t454,t455⟩,A8,H⟩:=H;try dsimp only at H
   obtain ⟨ji9,hji9⟩:∃ j_:Int,(wrap64 (a1+2))=j_:=⟨_,rfl⟩;(first|rw [hji9] at H|simp only [hji9] at H)
   (try rw [hji9] at A8)
   have hji9w:(IntKind.i64.wrap (a1+2))=ji9:=(i64_w _).trans hji9;replace H:=iteNd H;obtain ⟨c10b0,H⟩:=H;replace H:=iteNd H;obtain ⟨c11b0,H⟩:=H;replace H:=bindA H;obtain ⟨⟨t456,t457⟩,A13,H⟩:=H;try dsimp only at H
   have HF14:=A_ H;clear H;have p7:0≤((ji4):Int):=ofD;have q7:(ji4) < (a0.size:Int):=ofD;have hx7:=bt_at a0 (ji4);replace p7:=eq_true p7;replace q7:=eq_true q7;go_enter Tryz.func160,Tryz.ntmps160;go_wp2_with (first|((with_reducible refine gC (f:=168) rfl ?_);refine goesL_ (some 20) rfl rfl Tryz.func168 (by kernel_rfl) rfl #[.int .u8 (bt a0 (ji4))] rfl (by (try simp only [List.map_toArray,List.map_cons,List.map_nil]);first|done|(simp only [hji4];rfl)|rfl|(simp only [List.length_drop,List.length_take];rfl)) ?_;(with_reducible refine mR (impl_figureValue.calls (bt a0 (ji4)) t454 t455 _ A8.out) ?_);rintro w15 hb;replace HB:=A_ (bS (zz0 HB) hb);(try clear hb);have p12:0≤((ji9):Int):=ofD;have q12:(ji9) < (a0.size:Int):=ofD;have hx12:=bt_at a0 (ji9);replace p12:=eq_true p12;replace q12:=eq_true q12)|((with_reducible refine gC (f:=168) rfl ?_);refine goesL_ (some 28) rfl rfl Tryz.func168 (by kernel_rfl) rfl #[.int .u8 (bt a0 (ji9))] rfl (by (try simp only [List.map_toArray,List.map_cons,List.map_nil]);first|done|(simp only [hji9];rfl)|rfl|(simp only [List.length_drop,List.length_take];rfl)) ?_;(with_reducible refine mR (impl_figureValue.calls (bt a0 (ji9)) t456 t457 _ A13.out) ?_);rintro w16 hb;replace HB:=A_ (bS (zz0 HB) hb);(try clear hb))|((with_reducible refine atG ?_ ?_ fun K_ hK_=>?_);rfl;exact undecG)|((with_reducible refine atI ?_ fun K_ hK_=>?_);exact undecI))
   refine unG hK_ ?_;clear hK_ K_;obtain ⟨H⟩:=HF14;replace H:=iteB H;rcases H with ⟨rfl,H⟩|⟨rfl,H⟩
   ·(first|refine iteT ?_|refine iteF ?_|skip)
    replace H:=iteB H;rcases H with ⟨rfl,H⟩|⟨rfl,H⟩
    ·simp only [Option.some.injEq,Prod.mk.injEq] at H
     obtain ⟨rfl,rfl⟩:=H;go_wp2
     go_ret2
     exact ⟨zz138,(zz0 HB)⟩
    ·simp only [Option.some.injEq,Prod.mk.injEq] at H
     obtain ⟨rfl,rfl⟩:=H;go_wp2
     go_ret2
     exact ⟨zz138,(zz0 HB)⟩
   ·(first|refine iteT ?_|refine iteF ?_|skip)
    simp only [Option.some.injEq,Prod.mk.injEq] at H
    obtain ⟨rfl,rfl⟩:=H;(try ((with_reducible refine upS ?_);go_simp))
    go_wp2
    go_ret2
    exact ⟨zz138,(zz0 HB)⟩
  ·exact absurd H (by simp)
end Go.Proofs.YtloijngehifbmaaGreatDoor.P
end
section
namespace Go.Proofs.YtloijngehifbmaaGreatDoor.P
open Go.RowKit Go.Proofs.YtloijngehifbmaaGreatDoorW.PrintWords Go.Proofs.YtloijngehifbmaaGreatDoorW.PrintLast Go.Proofs.YtloijngehifbmaaGreatDoorW.PrintMore Go.Proofs.YtloijngehifbmaaGreatDoor.B Go.Proofs.YtloijngehifbmaaGreatDoor.Ad
set_option linter.unusedVariables false
set_option linter.unusedSimpArgs false
set_option maxHeartbeats 8000000
set_option maxRecDepth 100000
def spec_l1Small.f (a0:ByteArray):Option (ByteArray):=if a0.size≤140737488351232 then some (smallB a0) else none
theorem spec_l1Small.calls (a0 r:ByteArray) (w:World) (h:spec_l1Small.f a0=some r) :
  Calls Tryz.prog 92 #[.string a0] w fun e w'=>e=.returned (.string r)∧Below w.heap.size w w':=by
 unfold spec_l1Small.f at h
 by_cases hs:a0.size≤140737488351232
 ·rw [if_pos hs] at h
  obtain rfl:=sI h;clear h;have hcv:=Lib.run_convert_string_bytes (P:=Tryz.prog) w 9 37 5 a0 Tryz.underlying9 Tryz.underlying37 Tryz.underlying5;go_enter Tryz.func92,Tryz.ntmps92;go_wp2_with fail
  clear hcv;go_loopw [4] (fun i wr=>∃ k:Nat,k≤a0.size∧i=.int .i64 k∧Aside0 (SmRow w.heap.size a0 k wr)∧Aside0 (Below w.heap.size w wr))
   (fun i _=>a0.size - (intOf i).toNat)
  case atStart=>
   refine ⟨0,Nat.zero_le _,rfl,⟨sm_start w 5 a0⟩,⟨?_⟩⟩;exact sm_below w 5 a0
  case round=>
   obtain ⟨k,hk,rfl,hI,hB⟩:=hrel;by_cases hlt:k < a0.size
   ·have hc:=(hI.out.2 k hlt).1
    have hf:=(hI.out.2 k hlt).2;rw [if_neg (by omega)] at hc;have hset:=A_ (sm_set hI.out hlt);have hskip:=A_ (sm_skip hI.out hlt);clear hI;generalize (L a0).getD k 0=b at hc hset hskip;have hb:=b.toNat_lt;by_cases h1:65≤b.toNat
    ·by_cases h2:b.toNat≤90
     ·have e1:(sm b).toNat=b.toNat+32:=by
       unfold sm
       rw [if_pos ⟨h1,h2⟩,UInt8.toNat_add];have:(32:UInt8).toNat=32:=rfl;omega
      rw [e1,show ((b.toNat+32:Nat):Int)=(b.toNat:Int)+32 from by omega] at hset;clear hskip e1;go_wp2
      exact ⟨⟨k+1,by omega,by go_num,hset,⟨hB.out.setCell (Nat.le_refl _) _⟩⟩,zz139⟩
     ·have e1:sm b=b:=by unfold sm;rw [if_neg (by omega)]
      have hS:Aside0 (SmRow w.heap.size a0 (k+1) wr):=⟨hskip.out e1⟩;clear e1 hset hskip;go_wp2
      exact ⟨⟨k+1,by omega,by go_num,hS,hB⟩,zz139⟩
    ·have e1:sm b=b:=by unfold sm;rw [if_neg (by omega)]
     have hS:Aside0 (SmRow w.heap.size a0 (k+1) wr):=⟨hskip.out e1⟩;clear e1 hset hskip;go_wp2
     exact ⟨⟨k+1,by omega,by go_num,hS,hB⟩,zz139⟩
   ·have ek:k=a0.size:=by omega
    have hcells:∀ j (hj:j < (L (smallB a0)).length),wr.cell? ((⟨w.heap.size,0,none⟩:Addr).add j)=some (.int .u8 ((L (smallB a0))[j].toNat:Int)):=by
     intro j hj;have hj':j < a0.size:=by rw [L_size,smallB,ofL_size,List.length_map,L_size] at hj;exact hj
     rw [add_plain,(hI.out.2 j hj').1,if_pos (by omega)];simp [smallB,L_of,List.getD_eq_getElem?_getD,List.getElem?_eq_getElem (show j < (L a0).length by rw [L_size];exact hj')]
    have hcv:=run_convert_bytes_back (P:=Tryz.prog) wr 37 9 5 ⟨w.heap.size,0,none⟩ (grownCap w a0.size 0 5) (L (smallB a0)) Tryz.underlying37 Tryz.underlying5 Tryz.underlying9 hcells;have hl:(L (smallB a0)).length=a0.size:=by rw [L_size,smallB,ofL_size,List.length_map,L_size]
    rw [hl,show (⟨(L (smallB a0)).toArray⟩:ByteArray)=smallB a0 from of_L _] at hcv;have Hk:=A_ ek;clear ek hcells hl;go_wp2
    go_ret
    exact ⟨rfl,hB.out⟩
 ·rw [if_neg hs] at h;cases h
def impl_smallLetters.f (a0:ByteArray):Option (ByteArray):=if a0.size≤140737488351232 then some (smallB a0) else none
theorem impl_smallLetters.calls (a0 r:ByteArray) (w:World) (h:impl_smallLetters.f a0=some r) :
  Calls Tryz.prog 100 #[.string a0] w fun e w'=>e=.returned (.string r)∧Below w.heap.size w w':=by
 unfold impl_smallLetters.f at h
 by_cases hs:a0.size≤140737488351232
 ·rw [if_pos hs] at h
  obtain rfl:=sI h;clear h;have hcv:=Lib.run_convert_string_bytes (P:=Tryz.prog) w 9 37 5 a0 Tryz.underlying9 Tryz.underlying37 Tryz.underlying5;go_enter Tryz.func100,Tryz.ntmps100;go_wp2_with fail
  clear hcv;go_loopw [10] (fun i wr=>∃ k:Nat,k≤a0.size∧i=.int .i64 k∧Aside0 (SmRow w.heap.size a0 k wr)∧Aside0 (Below w.heap.size w wr))
   (fun i _=>a0.size - (intOf i).toNat)
  case atStart=>
   refine ⟨0,Nat.zero_le _,rfl,⟨sm_start w 5 a0⟩,⟨?_⟩⟩;exact sm_below w 5 a0
  case round=>
   obtain ⟨k,hk,rfl,hI,hB⟩:=hrel;by_cases hlt:k < a0.size
   ·have hc:=(hI.out.2 k hlt).1
    have hf:=(hI.out.2 k hlt).2;rw [if_neg (by omega)] at hc;have hset:=A_ (sm_set hI.out hlt);have hskip:=A_ (sm_skip hI.out hlt);clear hI;generalize (L a0).getD k 0=b at hc hset hskip;have hb:=b.toNat_lt;by_cases h1:65≤b.toNat
    ·by_cases h2:b.toNat≤90
     ·have e1:(sm b).toNat=b.toNat+32:=by
       unfold sm
       rw [if_pos ⟨h1,h2⟩,UInt8.toNat_add];have:(32:UInt8).toNat=32:=rfl;omega
      rw [e1,show ((b.toNat+32:Nat):Int)=(b.toNat:Int)+32 from by omega] at hset;clear hskip e1;go_wp2
      exact ⟨⟨k+1,by omega,by go_num,hset,⟨hB.out.setCell (Nat.le_refl _) _⟩⟩,zz139⟩
     ·have e1:sm b=b:=by unfold sm;rw [if_neg (by omega)]
      have hS:Aside0 (SmRow w.heap.size a0 (k+1) wr):=⟨hskip.out e1⟩;clear e1 hset hskip;go_wp2
      exact ⟨⟨k+1,by omega,by go_num,hS,hB⟩,zz139⟩
    ·have e1:sm b=b:=by unfold sm;rw [if_neg (by omega)]
     have hS:Aside0 (SmRow w.heap.size a0 (k+1) wr):=⟨hskip.out e1⟩;clear e1 hset hskip;go_wp2
     exact ⟨⟨k+1,by omega,by go_num,hS,hB⟩,zz139⟩
   ·have ek:k=a0.size:=by omega
    have hcells:∀ j (hj:j < (L (smallB a0)).length),wr.cell? ((⟨w.heap.size,0,none⟩:Addr).add j)=some (.int .u8 ((L (smallB a0))[j].toNat:Int)):=by
     intro j hj;have hj':j < a0.size:=by rw [L_size,smallB,ofL_size,List.length_map,L_size] at hj;exact hj
     rw [add_plain,(hI.out.2 j hj').1,if_pos (by omega)];simp [smallB,L_of,List.getD_eq_getElem?_getD,List.getElem?_eq_getElem (show j < (L a0).length by rw [L_size];exact hj')]
    have hcv:=run_convert_bytes_back (P:=Tryz.prog) wr 37 9 5 ⟨w.heap.size,0,none⟩ (grownCap w a0.size 0 5) (L (smallB a0)) Tryz.underlying37 Tryz.underlying5 Tryz.underlying9 hcells;have hl:(L (smallB a0)).length=a0.size:=by rw [L_size,smallB,ofL_size,List.length_map,L_size]
    rw [hl,show (⟨(L (smallB a0)).toArray⟩:ByteArray)=smallB a0 from of_L _] at hcv;have Hk:=A_ ek;clear ek hcells hl;go_wp2
    go_ret
    exact ⟨rfl,hB.out⟩
 ·rw [if_neg hs] at h;cases h
end Go.Proofs.YtloijngehifbmaaGreatDoor.P
end
section
namespace Go.Proofs.YtloijngehifbmaaGreatDoor.P
open Go.RowKit Go.Proofs.YtloijngehifbmaaGreatDoorW.PrintWords Go.Proofs.YtloijngehifbmaaGreatDoorW.PrintLast Go.Proofs.YtloijngehifbmaaGreatDoorW.PrintMore
attribute [local go_sem] max2_int min2_int max_two min_two max_three min_three max_four min_four
set_option linter.unusedVariables false
set_option linter.unusedSimpArgs false
set_option maxHeartbeats 8000000
set_option maxRecDepth 100000
def spec_l1Whole.l0:Nat→ByteArray→ByteArray→ByteArray→Int→Option (ByteArray×List ByteArray×Bool×ByteArray×Bool)
 | 0,_,_,_,_=>none
 | k+1,x0,x4,x5,x6=>if x6 < (x0.size:Int) then (if 0≤x6 then (if (bt x0 x6)=47 then (if x6≤(x0.size:Int) then ((spec_l1Small.f (x0.extract 0 (x6:Int).toNat)).bind fun t180=>((spec_l1Way.f k t180 ([]:List ByteArray) false (⟨#[]⟩:ByteArray) (x0.extract (x6:Int).toNat x0.size)).bind fun bt181=>(some (bt181.1,bt181.2.1,bt181.2.2.1,bt181.2.2.2.1,bt181.2.2.2.2)))) else (none)) else (if (bt x0 x6)=63 then (if x6≤(x0.size:Int) then ((spec_l1Small.f (x0.extract 0 (x6:Int).toNat)).bind fun t188=>((spec_l1Way.f k t188 ([]:List ByteArray) false (⟨#[]⟩:ByteArray) (x0.extract (x6:Int).toNat x0.size)).bind fun bt189=>(some (bt189.1,bt189.2.1,bt189.2.2.1,bt189.2.2.2.1,bt189.2.2.2.2)))) else (none)) else (spec_l1Whole.l0 k x0 x4 x5 (wrap64 (x6+1))))) else (none)) else ((spec_l1Small.f x4).bind fun t196=>((spec_l1Way.f k t196 ([]:List ByteArray) false (⟨#[]⟩:ByteArray) x5).bind fun bt197=>(some (bt197.1,bt197.2.1,bt197.2.2.1,bt197.2.2.2.1,bt197.2.2.2.2))))
def spec_l1Whole.f (k:Nat) (a0:ByteArray):Option (ByteArray×List ByteArray×Bool×ByteArray×Bool):=spec_l1Whole.l0 k a0 a0 (⟨#[]⟩:ByteArray) 0
theorem spec_l1Whole.calls (k:Nat) (a0:ByteArray) (r1:ByteArray) (r2:List ByteArray) (r3:Bool) (r4:ByteArray) (r5:Bool) (w:World) (h:spec_l1Whole.f k a0=some (r1,r2,r3,r4,r5)) :
  Calls Tryz.prog 63 #[.string a0] w fun e w'=>∃ v1_:Value,e=.returned (.tuple #[.agg #[.string r1,v1_,.bool r3,.string r4],.bool r5])∧Kd.R Kd.string 9 w' w.heap.size (fun _=>True) v1_ r2∧Below w.heap.size w w':=by
 have hu51:=Tryz.underlying51;have HB:=A_ (Below.refl w.heap.size w);unfold spec_l1Whole.f at h
 have H:=h;clear h;have H':=A_ H;clear H;go_enter Tryz.func63,Tryz.ntmps63;go_wp2_with (first|(refine boxF 2 #[.string (⟨#[]⟩:ByteArray),.slice none 0 0,.bool false,.string (⟨#[]⟩:ByteArray)] 51 ?_;intro gb179 hg w2 BK179 hb;have GE179:=geB hg (zz0 HB);replace HB:=A_ (bS (zz0 HB) hb);clear hb hg))
 go_loopg [4,5,6] k (fun kq v4 v5 v6 w'=>∃ (x4_1:ByteArray) (x5_1:ByteArray) (x6_1:Int),v4=.string x4_1∧v5=.string x5_1∧v6=.int .i64 x6_1∧Aside0 (spec_l1Whole.l0 kq a0 x4_1 x5_1 x6_1=some (r1,r2,r3,r4,r5))∧Aside0 (kq≤k)∧Aside0 (w'.heap[gb179]?=some (.cells #[.string (⟨#[]⟩:ByteArray),(.slice none 0 0),.bool false,.string (⟨#[]⟩:ByteArray)] 51 (0,0)))∧Aside0 (Below w.heap.size w w'))
 case atStart=>exact ⟨(a0),((⟨#[]⟩:ByteArray)),(0),zz3,zz3,zz3,H',⟨Nat.le_refl _⟩,⟨(zz7 BK179)⟩,⟨(zz2 HB GE179)⟩⟩
 case round=>
  clear H';obtain ⟨x4_1,x5_1,x6_1,rfl,rfl,rfl,HA,HK1,BK179,HB⟩:=hrel;cases gk with
  | zero=>exact absurd HA.out (by simp [spec_l1Whole.l0])
  | succ k1=>
   obtain ⟨H⟩:=HA;simp only [spec_l1Whole.l0] at H
   replace H:=iteEd H;rcases H with ⟨c3b0,H⟩|⟨c3b0,H⟩
   ·replace H:=iteNd H
    obtain ⟨c4b0,H⟩:=H;replace H:=iteEq H;rcases H with ⟨c6b0,c6b1,H⟩|⟨c6b0,c6b1,c6,H⟩
    ·have c7b0:=eq_true (ofD:0≤x6_1)
     replace H:=iteN H;obtain ⟨c8,H⟩:=H;have c8b0:=eq_true c8;have c8b1:=dT c8;clear c8;have c9b0:=eq_true (ofD:0≤x6_1);have c10b0:=eq_true (ofD:x6_1≤(a0.size:Int));replace H:=bindA H;obtain ⟨t180,A11,H⟩:=H;replace H:=bindA H;obtain ⟨⟨t181,t182,t185,t186,t187⟩,A12,H⟩:=H;try dsimp only at H
     simp only [Option.some.injEq,Prod.mk.injEq] at H
     obtain ⟨rfl,rfl,rfl,rfl,rfl⟩:=H;have p5:0≤(x6_1:Int):=ofD;have q5:x6_1 < (a0.size:Int):=ofD;have hx5:=bt_at a0 x6_1;replace p5:=eq_true p5;replace q5:=eq_true q5;go_wp2_with (first|(refine gR 92 (some 31) Tryz.func92 (spec_l1Small.calls (a0.extract 0 (x6_1:Int).toNat) t180 _ A11.out) ?_;rintro w13 hb;replace BK179:=A_ (bB (zz7 BK179) hb);replace HB:=A_ (bS (zz2 HB GE179) hb);(try clear hb))|((with_reducible refine gC (f:=91) rfl ?_);refine gsL (some 34) Tryz.func91 #[.agg #[.string t180,.slice none 0 0,.bool false,.string (⟨#[]⟩:ByteArray)],.string (a0.extract (x6_1:Int).toNat a0.size)] ?_;(refine (spec_l1Way.calls k1 t180 _ _ ([]:List ByteArray) false (⟨#[]⟩:ByteArray) (a0.extract (x6_1:Int).toNat a0.size) t181 t182 t185 t186 t187 _ ?side1 ?side2 A12.out).mono ?_);(case side1=>exact Kd.C_nil _ _);(case side2=>exact Nat.le_refl _);rintro e w14 ⟨v183,rfl,ho0,hb⟩;refine ⟨_,rfl,?_⟩;have HO184:=A_ (Kd.R_lower ho0 (below_size (zz2 HB GE179)));replace BK179:=A_ (bB (zz7 BK179) hb);replace HB:=A_ (bS (zz2 HB GE179) hb);(try clear hb ho0);obtain ⟨_,_,_,_,_,_,_,_⟩:=cf4 BK179;obtain ⟨Ao16,co16,eo16⟩:=Kd.R_slice HO184.out;subst eo16))
     refine pR (results_ct rfl _ _ gb179 51 #[.string t181,.slice Ao16 t182.length co16,.bool t185,.string t186] (0,0) _ rfl (zz38 BK179) Tryz.underlying51 rfl (by kernel_rfl)) rfl ?_;exact ⟨_,zz1,(zz10 (rt HO184 BK179)),(zz2 HB GE179)⟩
    ·replace H:=iteEq H
     rcases H with ⟨c18b0,c18b1,H⟩|⟨c18b0,c18b1,c18,H⟩
     ·have c19b0:=eq_true (ofD:0≤x6_1)
      replace H:=iteN H;obtain ⟨c20,H⟩:=H;have c20b0:=eq_true c20;have c20b1:=dT c20;clear c20;have c21b0:=eq_true (ofD:0≤x6_1);have c22b0:=eq_true (ofD:x6_1≤(a0.size:Int));replace H:=bindA H;obtain ⟨t188,A23,H⟩:=H;replace H:=bindA H;obtain ⟨⟨t189,t190,t193,t194,t195⟩,A24,H⟩:=H;try dsimp only at H
      simp only [Option.some.injEq,Prod.mk.injEq] at H
      obtain ⟨rfl,rfl,rfl,rfl,rfl⟩:=H;have p5:0≤(x6_1:Int):=ofD;have q5:x6_1 < (a0.size:Int):=ofD;have hx5:=bt_at a0 x6_1;replace p5:=eq_true p5;replace q5:=eq_true q5;have p17:0≤(x6_1:Int):=ofD;have q17:x6_1 < (a0.size:Int):=ofD;have hx17:=bt_at a0 x6_1;replace p17:=eq_true p17;replace q17:=eq_true q17;go_wp2_with (first|(refine gR 92 (some 31) Tryz.func92 (spec_l1Small.calls (a0.extract 0 (x6_1:Int).toNat) t188 _ A23.out) ?_;rintro w25 hb;replace BK179:=A_ (bB (zz7 BK179) hb);replace HB:=A_ (bS (zz2 HB GE179) hb);(try clear hb))|((with_reducible refine gC (f:=91) rfl ?_);refine gsL (some 34) Tryz.func91 #[.agg #[.string t188,.slice none 0 0,.bool false,.string (⟨#[]⟩:ByteArray)],.string (a0.extract (x6_1:Int).toNat a0.size)] ?_;(refine (spec_l1Way.calls k1 t188 _ _ ([]:List ByteArray) false (⟨#[]⟩:ByteArray) (a0.extract (x6_1:Int).toNat a0.size) t189 t190 t193 t194 t195 _ ?side1 ?side2 A24.out).mono ?_);(case side1=>exact Kd.C_nil _ _);(case side2=>exact Nat.le_refl _);rintro e w26 ⟨v191,rfl,ho0,hb⟩;refine ⟨_,rfl,?_⟩;have HO192:=A_ (Kd.R_lower ho0 (below_size (zz2 HB GE179)));replace BK179:=A_ (bB (zz7 BK179) hb);replace HB:=A_ (bS (zz2 HB GE179) hb);(try clear hb ho0);obtain ⟨_,_,_,_,_,_,_,_⟩:=cf4 BK179;obtain ⟨Ao28,co28,eo28⟩:=Kd.R_slice HO192.out;subst eo28))
      refine pR (results_ct rfl _ _ gb179 51 #[.string t189,.slice Ao28 t190.length co28,.bool t193,.string t194] (0,0) _ rfl (zz38 BK179) Tryz.underlying51 rfl (by kernel_rfl)) rfl ?_;exact ⟨_,zz1,(zz10 (rt HO192 BK179)),(zz2 HB GE179)⟩
     ·have H':=A_ H
      clear H;have p5:0≤(x6_1:Int):=ofD;have q5:x6_1 < (a0.size:Int):=ofD;have hx5:=bt_at a0 x6_1;replace p5:=eq_true p5;replace q5:=eq_true q5;have p17:0≤(x6_1:Int):=ofD;have q17:x6_1 < (a0.size:Int):=ofD;have hx17:=bt_at a0 x6_1;replace p17:=eq_true p17;replace q17:=eq_true q17;go_wp2
      go_roundg k1
      case measure=>have:=HK1.out;omega
      case rel=>exact ⟨(x4_1),(x5_1),(wrap64 (x6_1+1)),zz3,zz3,zz3,H',⟨(zz17 HK1)⟩,⟨(zz7 BK179)⟩,⟨(zz2 HB GE179)⟩⟩
   ·replace H:=bindA H
    obtain ⟨t196,A29,H⟩:=H;replace H:=bindA H;obtain ⟨⟨t197,t198,t201,t202,t203⟩,A30,H⟩:=H;try dsimp only at H
    simp only [Option.some.injEq,Prod.mk.injEq] at H
    obtain ⟨rfl,rfl,rfl,rfl,rfl⟩:=H;go_wp2_with (first|(refine gR 92 (some 31) Tryz.func92 (spec_l1Small.calls x4_1 t196 _ A29.out) ?_;rintro w31 hb;replace BK179:=A_ (bB (zz7 BK179) hb);replace HB:=A_ (bS (zz2 HB GE179) hb);(try clear hb))|((with_reducible refine gC (f:=91) rfl ?_);refine gsL (some 34) Tryz.func91 #[.agg #[.string t196,.slice none 0 0,.bool false,.string (⟨#[]⟩:ByteArray)],.string x5_1] ?_;(refine (spec_l1Way.calls k1 t196 _ _ ([]:List ByteArray) false (⟨#[]⟩:ByteArray) x5_1 t197 t198 t201 t202 t203 _ ?side1 ?side2 A30.out).mono ?_);(case side1=>exact Kd.C_nil _ _);(case side2=>exact Nat.le_refl _);rintro e w32 ⟨v199,rfl,ho0,hb⟩;refine ⟨_,rfl,?_⟩;have HO200:=A_ (Kd.R_lower ho0 (below_size (zz2 HB GE179)));replace BK179:=A_ (bB (zz7 BK179) hb);replace HB:=A_ (bS (zz2 HB GE179) hb);(try clear hb ho0);obtain ⟨_,_,_,_,_,_,_,_⟩:=cf4 BK179;obtain ⟨Ao34,co34,eo34⟩:=Kd.R_slice HO200.out;subst eo34))
    refine pR (results_ct rfl _ _ gb179 51 #[.string t197,.slice Ao34 t198.length co34,.bool t201,.string t202] (0,0) _ rfl (zz38 BK179) Tryz.underlying51 rfl (by kernel_rfl)) rfl ?_;exact ⟨_,zz1,(zz10 (rt HO200 BK179)),(zz2 HB GE179)⟩
def spec_AddrRead.f (k:Nat) (a0:ByteArray):Option (ByteArray×List ByteArray×Bool×ByteArray×Bool):=(spec_l1Cut.f k a0 35).bind fun bt205=>(if (a0.size:Int) > 60 then (some ((⟨#[]⟩:ByteArray),([]:List ByteArray),false,(⟨#[]⟩:ByteArray),false)) else (if (bt205.1.size:Int) < 2 then (some ((⟨#[]⟩:ByteArray),([]:List ByteArray),false,(⟨#[]⟩:ByteArray),false)) else (if 0≤2 then (if 2≤(bt205.1.size:Int) then (if (bt205.1.extract 0 2).toList=([47,47]:List UInt8) then ((spec_l1Whole.f k (bt205.1.extract 2 bt205.1.size)).bind fun bt208=>(some (bt208.1,bt208.2.1,bt208.2.2.1,bt208.2.2.2.1,bt208.2.2.2.2))) else (some ((⟨#[]⟩:ByteArray),([]:List ByteArray),false,(⟨#[]⟩:ByteArray),false))) else (none)) else (none))))
theorem spec_AddrRead.calls (k:Nat) (a0:ByteArray) (r1:ByteArray) (r2:List ByteArray) (r3:Bool) (r4:ByteArray) (r5:Bool) (w:World) (h:spec_AddrRead.f k a0=some (r1,r2,r3,r4,r5)) :
  Calls Tryz.prog 24 #[.string a0] w fun e w'=>∃ v1_:Value,e=.returned (.tuple #[.agg #[.string r1,v1_,.bool r3,.string r4],.bool r5])∧Kd.R Kd.string 9 w' w.heap.size (fun _=>True) v1_ r2∧Below w.heap.size w w':=by
 have hu51:=Tryz.underlying51;have HB:=A_ (Below.refl w.heap.size w);unfold spec_AddrRead.f at h
 have H:=h;clear h;replace H:=bindA H;obtain ⟨⟨t205,t206,t207⟩,A2,H⟩:=H;try dsimp only at H
 have HF3:=A_ H;clear H;go_enter Tryz.func24,Tryz.ntmps24;go_wp2_with (first|((with_reducible refine gD (N:=2) rfl ?_);(try (refine gate_guard (by rfl) ?_;dsimp only));refine boxE 2 #[.string (⟨#[]⟩:ByteArray),.slice none 0 0,.bool false,.string (⟨#[]⟩:ByteArray)] 51 ?_;intro gb204 hg w4 hbox hb;have BK204:=A_ (hbox);have GE204:=geB hg (zz0 HB);replace HB:=A_ (bS (zz0 HB) hb);clear hb hbox hg)|(refine gR 62 (some 9) Tryz.func62 (spec_l1Cut.calls k a0 35 t205 t206 t207 _ A2.out) ?_;rintro w' ⟨nd,rfl⟩)|((with_reducible refine atG ?_ ?_ fun K_ hK_=>?_);rfl;exact undecG)|((with_reducible refine atI ?_ fun K_ hK_=>?_);exact undecI))
 refine unG hK_ ?_;clear hK_ K_;obtain ⟨H⟩:=HF3;replace H:=iteE H;rcases H with ⟨c5,H⟩|⟨c5,H⟩
 ·have c5b0:=gtT c5
  have c5b1:decide (60 < a0.size)=true:=dT (by omega);(first|refine iteT ?_|refine iteF ?_|skip)
  clear c5;(first|rw [c5b0]|(simp only [i64_w,i32_w];rw [c5b0])|skip)
  simp only [Option.some.injEq,Prod.mk.injEq] at H
  obtain ⟨rfl,rfl,rfl,rfl,rfl⟩:=H;obtain ⟨_,_,_,_,_,_,_,_⟩:=cf4 BK204;(try ((with_reducible refine upS ?_);go_simp))
  go_wp2
  refine pR (results_ct rfl _ _ gb204 51 #[.string (⟨#[]⟩:ByteArray),.slice none 0 0,.bool false,.string (⟨#[]⟩:ByteArray)] (0,0) _ rfl (zz38 BK204) Tryz.underlying51 rfl (by kernel_rfl)) rfl ?_;exact ⟨_,zz1,zz75,(zz2 HB GE204)⟩
 ·have c5b0:=gtF c5
  have c5b1:decide (60 < a0.size)=false:=dF (by omega);(first|refine iteT ?_|refine iteF ?_|skip)
  clear c5;(first|rw [c5b0]|(simp only [i64_w,i32_w];rw [c5b0])|skip)
  replace H:=iteE H;rcases H with ⟨c7,H⟩|⟨c7,H⟩
  ·have c7b0:=dT c7
   have c7b1:decide (t205.size < 2)=true:=dT (by omega);clear c7;simp only [Option.some.injEq,Prod.mk.injEq] at H
   obtain ⟨rfl,rfl,rfl,rfl,rfl⟩:=H;obtain ⟨_,_,_,_,_,_,_,_⟩:=cf4 BK204;go_wp2
   refine pR (results_ct rfl _ _ gb204 51 #[.string (⟨#[]⟩:ByteArray),.slice none 0 0,.bool false,.string (⟨#[]⟩:ByteArray)] (0,0) _ rfl (zz38 BK204) Tryz.underlying51 rfl (by kernel_rfl)) rfl ?_;exact ⟨_,zz1,zz75,(zz2 HB GE204)⟩
  ·have c7b0:=dF c7
   have c7b1:decide (t205.size < 2)=false:=dF (by omega);clear c7;replace H:=iteE H;rcases H with ⟨c9,H⟩|⟨c9,H⟩
   ·have c9b0:=eq_true c9
    have c9b1:=dT c9;clear c9;replace H:=iteN H;obtain ⟨c10,H⟩:=H;have c10b0:=eq_true c10;have c10b1:=dT c10;clear c10;replace H:=iteEq H;rcases H with ⟨c11b0,c11b1,H⟩|⟨c11b0,c11b1,c11,H⟩
    ·have c12b0:=eq_true (ofD:2≤(t205.size:Int))
     replace H:=bindA H;obtain ⟨⟨t208,t209,t212,t213,t214⟩,A13,H⟩:=H;try dsimp only at H
     simp only [Option.some.injEq,Prod.mk.injEq] at H
     obtain ⟨rfl,rfl,rfl,rfl,rfl⟩:=H;go_wp2_with (first|(refine gV 63 (some 29) Tryz.func63 (spec_l1Whole.calls k (t205.extract 2 t205.size) t208 t209 t212 t213 t214 _ A13.out) ?_;rintro v210 w14 ⟨ho0,hb⟩;have HO211:=A_ (Kd.R_lower ho0 (below_size (zz2 HB GE204)));replace BK204:=A_ (bB (zz7 BK204) hb);replace HB:=A_ (bS (zz2 HB GE204) hb);(try clear hb ho0);obtain ⟨_,_,_,_,_,_,_,_⟩:=cf4 BK204;obtain ⟨Ao16,co16,eo16⟩:=Kd.R_slice HO211.out;subst eo16))
     refine pR (results_ct rfl _ _ gb204 51 #[.string t208,.slice Ao16 t209.length co16,.bool t212,.string t213] (0,0) _ rfl (zz38 BK204) Tryz.underlying51 rfl (by kernel_rfl)) rfl ?_;exact ⟨_,zz1,(zz10 (rt HO211 BK204)),(zz2 HB GE204)⟩
    ·simp only [Option.some.injEq,Prod.mk.injEq] at H
     obtain ⟨rfl,rfl,rfl,rfl,rfl⟩:=H;obtain ⟨_,_,_,_,_,_,_,_⟩:=cf4 BK204;go_wp2
     refine pR (results_ct rfl _ _ gb204 51 #[.string (⟨#[]⟩:ByteArray),.slice none 0 0,.bool false,.string (⟨#[]⟩:ByteArray)] (0,0) _ rfl (zz38 BK204) Tryz.underlying51 rfl (by kernel_rfl)) rfl ?_;exact ⟨_,zz1,zz75,(zz2 HB GE204)⟩
   ·exact absurd H (by simp)
def spec_l11Norm.f (k:Nat) (a0:ByteArray):Option (Bool):=(spec_AddrRead.f k a0).bind fun bt218=>(if bt218.2.2.2.2=true then ((spec_AddrText.f k bt218.1 bt218.2.1 bt218.2.2.1 bt218.2.2.2.1).bind fun t226=>(some (t226.toList == a0.toList))) else (some false))
theorem spec_l11Norm.calls (k:Nat) (a0:ByteArray) (r:Bool) (w:World) (h:spec_l11Norm.f k a0=some r) :
  Calls Tryz.prog 64 #[.string a0] w fun e w'=>e=.returned (.bool r)∧Below w.heap.size w w':=by
 have hu51:=Tryz.underlying51;have HB:=A_ (Below.refl w.heap.size w);unfold spec_l11Norm.f at h
 have H:=h;clear h;replace H:=bindA H;obtain ⟨⟨t218,t219,t222,t223,t224⟩,A2,H⟩:=H;try dsimp only at H
 have HF3:=A_ H;clear H;go_enter Tryz.func64,Tryz.ntmps64;go_wp2_with (first|(refine gV 24 (some 7) Tryz.func24 (spec_AddrRead.calls k a0 t218 t219 t222 t223 t224 _ A2.out) ?_;rintro v220 w4 ⟨ho0,hb⟩;have HO221:=A_ (Kd.R_lower ho0 (below_size (zz0 HB)));replace HB:=A_ (bS (zz0 HB) hb);(try clear hb ho0))|(refine boxF 3 #[.string (⟨#[]⟩:ByteArray),.slice none 0 0,.bool false,.string (⟨#[]⟩:ByteArray)] 51 ?_;intro gb225 hg w5 BK225 hb;replace HO221:=A_ (rB (zz8 HO221) hb);have GE225:=geB hg (zz0 HB);replace HB:=A_ (bS (zz0 HB) hb);clear hb hg;obtain ⟨_,_,_,_,_,_,_,_⟩:=cf4 BK225;obtain ⟨Ao7,co7,eo7⟩:=Kd.R_slice HO221.out;subst eo7)|((with_reducible refine gate_store (t:=51) (p:=3) rfl ?_);refine store_event (t:=51) (p:=3) (v:=?vo_w8) (w1:=((((w5.setCell ⟨gb225,0,none⟩ (.string t218)).setCell ⟨gb225,1,none⟩ (.slice Ao7 t219.length co7)).setCell ⟨gb225,2,none⟩ (.bool t222)).setCell ⟨gb225,3,none⟩ (.string t223))) ?hg ?ho ?hn ?hr ?_;(case ho=>rfl);(case hg=>rfl);(case hn=>rfl);(case hr=>exact zz6);intro w8 hw;have n0_:Aside0 (Kd.R Kd.string 9 w8 w.heap.size (fun _=>True) (.slice Ao7 t219.length co7) t219):=⟨(by rw [hw];exact (zz10 (rt HO221 BK225)))⟩;have n1_:Aside0 (w8.heap[gb225]?=some (.cells #[.string t218,.slice Ao7 t219.length co7,.bool t222,.string t223] 51 (0,0))):=⟨(by rw [hw];exact (zz38 BK225))⟩;have n2_:Aside0 (Below w.heap.size w w8):=⟨(by rw [hw];exact (zz2 HB GE225))⟩;clear hw;clear HO221;clear BK225;clear HB;have HO221:=n0_;have BK225:=n1_;have HB:=n2_;clear n0_ n1_ n2_)|((with_reducible refine atG ?_ ?_ fun K_ hK_=>?_);rfl;exact undecG)|((with_reducible refine atI ?_ fun K_ hK_=>?_);exact undecI))
 refine unG hK_ ?_;clear hK_ K_;obtain ⟨H⟩:=HF3;replace H:=iteB H;rcases H with ⟨rfl,H⟩|⟨rfl,H⟩
 ·(first|refine iteT ?_|refine iteF ?_|skip)
  replace H:=bindA H;obtain ⟨t226,A10,H⟩:=H;obtain rfl:=sI H;obtain ⟨_,_,_,_,_,_,_,_⟩:=cf4 BK225;(try ((with_reducible refine upS ?_);go_simp))
  go_wp2_with (first|(go_at_call 93;(with_reducible refine (spec_AddrText.calls k t218 _ _ t219 t222 t223 t226 _ ?side1 ?side2 A10.out).mono ?_);(case side1=>exact (zz110 HO221));(case side2=>exact (Kd.R_reads' HO221.out).2.1);rintro e w12 ⟨rfl,hb⟩;replace HO221:=A_ (rB (zz8 HO221) hb);replace BK225:=A_ (bB (zz7 BK225) hb);replace HB:=A_ (bS (zz2 HB GE225) hb);(try clear hb)))
  go_ret
  exact ⟨zz1,(zz2 HB GE225)⟩
 ·(first|refine iteT ?_|refine iteF ?_|skip)
  obtain rfl:=sI H;(try ((with_reducible refine upS ?_);go_simp))
  go_wp2
  go_ret
  exact ⟨zz1,(zz2 HB GE225)⟩
end Go.Proofs.YtloijngehifbmaaGreatDoor.P
end
