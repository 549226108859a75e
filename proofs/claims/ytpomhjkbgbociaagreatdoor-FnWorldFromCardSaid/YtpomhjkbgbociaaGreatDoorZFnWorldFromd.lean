/- Part 4 of the proof of FnWorldFrom: the plain functions of what it reaches, that Go comes to just their answers, what they answer, and the words that the walks use; conditions: each theorem's own. -/
import Derived.Test.YtpomhjkbgbociaaGreatDoorZFnWorldFromb
import Derived.Test.YtpomhjkbgbociaaGreatDoorZFnWorldFromc
import Derived.Test.YtpomhjkbgbociaaGreatDoorZFnWorldFroma
import Derived.Laws.BitsLemmas
import Derived.Lib.Strings
import Derived.Lib.ConvBytes
import Derived.Laws.RangeAny
import Derived.Laws.Runes
import Derived.Laws.RangeString
import Derived.Laws.Strings3
import Derived.Lib.IndexAny
import Derived.Lib.IndexBytes
import Derived.Deep.LoopGhost

section
namespace Go.Proofs.YtpomhjkbgbociaaGreatDoor.P
open Go.RowKit Go.Proofs.YtpomhjkbgbociaaGreatDoorW.PrintWords Go.Proofs.YtpomhjkbgbociaaGreatDoorW.PrintLast Go.Proofs.YtpomhjkbgbociaaGreatDoorW.PrintMore
attribute [local go_sem] max2_int min2_int max_two min_two max_three min_three max_four min_four
set_option linter.unusedVariables false
set_option linter.unusedSimpArgs false
set_option maxHeartbeats 8000000
set_option maxRecDepth 100000
mutual
def spec_l71World.l0:Nat→List (S30)→List ByteArray→Int→List Int→Int→Option ((List (S30))×Int)
 | 0,_,_,_,_,_=>none
 | k+1,x3,x4,x5,x1000,x1001=>if x5 < 4 then ((spec_l6Rd_pick.f k x1000 x1001 2).bind fun bt336=>(if bt336.1=0 then (if 0≤x5 then (if x5 < (x4.length:Int) then (if 2+(rdOf ByteArray.empty x4 x5).size≤9223372036854775807 then (if 2+(rdOf ByteArray.empty x4 x5).size+7≤9223372036854775807 then ((spec_l71Groups.f k x1000 bt336.2).bind fun bt339=>((spec_NoticeText.f k bt339.1).bind fun t343=>((some (([0,0,0,1,2,5]:List Int):List Int)).bind fun y344=>((spec_l6Rd_pick.f k x1000 bt339.2 6).bind fun bt347=>(if 0≤bt347.1 then (if bt347.1 < (y344.length:Int) then ((spec_l6Rd_pick.f k x1000 bt347.2 12).bind fun bt351=>(if bt351.1=0 then ((spec_l71Addr.f k x1000 bt351.2).bind fun bt353=>(if 0≤300 then (if x3.length < 2513169434916 then (spec_l71World.l0 k (x3++[(⟨((⟨#[47,47]⟩:ByteArray)++(rdOf ByteArray.empty x4 x5))++(⟨#[47,110,111,116,105,99,101]⟩:ByteArray),(⟨#[]⟩:ByteArray),bt353.1,rd y344 bt347.1⟩:S30)]) x4 (wrap64 (x5+1)) x1000 bt353.2) else (none)) else (spec_l71World.l0 k x3 x4 (wrap64 (x5+1)) x1000 bt353.2))) else (if (t343.size:Int)≤300 then (if x3.length < 2513169434916 then (spec_l71World.l0 k (x3++[(⟨((⟨#[47,47]⟩:ByteArray)++(rdOf ByteArray.empty x4 x5))++(⟨#[47,110,111,116,105,99,101]⟩:ByteArray),t343,(⟨#[]⟩:ByteArray),rd y344 bt347.1⟩:S30)]) x4 (wrap64 (x5+1)) x1000 bt351.2) else (none)) else (spec_l71World.l0 k x3 x4 (wrap64 (x5+1)) x1000 bt351.2)))) else (none)) else (none)))))) else (none)) else (none)) else (none)) else (none)) else (spec_l71World.l0 k x3 x4 (wrap64 (x5+1)) x1000 bt336.2))) else ((spec_l6Rd_pick.f k x1000 x1001 7).bind fun bt361=>(spec_l71World.l1 k x3 (wrap64 (2+bt361.1)) x1000 bt361.2))
def spec_l71World.l1:Nat→List (S30)→Int→List Int→Int→Option ((List (S30))×Int)
 | 0,_,_,_,_=>none
 | k+1,x3,x7,x1000,x1001=>if x7 > 0 then ((spec_l71Addr.f k x1000 x1001).bind fun bt363=>((spec_l71Page.f k x1000 bt363.2).bind fun bt365=>((some (([0,0,0,0,1,2,4]:List Int):List Int)).bind fun y367=>((spec_l6Rd_pick.f k x1000 bt365.2 7).bind fun bt370=>(if 0≤bt370.1 then (if bt370.1 < (y367.length:Int) then ((spec_l6Rd_pick.f k x1000 bt370.2 8).bind fun bt374=>(if bt374.1=0 then ((spec_l71Addr.f k x1000 bt374.2).bind fun bt376=>((spec_l11At.f k x3 bt363.1).bind fun bt378=>(if bt378.2.2.2.2=true then (spec_l71World.l1 k x3 (wrap64 (x7 - 1)) x1000 bt376.2) else (if 0≤300 then (if x3.length < 2513169434916 then (spec_l71World.l1 k (x3++[(⟨bt363.1,(⟨#[]⟩:ByteArray),bt376.1,rd y367 bt370.1⟩:S30)]) (wrap64 (x7 - 1)) x1000 bt376.2) else (none)) else (spec_l71World.l1 k x3 (wrap64 (x7 - 1)) x1000 bt376.2))))) else ((spec_l11At.f k x3 bt363.1).bind fun bt387=>(if bt387.2.2.2.2=true then (spec_l71World.l1 k x3 (wrap64 (x7 - 1)) x1000 bt374.2) else (if (bt365.1.size:Int)≤300 then (if x3.length < 2513169434916 then (spec_l71World.l1 k (x3++[(⟨bt363.1,bt365.1,(⟨#[]⟩:ByteArray),rd y367 bt370.1⟩:S30)]) (wrap64 (x7 - 1)) x1000 bt374.2) else (none)) else (spec_l71World.l1 k x3 (wrap64 (x7 - 1)) x1000 bt374.2)))))) else (none)) else (none)))))) else (some (x3,x1001))
end
def spec_l71World.f (k:Nat) (s0_0:List Int) (s0_1:Int):Option ((List (S30))×Int):=(spec_l71Houses.f).bind fun t333=>(spec_l71World.l0 k (([]:List (S30))) t333 0 s0_0 s0_1)
def spec_l71World.T7:Bool×List (List Nat×List Nat):=(true,[([],[]),([],[]),([0,1],[0,1]),([2],[2]),([3],[3]),([4],[4]),([],[]),([6],[6]),([7,7],[7]),([],[]),([],[]),([10,8],[10]),([9,11],[9,11]),([12],[12]),([5,8,13],[5,8,13]),([],[]),([15,14,11,0,1,2,3,4,5,6,7,8,9,10,11,12,13,14,15],[14,15])])
def spec_l71World.B7:List Nat:=[0,0,3,7,15,31,0,64,192,0,0,1472,4032,8128,16383,0,65535]
theorem spec_l71World.tab7:rtab .any (opsOf Tryz.f40 7)=spec_l71World.T7:=by kernel_rfl
theorem spec_l71World.bits7:waitsOk spec_l71World.T7.2 spec_l71World.B7=true:=by kernel_rfl
theorem spec_l71World.calls (k:Nat) (g:Nat) (s0_0:List Int) (s0_1:Int) (r1:List (S30)) (r2:Int) (w0 w:World) (hI:IsS68 w0 w g s0_0 s0_1) (hB:Below w0.heap.size w0 w) (h:spec_l71World.f k s0_0 s0_1=some (r1,r2)) :
  Calls Tryz.prog 40 #[.pointer (some ⟨g,0,none⟩)] w fun e w'=>∃ v0_:Value,e=.returned (v0_)∧Kd.R k30 30 w' w.heap.size (fun _=>True) v0_ r1∧IsS68 w0 w' g s0_0 r2∧Below w0.heap.size w0 w'∧KeepBut w w' g none:=by
 have hu30:=Tryz.underlying30;have HI0:=A_ hI;have HK:=A_ (KeepBut.refl w g none);have HL:=A_ hB.size;clear hI;have HW0:=A_ hB.size;have HB:=A_ hB;clear hB;unfold spec_l71World.f at h
 have H:=h;clear h;obtain ⟨y330,Ny330⟩:=toY (([]:List (S30)));(first|with_reducible replace H:=bindZ Ny330 H|rw [← Ny330.out] at H|skip)
 replace H:=bindA H;obtain ⟨t333,A2,H⟩:=H;have H':=A_ H;clear H;go_enter Tryz.func40,Tryz.ntmps40;go_wp2_with (first|((with_reducible refine gD (N:=11) rfl ?_);(try (refine gate_guard (by rfl) ?_;dsimp only));refine Kd.R_lit k30 _ 30 ?hg (N:=11) ?hd (xs:=([]:List (S30))) (inner:=[]) (ok:=fun _=>True) (okp:=fun _=>True) ?hr ?hp (fun _ hk=>hk) trivial (Below.refl _ _) (Nat.le_refl _) (by simp) ?_;(case hd=>rfl);(case hg=>rfl);(case hr=>exact zz14);(case hp=>exact (Reps.none _ _));intro v331 w3 ho4 hb hg_ hnew_;clear hg_ hnew_;(first|rw [← Ny330.out] at ho4|(simp only [Int.reduceToNat] at ho4;rw [← Ny330.out] at ho4));have HO332:=A_ (Kd.R_lower ho4 (keep_size (w:=w) (g:=g) (row:=none) (zz28 HK)));replace HK:=A_ (KeepBut.trans (zz28 HK) (KeepBut.of_below hb g none) (.inl rfl));replace HB:=A_ (bS (zz29 HB HI0) hb);replace HI0:=A_ (IsS68.below (zz27 HI0) hb);clear hb ho4)|(refine gV 65 (some 12) Tryz.func65 (spec_l71Houses.calls  t333 _ A2.out) ?_;rintro v334 w5 ⟨ho0,hb⟩;replace HO332:=A_ (rB (zz15 HO332) hb);have HO335:=A_ (Kd.R_lower ho0 (keep_size (w:=w) (g:=g) (row:=none) (zz28 HK)));replace HK:=A_ (KeepBut.trans (zz28 HK) (KeepBut.of_below hb g none) (.inl rfl));replace HB:=A_ (bS (zz29 HB HI0) hb);replace HI0:=A_ (IsS68.below (zz27 HI0) hb);(try clear hb ho0)))
 go_loopg [3,5] k (fun kq v3 v5 w'=>∃ (x3_1:List (S30)) (x5_1:Int) (x1001_1:Int),v5=.int .i64 x5_1∧Aside0 (spec_l71World.l0 kq x3_1 t333 x5_1 s0_0 x1001_1=some (r1,r2))∧Aside0 (kq≤k)∧Aside0 (Kd.R k30 30 w' w.heap.size (fun _=>True) v3 x3_1)∧Aside0 (Kd.R Kd.string 9 w' w.heap.size (fun _=>True) v334 t333)∧Aside0 (IsS68 w0 w' g s0_0 x1001_1)∧Aside0 (KeepBut w w' g none)∧Aside0 (Below w0.heap.size w0 w'))
 case atStart=>exact ⟨(y330),(0),(s0_1),zz1,H',⟨Nat.le_refl _⟩,⟨(zz15 HO332)⟩,⟨(zz15 HO335)⟩,⟨(zz27 HI0)⟩,⟨(zz28 HK)⟩,⟨(zz29 HB HI0)⟩⟩
 case round=>
  clear H';obtain ⟨x3_1,x5_1,x1001_1,rfl,HA,HK1,HO_3,HO_4,HI0,HK,HB⟩:=hrel;cases gk with
  | zero=>exact absurd HA.out (by simp [spec_l71World.l0])
  | succ k1=>
   obtain ⟨H⟩:=HA;simp only [spec_l71World.l0] at H
   replace H:=iteEd H;rcases H with ⟨c6b0,H⟩|⟨c6b0,H⟩
   ·replace H:=bindA H
    obtain ⟨⟨t336,t337⟩,A7,H⟩:=H;try dsimp only at H
    have HF8:=A_ H;clear H;go_upto_if 19 with (first|(refine gR 22 (some 18) Tryz.func22 (spec_l6Rd_pick.calls k1 g s0_0 x1001_1 2 t336 t337 w0 _ ?side1 ?side2 A7.out) ?_;(case side1=>exact (zz27 HI0));(case side2=>exact (zz29 HB HI0));rintro w9 ⟨hi,hb,hk⟩;replace HO_3:=A_ (Kd.R_mono (Kd.R_keep (IsS68.apart (show IsS68 w0 _ g s0_0 x1001_1 from (zz27 HI0)) (zz15 HO_3) (by decide)) hk (fun _ h=>h.2)) (fun _ h=>h.1));replace HO_4:=A_ (Kd.R_mono (Kd.R_keep (IsS68.apart (show IsS68 w0 _ g s0_0 x1001_1 from (zz27 HI0)) (zz15 HO_4) (by decide)) hk (fun _ h=>h.2)) (fun _ h=>h.1));replace HK:=A_ (KeepBut.trans (zz28 HK) hk (.inl rfl));replace HB:=A_ (hb);replace HI0:=A_ (hi);(try clear hb hk hi)))
    obtain ⟨H⟩:=HF8;replace H:=iteEq H;rcases H with ⟨c10b0,c10b1,H⟩|⟨c10b0,c10b1,c10,H⟩
    ·(first|rw [c10b0]|(simp only [i64_w,i32_w];rw [c10b0])|skip)
     replace H:=iteNd H;obtain ⟨c11b0,H⟩:=H;replace H:=iteNd H;obtain ⟨c12b0,H⟩:=H;replace H:=iteN H;obtain ⟨c13,H⟩:=H;have c13b0:=eq_true c13;have c13b1:=dT c13;try have c13b2:(9223372036854775807 < 2+(rdOf ByteArray.empty t333 x5_1).size)=False:=eq_false (Nat.not_lt.2 c13)
     replace H:=iteN H;obtain ⟨c14,H⟩:=H;have c14b0:=eq_true c14;have c14b1:=dT c14;try have c14b2:(9223372036854775807 < 2+(rdOf ByteArray.empty t333 x5_1).size+7)=False:=eq_false (Nat.not_lt.2 c14)
     replace H:=bindA H;obtain ⟨⟨t339,t342⟩,A15,H⟩:=H;try dsimp only at H
     replace H:=bindA H;obtain ⟨t343,A16,H⟩:=H;obtain ⟨y344,Ny344,H⟩:=bindY H;replace H:=bindA H;obtain ⟨⟨t347,t348⟩,A17,H⟩:=H;try dsimp only at H
     replace H:=iteNd H;obtain ⟨c18b0,H⟩:=H;replace H:=iteNd H;obtain ⟨c19b0,H⟩:=H;replace H:=bindA H;obtain ⟨⟨t351,t352⟩,A20,H⟩:=H;try dsimp only at H
     have HF21:=A_ H;clear H;try go_wp2
     have pi349:(0≤(t347:Int))=True:=eq_true ofD;have qi349:(t347 < (y344.length:Int))=True:=eq_true ofD;replace HO_3:=A_ (Kd.R_drew HO_3.out);replace HO_4:=A_ (Kd.R_drew HO_4.out);replace HI0:=A_ (IsS68.drew HI0.out);replace HK:=A_ (keep_drew HK.out);replace HB:=A_ (below_drew1 HB.out);obtain ⟨Ao23,co23,eo23⟩:=Kd.R_slice HO_4.out;(first|subst eo23|(injection eo23 with f1_ f2_ f3_;have f4_:=f1_.symm;have f5_:=f3_.symm;clear f1_ f2_ f3_;subst f4_;subst f5_))
     obtain ⟨⟨ad338,e338,hx338_0⟩,p338,q338⟩:=atB (Kd.at_string (Kd.R_reads' HO_4.out).2.2 x5_1);cases e338
     refine start_ (n:=17) (S:=fun w'=>w'.cell? (ad338.add (x5_1).toNat)=some (.string (rdOf ByteArray.empty t333 x5_1))) (ds:=[]) #[yF,yF,yF,yF,yF,yF,yF,yF,yF,yF,yF,yF,yF,yF,yF,yF,yF] (by kernel_rfl) rfl rfl (hx338_0) (fun hHeld=>?_);refine with_tabW spec_l71World.tab7 spec_l71World.bits7 (fun HT_ HW_=>?_);generalize w9.drew=w22 at HO_3 HO_4 HI0 HK HB hx338_0 hHeld ⊢;refine pureZ 0 (some 20) #[yT,yF,yF,yF,yF,yF,yF,yF,yF,yF,yF,yF,yF,yF,yF,yF,yF] ?_;refine pureZ 1 (some 21) #[yT,yT,yF,yF,yF,yF,yF,yF,yF,yF,yF,yF,yF,yF,yF,yF,yF] ?_;refine pureZ 2 (some 22) #[yT,yT,yT,yF,yF,yF,yF,yF,yF,yF,yF,yF,yF,yF,yF,yF,yF] ?_;refine pureZ 6 (some 26) #[yT,yT,yT,yF,yF,yF,yT,yF,yF,yF,yF,yF,yF,yF,yF,yF,yF] ?_;refine pureZ 10 (some 30) #[yT,yT,yT,yF,yF,yF,yT,yF,yF,yF,yT,yF,yF,yF,yF,yF,yF] ?_;refine take_ (i:=3) (N:=some 23) (v:=?_) (a':=?_) #[yT,yT,yT,yT,yF,yF,yT,yF,yF,yF,yT,yF,yF,yF,yF,yF,yF] rfl rfl (take_ofW HT_.out HW_.out (by kernel_rfl)) (fun _ _ _ h=>h) (Or.inl ⟨by rfl,?_⟩) hHeld ?_ ?_;rotate_left
     ·intro w' s0
      go_simp
      with_reducible rfl
     rotate_left
     ·simp only [Act.put,List.setIfInBounds_toArray,List.set_cons_zero,List.set_cons_succ,i64_w,i32_w]
      rfl
     refine pureZ 4 (some 24) #[yT,yT,yT,yT,yT,yF,yT,yF,yF,yF,yT,yF,yF,yF,yF,yF,yF] ?_;refine pureZ 5 (some 25) #[yT,yT,yT,yT,yT,yT,yT,yF,yF,yF,yT,yF,yF,yF,yF,yF,yF] ?_;refine join_ (σ:=Value×Value×Addr×Nat) 1 #[yT,yT,yT,yT,yT,yT,yT,yT,yT,yT,yT,yT,yT,yT,yT,yT,yF] (fun s_=>[(27,s_.1),(28,.string t343),(29,s_.2.1),(31,.int .i64 t347),(33,.int .i64 (rd y344 t347)),(6,.pointer (some ⟨s_.2.2.2,0,none⟩)),(32,.pointer (some (s_.2.2.1.add (t347).toNat))),(34,.agg #[.string (((⟨#[47,47]⟩:ByteArray)++(rdOf ByteArray.empty t333 x5_1))++(⟨#[47,110,111,116,105,99,101]⟩:ByteArray)),.string t343,.string (⟨#[]⟩:ByteArray),.int .i64 (rd y344 t347)])]) (fun s_ w'=>(w'.cell? (ad338.add (x5_1).toNat)=some (.string (rdOf ByteArray.empty t333 x5_1)))∧(Kd.S k106 106 w' w.heap.size (fun k_=>some k_≠(.slice (some ad338) t333.length co23:Value).ownBlock) s_.1 t339)∧(Kd.R (Kd.int .i64) 3 w' w.heap.size (fun _=>True) s_.2.1 y344)∧(Kd.R k30 30 w' w.heap.size (fun k_=>k_≠s_.2.2.2) u3 x3_1)∧(Kd.R Kd.string 9 w' w.heap.size (fun _=>True) (.slice (some ad338) t333.length co23) t333)∧(∃ c_,(s_.2.1:Value)=.slice (some s_.2.2.1) y344.length c_)∧(w'.heap[s_.2.2.2]?=some (.cells #[.string (⟨#[]⟩:ByteArray),.string (⟨#[]⟩:ByteArray),.string (⟨#[]⟩:ByteArray),.int .i64 0] 30 (0,0)))∧(w.heap.size≤s_.2.2.2)∧(w0.heap.size≤s_.2.2.2)∧(g≠s_.2.2.2)∧(s_.2.2.2≠g)∧(IsS68 w0 w' g s0_0 t348)∧(KeepBut w w' g none)∧(Below w0.heap.size w0 w')) ?_ ?_;rotate_left
     ·intro hJ7_8_9_11_13_15
      refine join_ (σ:=Value×Value×Addr) 2 #[yT,yT,yT,yT,yT,yT,yT,yT,yT,yT,yT,yT,yT,yT,yT,yF,yF] (fun s_=>[(27,s_.1),(28,.string t343),(29,s_.2.1),(31,.int .i64 t347),(33,.int .i64 (rd y344 t347)),(32,.pointer (some (s_.2.2.add (t347).toNat))),(34,.agg #[.string (((⟨#[47,47]⟩:ByteArray)++(rdOf ByteArray.empty t333 x5_1))++(⟨#[47,110,111,116,105,99,101]⟩:ByteArray)),.string t343,.string (⟨#[]⟩:ByteArray),.int .i64 (rd y344 t347)])]) (fun s_ w'=>(w'.cell? (ad338.add (x5_1).toNat)=some (.string (rdOf ByteArray.empty t333 x5_1)))∧(Kd.S k106 106 w' w.heap.size (fun k_=>some k_≠(.slice (some ad338) t333.length co23:Value).ownBlock) s_.1 t339)∧(Kd.R (Kd.int .i64) 3 w' w.heap.size (fun _=>True) s_.2.1 y344)∧(Kd.R k30 30 w' w.heap.size (fun _=>True) u3 x3_1)∧(Kd.R Kd.string 9 w' w.heap.size (fun _=>True) (.slice (some ad338) t333.length co23) t333)∧(∃ c_,(s_.2.1:Value)=.slice (some s_.2.2) y344.length c_)∧(IsS68 w0 w' g s0_0 t348)∧(KeepBut w w' g none)∧(Below w0.heap.size w0 w')) ?_ ?_;rotate_left
      ·intro hJ7_8_9_11_13
       refine join_ (σ:=Value×Value×Addr×Nat) 3 #[yT,yT,yT,yT,yT,yT,yT,yT,yT,yT,yT,yT,yT,yF,yF,yT,yF] (fun s_=>[(27,s_.1),(28,.string t343),(29,s_.2.1),(31,.int .i64 t347),(6,.pointer (some ⟨s_.2.2.2,0,none⟩)),(32,.pointer (some (s_.2.2.1.add (t347).toNat)))]) (fun s_ w'=>(w'.cell? (ad338.add (x5_1).toNat)=some (.string (rdOf ByteArray.empty t333 x5_1)))∧(Kd.S k106 106 w' w.heap.size (fun k_=>some k_≠(.slice (some ad338) t333.length co23:Value).ownBlock) s_.1 t339)∧(Kd.R (Kd.int .i64) 3 w' w.heap.size (fun _=>True) s_.2.1 y344)∧(Kd.R k30 30 w' w.heap.size (fun k_=>k_≠s_.2.2.2) u3 x3_1)∧(Kd.R Kd.string 9 w' w.heap.size (fun _=>True) (.slice (some ad338) t333.length co23) t333)∧(∃ c_,(s_.2.1:Value)=.slice (some s_.2.2.1) y344.length c_)∧(w'.heap[s_.2.2.2]?=some (.cells #[.string (⟨#[]⟩:ByteArray),.string (⟨#[]⟩:ByteArray),.string (⟨#[]⟩:ByteArray),.int .i64 0] 30 (0,0)))∧(w.heap.size≤s_.2.2.2)∧(w0.heap.size≤s_.2.2.2)∧(g≠s_.2.2.2)∧(s_.2.2.2≠g)∧(IsS68 w0 w' g s0_0 t348)∧(KeepBut w w' g none)∧(Below w0.heap.size w0 w')) ?_ ?_;rotate_left
       ·intro hJ7_8_9_11_15
        refine join_ (σ:=Value×Value×Addr) 4 #[yT,yT,yT,yT,yT,yT,yT,yT,yT,yT,yT,yT,yT,yF,yF,yF,yF] (fun s_=>[(27,s_.1),(28,.string t343),(29,s_.2.1),(31,.int .i64 t347),(32,.pointer (some (s_.2.2.add (t347).toNat)))]) (fun s_ w'=>(w'.cell? (ad338.add (x5_1).toNat)=some (.string (rdOf ByteArray.empty t333 x5_1)))∧(Kd.S k106 106 w' w.heap.size (fun k_=>some k_≠(.slice (some ad338) t333.length co23:Value).ownBlock) s_.1 t339)∧(Kd.R (Kd.int .i64) 3 w' w.heap.size (fun _=>True) s_.2.1 y344)∧(Kd.R k30 30 w' w.heap.size (fun _=>True) u3 x3_1)∧(Kd.R Kd.string 9 w' w.heap.size (fun _=>True) (.slice (some ad338) t333.length co23) t333)∧(∃ c_,(s_.2.1:Value)=.slice (some s_.2.2) y344.length c_)∧(IsS68 w0 w' g s0_0 t348)∧(KeepBut w w' g none)∧(Below w0.heap.size w0 w')) ?_ ?_;rotate_left
        ·intro hJ7_8_9_11
         refine join_ (σ:=Value×Value×Addr×Nat) 5 #[yT,yT,yT,yT,yT,yT,yT,yT,yT,yT,yT,yF,yF,yF,yF,yT,yF] (fun s_=>[(27,s_.1),(28,.string t343),(29,s_.2.1),(6,.pointer (some ⟨s_.2.2.2,0,none⟩))]) (fun s_ w'=>(w'.cell? (ad338.add (x5_1).toNat)=some (.string (rdOf ByteArray.empty t333 x5_1)))∧(Kd.S k106 106 w' w.heap.size (fun k_=>some k_≠(.slice (some ad338) t333.length co23:Value).ownBlock) s_.1 t339)∧(Kd.R (Kd.int .i64) 3 w' w.heap.size (fun _=>True) s_.2.1 y344)∧(Kd.R k30 30 w' w.heap.size (fun k_=>k_≠s_.2.2.2) u3 x3_1)∧(Kd.R Kd.string 9 w' w.heap.size (fun _=>True) (.slice (some ad338) t333.length co23) t333)∧(∃ c_,(s_.2.1:Value)=.slice (some s_.2.2.1) y344.length c_)∧(w'.heap[s_.2.2.2]?=some (.cells #[.string (⟨#[]⟩:ByteArray),.string (⟨#[]⟩:ByteArray),.string (⟨#[]⟩:ByteArray),.int .i64 0] 30 (0,0)))∧(w.heap.size≤s_.2.2.2)∧(w0.heap.size≤s_.2.2.2)∧(g≠s_.2.2.2)∧(s_.2.2.2≠g)∧(IsS68 w0 w' g s0_0 t342)∧(KeepBut w w' g none)∧(Below w0.heap.size w0 w')) ?_ ?_;rotate_left
         ·intro hJ7_8_9_15
          refine join_ (σ:=Value×Nat) 5 #[yT,yT,yT,yT,yT,yT,yT,yT,yT,yF,yT,yT,yF,yF,yF,yT,yF] (fun s_=>[(27,s_.1),(28,.string t343),(31,.int .i64 t347),(6,.pointer (some ⟨s_.2,0,none⟩))]) (fun s_ w'=>(w'.cell? (ad338.add (x5_1).toNat)=some (.string (rdOf ByteArray.empty t333 x5_1)))∧(Kd.S k106 106 w' w.heap.size (fun k_=>some k_≠(.slice (some ad338) t333.length co23:Value).ownBlock) s_.1 t339)∧(Kd.R k30 30 w' w.heap.size (fun k_=>k_≠s_.2) u3 x3_1)∧(Kd.R Kd.string 9 w' w.heap.size (fun _=>True) (.slice (some ad338) t333.length co23) t333)∧(w'.heap[s_.2]?=some (.cells #[.string (⟨#[]⟩:ByteArray),.string (⟨#[]⟩:ByteArray),.string (⟨#[]⟩:ByteArray),.int .i64 0] 30 (0,0)))∧(w.heap.size≤s_.2)∧(w0.heap.size≤s_.2)∧(g≠s_.2)∧(s_.2≠g)∧(IsS68 w0 w' g s0_0 t348)∧(KeepBut w w' g none)∧(Below w0.heap.size w0 w')) ?_ ?_;rotate_left
          ·intro hJ7_8_11_15
           refine join_ (σ:=Value×Value×Addr) 6 #[yT,yT,yT,yT,yT,yT,yT,yT,yT,yT,yT,yF,yF,yF,yF,yF,yF] (fun s_=>[(27,s_.1),(28,.string t343),(29,s_.2.1)]) (fun s_ w'=>(w'.cell? (ad338.add (x5_1).toNat)=some (.string (rdOf ByteArray.empty t333 x5_1)))∧(Kd.S k106 106 w' w.heap.size (fun k_=>some k_≠(.slice (some ad338) t333.length co23:Value).ownBlock) s_.1 t339)∧(Kd.R (Kd.int .i64) 3 w' w.heap.size (fun _=>True) s_.2.1 y344)∧(Kd.R k30 30 w' w.heap.size (fun _=>True) u3 x3_1)∧(Kd.R Kd.string 9 w' w.heap.size (fun _=>True) (.slice (some ad338) t333.length co23) t333)∧(∃ c_,(s_.2.1:Value)=.slice (some s_.2.2) y344.length c_)∧(IsS68 w0 w' g s0_0 t342)∧(KeepBut w w' g none)∧(Below w0.heap.size w0 w')) ?_ ?_;rotate_left
           ·intro hJ7_8_9
            refine join_ (σ:=Value) 6 #[yT,yT,yT,yT,yT,yT,yT,yT,yT,yF,yT,yT,yF,yF,yF,yF,yF] (fun s_=>[(27,s_),(28,.string t343),(31,.int .i64 t347)]) (fun s_ w'=>(w'.cell? (ad338.add (x5_1).toNat)=some (.string (rdOf ByteArray.empty t333 x5_1)))∧(Kd.S k106 106 w' w.heap.size (fun k_=>some k_≠(.slice (some ad338) t333.length co23:Value).ownBlock) s_ t339)∧(Kd.R k30 30 w' w.heap.size (fun _=>True) u3 x3_1)∧(Kd.R Kd.string 9 w' w.heap.size (fun _=>True) (.slice (some ad338) t333.length co23) t333)∧(IsS68 w0 w' g s0_0 t348)∧(KeepBut w w' g none)∧(Below w0.heap.size w0 w')) ?_ ?_;rotate_left
            ·intro hJ7_8_11
             refine join_ (σ:=Value×Nat) 6 #[yT,yT,yT,yT,yT,yT,yT,yT,yT,yF,yT,yF,yF,yF,yF,yT,yF] (fun s_=>[(27,s_.1),(28,.string t343),(6,.pointer (some ⟨s_.2,0,none⟩))]) (fun s_ w'=>(w'.cell? (ad338.add (x5_1).toNat)=some (.string (rdOf ByteArray.empty t333 x5_1)))∧(Kd.S k106 106 w' w.heap.size (fun k_=>some k_≠(.slice (some ad338) t333.length co23:Value).ownBlock) s_.1 t339)∧(Kd.R k30 30 w' w.heap.size (fun k_=>k_≠s_.2) u3 x3_1)∧(Kd.R Kd.string 9 w' w.heap.size (fun _=>True) (.slice (some ad338) t333.length co23) t333)∧(w'.heap[s_.2]?=some (.cells #[.string (⟨#[]⟩:ByteArray),.string (⟨#[]⟩:ByteArray),.string (⟨#[]⟩:ByteArray),.int .i64 0] 30 (0,0)))∧(w.heap.size≤s_.2)∧(w0.heap.size≤s_.2)∧(g≠s_.2)∧(s_.2≠g)∧(IsS68 w0 w' g s0_0 t342)∧(KeepBut w w' g none)∧(Below w0.heap.size w0 w')) ?_ ?_;rotate_left
             ·intro hJ7_8_15
              refine join_ (σ:=Value×Value×Addr×Nat) 6 #[yT,yT,yT,yT,yT,yT,yT,yT,yF,yT,yT,yF,yF,yF,yF,yT,yF] (fun s_=>[(27,s_.1),(29,s_.2.1),(6,.pointer (some ⟨s_.2.2.2,0,none⟩))]) (fun s_ w'=>(w'.cell? (ad338.add (x5_1).toNat)=some (.string (rdOf ByteArray.empty t333 x5_1)))∧(Kd.S k106 106 w' w.heap.size (fun k_=>some k_≠(.slice (some ad338) t333.length co23:Value).ownBlock) s_.1 t339)∧(Kd.R (Kd.int .i64) 3 w' w.heap.size (fun _=>True) s_.2.1 y344)∧(Kd.R k30 30 w' w.heap.size (fun k_=>k_≠s_.2.2.2) u3 x3_1)∧(Kd.R Kd.string 9 w' w.heap.size (fun _=>True) (.slice (some ad338) t333.length co23) t333)∧(∃ c_,(s_.2.1:Value)=.slice (some s_.2.2.1) y344.length c_)∧(w'.heap[s_.2.2.2]?=some (.cells #[.string (⟨#[]⟩:ByteArray),.string (⟨#[]⟩:ByteArray),.string (⟨#[]⟩:ByteArray),.int .i64 0] 30 (0,0)))∧(w.heap.size≤s_.2.2.2)∧(w0.heap.size≤s_.2.2.2)∧(g≠s_.2.2.2)∧(s_.2.2.2≠g)∧(IsS68 w0 w' g s0_0 t342)∧(KeepBut w w' g none)∧(Below w0.heap.size w0 w')) ?_ ?_;rotate_left
              ·intro hJ7_9_15
               refine join_ (σ:=Value) 7 #[yT,yT,yT,yT,yT,yT,yT,yT,yT,yF,yT,yF,yF,yF,yF,yF,yF] (fun s_=>[(27,s_),(28,.string t343)]) (fun s_ w'=>(w'.cell? (ad338.add (x5_1).toNat)=some (.string (rdOf ByteArray.empty t333 x5_1)))∧(Kd.S k106 106 w' w.heap.size (fun k_=>some k_≠(.slice (some ad338) t333.length co23:Value).ownBlock) s_ t339)∧(Kd.R k30 30 w' w.heap.size (fun _=>True) u3 x3_1)∧(Kd.R Kd.string 9 w' w.heap.size (fun _=>True) (.slice (some ad338) t333.length co23) t333)∧(IsS68 w0 w' g s0_0 t342)∧(KeepBut w w' g none)∧(Below w0.heap.size w0 w')) ?_ ?_;rotate_left
               ·intro hJ7_8
                refine join_ (σ:=Value×Value×Addr) 7 #[yT,yT,yT,yT,yT,yT,yT,yT,yF,yT,yT,yF,yF,yF,yF,yF,yF] (fun s_=>[(27,s_.1),(29,s_.2.1)]) (fun s_ w'=>(w'.cell? (ad338.add (x5_1).toNat)=some (.string (rdOf ByteArray.empty t333 x5_1)))∧(Kd.S k106 106 w' w.heap.size (fun k_=>some k_≠(.slice (some ad338) t333.length co23:Value).ownBlock) s_.1 t339)∧(Kd.R (Kd.int .i64) 3 w' w.heap.size (fun _=>True) s_.2.1 y344)∧(Kd.R k30 30 w' w.heap.size (fun _=>True) u3 x3_1)∧(Kd.R Kd.string 9 w' w.heap.size (fun _=>True) (.slice (some ad338) t333.length co23) t333)∧(∃ c_,(s_.2.1:Value)=.slice (some s_.2.2) y344.length c_)∧(IsS68 w0 w' g s0_0 t342)∧(KeepBut w w' g none)∧(Below w0.heap.size w0 w')) ?_ ?_;rotate_left
                ·intro hJ7_9
                 refine join_ (σ:=Value×Nat) 7 #[yT,yT,yT,yT,yT,yT,yT,yT,yF,yF,yT,yF,yF,yF,yF,yT,yF] (fun s_=>[(27,s_.1),(6,.pointer (some ⟨s_.2,0,none⟩))]) (fun s_ w'=>(w'.cell? (ad338.add (x5_1).toNat)=some (.string (rdOf ByteArray.empty t333 x5_1)))∧(Kd.S k106 106 w' w.heap.size (fun k_=>some k_≠(.slice (some ad338) t333.length co23:Value).ownBlock) s_.1 t339)∧(Kd.R k30 30 w' w.heap.size (fun k_=>k_≠s_.2) u3 x3_1)∧(Kd.R Kd.string 9 w' w.heap.size (fun _=>True) (.slice (some ad338) t333.length co23) t333)∧(w'.heap[s_.2]?=some (.cells #[.string (⟨#[]⟩:ByteArray),.string (⟨#[]⟩:ByteArray),.string (⟨#[]⟩:ByteArray),.int .i64 0] 30 (0,0)))∧(w.heap.size≤s_.2)∧(w0.heap.size≤s_.2)∧(g≠s_.2)∧(s_.2≠g)∧(IsS68 w0 w' g s0_0 t342)∧(KeepBut w w' g none)∧(Below w0.heap.size w0 w')) ?_ ?_;rotate_left
                 ·intro hJ7_15
                  refine join_ (σ:=Value×Addr×Nat) 7 #[yT,yT,yT,yT,yT,yT,yT,yF,yF,yT,yT,yF,yF,yF,yF,yT,yF] (fun s_=>[(29,s_.1),(6,.pointer (some ⟨s_.2.2,0,none⟩))]) (fun s_ w'=>(w'.cell? (ad338.add (x5_1).toNat)=some (.string (rdOf ByteArray.empty t333 x5_1)))∧(Kd.R (Kd.int .i64) 3 w' w.heap.size (fun _=>True) s_.1 y344)∧(Kd.R k30 30 w' w.heap.size (fun k_=>k_≠s_.2.2) u3 x3_1)∧(Kd.R Kd.string 9 w' w.heap.size (fun _=>True) (.slice (some ad338) t333.length co23) t333)∧(∃ c_,(s_.1:Value)=.slice (some s_.2.1) y344.length c_)∧(w'.heap[s_.2.2]?=some (.cells #[.string (⟨#[]⟩:ByteArray),.string (⟨#[]⟩:ByteArray),.string (⟨#[]⟩:ByteArray),.int .i64 0] 30 (0,0)))∧(w.heap.size≤s_.2.2)∧(w0.heap.size≤s_.2.2)∧(g≠s_.2.2)∧(s_.2.2≠g)∧(IsS68 w0 w' g s0_0 t337)∧(KeepBut w w' g none)∧(Below w0.heap.size w0 w')) ?_ ?_;rotate_left
                  ·intro hJ9_15
                   refine join_ (σ:=Value) 8 #[yT,yT,yT,yT,yT,yT,yT,yT,yF,yF,yT,yF,yF,yF,yF,yF,yF] (fun s_=>[(27,s_)]) (fun s_ w'=>(w'.cell? (ad338.add (x5_1).toNat)=some (.string (rdOf ByteArray.empty t333 x5_1)))∧(Kd.S k106 106 w' w.heap.size (fun k_=>some k_≠(.slice (some ad338) t333.length co23:Value).ownBlock) s_ t339)∧(Kd.R k30 30 w' w.heap.size (fun _=>True) u3 x3_1)∧(Kd.R Kd.string 9 w' w.heap.size (fun _=>True) (.slice (some ad338) t333.length co23) t333)∧(IsS68 w0 w' g s0_0 t342)∧(KeepBut w w' g none)∧(Below w0.heap.size w0 w')) ?_ ?_;rotate_left
                   ·intro hJ7
                    refine join_ (σ:=Value×Addr) 8 #[yT,yT,yT,yT,yT,yT,yT,yF,yF,yT,yT,yF,yF,yF,yF,yF,yF] (fun s_=>[(29,s_.1)]) (fun s_ w'=>(w'.cell? (ad338.add (x5_1).toNat)=some (.string (rdOf ByteArray.empty t333 x5_1)))∧(Kd.R (Kd.int .i64) 3 w' w.heap.size (fun _=>True) s_.1 y344)∧(Kd.R k30 30 w' w.heap.size (fun _=>True) u3 x3_1)∧(Kd.R Kd.string 9 w' w.heap.size (fun _=>True) (.slice (some ad338) t333.length co23) t333)∧(∃ c_,(s_.1:Value)=.slice (some s_.2) y344.length c_)∧(IsS68 w0 w' g s0_0 t337)∧(KeepBut w w' g none)∧(Below w0.heap.size w0 w')) ?_ ?_;rotate_left
                    ·intro hJ9
                     refine join_ (σ:=Nat) 8 #[yT,yT,yT,yT,yT,yT,yT,yF,yF,yF,yT,yF,yF,yF,yF,yT,yF] (fun s_=>[(6,.pointer (some ⟨s_,0,none⟩))]) (fun s_ w'=>(w'.cell? (ad338.add (x5_1).toNat)=some (.string (rdOf ByteArray.empty t333 x5_1)))∧(Kd.R k30 30 w' w.heap.size (fun k_=>k_≠s_) u3 x3_1)∧(Kd.R Kd.string 9 w' w.heap.size (fun _=>True) (.slice (some ad338) t333.length co23) t333)∧(w'.heap[s_]?=some (.cells #[.string (⟨#[]⟩:ByteArray),.string (⟨#[]⟩:ByteArray),.string (⟨#[]⟩:ByteArray),.int .i64 0] 30 (0,0)))∧(w.heap.size≤s_)∧(w0.heap.size≤s_)∧(g≠s_)∧(s_≠g)∧(IsS68 w0 w' g s0_0 t337)∧(KeepBut w w' g none)∧(Below w0.heap.size w0 w')) ?_ ?_;rotate_left
                     ·intro hJ15
                      refine three_ (i:=7) (j:=9) (k:=15) (Ni:=some 27) (Nj:=some 29) (Nk:=some 6) #[yT,yT,yT,yT,yT,yT,yT,yT,yF,yF,yT,yF,yF,yF,yF,yF,yF] #[yT,yT,yT,yT,yT,yT,yT,yF,yF,yT,yT,yF,yF,yF,yF,yF,yF] #[yT,yT,yT,yT,yT,yT,yT,yF,yF,yF,yT,yF,yF,yF,yF,yT,yF] rfl rfl rfl rfl rfl rfl (three_of HT_.out (by kernel_rfl)) (by decide) (by decide) (by decide) (fun K hK=>?_) (fun K hK=>?_) (fun K hK=>?_)
                      ·skip
                       refine goes_ Tryz.func67 (by kernel_rfl) rfl #[.pointer (some ⟨g,0,none⟩)] (by rfl) rfl rfl zz35 ?_;with_reducible refine (spec_l71Groups.calls k1 g s0_0 t337 t339 t342 w0 _ ?side1 ?side2 A15.out).mono ?_
                       (case side1=>exact (zz27 HI0))
                       (case side2=>exact (zz29 HB HI0))
                       rintro e w24 ⟨v340,rfl,ho0,hi,hb,hk⟩;have HS0_:=keep_cell hk (hHeld) (zz116 HI0 HO_4);refine ⟨_,rfl,?_⟩;replace HO_3:=A_ (Kd.R_mono (Kd.R_keep (IsS68.apart (show IsS68 w0 _ g s0_0 t337 from (zz27 HI0)) (zz15 HO_3) (by decide)) hk (fun _ h=>h.2)) (fun _ h=>h.1));have HO341:=A_ (Kd.S_lower (Kd.S_new' ho0 (Kd.R_lt (zz15 HO_4))) (keep_size (w:=w) (g:=g) (row:=none) (zz28 HK)));replace HO_4:=A_ (Kd.R_mono (Kd.R_keep (IsS68.apart (show IsS68 w0 _ g s0_0 t337 from (zz27 HI0)) (zz15 HO_4) (by decide)) hk (fun _ h=>h.2)) (fun _ h=>h.1));replace HK:=A_ (KeepBut.trans (zz28 HK) hk (.inl rfl));replace HB:=A_ (hb);replace HI0:=A_ (hi);(try clear hb)
                       (try clear hb2)
                       (try clear hk)
                       (try clear hi)
                       (try clear ho0)
                       refine hK.out _ _ (HS0_) (fun hHeld=>?_);clear hK K;refine nZ 27 ?_;exact norm_ zz117 (hJ7 (v340) _ ⟨hHeld,(zz118 HO341),(zz15 HO_3),(zz15 HO_4),(zz27 HI0),(zz28 HK),(zz29 HB HI0)⟩)
                      ·skip
                       refine Kd.R_lit_step (Kd.int .i64) _ 3 ?hg (N:=29) ?hd (xs:=([0,0,0,1,2,5]:List Int)) (inner:=[.int .i64 0,.int .i64 0,.int .i64 0,.int .i64 1,.int .i64 2,.int .i64 5]) (ok:=fun _=>True) (okp:=fun _=>True) ?hr ?hp (fun _ hk=>hk) trivial (Below.refl _ _) (Nat.le_refl _) (by simp) ?_;(case hd=>rfl);(case hg=>rfl);(case hr=>exact zz14);(case hp=>exact rpI);intro v345 w24 ho25 hb hg_ hnew_;have HS0_:=(hb.cell (World.block_lt_of_cell? _ _ (hHeld))).trans (hHeld);clear hg_ hnew_;(first|rw [← Ny344.out] at ho25|(simp only [Int.reduceToNat] at ho25;rw [← Ny344.out] at ho25))
                       replace HO_3:=A_ (rB (zz15 HO_3) hb);replace HO_4:=A_ (rB (zz15 HO_4) hb);have HO346:=A_ (Kd.R_lower ho25 (keep_size (w:=w) (g:=g) (row:=none) (zz28 HK)));replace HK:=A_ (KeepBut.trans (zz28 HK) (KeepBut.of_below hb g none) (.inl rfl));replace HB:=A_ (bS (zz29 HB HI0) hb);replace HI0:=A_ (IsS68.below (zz27 HI0) hb);clear hb ho25;obtain ⟨Ao26,co26,eo26⟩:=Kd.R_slice HO346.out;subst eo26;obtain ⟨ado26,fo26,_⟩:=Kd.at_int (Kd.R_reads' HO346.out).2.2 0 (by decide) (by rw [Ny344.out];simp);cases fo26
                       refine hK.out _ _ (HS0_) (fun hHeld=>?_);clear hK K;refine nZ 29 ?_;exact norm_ zz117 (hJ9 (.slice (some ado26) y344.length co26,ado26) _ ⟨hHeld,(zz15 HO346),(zz15 HO_3),(zz15 HO_4),⟨_,rfl⟩,(zz27 HI0),(zz28 HK),(zz29 HB HI0)⟩)
                      ·skip
                       refine box_step ?hg (N:=6) ?hd (cs:=#[.string (⟨#[]⟩:ByteArray),.string (⟨#[]⟩:ByteArray),.string (⟨#[]⟩:ByteArray),.int .i64 0]) (t:=30) ?hr ?_;(case hd=>rfl);(case hg=>rfl);(case hr=>exact zz14);intro gb350 hg w24 hbox hb;have HS0_:=(hb.cell (World.block_lt_of_cell? _ _ (hHeld))).trans (hHeld);replace HO_3:=A_ (rB (Kd.R_elderB (zz15 HO_3) gb350 (Nat.le_of_eq hg.symm)) hb);replace HO_4:=A_ (rB (zz15 HO_4) hb);replace HB:=A_ (bS (zz29 HB HI0) hb);have BK350:=A_ (hbox);have GW350:=A_ ((by rw [hg];exact (keep_size (w:=w) (g:=g) (row:=none) (zz28 HK)):w.heap.size≤gb350));have GE350:=A_ ((Nat.le_trans HW0.out (by rw [hg];exact (keep_size (w:=w) (g:=g) (row:=none) (zz28 HK)):w.heap.size≤gb350):w0.heap.size≤gb350));replace HK:=A_ (KeepBut.trans (zz28 HK) (KeepBut.of_below hb g none) (.inl rfl));have NB0_350:=A_ ((by rw [hg];exact Nat.ne_of_lt (IsS68.lt (show IsS68 w0 _ g s0_0 t337 from (zz27 HI0))):g≠gb350));have NB350_0:=A_ ((by rw [hg];exact Nat.ne_of_gt (IsS68.lt (show IsS68 w0 _ g s0_0 t337 from (zz27 HI0))):gb350≠g));replace HI0:=A_ (IsS68.below (zz27 HI0) hb);clear hb hbox hg;refine hK.out _ _ (HS0_) (fun hHeld=>?_);clear hK K;refine nZ 6 ?_;exact norm_ zz117 (hJ15 (gb350) _ ⟨hHeld,(zz92 HO_3),(zz15 HO_4),(zz2 BK350),GW350.out,GE350.out,NB0_350.out,NB350_0.out,(zz42 HI0 NB0_350),(zz47 HK GW350),(zz43 HB HI0 GE350)⟩)
                     ·skip
                      rintro gb350 w25 ⟨hS_,h0_,h1_,h2_,h3_,h4_,h5_,h6_,h7_,h8_,h9_⟩;have n0_:=A_ h0_;have n1_:=A_ h1_;have n2_:=A_ h2_;have n3_:=A_ h3_;have n4_:=A_ h4_;have n5_:=A_ h5_;have n6_:=A_ h6_;have n7_:=A_ h7_;have n8_:=A_ h8_;have n9_:=A_ h9_;(try dsimp only at n0_ n1_ n2_ n3_ n4_ n5_ n6_ n7_ n8_ n9_)
                      clear HO_3;clear HO_4;clear HI0;clear HK;clear HB;clear h0_ h1_ h2_ h3_ h4_ h5_ h6_ h7_ h8_ h9_;have HO_3:=n0_;have HO_4:=n1_;have BK350:=n2_;have GW350:=n3_;have GE350:=n4_;have NB0_350:=n5_;have NB350_0:=n6_;have HI0:=n7_;have HK:=n8_;have HB:=n9_;clear n0_ n1_ n2_ n3_ n4_ n5_ n6_ n7_ n8_ n9_;have hHeld:w25.cell? (ad338.add (x5_1).toNat)=some (.string (rdOf ByteArray.empty t333 x5_1)):=hS_;refine norm_ (a':=?_) ?_ ?_;rotate_left
                      ·simp only [putAll,Act.put,List.setIfInBounds_toArray,List.set_cons_zero,List.set_cons_succ]
                       rfl
                      refine twoZ 7 9 (some 27) (some 29) #[yT,yT,yT,yT,yT,yT,yT,yT,yF,yF,yT,yF,yF,yF,yF,yT,yF] #[yT,yT,yT,yT,yT,yT,yT,yF,yF,yT,yT,yF,yF,yF,yF,yT,yF] (fun K hK=>?_) (fun K hK=>?_)
                      ·skip
                       refine goes_ Tryz.func67 (by kernel_rfl) rfl #[.pointer (some ⟨g,0,none⟩)] (by rfl) rfl rfl zz35 ?_;with_reducible refine (spec_l71Groups.calls k1 g s0_0 t337 t339 t342 w0 _ ?side1 ?side2 A15.out).mono ?_
                       (case side1=>exact (zz42 HI0 NB0_350))
                       (case side2=>exact (zz43 HB HI0 GE350))
                       rintro e w26 ⟨v340,rfl,ho0,hi,hb,hk⟩;have HS0_:=keep_cell hk (hHeld) (zz116 HI0 HO_4);refine ⟨_,rfl,?_⟩;replace HO_3:=A_ (Kd.R_mono (Kd.R_keep (IsS68.apart (show IsS68 w0 _ g s0_0 t337 from (zz42 HI0 NB0_350)) (zz15 HO_3) (by decide)) hk (fun _ h=>h.2)) (fun _ h=>h.1));replace BK350:=A_ (KeepBut.blk hk (g':=gb350) (o:=.cells #[.string (⟨#[]⟩:ByteArray),.string (⟨#[]⟩:ByteArray),.string (⟨#[]⟩:ByteArray),.int .i64 0] 30 (0,0)) (zz2 BK350) NB350_0.out (by simp));have HO341:=A_ (Kd.S_lower (Kd.S_new' ho0 (Kd.R_lt (zz15 HO_4))) (keep_size (w:=w) (g:=g) (row:=none) (zz47 HK GW350)));replace HO_4:=A_ (Kd.R_mono (Kd.R_keep (IsS68.apart (show IsS68 w0 _ g s0_0 t337 from (zz42 HI0 NB0_350)) (zz15 HO_4) (by decide)) hk (fun _ h=>h.2)) (fun _ h=>h.1));replace HK:=A_ (KeepBut.trans (zz47 HK GW350) hk (.inl rfl));replace HB:=A_ (hb);replace HI0:=A_ (hi);(try clear hb)
                       (try clear hb2)
                       (try clear hk)
                       (try clear hi)
                       (try clear ho0)
                       refine hK.out _ _ (HS0_) (fun hHeld=>?_);clear hK K;refine nZ 27 ?_;exact norm_ zz117 (hJ7_15 (_,gb350) _ ⟨hHeld,(zz118 HO341),(zz15 HO_3),(zz15 HO_4),(zz2 BK350),GW350.out,GE350.out,NB0_350.out,NB350_0.out,(zz42 HI0 NB0_350),(zz47 HK GW350),(zz43 HB HI0 GE350)⟩)
                      ·skip
                       refine Kd.R_lit_step (Kd.int .i64) _ 3 ?hg (N:=29) ?hd (xs:=([0,0,0,1,2,5]:List Int)) (inner:=[.int .i64 0,.int .i64 0,.int .i64 0,.int .i64 1,.int .i64 2,.int .i64 5]) (ok:=fun _=>True) (okp:=fun _=>True) ?hr ?hp (fun _ hk=>hk) trivial (Below.refl _ _) (Nat.le_refl _) (by simp) ?_;(case hd=>rfl);(case hg=>rfl);(case hr=>exact zz14);(case hp=>exact rpI);intro v345 w26 ho27 hb hg_ hnew_;have HS0_:=(hb.cell (World.block_lt_of_cell? _ _ (hHeld))).trans (hHeld);clear hg_ hnew_;(first|rw [← Ny344.out] at ho27|(simp only [Int.reduceToNat] at ho27;rw [← Ny344.out] at ho27))
                       replace HO_3:=A_ (rB (zz15 HO_3) hb);replace HO_4:=A_ (rB (zz15 HO_4) hb);have HO346:=A_ (Kd.R_lower ho27 (keep_size (w:=w) (g:=g) (row:=none) (zz47 HK GW350)));replace BK350:=A_ (bB (zz2 BK350) hb);replace HK:=A_ (KeepBut.trans (zz47 HK GW350) (KeepBut.of_below hb g none) (.inl rfl));replace HB:=A_ (bS (zz43 HB HI0 GE350) hb);replace HI0:=A_ (IsS68.below (zz42 HI0 NB0_350) hb);clear hb ho27;obtain ⟨Ao28,co28,eo28⟩:=Kd.R_slice HO346.out;subst eo28;obtain ⟨ado28,fo28,_⟩:=Kd.at_int (Kd.R_reads' HO346.out).2.2 0 (by decide) (by rw [Ny344.out];simp);cases fo28
                       refine hK.out _ _ (HS0_) (fun hHeld=>?_);clear hK K;refine nZ 29 ?_;exact norm_ zz117 (hJ9_15 (.slice (some ado28) y344.length co28,ado28,gb350) _ ⟨hHeld,(zz15 HO346),(zz15 HO_3),(zz15 HO_4),⟨_,rfl⟩,(zz2 BK350),GW350.out,GE350.out,NB0_350.out,NB350_0.out,(zz42 HI0 NB0_350),(zz47 HK GW350),(zz43 HB HI0 GE350)⟩)
                    ·skip
                     rintro ⟨v345,adz_v345⟩ w27 ⟨hS_,h0_,h1_,h2_,h3_,h4_,h5_,h6_⟩;have n0_:=A_ h0_;have n1_:=A_ h1_;have n2_:=A_ h2_;have n3_:=A_ h3_;have n4_:=A_ h4_;have n5_:=A_ h5_;have n6_:=A_ h6_;(try dsimp only at n0_ n1_ n2_ n3_ n4_ n5_ n6_)
                     clear HO_3;clear HO_4;clear HI0;clear HK;clear HB;clear h0_ h1_ h2_ h3_ h4_ h5_ h6_;have HO346:=n0_;have HO_3:=n1_;have HO_4:=n2_;have HA_HO346:=n3_;have HI0:=n4_;have HK:=n5_;have HB:=n6_;clear n0_ n1_ n2_ n3_ n4_ n5_ n6_;have hHeld:w27.cell? (ad338.add (x5_1).toNat)=some (.string (rdOf ByteArray.empty t333 x5_1)):=hS_;obtain ⟨co28,eo28⟩:=HA_HO346.out;clear HA_HO346;subst eo28;refine norm_ (a':=?_) ?_ ?_;rotate_left
                     ·simp only [putAll,Act.put,List.setIfInBounds_toArray,List.set_cons_zero,List.set_cons_succ]
                      rfl
                     refine twoZ 7 15 (some 27) (some 6) #[yT,yT,yT,yT,yT,yT,yT,yT,yF,yT,yT,yF,yF,yF,yF,yF,yF] #[yT,yT,yT,yT,yT,yT,yT,yF,yF,yT,yT,yF,yF,yF,yF,yT,yF] (fun K hK=>?_) (fun K hK=>?_)
                     ·skip
                      refine goes_ Tryz.func67 (by kernel_rfl) rfl #[.pointer (some ⟨g,0,none⟩)] (by rfl) rfl rfl zz35 ?_;with_reducible refine (spec_l71Groups.calls k1 g s0_0 t337 t339 t342 w0 _ ?side1 ?side2 A15.out).mono ?_
                      (case side1=>exact (zz27 HI0))
                      (case side2=>exact (zz29 HB HI0))
                      rintro e w29 ⟨v340,rfl,ho0,hi,hb,hk⟩;have HS0_:=keep_cell hk (hHeld) (zz116 HI0 HO_4);refine ⟨_,rfl,?_⟩;replace HO_3:=A_ (Kd.R_mono (Kd.R_keep (IsS68.apart (show IsS68 w0 _ g s0_0 t337 from (zz27 HI0)) (zz15 HO_3) (by decide)) hk (fun _ h=>h.2)) (fun _ h=>h.1));replace HO346:=A_ (Kd.R_mono (Kd.R_keep (IsS68.apart (show IsS68 w0 _ g s0_0 t337 from (zz27 HI0)) (zz15 HO346) (by decide)) hk (fun _ h=>h.2)) (fun _ h=>h.1));have HO341:=A_ (Kd.S_lower (Kd.S_new' ho0 (Kd.R_lt (zz15 HO_4))) (keep_size (w:=w) (g:=g) (row:=none) (zz28 HK)));replace HO_4:=A_ (Kd.R_mono (Kd.R_keep (IsS68.apart (show IsS68 w0 _ g s0_0 t337 from (zz27 HI0)) (zz15 HO_4) (by decide)) hk (fun _ h=>h.2)) (fun _ h=>h.1));replace HK:=A_ (KeepBut.trans (zz28 HK) hk (.inl rfl));replace HB:=A_ (hb);replace HI0:=A_ (hi);(try clear hb)
                      (try clear hb2)
                      (try clear hk)
                      (try clear hi)
                      (try clear ho0)
                      refine hK.out _ _ (HS0_) (fun hHeld=>?_);clear hK K;refine nZ 27 ?_;exact norm_ zz117 (hJ7_9 (_,.slice (some adz_v345) y344.length co28,adz_v345) _ ⟨hHeld,(zz118 HO341),(zz15 HO346),(zz15 HO_3),(zz15 HO_4),⟨_,rfl⟩,(zz27 HI0),(zz28 HK),(zz29 HB HI0)⟩)
                     ·skip
                      refine box_step ?hg (N:=6) ?hd (cs:=#[.string (⟨#[]⟩:ByteArray),.string (⟨#[]⟩:ByteArray),.string (⟨#[]⟩:ByteArray),.int .i64 0]) (t:=30) ?hr ?_;(case hd=>rfl);(case hg=>rfl);(case hr=>exact zz14);intro gb350 hg w29 hbox hb;have HS0_:=(hb.cell (World.block_lt_of_cell? _ _ (hHeld))).trans (hHeld);replace HO_3:=A_ (rB (Kd.R_elderB (zz15 HO_3) gb350 (Nat.le_of_eq hg.symm)) hb);replace HO_4:=A_ (rB (zz15 HO_4) hb);replace HO346:=A_ (rB (zz15 HO346) hb);replace HB:=A_ (bS (zz29 HB HI0) hb);have BK350:=A_ (hbox);have GW350:=A_ ((by rw [hg];exact (keep_size (w:=w) (g:=g) (row:=none) (zz28 HK)):w.heap.size≤gb350));have GE350:=A_ ((Nat.le_trans HW0.out (by rw [hg];exact (keep_size (w:=w) (g:=g) (row:=none) (zz28 HK)):w.heap.size≤gb350):w0.heap.size≤gb350));replace HK:=A_ (KeepBut.trans (zz28 HK) (KeepBut.of_below hb g none) (.inl rfl));have NB0_350:=A_ ((by rw [hg];exact Nat.ne_of_lt (IsS68.lt (show IsS68 w0 _ g s0_0 t337 from (zz27 HI0))):g≠gb350));have NB350_0:=A_ ((by rw [hg];exact Nat.ne_of_gt (IsS68.lt (show IsS68 w0 _ g s0_0 t337 from (zz27 HI0))):gb350≠g));replace HI0:=A_ (IsS68.below (zz27 HI0) hb);clear hb hbox hg;refine hK.out _ _ (HS0_) (fun hHeld=>?_);clear hK K;refine nZ 6 ?_;exact norm_ zz117 (hJ9_15 (.slice (some adz_v345) y344.length co28,adz_v345,gb350) _ ⟨hHeld,(zz15 HO346),(zz92 HO_3),(zz15 HO_4),⟨_,rfl⟩,(zz2 BK350),GW350.out,GE350.out,NB0_350.out,NB350_0.out,(zz42 HI0 NB0_350),(zz47 HK GW350),(zz43 HB HI0 GE350)⟩)
                   ·skip
                    rintro v340 w25 ⟨hS_,h0_,h1_,h2_,h3_,h4_,h5_⟩;have n0_:=A_ h0_;have n1_:=A_ h1_;have n2_:=A_ h2_;have n3_:=A_ h3_;have n4_:=A_ h4_;have n5_:=A_ h5_;(try dsimp only at n0_ n1_ n2_ n3_ n4_ n5_)
                    clear HO_3;clear HO_4;clear HI0;clear HK;clear HB;clear h0_ h1_ h2_ h3_ h4_ h5_;have HO341:=n0_;have HO_3:=n1_;have HO_4:=n2_;have HI0:=n3_;have HK:=n4_;have HB:=n5_;clear n0_ n1_ n2_ n3_ n4_ n5_;have hHeld:w25.cell? (ad338.add (x5_1).toNat)=some (.string (rdOf ByteArray.empty t333 x5_1)):=hS_;obtain ⟨Ao26,co26,eo26⟩:=Kd.S_slice HO341.out;(first|subst eo26|(injection eo26 with f1_ f2_ f3_;have f4_:=f1_.symm;have f5_:=f3_.symm;clear f1_ f2_ f3_;subst f4_;subst f5_))
                    refine norm_ (a':=?_) ?_ ?_;rotate_left
                    ·simp only [putAll,Act.put,List.setIfInBounds_toArray,List.set_cons_zero,List.set_cons_succ]
                     rfl
                    refine three_ (i:=8) (j:=9) (k:=15) (Ni:=some 28) (Nj:=some 29) (Nk:=some 6) #[yT,yT,yT,yT,yT,yT,yT,yT,yT,yF,yT,yF,yF,yF,yF,yF,yF] #[yT,yT,yT,yT,yT,yT,yT,yT,yF,yT,yT,yF,yF,yF,yF,yF,yF] #[yT,yT,yT,yT,yT,yT,yT,yT,yF,yF,yT,yF,yF,yF,yF,yT,yF] rfl rfl rfl rfl rfl rfl (three_of HT_.out (by kernel_rfl)) (by decide) (by decide) (by decide) (fun K hK=>?_) (fun K hK=>?_) (fun K hK=>?_)
                    ·skip
                     refine goes_ Tryz.func66 (by kernel_rfl) rfl #[.slice Ao26 t339.length co26] (by rfl) rfl rfl zz35 ?_;with_reducible refine (spec_NoticeText.calls k1 _ _ t339 t343 _ ?side1 ?side2 A16.out).mono ?_
                     (case side1=>exact (zz120 HO341))
                     (case side2=>exact (Kd.S_reads' HO341.out).2.1)
                     rintro e w27 ⟨rfl,hb⟩;have HS0_:=(hb.cell (World.block_lt_of_cell? _ _ (hHeld))).trans (hHeld);refine ⟨_,rfl,?_⟩;replace HO_3:=A_ (rB (zz15 HO_3) hb);replace HO_4:=A_ (rB (zz15 HO_4) hb);replace HO341:=A_ (Kd.S_below (zz40 HO341) hb);replace HK:=A_ (KeepBut.trans (zz28 HK) (KeepBut.of_below hb g none) (.inl rfl));replace HB:=A_ (bS (zz29 HB HI0) hb);replace HI0:=A_ (IsS68.below (zz27 HI0) hb);(try clear hb)
                     (try clear hb2)
                     (try clear hk)
                     (try clear hi)
                     refine hK.out _ _ (HS0_) (fun hHeld=>?_);clear hK K;refine nZ 28 ?_;exact norm_ zz117 (hJ7_8 (.slice Ao26 t339.length co26) _ ⟨hHeld,(zz40 HO341),(zz15 HO_3),(zz15 HO_4),(zz27 HI0),(zz28 HK),(zz29 HB HI0)⟩)
                    ·skip
                     refine Kd.R_lit_step (Kd.int .i64) _ 3 ?hg (N:=29) ?hd (xs:=([0,0,0,1,2,5]:List Int)) (inner:=[.int .i64 0,.int .i64 0,.int .i64 0,.int .i64 1,.int .i64 2,.int .i64 5]) (ok:=fun _=>True) (okp:=fun _=>True) ?hr ?hp (fun _ hk=>hk) trivial (Below.refl _ _) (Nat.le_refl _) (by simp) ?_;(case hd=>rfl);(case hg=>rfl);(case hr=>exact zz14);(case hp=>exact rpI);intro v345 w26 ho27 hb hg_ hnew_;have HS0_:=(hb.cell (World.block_lt_of_cell? _ _ (hHeld))).trans (hHeld);clear hg_ hnew_;(first|rw [← Ny344.out] at ho27|(simp only [Int.reduceToNat] at ho27;rw [← Ny344.out] at ho27))
                     replace HO_3:=A_ (rB (zz15 HO_3) hb);replace HO_4:=A_ (rB (zz15 HO_4) hb);replace HO341:=A_ (Kd.S_below (zz40 HO341) hb);have HO346:=A_ (Kd.R_lower ho27 (keep_size (w:=w) (g:=g) (row:=none) (zz28 HK)));replace HK:=A_ (KeepBut.trans (zz28 HK) (KeepBut.of_below hb g none) (.inl rfl));replace HB:=A_ (bS (zz29 HB HI0) hb);replace HI0:=A_ (IsS68.below (zz27 HI0) hb);clear hb ho27;obtain ⟨Ao28,co28,eo28⟩:=Kd.R_slice HO346.out;subst eo28;obtain ⟨ado28,fo28,_⟩:=Kd.at_int (Kd.R_reads' HO346.out).2.2 0 (by decide) (by rw [Ny344.out];simp);cases fo28
                     refine hK.out _ _ (HS0_) (fun hHeld=>?_);clear hK K;refine nZ 29 ?_;exact norm_ zz117 (hJ7_9 (_,.slice (some ado28) y344.length co28,ado28) _ ⟨hHeld,(zz40 HO341),(zz15 HO346),(zz15 HO_3),(zz15 HO_4),⟨_,rfl⟩,(zz27 HI0),(zz28 HK),(zz29 HB HI0)⟩)
                    ·skip
                     refine box_step ?hg (N:=6) ?hd (cs:=#[.string (⟨#[]⟩:ByteArray),.string (⟨#[]⟩:ByteArray),.string (⟨#[]⟩:ByteArray),.int .i64 0]) (t:=30) ?hr ?_;(case hd=>rfl);(case hg=>rfl);(case hr=>exact zz14);intro gb350 hg w26 hbox hb;have HS0_:=(hb.cell (World.block_lt_of_cell? _ _ (hHeld))).trans (hHeld);replace HO_3:=A_ (rB (Kd.R_elderB (zz15 HO_3) gb350 (Nat.le_of_eq hg.symm)) hb);replace HO_4:=A_ (rB (zz15 HO_4) hb);replace HO341:=A_ (Kd.S_below (zz40 HO341) hb);replace HB:=A_ (bS (zz29 HB HI0) hb);have BK350:=A_ (hbox);have GW350:=A_ ((by rw [hg];exact (keep_size (w:=w) (g:=g) (row:=none) (zz28 HK)):w.heap.size≤gb350));have GE350:=A_ ((Nat.le_trans HW0.out (by rw [hg];exact (keep_size (w:=w) (g:=g) (row:=none) (zz28 HK)):w.heap.size≤gb350):w0.heap.size≤gb350));replace HK:=A_ (KeepBut.trans (zz28 HK) (KeepBut.of_below hb g none) (.inl rfl));have NB0_350:=A_ ((by rw [hg];exact Nat.ne_of_lt (IsS68.lt (show IsS68 w0 _ g s0_0 t342 from (zz27 HI0))):g≠gb350));have NB350_0:=A_ ((by rw [hg];exact Nat.ne_of_gt (IsS68.lt (show IsS68 w0 _ g s0_0 t342 from (zz27 HI0))):gb350≠g));replace HI0:=A_ (IsS68.below (zz27 HI0) hb);clear hb hbox hg;refine hK.out _ _ (HS0_) (fun hHeld=>?_);clear hK K;refine nZ 6 ?_;exact norm_ zz117 (hJ7_15 (_,gb350) _ ⟨hHeld,(zz40 HO341),(zz92 HO_3),(zz15 HO_4),(zz2 BK350),GW350.out,GE350.out,NB0_350.out,NB350_0.out,(zz42 HI0 NB0_350),(zz47 HK GW350),(zz43 HB HI0 GE350)⟩)
                  ·skip
                   rintro ⟨v345,adz_v345,gb350⟩ w28 ⟨hS_,h0_,h1_,h2_,h3_,h4_,h5_,h6_,h7_,h8_,h9_,h10_,h11_⟩;have n0_:=A_ h0_;have n1_:=A_ h1_;have n2_:=A_ h2_;have n3_:=A_ h3_;have n4_:=A_ h4_;have n5_:=A_ h5_;have n6_:=A_ h6_;have n7_:=A_ h7_;have n8_:=A_ h8_;have n9_:=A_ h9_;have n10_:=A_ h10_;have n11_:=A_ h11_;(try dsimp only at n0_ n1_ n2_ n3_ n4_ n5_ n6_ n7_ n8_ n9_ n10_ n11_)
                   clear HO_3;clear HO_4;clear HI0;clear HK;clear HB;clear h0_ h1_ h2_ h3_ h4_ h5_ h6_ h7_ h8_ h9_ h10_ h11_;have HO346:=n0_;have HO_3:=n1_;have HO_4:=n2_;have HA_HO346:=n3_;have BK350:=n4_;have GW350:=n5_;have GE350:=n6_;have NB0_350:=n7_;have NB350_0:=n8_;have HI0:=n9_;have HK:=n10_;have HB:=n11_;clear n0_ n1_ n2_ n3_ n4_ n5_ n6_ n7_ n8_ n9_ n10_ n11_;have hHeld:w28.cell? (ad338.add (x5_1).toNat)=some (.string (rdOf ByteArray.empty t333 x5_1)):=hS_;obtain ⟨co29,eo29⟩:=HA_HO346.out;clear HA_HO346;subst eo29;refine norm_ (a':=?_) ?_ ?_;rotate_left
                   ·simp only [putAll,Act.put,List.setIfInBounds_toArray,List.set_cons_zero,List.set_cons_succ]
                    rfl
                   refine oneZ 7 (some 27) #[yT,yT,yT,yT,yT,yT,yT,yT,yF,yT,yT,yF,yF,yF,yF,yT,yF] (fun K hK=>?_);refine goes_ Tryz.func67 (by kernel_rfl) rfl #[.pointer (some ⟨g,0,none⟩)] (by rfl) rfl rfl zz35 ?_;with_reducible refine (spec_l71Groups.calls k1 g s0_0 t337 t339 t342 w0 _ ?side1 ?side2 A15.out).mono ?_
                   (case side1=>exact (zz42 HI0 NB0_350))
                   (case side2=>exact (zz43 HB HI0 GE350))
                   rintro e w30 ⟨v340,rfl,ho0,hi,hb,hk⟩;have HS0_:=keep_cell hk (hHeld) (zz116 HI0 HO_4);refine ⟨_,rfl,?_⟩;replace HO_3:=A_ (Kd.R_mono (Kd.R_keep (IsS68.apart (show IsS68 w0 _ g s0_0 t337 from (zz42 HI0 NB0_350)) (zz15 HO_3) (by decide)) hk (fun _ h=>h.2)) (fun _ h=>h.1));replace HO346:=A_ (Kd.R_mono (Kd.R_keep (IsS68.apart (show IsS68 w0 _ g s0_0 t337 from (zz42 HI0 NB0_350)) (zz15 HO346) (by decide)) hk (fun _ h=>h.2)) (fun _ h=>h.1));replace BK350:=A_ (KeepBut.blk hk (g':=gb350) (o:=.cells #[.string (⟨#[]⟩:ByteArray),.string (⟨#[]⟩:ByteArray),.string (⟨#[]⟩:ByteArray),.int .i64 0] 30 (0,0)) (zz2 BK350) NB350_0.out (by simp));have HO341:=A_ (Kd.S_lower (Kd.S_new' ho0 (Kd.R_lt (zz15 HO_4))) (keep_size (w:=w) (g:=g) (row:=none) (zz47 HK GW350)));replace HO_4:=A_ (Kd.R_mono (Kd.R_keep (IsS68.apart (show IsS68 w0 _ g s0_0 t337 from (zz42 HI0 NB0_350)) (zz15 HO_4) (by decide)) hk (fun _ h=>h.2)) (fun _ h=>h.1));replace HK:=A_ (KeepBut.trans (zz47 HK GW350) hk (.inl rfl));replace HB:=A_ (hb);replace HI0:=A_ (hi);(try clear hb)
                   (try clear hb2)
                   (try clear hk)
                   (try clear hi)
                   (try clear ho0)
                   refine hK.out _ _ (HS0_) (fun hHeld=>?_);clear hK K;refine nZ 27 ?_;exact norm_ zz117 (hJ7_9_15 (_,.slice (some adz_v345) y344.length co29,adz_v345,gb350) _ ⟨hHeld,(zz118 HO341),(zz15 HO346),(zz15 HO_3),(zz15 HO_4),⟨_,rfl⟩,(zz2 BK350),GW350.out,GE350.out,NB0_350.out,NB350_0.out,(zz42 HI0 NB0_350),(zz47 HK GW350),(zz43 HB HI0 GE350)⟩)
                 ·skip
                  rintro ⟨v340,gb350⟩ w26 ⟨hS_,h0_,h1_,h2_,h3_,h4_,h5_,h6_,h7_,h8_,h9_,h10_⟩;have n0_:=A_ h0_;have n1_:=A_ h1_;have n2_:=A_ h2_;have n3_:=A_ h3_;have n4_:=A_ h4_;have n5_:=A_ h5_;have n6_:=A_ h6_;have n7_:=A_ h7_;have n8_:=A_ h8_;have n9_:=A_ h9_;have n10_:=A_ h10_;(try dsimp only at n0_ n1_ n2_ n3_ n4_ n5_ n6_ n7_ n8_ n9_ n10_)
                  clear HO_3;clear HO_4;clear HI0;clear HK;clear HB;clear h0_ h1_ h2_ h3_ h4_ h5_ h6_ h7_ h8_ h9_ h10_;have HO341:=n0_;have HO_3:=n1_;have HO_4:=n2_;have BK350:=n3_;have GW350:=n4_;have GE350:=n5_;have NB0_350:=n6_;have NB350_0:=n7_;have HI0:=n8_;have HK:=n9_;have HB:=n10_;clear n0_ n1_ n2_ n3_ n4_ n5_ n6_ n7_ n8_ n9_ n10_;have hHeld:w26.cell? (ad338.add (x5_1).toNat)=some (.string (rdOf ByteArray.empty t333 x5_1)):=hS_;obtain ⟨Ao27,co27,eo27⟩:=Kd.S_slice HO341.out;(first|subst eo27|(injection eo27 with f1_ f2_ f3_;have f4_:=f1_.symm;have f5_:=f3_.symm;clear f1_ f2_ f3_;subst f4_;subst f5_))
                  refine norm_ (a':=?_) ?_ ?_;rotate_left
                  ·simp only [putAll,Act.put,List.setIfInBounds_toArray,List.set_cons_zero,List.set_cons_succ]
                   rfl
                  refine twoZ 8 9 (some 28) (some 29) #[yT,yT,yT,yT,yT,yT,yT,yT,yT,yF,yT,yF,yF,yF,yF,yT,yF] #[yT,yT,yT,yT,yT,yT,yT,yT,yF,yT,yT,yF,yF,yF,yF,yT,yF] (fun K hK=>?_) (fun K hK=>?_)
                  ·skip
                   refine goes_ Tryz.func66 (by kernel_rfl) rfl #[.slice Ao27 t339.length co27] (by rfl) rfl rfl zz35 ?_;with_reducible refine (spec_NoticeText.calls k1 _ _ t339 t343 _ ?side1 ?side2 A16.out).mono ?_
                   (case side1=>exact (zz120 HO341))
                   (case side2=>exact (Kd.S_reads' HO341.out).2.1)
                   rintro e w28 ⟨rfl,hb⟩;have HS0_:=(hb.cell (World.block_lt_of_cell? _ _ (hHeld))).trans (hHeld);refine ⟨_,rfl,?_⟩;replace HO_3:=A_ (rB (zz15 HO_3) hb);replace HO_4:=A_ (rB (zz15 HO_4) hb);replace HO341:=A_ (Kd.S_below (zz40 HO341) hb);replace BK350:=A_ (bB (zz2 BK350) hb);replace HK:=A_ (KeepBut.trans (zz47 HK GW350) (KeepBut.of_below hb g none) (.inl rfl));replace HB:=A_ (bS (zz43 HB HI0 GE350) hb);replace HI0:=A_ (IsS68.below (zz42 HI0 NB0_350) hb);(try clear hb)
                   (try clear hb2)
                   (try clear hk)
                   (try clear hi)
                   refine hK.out _ _ (HS0_) (fun hHeld=>?_);clear hK K;refine nZ 28 ?_;exact norm_ zz117 (hJ7_8_15 (.slice Ao27 t339.length co27,gb350) _ ⟨hHeld,(zz40 HO341),(zz15 HO_3),(zz15 HO_4),(zz2 BK350),GW350.out,GE350.out,NB0_350.out,NB350_0.out,(zz42 HI0 NB0_350),(zz47 HK GW350),(zz43 HB HI0 GE350)⟩)
                  ·skip
                   refine Kd.R_lit_step (Kd.int .i64) _ 3 ?hg (N:=29) ?hd (xs:=([0,0,0,1,2,5]:List Int)) (inner:=[.int .i64 0,.int .i64 0,.int .i64 0,.int .i64 1,.int .i64 2,.int .i64 5]) (ok:=fun _=>True) (okp:=fun _=>True) ?hr ?hp (fun _ hk=>hk) trivial (Below.refl _ _) (Nat.le_refl _) (by simp) ?_;(case hd=>rfl);(case hg=>rfl);(case hr=>exact zz14);(case hp=>exact rpI);intro v345 w27 ho28 hb hg_ hnew_;have HS0_:=(hb.cell (World.block_lt_of_cell? _ _ (hHeld))).trans (hHeld);clear hg_ hnew_;(first|rw [← Ny344.out] at ho28|(simp only [Int.reduceToNat] at ho28;rw [← Ny344.out] at ho28))
                   replace HO_3:=A_ (rB (zz15 HO_3) hb);replace HO_4:=A_ (rB (zz15 HO_4) hb);replace HO341:=A_ (Kd.S_below (zz40 HO341) hb);have HO346:=A_ (Kd.R_lower ho28 (keep_size (w:=w) (g:=g) (row:=none) (zz47 HK GW350)));replace BK350:=A_ (bB (zz2 BK350) hb);replace HK:=A_ (KeepBut.trans (zz47 HK GW350) (KeepBut.of_below hb g none) (.inl rfl));replace HB:=A_ (bS (zz43 HB HI0 GE350) hb);replace HI0:=A_ (IsS68.below (zz42 HI0 NB0_350) hb);clear hb ho28;obtain ⟨Ao29,co29,eo29⟩:=Kd.R_slice HO346.out;subst eo29;obtain ⟨ado29,fo29,_⟩:=Kd.at_int (Kd.R_reads' HO346.out).2.2 0 (by decide) (by rw [Ny344.out];simp);cases fo29
                   refine hK.out _ _ (HS0_) (fun hHeld=>?_);clear hK K;refine nZ 29 ?_;exact norm_ zz117 (hJ7_9_15 (_,.slice (some ado29) y344.length co29,ado29,gb350) _ ⟨hHeld,(zz40 HO341),(zz15 HO346),(zz15 HO_3),(zz15 HO_4),⟨_,rfl⟩,(zz2 BK350),GW350.out,GE350.out,NB0_350.out,NB350_0.out,(zz42 HI0 NB0_350),(zz47 HK GW350),(zz43 HB HI0 GE350)⟩)
                ·skip
                 rintro ⟨v340,v345,adz_v345⟩ w28 ⟨hS_,h0_,h1_,h2_,h3_,h4_,h5_,h6_,h7_⟩;have n0_:=A_ h0_;have n1_:=A_ h1_;have n2_:=A_ h2_;have n3_:=A_ h3_;have n4_:=A_ h4_;have n5_:=A_ h5_;have n6_:=A_ h6_;have n7_:=A_ h7_;(try dsimp only at n0_ n1_ n2_ n3_ n4_ n5_ n6_ n7_)
                 clear HO_3;clear HO_4;clear HI0;clear HK;clear HB;clear h0_ h1_ h2_ h3_ h4_ h5_ h6_ h7_;have HO341:=n0_;have HO346:=n1_;have HO_3:=n2_;have HO_4:=n3_;have HA_HO346:=n4_;have HI0:=n5_;have HK:=n6_;have HB:=n7_;clear n0_ n1_ n2_ n3_ n4_ n5_ n6_ n7_;have hHeld:w28.cell? (ad338.add (x5_1).toNat)=some (.string (rdOf ByteArray.empty t333 x5_1)):=hS_;obtain ⟨co29,eo29⟩:=HA_HO346.out;clear HA_HO346;subst eo29;obtain ⟨Ao30,co30,eo30⟩:=Kd.S_slice HO341.out;(first|subst eo30|(injection eo30 with f1_ f2_ f3_;have f4_:=f1_.symm;have f5_:=f3_.symm;clear f1_ f2_ f3_;subst f4_;subst f5_))
                 refine norm_ (a':=?_) ?_ ?_;rotate_left
                 ·simp only [putAll,Act.put,List.setIfInBounds_toArray,List.set_cons_zero,List.set_cons_succ]
                  rfl
                 refine twoZ 8 15 (some 28) (some 6) #[yT,yT,yT,yT,yT,yT,yT,yT,yT,yT,yT,yF,yF,yF,yF,yF,yF] #[yT,yT,yT,yT,yT,yT,yT,yT,yF,yT,yT,yF,yF,yF,yF,yT,yF] (fun K hK=>?_) (fun K hK=>?_)
                 ·skip
                  refine goes_ Tryz.func66 (by kernel_rfl) rfl #[.slice Ao30 t339.length co30] (by rfl) rfl rfl zz35 ?_;with_reducible refine (spec_NoticeText.calls k1 _ _ t339 t343 _ ?side1 ?side2 A16.out).mono ?_
                  (case side1=>exact (zz120 HO341))
                  (case side2=>exact (Kd.S_reads' HO341.out).2.1)
                  rintro e w31 ⟨rfl,hb⟩;have HS0_:=(hb.cell (World.block_lt_of_cell? _ _ (hHeld))).trans (hHeld);refine ⟨_,rfl,?_⟩;replace HO_3:=A_ (rB (zz15 HO_3) hb);replace HO_4:=A_ (rB (zz15 HO_4) hb);replace HO341:=A_ (Kd.S_below (zz40 HO341) hb);replace HO346:=A_ (rB (zz15 HO346) hb);replace HK:=A_ (KeepBut.trans (zz28 HK) (KeepBut.of_below hb g none) (.inl rfl));replace HB:=A_ (bS (zz29 HB HI0) hb);replace HI0:=A_ (IsS68.below (zz27 HI0) hb);(try clear hb)
                  (try clear hb2)
                  (try clear hk)
                  (try clear hi)
                  refine hK.out _ _ (HS0_) (fun hHeld=>?_);clear hK K;refine nZ 28 ?_;exact norm_ zz117 (hJ7_8_9 (.slice Ao30 t339.length co30,.slice (some adz_v345) y344.length co29,adz_v345) _ ⟨hHeld,(zz40 HO341),(zz15 HO346),(zz15 HO_3),(zz15 HO_4),⟨_,rfl⟩,(zz27 HI0),(zz28 HK),(zz29 HB HI0)⟩)
                 ·skip
                  refine box_step ?hg (N:=6) ?hd (cs:=#[.string (⟨#[]⟩:ByteArray),.string (⟨#[]⟩:ByteArray),.string (⟨#[]⟩:ByteArray),.int .i64 0]) (t:=30) ?hr ?_;(case hd=>rfl);(case hg=>rfl);(case hr=>exact zz14);intro gb350 hg w30 hbox hb;have HS0_:=(hb.cell (World.block_lt_of_cell? _ _ (hHeld))).trans (hHeld);replace HO_3:=A_ (rB (Kd.R_elderB (zz15 HO_3) gb350 (Nat.le_of_eq hg.symm)) hb);replace HO_4:=A_ (rB (zz15 HO_4) hb);replace HO341:=A_ (Kd.S_below (zz40 HO341) hb);replace HO346:=A_ (rB (zz15 HO346) hb);replace HB:=A_ (bS (zz29 HB HI0) hb);have BK350:=A_ (hbox);have GW350:=A_ ((by rw [hg];exact (keep_size (w:=w) (g:=g) (row:=none) (zz28 HK)):w.heap.size≤gb350));have GE350:=A_ ((Nat.le_trans HW0.out (by rw [hg];exact (keep_size (w:=w) (g:=g) (row:=none) (zz28 HK)):w.heap.size≤gb350):w0.heap.size≤gb350));replace HK:=A_ (KeepBut.trans (zz28 HK) (KeepBut.of_below hb g none) (.inl rfl));have NB0_350:=A_ ((by rw [hg];exact Nat.ne_of_lt (IsS68.lt (show IsS68 w0 _ g s0_0 t342 from (zz27 HI0))):g≠gb350));have NB350_0:=A_ ((by rw [hg];exact Nat.ne_of_gt (IsS68.lt (show IsS68 w0 _ g s0_0 t342 from (zz27 HI0))):gb350≠g));replace HI0:=A_ (IsS68.below (zz27 HI0) hb);clear hb hbox hg;refine hK.out _ _ (HS0_) (fun hHeld=>?_);clear hK K;refine nZ 6 ?_;exact norm_ zz117 (hJ7_9_15 (_,.slice (some adz_v345) y344.length co29,adz_v345,gb350) _ ⟨hHeld,(zz40 HO341),(zz15 HO346),(zz92 HO_3),(zz15 HO_4),⟨_,rfl⟩,(zz2 BK350),GW350.out,GE350.out,NB0_350.out,NB350_0.out,(zz42 HI0 NB0_350),(zz47 HK GW350),(zz43 HB HI0 GE350)⟩)
               ·skip
                rintro v340 w27 ⟨hS_,h0_,h1_,h2_,h3_,h4_,h5_⟩;have n0_:=A_ h0_;have n1_:=A_ h1_;have n2_:=A_ h2_;have n3_:=A_ h3_;have n4_:=A_ h4_;have n5_:=A_ h5_;(try dsimp only at n0_ n1_ n2_ n3_ n4_ n5_)
                clear HO_3;clear HO_4;clear HI0;clear HK;clear HB;clear h0_ h1_ h2_ h3_ h4_ h5_;have HO341:=n0_;have HO_3:=n1_;have HO_4:=n2_;have HI0:=n3_;have HK:=n4_;have HB:=n5_;clear n0_ n1_ n2_ n3_ n4_ n5_;have hHeld:w27.cell? (ad338.add (x5_1).toNat)=some (.string (rdOf ByteArray.empty t333 x5_1)):=hS_;refine norm_ (a':=?_) ?_ ?_;rotate_left
                ·simp only [putAll,Act.put,List.setIfInBounds_toArray,List.set_cons_zero,List.set_cons_succ]
                 rfl
                refine three_ (i:=9) (j:=11) (k:=15) (Ni:=some 29) (Nj:=some 31) (Nk:=some 6) #[yT,yT,yT,yT,yT,yT,yT,yT,yT,yT,yT,yF,yF,yF,yF,yF,yF] #[yT,yT,yT,yT,yT,yT,yT,yT,yT,yF,yT,yT,yF,yF,yF,yF,yF] #[yT,yT,yT,yT,yT,yT,yT,yT,yT,yF,yT,yF,yF,yF,yF,yT,yF] rfl rfl rfl rfl rfl rfl (three_of HT_.out (by kernel_rfl)) (by decide) (by decide) (by decide) (fun K hK=>?_) (fun K hK=>?_) (fun K hK=>?_)
                ·skip
                 refine Kd.R_lit_step (Kd.int .i64) _ 3 ?hg (N:=29) ?hd (xs:=([0,0,0,1,2,5]:List Int)) (inner:=[.int .i64 0,.int .i64 0,.int .i64 0,.int .i64 1,.int .i64 2,.int .i64 5]) (ok:=fun _=>True) (okp:=fun _=>True) ?hr ?hp (fun _ hk=>hk) trivial (Below.refl _ _) (Nat.le_refl _) (by simp) ?_;(case hd=>rfl);(case hg=>rfl);(case hr=>exact zz14);(case hp=>exact rpI);intro v345 w28 ho29 hb hg_ hnew_;have HS0_:=(hb.cell (World.block_lt_of_cell? _ _ (hHeld))).trans (hHeld);clear hg_ hnew_;(first|rw [← Ny344.out] at ho29|(simp only [Int.reduceToNat] at ho29;rw [← Ny344.out] at ho29))
                 replace HO_3:=A_ (rB (zz15 HO_3) hb);replace HO_4:=A_ (rB (zz15 HO_4) hb);replace HO341:=A_ (Kd.S_below (zz40 HO341) hb);have HO346:=A_ (Kd.R_lower ho29 (keep_size (w:=w) (g:=g) (row:=none) (zz28 HK)));replace HK:=A_ (KeepBut.trans (zz28 HK) (KeepBut.of_below hb g none) (.inl rfl));replace HB:=A_ (bS (zz29 HB HI0) hb);replace HI0:=A_ (IsS68.below (zz27 HI0) hb);clear hb ho29;obtain ⟨Ao30,co30,eo30⟩:=Kd.R_slice HO346.out;subst eo30;obtain ⟨ado30,fo30,_⟩:=Kd.at_int (Kd.R_reads' HO346.out).2.2 0 (by decide) (by rw [Ny344.out];simp);cases fo30
                 refine hK.out _ _ (HS0_) (fun hHeld=>?_);clear hK K;refine nZ 29 ?_;exact norm_ zz117 (hJ7_8_9 (_,.slice (some ado30) y344.length co30,ado30) _ ⟨hHeld,(zz40 HO341),(zz15 HO346),(zz15 HO_3),(zz15 HO_4),⟨_,rfl⟩,(zz27 HI0),(zz28 HK),(zz29 HB HI0)⟩)
                ·skip
                 refine goes_ Tryz.func22 (by kernel_rfl) rfl #[.pointer (some ⟨g,0,none⟩),.int .i64 6] (by rfl) rfl rfl zz35 ?_;with_reducible refine (spec_l6Rd_pick.calls k1 g s0_0 t342 6 t347 t348 w0 _ ?side1 ?side2 A17.out).mono ?_
                 (case side1=>exact (zz27 HI0))
                 (case side2=>exact (zz29 HB HI0))
                 rintro e w28 ⟨rfl,hi,hb,hk⟩;have HS0_:=keep_cell hk (hHeld) (zz116 HI0 HO_4);refine ⟨_,rfl,?_⟩;replace HO_3:=A_ (Kd.R_mono (Kd.R_keep (IsS68.apart (show IsS68 w0 _ g s0_0 t342 from (zz27 HI0)) (zz15 HO_3) (by decide)) hk (fun _ h=>h.2)) (fun _ h=>h.1));replace HO_4:=A_ (Kd.R_mono (Kd.R_keep (IsS68.apart (show IsS68 w0 _ g s0_0 t342 from (zz27 HI0)) (zz15 HO_4) (by decide)) hk (fun _ h=>h.2)) (fun _ h=>h.1));replace HO341:=A_ (Kd.S_mono (Kd.S_keep (IsS68.apartS (show IsS68 w0 _ g s0_0 t342 from (zz27 HI0)) (zz40 HO341) (by decide)) hk (fun _ h=>h.2)) (fun _ h=>h.1));replace HK:=A_ (KeepBut.trans (zz28 HK) hk (.inl rfl));replace HB:=A_ (hb);replace HI0:=A_ (hi);(try clear hb)
                 (try clear hb2)
                 (try clear hk)
                 (try clear hi)
                 refine hK.out _ _ (HS0_) (fun hHeld=>?_);clear hK K;refine nZ 31 ?_;exact norm_ zz117 (hJ7_8_11 (v340) _ ⟨hHeld,(zz40 HO341),(zz15 HO_3),(zz15 HO_4),(zz27 HI0),(zz28 HK),(zz29 HB HI0)⟩)
                ·skip
                 refine box_step ?hg (N:=6) ?hd (cs:=#[.string (⟨#[]⟩:ByteArray),.string (⟨#[]⟩:ByteArray),.string (⟨#[]⟩:ByteArray),.int .i64 0]) (t:=30) ?hr ?_;(case hd=>rfl);(case hg=>rfl);(case hr=>exact zz14);intro gb350 hg w28 hbox hb;have HS0_:=(hb.cell (World.block_lt_of_cell? _ _ (hHeld))).trans (hHeld);replace HO_3:=A_ (rB (Kd.R_elderB (zz15 HO_3) gb350 (Nat.le_of_eq hg.symm)) hb);replace HO_4:=A_ (rB (zz15 HO_4) hb);replace HO341:=A_ (Kd.S_below (zz40 HO341) hb);replace HB:=A_ (bS (zz29 HB HI0) hb);have BK350:=A_ (hbox);have GW350:=A_ ((by rw [hg];exact (keep_size (w:=w) (g:=g) (row:=none) (zz28 HK)):w.heap.size≤gb350));have GE350:=A_ ((Nat.le_trans HW0.out (by rw [hg];exact (keep_size (w:=w) (g:=g) (row:=none) (zz28 HK)):w.heap.size≤gb350):w0.heap.size≤gb350));replace HK:=A_ (KeepBut.trans (zz28 HK) (KeepBut.of_below hb g none) (.inl rfl));have NB0_350:=A_ ((by rw [hg];exact Nat.ne_of_lt (IsS68.lt (show IsS68 w0 _ g s0_0 t342 from (zz27 HI0))):g≠gb350));have NB350_0:=A_ ((by rw [hg];exact Nat.ne_of_gt (IsS68.lt (show IsS68 w0 _ g s0_0 t342 from (zz27 HI0))):gb350≠g));replace HI0:=A_ (IsS68.below (zz27 HI0) hb);clear hb hbox hg;refine hK.out _ _ (HS0_) (fun hHeld=>?_);clear hK K;refine nZ 6 ?_;exact norm_ zz117 (hJ7_8_15 (_,gb350) _ ⟨hHeld,(zz40 HO341),(zz92 HO_3),(zz15 HO_4),(zz2 BK350),GW350.out,GE350.out,NB0_350.out,NB350_0.out,(zz42 HI0 NB0_350),(zz47 HK GW350),(zz43 HB HI0 GE350)⟩)
              ·skip
               rintro ⟨v340,v345,adz_v345,gb350⟩ w29 ⟨hS_,h0_,h1_,h2_,h3_,h4_,h5_,h6_,h7_,h8_,h9_,h10_,h11_,h12_⟩;have n0_:=A_ h0_;have n1_:=A_ h1_;have n2_:=A_ h2_;have n3_:=A_ h3_;have n4_:=A_ h4_;have n5_:=A_ h5_;have n6_:=A_ h6_;have n7_:=A_ h7_;have n8_:=A_ h8_;have n9_:=A_ h9_;have n10_:=A_ h10_;have n11_:=A_ h11_;have n12_:=A_ h12_;(try dsimp only at n0_ n1_ n2_ n3_ n4_ n5_ n6_ n7_ n8_ n9_ n10_ n11_ n12_)
               clear HO_3;clear HO_4;clear HI0;clear HK;clear HB;clear h0_ h1_ h2_ h3_ h4_ h5_ h6_ h7_ h8_ h9_ h10_ h11_ h12_;have HO341:=n0_;have HO346:=n1_;have HO_3:=n2_;have HO_4:=n3_;have HA_HO346:=n4_;have BK350:=n5_;have GW350:=n6_;have GE350:=n7_;have NB0_350:=n8_;have NB350_0:=n9_;have HI0:=n10_;have HK:=n11_;have HB:=n12_;clear n0_ n1_ n2_ n3_ n4_ n5_ n6_ n7_ n8_ n9_ n10_ n11_ n12_;have hHeld:w29.cell? (ad338.add (x5_1).toNat)=some (.string (rdOf ByteArray.empty t333 x5_1)):=hS_;obtain ⟨co30,eo30⟩:=HA_HO346.out;clear HA_HO346;subst eo30;obtain ⟨Ao31,co31,eo31⟩:=Kd.S_slice HO341.out;(first|subst eo31|(injection eo31 with f1_ f2_ f3_;have f4_:=f1_.symm;have f5_:=f3_.symm;clear f1_ f2_ f3_;subst f4_;subst f5_))
               refine norm_ (a':=?_) ?_ ?_;rotate_left
               ·simp only [putAll,Act.put,List.setIfInBounds_toArray,List.set_cons_zero,List.set_cons_succ]
                rfl
               refine oneZ 8 (some 28) #[yT,yT,yT,yT,yT,yT,yT,yT,yT,yT,yT,yF,yF,yF,yF,yT,yF] (fun K hK=>?_);refine goes_ Tryz.func66 (by kernel_rfl) rfl #[.slice Ao31 t339.length co31] (by rfl) rfl rfl zz35 ?_;with_reducible refine (spec_NoticeText.calls k1 _ _ t339 t343 _ ?side1 ?side2 A16.out).mono ?_
               (case side1=>exact (zz120 HO341))
               (case side2=>exact (Kd.S_reads' HO341.out).2.1)
               rintro e w32 ⟨rfl,hb⟩;have HS0_:=(hb.cell (World.block_lt_of_cell? _ _ (hHeld))).trans (hHeld);refine ⟨_,rfl,?_⟩;replace HO_3:=A_ (rB (zz15 HO_3) hb);replace HO_4:=A_ (rB (zz15 HO_4) hb);replace HO341:=A_ (Kd.S_below (zz40 HO341) hb);replace HO346:=A_ (rB (zz15 HO346) hb);replace BK350:=A_ (bB (zz2 BK350) hb);replace HK:=A_ (KeepBut.trans (zz47 HK GW350) (KeepBut.of_below hb g none) (.inl rfl));replace HB:=A_ (bS (zz43 HB HI0 GE350) hb);replace HI0:=A_ (IsS68.below (zz42 HI0 NB0_350) hb);(try clear hb)
               (try clear hb2)
               (try clear hk)
               (try clear hi)
               refine hK.out _ _ (HS0_) (fun hHeld=>?_);clear hK K;refine nZ 28 ?_;exact norm_ zz117 (hJ7_8_9_15 (.slice Ao31 t339.length co31,.slice (some adz_v345) y344.length co30,adz_v345,gb350) _ ⟨hHeld,(zz40 HO341),(zz15 HO346),(zz15 HO_3),(zz15 HO_4),⟨_,rfl⟩,(zz2 BK350),GW350.out,GE350.out,NB0_350.out,NB350_0.out,(zz42 HI0 NB0_350),(zz47 HK GW350),(zz43 HB HI0 GE350)⟩)
             ·skip
              rintro ⟨v340,gb350⟩ w28 ⟨hS_,h0_,h1_,h2_,h3_,h4_,h5_,h6_,h7_,h8_,h9_,h10_⟩;have n0_:=A_ h0_;have n1_:=A_ h1_;have n2_:=A_ h2_;have n3_:=A_ h3_;have n4_:=A_ h4_;have n5_:=A_ h5_;have n6_:=A_ h6_;have n7_:=A_ h7_;have n8_:=A_ h8_;have n9_:=A_ h9_;have n10_:=A_ h10_;(try dsimp only at n0_ n1_ n2_ n3_ n4_ n5_ n6_ n7_ n8_ n9_ n10_)
              clear HO_3;clear HO_4;clear HI0;clear HK;clear HB;clear h0_ h1_ h2_ h3_ h4_ h5_ h6_ h7_ h8_ h9_ h10_;have HO341:=n0_;have HO_3:=n1_;have HO_4:=n2_;have BK350:=n3_;have GW350:=n4_;have GE350:=n5_;have NB0_350:=n6_;have NB350_0:=n7_;have HI0:=n8_;have HK:=n9_;have HB:=n10_;clear n0_ n1_ n2_ n3_ n4_ n5_ n6_ n7_ n8_ n9_ n10_;have hHeld:w28.cell? (ad338.add (x5_1).toNat)=some (.string (rdOf ByteArray.empty t333 x5_1)):=hS_;refine norm_ (a':=?_) ?_ ?_;rotate_left
              ·simp only [putAll,Act.put,List.setIfInBounds_toArray,List.set_cons_zero,List.set_cons_succ]
               rfl
              refine twoZ 9 11 (some 29) (some 31) #[yT,yT,yT,yT,yT,yT,yT,yT,yT,yT,yT,yF,yF,yF,yF,yT,yF] #[yT,yT,yT,yT,yT,yT,yT,yT,yT,yF,yT,yT,yF,yF,yF,yT,yF] (fun K hK=>?_) (fun K hK=>?_)
              ·skip
               refine Kd.R_lit_step (Kd.int .i64) _ 3 ?hg (N:=29) ?hd (xs:=([0,0,0,1,2,5]:List Int)) (inner:=[.int .i64 0,.int .i64 0,.int .i64 0,.int .i64 1,.int .i64 2,.int .i64 5]) (ok:=fun _=>True) (okp:=fun _=>True) ?hr ?hp (fun _ hk=>hk) trivial (Below.refl _ _) (Nat.le_refl _) (by simp) ?_;(case hd=>rfl);(case hg=>rfl);(case hr=>exact zz14);(case hp=>exact rpI);intro v345 w29 ho30 hb hg_ hnew_;have HS0_:=(hb.cell (World.block_lt_of_cell? _ _ (hHeld))).trans (hHeld);clear hg_ hnew_;(first|rw [← Ny344.out] at ho30|(simp only [Int.reduceToNat] at ho30;rw [← Ny344.out] at ho30))
               replace HO_3:=A_ (rB (zz15 HO_3) hb);replace HO_4:=A_ (rB (zz15 HO_4) hb);replace HO341:=A_ (Kd.S_below (zz40 HO341) hb);have HO346:=A_ (Kd.R_lower ho30 (keep_size (w:=w) (g:=g) (row:=none) (zz47 HK GW350)));replace BK350:=A_ (bB (zz2 BK350) hb);replace HK:=A_ (KeepBut.trans (zz47 HK GW350) (KeepBut.of_below hb g none) (.inl rfl));replace HB:=A_ (bS (zz43 HB HI0 GE350) hb);replace HI0:=A_ (IsS68.below (zz42 HI0 NB0_350) hb);clear hb ho30;obtain ⟨Ao31,co31,eo31⟩:=Kd.R_slice HO346.out;subst eo31;obtain ⟨ado31,fo31,_⟩:=Kd.at_int (Kd.R_reads' HO346.out).2.2 0 (by decide) (by rw [Ny344.out];simp);cases fo31
               refine hK.out _ _ (HS0_) (fun hHeld=>?_);clear hK K;refine nZ 29 ?_;exact norm_ zz117 (hJ7_8_9_15 (_,.slice (some ado31) y344.length co31,ado31,gb350) _ ⟨hHeld,(zz40 HO341),(zz15 HO346),(zz15 HO_3),(zz15 HO_4),⟨_,rfl⟩,(zz2 BK350),GW350.out,GE350.out,NB0_350.out,NB350_0.out,(zz42 HI0 NB0_350),(zz47 HK GW350),(zz43 HB HI0 GE350)⟩)
              ·skip
               refine goes_ Tryz.func22 (by kernel_rfl) rfl #[.pointer (some ⟨g,0,none⟩),.int .i64 6] (by rfl) rfl rfl zz35 ?_;with_reducible refine (spec_l6Rd_pick.calls k1 g s0_0 t342 6 t347 t348 w0 _ ?side1 ?side2 A17.out).mono ?_
               (case side1=>exact (zz42 HI0 NB0_350))
               (case side2=>exact (zz43 HB HI0 GE350))
               rintro e w29 ⟨rfl,hi,hb,hk⟩;have HS0_:=keep_cell hk (hHeld) (zz116 HI0 HO_4);refine ⟨_,rfl,?_⟩;replace HO_3:=A_ (Kd.R_mono (Kd.R_keep (IsS68.apart (show IsS68 w0 _ g s0_0 t342 from (zz42 HI0 NB0_350)) (zz15 HO_3) (by decide)) hk (fun _ h=>h.2)) (fun _ h=>h.1));replace HO_4:=A_ (Kd.R_mono (Kd.R_keep (IsS68.apart (show IsS68 w0 _ g s0_0 t342 from (zz42 HI0 NB0_350)) (zz15 HO_4) (by decide)) hk (fun _ h=>h.2)) (fun _ h=>h.1));replace HO341:=A_ (Kd.S_mono (Kd.S_keep (IsS68.apartS (show IsS68 w0 _ g s0_0 t342 from (zz42 HI0 NB0_350)) (zz40 HO341) (by decide)) hk (fun _ h=>h.2)) (fun _ h=>h.1));replace BK350:=A_ (KeepBut.blk hk (g':=gb350) (o:=.cells #[.string (⟨#[]⟩:ByteArray),.string (⟨#[]⟩:ByteArray),.string (⟨#[]⟩:ByteArray),.int .i64 0] 30 (0,0)) (zz2 BK350) NB350_0.out (by simp));replace HK:=A_ (KeepBut.trans (zz47 HK GW350) hk (.inl rfl));replace HB:=A_ (hb);replace HI0:=A_ (hi);(try clear hb)
               (try clear hb2)
               (try clear hk)
               (try clear hi)
               refine hK.out _ _ (HS0_) (fun hHeld=>?_);clear hK K;refine nZ 31 ?_;exact norm_ zz117 (hJ7_8_11_15 (_,gb350) _ ⟨hHeld,(zz40 HO341),(zz15 HO_3),(zz15 HO_4),(zz2 BK350),GW350.out,GE350.out,NB0_350.out,NB350_0.out,(zz42 HI0 NB0_350),(zz47 HK GW350),(zz43 HB HI0 GE350)⟩)
            ·skip
             rintro v340 w28 ⟨hS_,h0_,h1_,h2_,h3_,h4_,h5_⟩;have n0_:=A_ h0_;have n1_:=A_ h1_;have n2_:=A_ h2_;have n3_:=A_ h3_;have n4_:=A_ h4_;have n5_:=A_ h5_;(try dsimp only at n0_ n1_ n2_ n3_ n4_ n5_)
             clear HO_3;clear HO_4;clear HI0;clear HK;clear HB;clear h0_ h1_ h2_ h3_ h4_ h5_;have HO341:=n0_;have HO_3:=n1_;have HO_4:=n2_;have HI0:=n3_;have HK:=n4_;have HB:=n5_;clear n0_ n1_ n2_ n3_ n4_ n5_;have hHeld:w28.cell? (ad338.add (x5_1).toNat)=some (.string (rdOf ByteArray.empty t333 x5_1)):=hS_;refine norm_ (a':=?_) ?_ ?_;rotate_left
             ·simp only [putAll,Act.put,List.setIfInBounds_toArray,List.set_cons_zero,List.set_cons_succ]
              rfl
             refine twoZ 9 15 (some 29) (some 6) #[yT,yT,yT,yT,yT,yT,yT,yT,yT,yT,yT,yT,yF,yF,yF,yF,yF] #[yT,yT,yT,yT,yT,yT,yT,yT,yT,yF,yT,yT,yF,yF,yF,yT,yF] (fun K hK=>?_) (fun K hK=>?_)
             ·skip
              refine Kd.R_lit_step (Kd.int .i64) _ 3 ?hg (N:=29) ?hd (xs:=([0,0,0,1,2,5]:List Int)) (inner:=[.int .i64 0,.int .i64 0,.int .i64 0,.int .i64 1,.int .i64 2,.int .i64 5]) (ok:=fun _=>True) (okp:=fun _=>True) ?hr ?hp (fun _ hk=>hk) trivial (Below.refl _ _) (Nat.le_refl _) (by simp) ?_;(case hd=>rfl);(case hg=>rfl);(case hr=>exact zz14);(case hp=>exact rpI);intro v345 w29 ho30 hb hg_ hnew_;have HS0_:=(hb.cell (World.block_lt_of_cell? _ _ (hHeld))).trans (hHeld);clear hg_ hnew_;(first|rw [← Ny344.out] at ho30|(simp only [Int.reduceToNat] at ho30;rw [← Ny344.out] at ho30))
              replace HO_3:=A_ (rB (zz15 HO_3) hb);replace HO_4:=A_ (rB (zz15 HO_4) hb);replace HO341:=A_ (Kd.S_below (zz40 HO341) hb);have HO346:=A_ (Kd.R_lower ho30 (keep_size (w:=w) (g:=g) (row:=none) (zz28 HK)));replace HK:=A_ (KeepBut.trans (zz28 HK) (KeepBut.of_below hb g none) (.inl rfl));replace HB:=A_ (bS (zz29 HB HI0) hb);replace HI0:=A_ (IsS68.below (zz27 HI0) hb);clear hb ho30;obtain ⟨Ao31,co31,eo31⟩:=Kd.R_slice HO346.out;subst eo31;obtain ⟨ado31,fo31,_⟩:=Kd.at_int (Kd.R_reads' HO346.out).2.2 0 (by decide) (by rw [Ny344.out];simp);cases fo31
              refine hK.out _ _ (HS0_) (fun hHeld=>?_);clear hK K;refine nZ 29 ?_;refine pureZ 12 (some 32) #[yT,yT,yT,yT,yT,yT,yT,yT,yT,yT,yT,yT,yT,yF,yF,yF,yF] ?_;exact norm_ zz117 (hJ7_8_9_11 (_,.slice (some ado31) y344.length co31,ado31) _ ⟨hHeld,(zz40 HO341),(zz15 HO346),(zz15 HO_3),(zz15 HO_4),⟨_,rfl⟩,(zz27 HI0),(zz28 HK),(zz29 HB HI0)⟩)
             ·skip
              refine box_step ?hg (N:=6) ?hd (cs:=#[.string (⟨#[]⟩:ByteArray),.string (⟨#[]⟩:ByteArray),.string (⟨#[]⟩:ByteArray),.int .i64 0]) (t:=30) ?hr ?_;(case hd=>rfl);(case hg=>rfl);(case hr=>exact zz14);intro gb350 hg w29 hbox hb;have HS0_:=(hb.cell (World.block_lt_of_cell? _ _ (hHeld))).trans (hHeld);replace HO_3:=A_ (rB (Kd.R_elderB (zz15 HO_3) gb350 (Nat.le_of_eq hg.symm)) hb);replace HO_4:=A_ (rB (zz15 HO_4) hb);replace HO341:=A_ (Kd.S_below (zz40 HO341) hb);replace HB:=A_ (bS (zz29 HB HI0) hb);have BK350:=A_ (hbox);have GW350:=A_ ((by rw [hg];exact (keep_size (w:=w) (g:=g) (row:=none) (zz28 HK)):w.heap.size≤gb350));have GE350:=A_ ((Nat.le_trans HW0.out (by rw [hg];exact (keep_size (w:=w) (g:=g) (row:=none) (zz28 HK)):w.heap.size≤gb350):w0.heap.size≤gb350));replace HK:=A_ (KeepBut.trans (zz28 HK) (KeepBut.of_below hb g none) (.inl rfl));have NB0_350:=A_ ((by rw [hg];exact Nat.ne_of_lt (IsS68.lt (show IsS68 w0 _ g s0_0 t348 from (zz27 HI0))):g≠gb350));have NB350_0:=A_ ((by rw [hg];exact Nat.ne_of_gt (IsS68.lt (show IsS68 w0 _ g s0_0 t348 from (zz27 HI0))):gb350≠g));replace HI0:=A_ (IsS68.below (zz27 HI0) hb);clear hb hbox hg;refine hK.out _ _ (HS0_) (fun hHeld=>?_);clear hK K;refine nZ 6 ?_;exact norm_ zz117 (hJ7_8_11_15 (_,gb350) _ ⟨hHeld,(zz40 HO341),(zz92 HO_3),(zz15 HO_4),(zz2 BK350),GW350.out,GE350.out,NB0_350.out,NB350_0.out,(zz42 HI0 NB0_350),(zz47 HK GW350),(zz43 HB HI0 GE350)⟩)
           ·skip
            rintro ⟨v340,v345,adz_v345⟩ w30 ⟨hS_,h0_,h1_,h2_,h3_,h4_,h5_,h6_,h7_⟩;have n0_:=A_ h0_;have n1_:=A_ h1_;have n2_:=A_ h2_;have n3_:=A_ h3_;have n4_:=A_ h4_;have n5_:=A_ h5_;have n6_:=A_ h6_;have n7_:=A_ h7_;(try dsimp only at n0_ n1_ n2_ n3_ n4_ n5_ n6_ n7_)
            clear HO_3;clear HO_4;clear HI0;clear HK;clear HB;clear h0_ h1_ h2_ h3_ h4_ h5_ h6_ h7_;have HO341:=n0_;have HO346:=n1_;have HO_3:=n2_;have HO_4:=n3_;have HA_HO346:=n4_;have HI0:=n5_;have HK:=n6_;have HB:=n7_;clear n0_ n1_ n2_ n3_ n4_ n5_ n6_ n7_;have hHeld:w30.cell? (ad338.add (x5_1).toNat)=some (.string (rdOf ByteArray.empty t333 x5_1)):=hS_;obtain ⟨co31,eo31⟩:=HA_HO346.out;clear HA_HO346;subst eo31;refine norm_ (a':=?_) ?_ ?_;rotate_left
            ·simp only [putAll,Act.put,List.setIfInBounds_toArray,List.set_cons_zero,List.set_cons_succ]
             rfl
            refine twoZ 11 15 (some 31) (some 6) #[yT,yT,yT,yT,yT,yT,yT,yT,yT,yT,yT,yT,yF,yF,yF,yF,yF] #[yT,yT,yT,yT,yT,yT,yT,yT,yT,yT,yT,yF,yF,yF,yF,yT,yF] (fun K hK=>?_) (fun K hK=>?_)
            ·skip
             refine goes_ Tryz.func22 (by kernel_rfl) rfl #[.pointer (some ⟨g,0,none⟩),.int .i64 6] (by rfl) rfl rfl zz35 ?_;with_reducible refine (spec_l6Rd_pick.calls k1 g s0_0 t342 6 t347 t348 w0 _ ?side1 ?side2 A17.out).mono ?_
             (case side1=>exact (zz27 HI0))
             (case side2=>exact (zz29 HB HI0))
             rintro e w32 ⟨rfl,hi,hb,hk⟩;have HS0_:=keep_cell hk (hHeld) (zz116 HI0 HO_4);refine ⟨_,rfl,?_⟩;replace HO_3:=A_ (Kd.R_mono (Kd.R_keep (IsS68.apart (show IsS68 w0 _ g s0_0 t342 from (zz27 HI0)) (zz15 HO_3) (by decide)) hk (fun _ h=>h.2)) (fun _ h=>h.1));replace HO_4:=A_ (Kd.R_mono (Kd.R_keep (IsS68.apart (show IsS68 w0 _ g s0_0 t342 from (zz27 HI0)) (zz15 HO_4) (by decide)) hk (fun _ h=>h.2)) (fun _ h=>h.1));replace HO341:=A_ (Kd.S_mono (Kd.S_keep (IsS68.apartS (show IsS68 w0 _ g s0_0 t342 from (zz27 HI0)) (zz40 HO341) (by decide)) hk (fun _ h=>h.2)) (fun _ h=>h.1));replace HO346:=A_ (Kd.R_mono (Kd.R_keep (IsS68.apart (show IsS68 w0 _ g s0_0 t342 from (zz27 HI0)) (zz15 HO346) (by decide)) hk (fun _ h=>h.2)) (fun _ h=>h.1));replace HK:=A_ (KeepBut.trans (zz28 HK) hk (.inl rfl));replace HB:=A_ (hb);replace HI0:=A_ (hi);(try clear hb)
             (try clear hb2)
             (try clear hk)
             (try clear hi)
             refine hK.out _ _ (HS0_) (fun hHeld=>?_);clear hK K;refine nZ 31 ?_;refine pureZ 12 (some 32) #[yT,yT,yT,yT,yT,yT,yT,yT,yT,yT,yT,yT,yT,yF,yF,yF,yF] ?_;exact norm_ zz117 (hJ7_8_9_11 (_,.slice (some adz_v345) y344.length co31,adz_v345) _ ⟨hHeld,(zz40 HO341),(zz15 HO346),(zz15 HO_3),(zz15 HO_4),⟨_,rfl⟩,(zz27 HI0),(zz28 HK),(zz29 HB HI0)⟩)
            ·skip
             refine box_step ?hg (N:=6) ?hd (cs:=#[.string (⟨#[]⟩:ByteArray),.string (⟨#[]⟩:ByteArray),.string (⟨#[]⟩:ByteArray),.int .i64 0]) (t:=30) ?hr ?_;(case hd=>rfl);(case hg=>rfl);(case hr=>exact zz14);intro gb350 hg w32 hbox hb;have HS0_:=(hb.cell (World.block_lt_of_cell? _ _ (hHeld))).trans (hHeld);replace HO_3:=A_ (rB (Kd.R_elderB (zz15 HO_3) gb350 (Nat.le_of_eq hg.symm)) hb);replace HO_4:=A_ (rB (zz15 HO_4) hb);replace HO341:=A_ (Kd.S_below (zz40 HO341) hb);replace HO346:=A_ (rB (zz15 HO346) hb);replace HB:=A_ (bS (zz29 HB HI0) hb);have BK350:=A_ (hbox);have GW350:=A_ ((by rw [hg];exact (keep_size (w:=w) (g:=g) (row:=none) (zz28 HK)):w.heap.size≤gb350));have GE350:=A_ ((Nat.le_trans HW0.out (by rw [hg];exact (keep_size (w:=w) (g:=g) (row:=none) (zz28 HK)):w.heap.size≤gb350):w0.heap.size≤gb350));replace HK:=A_ (KeepBut.trans (zz28 HK) (KeepBut.of_below hb g none) (.inl rfl));have NB0_350:=A_ ((by rw [hg];exact Nat.ne_of_lt (IsS68.lt (show IsS68 w0 _ g s0_0 t342 from (zz27 HI0))):g≠gb350));have NB350_0:=A_ ((by rw [hg];exact Nat.ne_of_gt (IsS68.lt (show IsS68 w0 _ g s0_0 t342 from (zz27 HI0))):gb350≠g));replace HI0:=A_ (IsS68.below (zz27 HI0) hb);clear hb hbox hg;refine hK.out _ _ (HS0_) (fun hHeld=>?_);clear hK K;refine nZ 6 ?_;exact norm_ zz117 (hJ7_8_9_15 (_,.slice (some adz_v345) y344.length co31,adz_v345,gb350) _ ⟨hHeld,(zz40 HO341),(zz15 HO346),(zz92 HO_3),(zz15 HO_4),⟨_,rfl⟩,(zz2 BK350),GW350.out,GE350.out,NB0_350.out,NB350_0.out,(zz42 HI0 NB0_350),(zz47 HK GW350),(zz43 HB HI0 GE350)⟩)
          ·skip
           rintro ⟨v340,gb350⟩ w29 ⟨hS_,h0_,h1_,h2_,h3_,h4_,h5_,h6_,h7_,h8_,h9_,h10_⟩;have n0_:=A_ h0_;have n1_:=A_ h1_;have n2_:=A_ h2_;have n3_:=A_ h3_;have n4_:=A_ h4_;have n5_:=A_ h5_;have n6_:=A_ h6_;have n7_:=A_ h7_;have n8_:=A_ h8_;have n9_:=A_ h9_;have n10_:=A_ h10_;(try dsimp only at n0_ n1_ n2_ n3_ n4_ n5_ n6_ n7_ n8_ n9_ n10_)
           clear HO_3;clear HO_4;clear HI0;clear HK;clear HB;clear h0_ h1_ h2_ h3_ h4_ h5_ h6_ h7_ h8_ h9_ h10_;have HO341:=n0_;have HO_3:=n1_;have HO_4:=n2_;have BK350:=n3_;have GW350:=n4_;have GE350:=n5_;have NB0_350:=n6_;have NB350_0:=n7_;have HI0:=n8_;have HK:=n9_;have HB:=n10_;clear n0_ n1_ n2_ n3_ n4_ n5_ n6_ n7_ n8_ n9_ n10_;have hHeld:w29.cell? (ad338.add (x5_1).toNat)=some (.string (rdOf ByteArray.empty t333 x5_1)):=hS_;refine norm_ (a':=?_) ?_ ?_;rotate_left
           ·simp only [putAll,Act.put,List.setIfInBounds_toArray,List.set_cons_zero,List.set_cons_succ]
            rfl
           refine oneZ 9 (some 29) #[yT,yT,yT,yT,yT,yT,yT,yT,yT,yT,yT,yT,yF,yF,yF,yT,yF] (fun K hK=>?_);refine Kd.R_lit_step (Kd.int .i64) _ 3 ?hg (N:=29) ?hd (xs:=([0,0,0,1,2,5]:List Int)) (inner:=[.int .i64 0,.int .i64 0,.int .i64 0,.int .i64 1,.int .i64 2,.int .i64 5]) (ok:=fun _=>True) (okp:=fun _=>True) ?hr ?hp (fun _ hk=>hk) trivial (Below.refl _ _) (Nat.le_refl _) (by simp) ?_;(case hd=>rfl);(case hg=>rfl);(case hr=>exact zz14);(case hp=>exact rpI);intro v345 w30 ho31 hb hg_ hnew_;have HS0_:=(hb.cell (World.block_lt_of_cell? _ _ (hHeld))).trans (hHeld);clear hg_ hnew_;(first|rw [← Ny344.out] at ho31|(simp only [Int.reduceToNat] at ho31;rw [← Ny344.out] at ho31))
           replace HO_3:=A_ (rB (zz15 HO_3) hb);replace HO_4:=A_ (rB (zz15 HO_4) hb);replace HO341:=A_ (Kd.S_below (zz40 HO341) hb);have HO346:=A_ (Kd.R_lower ho31 (keep_size (w:=w) (g:=g) (row:=none) (zz47 HK GW350)));replace BK350:=A_ (bB (zz2 BK350) hb);replace HK:=A_ (KeepBut.trans (zz47 HK GW350) (KeepBut.of_below hb g none) (.inl rfl));replace HB:=A_ (bS (zz43 HB HI0 GE350) hb);replace HI0:=A_ (IsS68.below (zz42 HI0 NB0_350) hb);clear hb ho31;obtain ⟨Ao32,co32,eo32⟩:=Kd.R_slice HO346.out;subst eo32;obtain ⟨ado32,fo32,_⟩:=Kd.at_int (Kd.R_reads' HO346.out).2.2 0 (by decide) (by rw [Ny344.out];simp);cases fo32
           refine hK.out _ _ (HS0_) (fun hHeld=>?_);clear hK K;refine nZ 29 ?_;refine pureZ 12 (some 32) #[yT,yT,yT,yT,yT,yT,yT,yT,yT,yT,yT,yT,yT,yF,yF,yT,yF] ?_;exact norm_ zz117 (hJ7_8_9_11_15 (_,.slice (some ado32) y344.length co32,ado32,gb350) _ ⟨hHeld,(zz40 HO341),(zz15 HO346),(zz15 HO_3),(zz15 HO_4),⟨_,rfl⟩,(zz2 BK350),GW350.out,GE350.out,NB0_350.out,NB350_0.out,(zz42 HI0 NB0_350),(zz47 HK GW350),(zz43 HB HI0 GE350)⟩)
         ·skip
          rintro ⟨v340,v345,adz_v345,gb350⟩ w31 ⟨hS_,h0_,h1_,h2_,h3_,h4_,h5_,h6_,h7_,h8_,h9_,h10_,h11_,h12_⟩;have n0_:=A_ h0_;have n1_:=A_ h1_;have n2_:=A_ h2_;have n3_:=A_ h3_;have n4_:=A_ h4_;have n5_:=A_ h5_;have n6_:=A_ h6_;have n7_:=A_ h7_;have n8_:=A_ h8_;have n9_:=A_ h9_;have n10_:=A_ h10_;have n11_:=A_ h11_;have n12_:=A_ h12_;(try dsimp only at n0_ n1_ n2_ n3_ n4_ n5_ n6_ n7_ n8_ n9_ n10_ n11_ n12_)
          clear HO_3;clear HO_4;clear HI0;clear HK;clear HB;clear h0_ h1_ h2_ h3_ h4_ h5_ h6_ h7_ h8_ h9_ h10_ h11_ h12_;have HO341:=n0_;have HO346:=n1_;have HO_3:=n2_;have HO_4:=n3_;have HA_HO346:=n4_;have BK350:=n5_;have GW350:=n6_;have GE350:=n7_;have NB0_350:=n8_;have NB350_0:=n9_;have HI0:=n10_;have HK:=n11_;have HB:=n12_;clear n0_ n1_ n2_ n3_ n4_ n5_ n6_ n7_ n8_ n9_ n10_ n11_ n12_;have hHeld:w31.cell? (ad338.add (x5_1).toNat)=some (.string (rdOf ByteArray.empty t333 x5_1)):=hS_;obtain ⟨co32,eo32⟩:=HA_HO346.out;clear HA_HO346;subst eo32;refine norm_ (a':=?_) ?_ ?_;rotate_left
          ·simp only [putAll,Act.put,List.setIfInBounds_toArray,List.set_cons_zero,List.set_cons_succ]
           rfl
          refine oneZ 11 (some 31) #[yT,yT,yT,yT,yT,yT,yT,yT,yT,yT,yT,yT,yF,yF,yF,yT,yF] (fun K hK=>?_);refine goes_ Tryz.func22 (by kernel_rfl) rfl #[.pointer (some ⟨g,0,none⟩),.int .i64 6] (by rfl) rfl rfl zz35 ?_;with_reducible refine (spec_l6Rd_pick.calls k1 g s0_0 t342 6 t347 t348 w0 _ ?side1 ?side2 A17.out).mono ?_
          (case side1=>exact (zz42 HI0 NB0_350))
          (case side2=>exact (zz43 HB HI0 GE350))
          rintro e w33 ⟨rfl,hi,hb,hk⟩;have HS0_:=keep_cell hk (hHeld) (zz116 HI0 HO_4);refine ⟨_,rfl,?_⟩;replace HO_3:=A_ (Kd.R_mono (Kd.R_keep (IsS68.apart (show IsS68 w0 _ g s0_0 t342 from (zz42 HI0 NB0_350)) (zz15 HO_3) (by decide)) hk (fun _ h=>h.2)) (fun _ h=>h.1));replace HO_4:=A_ (Kd.R_mono (Kd.R_keep (IsS68.apart (show IsS68 w0 _ g s0_0 t342 from (zz42 HI0 NB0_350)) (zz15 HO_4) (by decide)) hk (fun _ h=>h.2)) (fun _ h=>h.1));replace HO341:=A_ (Kd.S_mono (Kd.S_keep (IsS68.apartS (show IsS68 w0 _ g s0_0 t342 from (zz42 HI0 NB0_350)) (zz40 HO341) (by decide)) hk (fun _ h=>h.2)) (fun _ h=>h.1));replace HO346:=A_ (Kd.R_mono (Kd.R_keep (IsS68.apart (show IsS68 w0 _ g s0_0 t342 from (zz42 HI0 NB0_350)) (zz15 HO346) (by decide)) hk (fun _ h=>h.2)) (fun _ h=>h.1));replace BK350:=A_ (KeepBut.blk hk (g':=gb350) (o:=.cells #[.string (⟨#[]⟩:ByteArray),.string (⟨#[]⟩:ByteArray),.string (⟨#[]⟩:ByteArray),.int .i64 0] 30 (0,0)) (zz2 BK350) NB350_0.out (by simp));replace HK:=A_ (KeepBut.trans (zz47 HK GW350) hk (.inl rfl));replace HB:=A_ (hb);replace HI0:=A_ (hi);(try clear hb)
          (try clear hb2)
          (try clear hk)
          (try clear hi)
          refine hK.out _ _ (HS0_) (fun hHeld=>?_);clear hK K;refine nZ 31 ?_;refine pureZ 12 (some 32) #[yT,yT,yT,yT,yT,yT,yT,yT,yT,yT,yT,yT,yT,yF,yF,yT,yF] ?_;exact norm_ zz117 (hJ7_8_9_11_15 (_,.slice (some adz_v345) y344.length co32,adz_v345,gb350) _ ⟨hHeld,(zz40 HO341),(zz15 HO346),(zz15 HO_3),(zz15 HO_4),⟨_,rfl⟩,(zz2 BK350),GW350.out,GE350.out,NB0_350.out,NB350_0.out,(zz42 HI0 NB0_350),(zz47 HK GW350),(zz43 HB HI0 GE350)⟩)
        ·skip
         rintro ⟨v340,v345,adz_v345⟩ w31 ⟨hS_,h0_,h1_,h2_,h3_,h4_,h5_,h6_,h7_⟩;have n0_:=A_ h0_;have n1_:=A_ h1_;have n2_:=A_ h2_;have n3_:=A_ h3_;have n4_:=A_ h4_;have n5_:=A_ h5_;have n6_:=A_ h6_;have n7_:=A_ h7_;(try dsimp only at n0_ n1_ n2_ n3_ n4_ n5_ n6_ n7_)
         clear HO_3;clear HO_4;clear HI0;clear HK;clear HB;clear h0_ h1_ h2_ h3_ h4_ h5_ h6_ h7_;have HO341:=n0_;have HO346:=n1_;have HO_3:=n2_;have HO_4:=n3_;have HA_HO346:=n4_;have HI0:=n5_;have HK:=n6_;have HB:=n7_;clear n0_ n1_ n2_ n3_ n4_ n5_ n6_ n7_;have hHeld:w31.cell? (ad338.add (x5_1).toNat)=some (.string (rdOf ByteArray.empty t333 x5_1)):=hS_;obtain ⟨co32,eo32⟩:=HA_HO346.out;clear HA_HO346;subst eo32;refine norm_ (a':=?_) ?_ ?_;rotate_left
         ·simp only [putAll,Act.put,List.setIfInBounds_toArray,List.set_cons_zero,List.set_cons_succ]
          rfl
         refine twoZ 13 15 (some 33) (some 6) #[yT,yT,yT,yT,yT,yT,yT,yT,yT,yT,yT,yT,yT,yT,yF,yF,yF] #[yT,yT,yT,yT,yT,yT,yT,yT,yT,yT,yT,yT,yT,yF,yF,yT,yF] (fun K hK=>?_) (fun K hK=>?_)
         ·skip
          (have p349:0≤(t347:Int):=ofD;have q349:t347 < (y344.length:Int):=ofD;obtain ⟨ad349,e349,hx349_0⟩:=Kd.at_int (Kd.R_reads' HO346.out).2.2 t347 p349 q349;obtain rfl:adz_v345=ad349:=(by injection e349))
          refine value_ (w1:=?_) (v:=?_) (by rfl) rfl ?_ ?_;rotate_left 2
          ·go_simp
           constructor
           ·rfl
           ·rfl
          clear hx349_0;refine hK.out _ _ (hHeld) (fun hHeld=>?_);clear hK K;refine nZ 33 ?_;refine pureZ 14 (some 34) #[yT,yT,yT,yT,yT,yT,yT,yT,yT,yT,yT,yT,yT,yT,yT,yF,yF] ?_;exact norm_ zz117 (hJ7_8_9_11_13 (_,.slice (some adz_v345) y344.length co32,adz_v345) _ ⟨hHeld,(zz40 HO341),(zz15 HO346),(zz15 HO_3),(zz15 HO_4),⟨_,rfl⟩,(zz27 HI0),(zz28 HK),(zz29 HB HI0)⟩)
         ·skip
          refine box_step ?hg (N:=6) ?hd (cs:=#[.string (⟨#[]⟩:ByteArray),.string (⟨#[]⟩:ByteArray),.string (⟨#[]⟩:ByteArray),.int .i64 0]) (t:=30) ?hr ?_;(case hd=>rfl);(case hg=>rfl);(case hr=>exact zz14);intro gb350 hg w33 hbox hb;have HS0_:=(hb.cell (World.block_lt_of_cell? _ _ (hHeld))).trans (hHeld);replace HO_3:=A_ (rB (Kd.R_elderB (zz15 HO_3) gb350 (Nat.le_of_eq hg.symm)) hb);replace HO_4:=A_ (rB (zz15 HO_4) hb);replace HO341:=A_ (Kd.S_below (zz40 HO341) hb);replace HO346:=A_ (rB (zz15 HO346) hb);replace HB:=A_ (bS (zz29 HB HI0) hb);have BK350:=A_ (hbox);have GW350:=A_ ((by rw [hg];exact (keep_size (w:=w) (g:=g) (row:=none) (zz28 HK)):w.heap.size≤gb350));have GE350:=A_ ((Nat.le_trans HW0.out (by rw [hg];exact (keep_size (w:=w) (g:=g) (row:=none) (zz28 HK)):w.heap.size≤gb350):w0.heap.size≤gb350));replace HK:=A_ (KeepBut.trans (zz28 HK) (KeepBut.of_below hb g none) (.inl rfl));have NB0_350:=A_ ((by rw [hg];exact Nat.ne_of_lt (IsS68.lt (show IsS68 w0 _ g s0_0 t348 from (zz27 HI0))):g≠gb350));have NB350_0:=A_ ((by rw [hg];exact Nat.ne_of_gt (IsS68.lt (show IsS68 w0 _ g s0_0 t348 from (zz27 HI0))):gb350≠g));replace HI0:=A_ (IsS68.below (zz27 HI0) hb);clear hb hbox hg;refine hK.out _ _ (HS0_) (fun hHeld=>?_);clear hK K;refine nZ 6 ?_;exact norm_ zz117 (hJ7_8_9_11_15 (_,.slice (some adz_v345) y344.length co32,adz_v345,gb350) _ ⟨hHeld,(zz40 HO341),(zz15 HO346),(zz92 HO_3),(zz15 HO_4),⟨_,rfl⟩,(zz2 BK350),GW350.out,GE350.out,NB0_350.out,NB350_0.out,(zz42 HI0 NB0_350),(zz47 HK GW350),(zz43 HB HI0 GE350)⟩)
       ·skip
        rintro ⟨v340,v345,adz_v345,gb350⟩ w32 ⟨hS_,h0_,h1_,h2_,h3_,h4_,h5_,h6_,h7_,h8_,h9_,h10_,h11_,h12_⟩;have n0_:=A_ h0_;have n1_:=A_ h1_;have n2_:=A_ h2_;have n3_:=A_ h3_;have n4_:=A_ h4_;have n5_:=A_ h5_;have n6_:=A_ h6_;have n7_:=A_ h7_;have n8_:=A_ h8_;have n9_:=A_ h9_;have n10_:=A_ h10_;have n11_:=A_ h11_;have n12_:=A_ h12_;(try dsimp only at n0_ n1_ n2_ n3_ n4_ n5_ n6_ n7_ n8_ n9_ n10_ n11_ n12_)
        clear HO_3;clear HO_4;clear HI0;clear HK;clear HB;clear h0_ h1_ h2_ h3_ h4_ h5_ h6_ h7_ h8_ h9_ h10_ h11_ h12_;have HO341:=n0_;have HO346:=n1_;have HO_3:=n2_;have HO_4:=n3_;have HA_HO346:=n4_;have BK350:=n5_;have GW350:=n6_;have GE350:=n7_;have NB0_350:=n8_;have NB350_0:=n9_;have HI0:=n10_;have HK:=n11_;have HB:=n12_;clear n0_ n1_ n2_ n3_ n4_ n5_ n6_ n7_ n8_ n9_ n10_ n11_ n12_;have hHeld:w32.cell? (ad338.add (x5_1).toNat)=some (.string (rdOf ByteArray.empty t333 x5_1)):=hS_;obtain ⟨co33,eo33⟩:=HA_HO346.out;clear HA_HO346;subst eo33;refine norm_ (a':=?_) ?_ ?_;rotate_left
        ·simp only [putAll,Act.put,List.setIfInBounds_toArray,List.set_cons_zero,List.set_cons_succ]
         rfl
        refine oneZ 13 (some 33) #[yT,yT,yT,yT,yT,yT,yT,yT,yT,yT,yT,yT,yT,yT,yF,yT,yF] (fun K hK=>?_);(have p349:0≤(t347:Int):=ofD;have q349:t347 < (y344.length:Int):=ofD;obtain ⟨ad349,e349,hx349_0⟩:=Kd.at_int (Kd.R_reads' HO346.out).2.2 t347 p349 q349;obtain rfl:adz_v345=ad349:=(by injection e349))
        refine value_ (w1:=?_) (v:=?_) (by rfl) rfl ?_ ?_;rotate_left 2
        ·go_simp
         constructor
         ·rfl
         ·rfl
        clear hx349_0;refine hK.out _ _ (hHeld) (fun hHeld=>?_);clear hK K;refine nZ 33 ?_;refine pureZ 14 (some 34) #[yT,yT,yT,yT,yT,yT,yT,yT,yT,yT,yT,yT,yT,yT,yT,yT,yF] ?_;exact norm_ zz117 (hJ7_8_9_11_13_15 (_,.slice (some adz_v345) y344.length co33,adz_v345,gb350) _ ⟨hHeld,(zz40 HO341),(zz15 HO346),(zz15 HO_3),(zz15 HO_4),⟨_,rfl⟩,(zz2 BK350),GW350.out,GE350.out,NB0_350.out,NB350_0.out,(zz42 HI0 NB0_350),(zz47 HK GW350),(zz43 HB HI0 GE350)⟩)
      ·skip
       rintro ⟨v340,v345,adz_v345⟩ w31 ⟨hS_,h0_,h1_,h2_,h3_,h4_,h5_,h6_,h7_⟩;have n0_:=A_ h0_;have n1_:=A_ h1_;have n2_:=A_ h2_;have n3_:=A_ h3_;have n4_:=A_ h4_;have n5_:=A_ h5_;have n6_:=A_ h6_;have n7_:=A_ h7_;(try dsimp only at n0_ n1_ n2_ n3_ n4_ n5_ n6_ n7_)
       clear HO_3;clear HO_4;clear HI0;clear HK;clear HB;clear h0_ h1_ h2_ h3_ h4_ h5_ h6_ h7_;have HO341:=n0_;have HO346:=n1_;have HO_3:=n2_;have HO_4:=n3_;have HA_HO346:=n4_;have HI0:=n5_;have HK:=n6_;have HB:=n7_;clear n0_ n1_ n2_ n3_ n4_ n5_ n6_ n7_;have hHeld:w31.cell? (ad338.add (x5_1).toNat)=some (.string (rdOf ByteArray.empty t333 x5_1)):=hS_;obtain ⟨co32,eo32⟩:=HA_HO346.out;clear HA_HO346;subst eo32;refine norm_ (a':=?_) ?_ ?_;rotate_left
       ·simp only [putAll,Act.put,List.setIfInBounds_toArray,List.set_cons_zero,List.set_cons_succ]
        rfl
       refine oneZ 15 (some 6) #[yT,yT,yT,yT,yT,yT,yT,yT,yT,yT,yT,yT,yT,yT,yT,yT,yF] (fun K hK=>?_);refine box_step ?hg (N:=6) ?hd (cs:=#[.string (⟨#[]⟩:ByteArray),.string (⟨#[]⟩:ByteArray),.string (⟨#[]⟩:ByteArray),.int .i64 0]) (t:=30) ?hr ?_;(case hd=>rfl);(case hg=>rfl);(case hr=>exact zz14);intro gb350 hg w33 hbox hb;have HS0_:=(hb.cell (World.block_lt_of_cell? _ _ (hHeld))).trans (hHeld);replace HO_3:=A_ (rB (Kd.R_elderB (zz15 HO_3) gb350 (Nat.le_of_eq hg.symm)) hb);replace HO_4:=A_ (rB (zz15 HO_4) hb);replace HO341:=A_ (Kd.S_below (zz40 HO341) hb);replace HO346:=A_ (rB (zz15 HO346) hb);replace HB:=A_ (bS (zz29 HB HI0) hb);have BK350:=A_ (hbox);have GW350:=A_ ((by rw [hg];exact (keep_size (w:=w) (g:=g) (row:=none) (zz28 HK)):w.heap.size≤gb350));have GE350:=A_ ((Nat.le_trans HW0.out (by rw [hg];exact (keep_size (w:=w) (g:=g) (row:=none) (zz28 HK)):w.heap.size≤gb350):w0.heap.size≤gb350));replace HK:=A_ (KeepBut.trans (zz28 HK) (KeepBut.of_below hb g none) (.inl rfl));have NB0_350:=A_ ((by rw [hg];exact Nat.ne_of_lt (IsS68.lt (show IsS68 w0 _ g s0_0 t348 from (zz27 HI0))):g≠gb350));have NB350_0:=A_ ((by rw [hg];exact Nat.ne_of_gt (IsS68.lt (show IsS68 w0 _ g s0_0 t348 from (zz27 HI0))):gb350≠g));replace HI0:=A_ (IsS68.below (zz27 HI0) hb);clear hb hbox hg;refine hK.out _ _ (HS0_) (fun hHeld=>?_);clear hK K;refine nZ 6 ?_;exact norm_ zz117 (hJ7_8_9_11_13_15 (_,.slice (some adz_v345) y344.length co32,adz_v345,gb350) _ ⟨hHeld,(zz40 HO341),(zz15 HO346),(zz92 HO_3),(zz15 HO_4),⟨_,rfl⟩,(zz2 BK350),GW350.out,GE350.out,NB0_350.out,NB350_0.out,(zz42 HI0 NB0_350),(zz47 HK GW350),(zz43 HB HI0 GE350)⟩)
     rintro ⟨v340,v345,adz_v345,gb350⟩ w32 ⟨hS_,h0_,h1_,h2_,h3_,h4_,h5_,h6_,h7_,h8_,h9_,h10_,h11_,h12_⟩;have n0_:=A_ h0_;have n1_:=A_ h1_;have n2_:=A_ h2_;have n3_:=A_ h3_;have n4_:=A_ h4_;have n5_:=A_ h5_;have n6_:=A_ h6_;have n7_:=A_ h7_;have n8_:=A_ h8_;have n9_:=A_ h9_;have n10_:=A_ h10_;have n11_:=A_ h11_;have n12_:=A_ h12_;(try dsimp only at n0_ n1_ n2_ n3_ n4_ n5_ n6_ n7_ n8_ n9_ n10_ n11_ n12_)
     clear HO_3;clear HO_4;clear HI0;clear HK;clear HB;clear h0_ h1_ h2_ h3_ h4_ h5_ h6_ h7_ h8_ h9_ h10_ h11_ h12_;have HO341:=n0_;have HO346:=n1_;have HO_3:=n2_;have HO_4:=n3_;have HA_HO346:=n4_;have BK350:=n5_;have GW350:=n6_;have GE350:=n7_;have NB0_350:=n8_;have NB350_0:=n9_;have HI0:=n10_;have HK:=n11_;have HB:=n12_;clear n0_ n1_ n2_ n3_ n4_ n5_ n6_ n7_ n8_ n9_ n10_ n11_ n12_;have hHeld:w32.cell? (ad338.add (x5_1).toNat)=some (.string (rdOf ByteArray.empty t333 x5_1)):=hS_;obtain ⟨co33,eo33⟩:=HA_HO346.out;clear HA_HO346;subst eo33;refine norm_ (a':=?_) ?_ ?_;rotate_left
     ·simp only [putAll,Act.put,List.setIfInBounds_toArray,List.set_cons_zero,List.set_cons_succ]
      rfl
     refine oneZ 16 (none) #[yT,yT,yT,yT,yT,yT,yT,yT,yT,yT,yT,yT,yT,yT,yT,yT,yT] (fun K hK=>?_);have hs34:w32.cell? ⟨gb350,0,none⟩=some (.string (⟨#[]⟩:ByteArray)):=(blk_cell BK350.out 0).trans rfl;have hfs34:=blk_frozen BK350.out 0;have hs35:w32.cell? ⟨gb350,1,none⟩=some (.string (⟨#[]⟩:ByteArray)):=(blk_cell BK350.out 1).trans rfl;have hfs35:=blk_frozen BK350.out 1;have hs36:w32.cell? ⟨gb350,2,none⟩=some (.string (⟨#[]⟩:ByteArray)):=(blk_cell BK350.out 2).trans rfl;have hfs36:=blk_frozen BK350.out 2;have hs37:w32.cell? ⟨gb350,3,none⟩=some (.int .i64 0):=(blk_cell BK350.out 3).trans rfl;have hfs37:=blk_frozen BK350.out 3;refine skip_ (w1:=?_) (by rfl) rfl ?_ ?_;rotate_left
     ·go_simp
      rfl
     refine hK.out _ _ (((cell_far (p:=⟨gb350,_,none⟩) (zz121 HO_4 BK350) _).trans (((cell_far (p:=⟨gb350,_,none⟩) (zz121 HO_4 BK350) _).trans (((cell_far (p:=⟨gb350,_,none⟩) (zz121 HO_4 BK350) _).trans (((cell_far (p:=⟨gb350,_,none⟩) (zz121 HO_4 BK350) _).trans (hHeld))))))))) (fun hHeld=>?_);clear hK K;refine done_ (done_of HT_.out (by kernel_rfl)) ?_;go_upto_if 37 with (first|(refine gR 22 (some 36) Tryz.func22 (spec_l6Rd_pick.calls k1 g s0_0 t348 12 t351 t352 w0 _ ?side1 ?side2 A20.out) ?_;(case side1=>exact (zz42 HI0 NB0_350));(case side2=>exact (zz43 HB HI0 GE350));rintro w38 ⟨hi,hb,hk⟩;replace HO_3:=A_ (Kd.R_mono (Kd.R_keep (IsS68.apart (show IsS68 w0 _ g s0_0 t348 from (zz42 HI0 NB0_350)) (by (with_reducible repeat (first|apply Kd.R_alloc|apply Kd.R_drewN|apply Kd.R_drew));exact (Kd.R_mono (Kd.R_far (p:=⟨gb350,3,none⟩) (Kd.R_far (p:=⟨gb350,2,none⟩) (Kd.R_far (p:=⟨gb350,1,none⟩) (Kd.R_far (p:=⟨gb350,0,none⟩) (Kd.R_mono HO_3.out (fun k_ hk=>(⟨hk,hk⟩:_∧k_≠gb350))) (fun _ hk=>hk.2) (.string (((⟨#[47,47]⟩:ByteArray)++(rdOf ByteArray.empty t333 x5_1))++(⟨#[47,110,111,116,105,99,101]⟩:ByteArray)))) (fun _ hk=>hk.2) (.string t343)) (fun _ hk=>hk.2) (.string (⟨#[]⟩:ByteArray))) (fun _ hk=>hk.2) (.int .i64 (rd y344 t347))) (fun _ h_=>h_.1))) (by decide)) hk (fun _ h=>h.2)) (fun _ h=>h.1));replace HO_4:=A_ (Kd.R_mono (Kd.R_keep (IsS68.apart (show IsS68 w0 _ g s0_0 t348 from (zz42 HI0 NB0_350)) (zz123 HO_4 BK350) (by decide)) hk (fun _ h=>h.2)) (fun _ h=>h.1));replace HO341:=A_ (Kd.S_mono (Kd.S_keep (IsS68.apartS (show IsS68 w0 _ g s0_0 t348 from (zz42 HI0 NB0_350)) (by (with_reducible repeat (first|apply Kd.S_alloc|apply Kd.S_drewN|apply Kd.S_drew));exact (Kd.S_mono (Kd.S_far (p:=⟨gb350,3,none⟩) (Kd.S_far (p:=⟨gb350,2,none⟩) (Kd.S_far (p:=⟨gb350,1,none⟩) (Kd.S_far (p:=⟨gb350,0,none⟩) (Kd.S_types HO341.out BK350.out (by decide)) (fun _ hk=>hk.2) (.string (((⟨#[47,47]⟩:ByteArray)++(rdOf ByteArray.empty t333 x5_1))++(⟨#[47,110,111,116,105,99,101]⟩:ByteArray)))) (fun _ hk=>hk.2) (.string t343)) (fun _ hk=>hk.2) (.string (⟨#[]⟩:ByteArray))) (fun _ hk=>hk.2) (.int .i64 (rd y344 t347))) (fun _ h_=>h_.1))) (by decide)) hk (fun _ h=>h.2)) (fun _ h=>h.1));replace HO346:=A_ (Kd.R_mono (Kd.R_keep (IsS68.apart (show IsS68 w0 _ g s0_0 t348 from (zz42 HI0 NB0_350)) (zz123 HO346 BK350) (by decide)) hk (fun _ h=>h.2)) (fun _ h=>h.1));replace BK350:=A_ (KeepBut.blk hk (g':=gb350) (o:=.cells #[.string (((⟨#[47,47]⟩:ByteArray)++(rdOf ByteArray.empty t333 x5_1))++(⟨#[47,110,111,116,105,99,101]⟩:ByteArray)),.string t343,.string (⟨#[]⟩:ByteArray),.int .i64 (rd y344 t347)] 30 (0,0)) (zz37 BK350) NB350_0.out (by simp));replace HK:=A_ (KeepBut.trans (zz47 HK GW350) hk (.inl rfl));replace HB:=A_ (hb);replace HI0:=A_ (hi);(try clear hb hk hi)))
     obtain ⟨H⟩:=HF21;replace H:=iteEq H;rcases H with ⟨c39b0,c39b1,H⟩|⟨c39b0,c39b1,c39,H⟩
     ·(first|rw [c39b0]|(simp only [i64_w,i32_w];rw [c39b0])|skip)
      replace H:=bindA H;obtain ⟨⟨t353,t354⟩,A40,H⟩:=H;try dsimp only at H
      have HF41:=A_ H;clear H;have hnb42:=NB350_0.out;have hnc42:=NB0_350.out;obtain ⟨_,_,_,_,_,_,_,_⟩:=cf4 BK350;go_upto_if 45 with (first|(refine gR 43 (some 40) Tryz.func43 (spec_l71Addr.calls k1 g s0_0 t352 t353 t354 w0 _ ?side1 ?side2 A40.out) ?_;(case side1=>exact (zz42 HI0 NB0_350));(case side2=>exact (zz43 HB HI0 GE350));rintro w44 ⟨hi,hb,hk⟩;replace HO_3:=A_ (Kd.R_mono (Kd.R_keep (IsS68.apart (show IsS68 w0 _ g s0_0 t352 from (zz42 HI0 NB0_350)) (by (with_reducible repeat (first|apply Kd.R_alloc|apply Kd.R_drewN|apply Kd.R_drew));exact (Kd.R_mono (Kd.R_far (p:=⟨gb350,1,none⟩) (Kd.R_mono HO_3.out (fun k_ hk=>(⟨hk,hk⟩:_∧k_≠gb350))) (fun _ hk=>hk.2) (.string (⟨#[]⟩:ByteArray))) (fun _ h_=>h_.1))) (by decide)) hk (fun _ h=>h.2)) (fun _ h=>h.1));replace HO_4:=A_ (Kd.R_mono (Kd.R_keep (IsS68.apart (show IsS68 w0 _ g s0_0 t352 from (zz42 HI0 NB0_350)) (zz126 HO_4 BK350) (by decide)) hk (fun _ h=>h.2)) (fun _ h=>h.1));replace HO341:=A_ (Kd.S_mono (Kd.S_keep (IsS68.apartS (show IsS68 w0 _ g s0_0 t352 from (zz42 HI0 NB0_350)) (by (with_reducible repeat (first|apply Kd.S_alloc|apply Kd.S_drewN|apply Kd.S_drew));exact (Kd.S_mono (Kd.S_far (p:=⟨gb350,1,none⟩) (Kd.S_types HO341.out BK350.out (by decide)) (fun _ hk=>hk.2) (.string (⟨#[]⟩:ByteArray))) (fun _ h_=>h_.1))) (by decide)) hk (fun _ h=>h.2)) (fun _ h=>h.1));replace HO346:=A_ (Kd.R_mono (Kd.R_keep (IsS68.apart (show IsS68 w0 _ g s0_0 t352 from (zz42 HI0 NB0_350)) (zz126 HO346 BK350) (by decide)) hk (fun _ h=>h.2)) (fun _ h=>h.1));replace BK350:=A_ (KeepBut.blk hk (g':=gb350) (o:=.cells #[.string (((⟨#[47,47]⟩:ByteArray)++(rdOf ByteArray.empty t333 x5_1))++(⟨#[47,110,111,116,105,99,101]⟩:ByteArray)),.string (⟨#[]⟩:ByteArray),.string (⟨#[]⟩:ByteArray),.int .i64 (rd y344 t347)] 30 (0,0)) (zz107 BK350) NB350_0.out (by simp));replace HK:=A_ (KeepBut.trans (zz47 HK GW350) hk (.inl rfl));replace HB:=A_ (hb);replace HI0:=A_ (hi);(try clear hb hk hi);obtain ⟨_,_,_,_,_,_,_,_⟩:=cf4 BK350)|((with_reducible refine gate_store (t:=9) (p:=41) rfl ?_);refine store_event (t:=9) (p:=41) (v:=?vo_w46) (w1:=(w44.setCell ⟨gb350,2,none⟩ (.string t353))) ?hg ?ho ?hn ?hr ?_;(case ho=>rfl);(case hg=>rfl);(case hn=>rfl);(case hr=>exact zz14);intro w46 hw;have n0_:Aside0 (Kd.R k30 30 w46 w.heap.size (fun k_=>k_≠gb350) u3 x3_1):=⟨(by rw [hw];exact (by (with_reducible repeat (first|apply Kd.R_alloc|apply Kd.R_drewN|apply Kd.R_drew));exact Kd.R_mono (Kd.R_far (p:=⟨gb350,2,none⟩) (Kd.R_mono HO_3.out (fun k_ hk=>(⟨hk,hk⟩:_∧k_≠gb350))) (fun _ hk=>hk.2) (.string t353)) (fun _ hk=>hk.1)))⟩;have n1_:Aside0 (Kd.R Kd.string 9 w46 w.heap.size (fun _=>True) (.slice (some ad338) t333.length co23) t333):=⟨(by rw [hw];exact (zz52 (rt HO_4 BK350)))⟩;have n2_:Aside0 (Kd.S k106 106 w46 w.heap.size (fun k_=>some k_≠(.slice (some ad338) t333.length co23:Value).ownBlock) v340 t339):=⟨(by rw [hw];exact (by (with_reducible repeat (first|apply Kd.S_alloc|apply Kd.S_drewN|apply Kd.S_drew));exact Kd.S_mono (Kd.S_far (p:=⟨gb350,2,none⟩) (Kd.S_types HO341.out BK350.out (by decide)) (fun _ hk=>hk.2) (.string t353)) (fun _ hk=>hk.1)))⟩;have n3_:Aside0 (Kd.R (Kd.int .i64) 3 w46 w.heap.size (fun _=>True) (.slice (some adz_v345) y344.length co33) y344):=⟨(by rw [hw];exact (zz52 (rt HO346 BK350)))⟩;have n4_:Aside0 (w46.heap[gb350]?=some (.cells #[.string (((⟨#[47,47]⟩:ByteArray)++(rdOf ByteArray.empty t333 x5_1))++(⟨#[47,110,111,116,105,99,101]⟩:ByteArray)),.string (⟨#[]⟩:ByteArray),.string t353,.int .i64 (rd y344 t347)] 30 (0,0))):=⟨(by rw [hw];exact (zz109 BK350))⟩;have n5_:Aside0 (IsS68 w0 w46 g s0_0 t354):=⟨(by rw [hw];exact (zz42 HI0 NB0_350))⟩;have n6_:Aside0 (KeepBut w w46 g none):=⟨(by rw [hw];exact (zz47 HK GW350))⟩;have n7_:Aside0 (Below w0.heap.size w0 w46):=⟨(by rw [hw];exact (zz43 HB HI0 GE350))⟩;clear hw;clear HO_3;clear HO_4;clear HO341;clear HO346;clear BK350;clear HI0;clear HK;clear HB;have HO_3:=n0_;have HO_4:=n1_;have HO341:=n2_;have HO346:=n3_;have BK350:=n4_;have HI0:=n5_;have HK:=n6_;have HB:=n7_;clear n0_ n1_ n2_ n3_ n4_ n5_ n6_ n7_;obtain ⟨_,_,_,_,_,_,_,_⟩:=cf4 BK350))
      obtain ⟨H⟩:=HF41;replace H:=iteE H;rcases H with ⟨c48,H⟩|⟨c48,H⟩
      ·have c48b0:=dT c48
       clear c48;(first|rw [c48b0]|(simp only [i64_w,i32_w];rw [c48b0])|skip)
       replace H:=iteN H;obtain ⟨c49,H⟩:=H;have LMc49:=A_ c49;clear c49;obtain ⟨y355,Ny355⟩:=toY (x3_1++[(⟨((⟨#[47,47]⟩:ByteArray)++(rdOf ByteArray.empty t333 x5_1))++(⟨#[47,110,111,116,105,99,101]⟩:ByteArray),(⟨#[]⟩:ByteArray),t353,rd y344 t347⟩:S30)]);(first|with_reducible replace H:=bindZ Ny355 H|rw [← Ny355.out] at H|skip)
       have H':=A_ H;clear H;have hnb50:=NB350_0.out;have hnc50:=NB0_350.out;obtain ⟨_,_,_,_,_,_,_,_⟩:=cf4 BK350;go_wp2_with (first|((with_reducible refine gate_builtin (b:=.append) (xs:=#[.tmp 46,.tmp 48]) rfl ?_);(try (refine gate_guard (by rfl) ?_;dsimp only));at_builtin;refine Kd.R_append k30 w.heap.size rfl (.tmp 46) (.tmp 48) 23 30 (.agg #[(.string ⟨#[]⟩),(.string ⟨#[]⟩),(.string ⟨#[]⟩),(.int .i64 0)]) 56 rfl Tryz.underlying23 info30 rfl (by decide) (by omega) u3 x3_1 (⟨((⟨#[47,47]⟩:ByteArray)++(rdOf ByteArray.empty t333 x5_1))++(⟨#[47,110,111,116,105,99,101]⟩:ByteArray),(⟨#[]⟩:ByteArray),t353,rd y344 t347⟩:S30) [.string (((⟨#[47,47]⟩:ByteArray)++(rdOf ByteArray.empty t333 x5_1))++(⟨#[47,110,111,116,105,99,101]⟩:ByteArray)),.string (⟨#[]⟩:ByteArray),.string t353,.int .i64 (rd y344 t347)] (fun k_=>k_≠gb350) (fun _=>False) rfl rfl ?aP (fun _ hk=>hk.elim) ?aF ?aO (Below.refl _ _) ?aS ?aL ?_;(case aP=>exact k30_mkM _ _ _ (⟨((⟨#[47,47]⟩:ByteArray)++(rdOf ByteArray.empty t333 x5_1))++(⟨#[47,110,111,116,105,99,101]⟩:ByteArray),(⟨#[]⟩:ByteArray),t353,rd y344 t347⟩:S30));(case aF=>exact (fun k_ hk=>Kd.freshB (zz2 BK350) k_ hk));(case aO=>exact (zz15 HO_3));(case aS=>exact (keep_size (w:=w) (g:=g) (row:=none) (zz47 HK GW350)));(case aL=>exact (zz5 LMc49));intro v356 w52 ho hb hg hat;rw [← Ny355.out] at ho;replace HO_4:=A_ (Kd.R_over' (zz15 HO_4) (Kd.R_typed (zz15 HO_3)) (by decide) hg);replace HO341:=A_ (Kd.S_over' (zz40 HO341) (Kd.R_typed (zz15 HO_3)) (by decide) hg);replace HO346:=A_ (Kd.R_over' (zz15 HO346) (Kd.R_typed (zz15 HO_3)) (by decide) hg);replace BK350:=A_ (blk_grown (zz2 BK350) hg (Kd.R_away HO_3.out (fun _ hk=>hk)));replace HB:=A_ (below_weaken (zz43 HB HI0 GE350) HL.out hb);replace HI0:=A_ (IsS68.grown (zz42 HI0 NB0_350) hg (IsS68.own_ne HI0.out HO_3.out (by decide)));replace HK:=A_ (KeepBut.trans (zz47 HK GW350) (KeepBut.of_grown hg g) (Kd.R_base2 HO_3.out));have HO357:=A_ (ho);clear HO_3;clear ho hb hg hat))
       go_roundg k1
       case measure=>have:=HK1.out;omega
       case rel=>exact ⟨(y355),(wrap64 (x5_1+1)),(t354),zz1,H',⟨(zz5 HK1)⟩,⟨(zz95 HO357)⟩,⟨(zz15 HO_4)⟩,⟨(zz42 HI0 NB0_350)⟩,⟨(zz47 HK GW350)⟩,⟨(zz43 HB HI0 GE350)⟩⟩
      ·exact absurd (show 0≤300 from by decide) c48
     ·(first|rw [c39b0]|(simp only [i64_w,i32_w];rw [c39b0])|skip)
      replace H:=iteE H;rcases H with ⟨c53,H⟩|⟨c53,H⟩
      ·have c53b0:=dT c53
       have c53b1:decide (t343.size≤300)=true:=dT (by omega);clear c53;replace H:=iteN H;obtain ⟨c54,H⟩:=H;have LMc54:=A_ c54;clear c54;obtain ⟨y358,Ny358⟩:=toY (x3_1++[(⟨((⟨#[47,47]⟩:ByteArray)++(rdOf ByteArray.empty t333 x5_1))++(⟨#[47,110,111,116,105,99,101]⟩:ByteArray),t343,(⟨#[]⟩:ByteArray),rd y344 t347⟩:S30)]);(first|with_reducible replace H:=bindZ Ny358 H|rw [← Ny358.out] at H|skip)
       have H':=A_ H;clear H;have hnb55:=NB350_0.out;have hnc55:=NB0_350.out;obtain ⟨_,_,_,_,_,_,_,_⟩:=cf4 BK350;go_wp2_with (first|((with_reducible refine gate_builtin (b:=.append) (xs:=#[.tmp 46,.tmp 48]) rfl ?_);(try (refine gate_guard (by rfl) ?_;dsimp only));at_builtin;refine Kd.R_append k30 w.heap.size rfl (.tmp 46) (.tmp 48) 23 30 (.agg #[(.string ⟨#[]⟩),(.string ⟨#[]⟩),(.string ⟨#[]⟩),(.int .i64 0)]) 56 rfl Tryz.underlying23 info30 rfl (by decide) (by omega) u3 x3_1 (⟨((⟨#[47,47]⟩:ByteArray)++(rdOf ByteArray.empty t333 x5_1))++(⟨#[47,110,111,116,105,99,101]⟩:ByteArray),t343,(⟨#[]⟩:ByteArray),rd y344 t347⟩:S30) [.string (((⟨#[47,47]⟩:ByteArray)++(rdOf ByteArray.empty t333 x5_1))++(⟨#[47,110,111,116,105,99,101]⟩:ByteArray)),.string t343,.string (⟨#[]⟩:ByteArray),.int .i64 (rd y344 t347)] (fun k_=>k_≠gb350) (fun _=>False) rfl rfl ?aP (fun _ hk=>hk.elim) ?aF ?aO (Below.refl _ _) ?aS ?aL ?_;(case aP=>exact k30_mkM _ _ _ (⟨((⟨#[47,47]⟩:ByteArray)++(rdOf ByteArray.empty t333 x5_1))++(⟨#[47,110,111,116,105,99,101]⟩:ByteArray),t343,(⟨#[]⟩:ByteArray),rd y344 t347⟩:S30));(case aF=>exact (fun k_ hk=>Kd.freshB (zz2 BK350) k_ hk));(case aO=>exact (zz15 HO_3));(case aS=>exact (keep_size (w:=w) (g:=g) (row:=none) (zz47 HK GW350)));(case aL=>exact (zz5 LMc54));intro v359 w57 ho hb hg hat;rw [← Ny358.out] at ho;replace HO_4:=A_ (Kd.R_over' (zz15 HO_4) (Kd.R_typed (zz15 HO_3)) (by decide) hg);replace HO341:=A_ (Kd.S_over' (zz40 HO341) (Kd.R_typed (zz15 HO_3)) (by decide) hg);replace HO346:=A_ (Kd.R_over' (zz15 HO346) (Kd.R_typed (zz15 HO_3)) (by decide) hg);replace BK350:=A_ (blk_grown (zz2 BK350) hg (Kd.R_away HO_3.out (fun _ hk=>hk)));replace HB:=A_ (below_weaken (zz43 HB HI0 GE350) HL.out hb);replace HI0:=A_ (IsS68.grown (zz42 HI0 NB0_350) hg (IsS68.own_ne HI0.out HO_3.out (by decide)));replace HK:=A_ (KeepBut.trans (zz47 HK GW350) (KeepBut.of_grown hg g) (Kd.R_base2 HO_3.out));have HO360:=A_ (ho);clear HO_3;clear ho hb hg hat))
       go_roundg k1
       case measure=>have:=HK1.out;omega
       case rel=>exact ⟨(y358),(wrap64 (x5_1+1)),(t352),zz1,H',⟨(zz5 HK1)⟩,⟨(zz95 HO360)⟩,⟨(zz15 HO_4)⟩,⟨(zz42 HI0 NB0_350)⟩,⟨(zz47 HK GW350)⟩,⟨(zz43 HB HI0 GE350)⟩⟩
      ·have c53b0:=dF c53
       have c53b1:decide (t343.size≤300)=false:=dF (by omega);clear c53;have H':=A_ H;clear H;have hnb58:=NB350_0.out;have hnc58:=NB0_350.out;obtain ⟨_,_,_,_,_,_,_,_⟩:=cf4 BK350;go_wp2
       go_roundg k1
       case measure=>have:=HK1.out;omega
       case rel=>exact ⟨(x3_1),(wrap64 (x5_1+1)),(t352),zz1,H',⟨(zz5 HK1)⟩,⟨(zz95 HO_3)⟩,⟨(zz15 HO_4)⟩,⟨(zz42 HI0 NB0_350)⟩,⟨(zz47 HK GW350)⟩,⟨(zz43 HB HI0 GE350)⟩⟩
    ·(first|rw [c10b0]|(simp only [i64_w,i32_w];rw [c10b0])|skip)
     have H':=A_ H;clear H;go_wp2
     go_roundg k1
     case measure=>have:=HK1.out;omega
     case rel=>exact ⟨(x3_1),(wrap64 (x5_1+1)),(t337),zz1,H',⟨(zz5 HK1)⟩,⟨(zz15 HO_3)⟩,⟨(zz15 HO_4)⟩,⟨(zz27 HI0)⟩,⟨(zz28 HK)⟩,⟨(zz29 HB HI0)⟩⟩
   ·replace H:=bindA H
    obtain ⟨⟨t361,t362⟩,A60,H⟩:=H;try dsimp only at H
    have H':=A_ H;clear H;go_wp2_with (first|(refine gR 22 (some 51) Tryz.func22 (spec_l6Rd_pick.calls k1 g s0_0 x1001_1 7 t361 t362 w0 _ ?side1 ?side2 A60.out) ?_;(case side1=>exact (zz27 HI0));(case side2=>exact (zz29 HB HI0));rintro w61 ⟨hi,hb,hk⟩;replace HO_3:=A_ (Kd.R_mono (Kd.R_keep (IsS68.apart (show IsS68 w0 _ g s0_0 x1001_1 from (zz27 HI0)) (zz15 HO_3) (by decide)) hk (fun _ h=>h.2)) (fun _ h=>h.1));replace HO_4:=A_ (Kd.R_mono (Kd.R_keep (IsS68.apart (show IsS68 w0 _ g s0_0 x1001_1 from (zz27 HI0)) (zz15 HO_4) (by decide)) hk (fun _ h=>h.2)) (fun _ h=>h.1));replace HK:=A_ (KeepBut.trans (zz28 HK) hk (.inl rfl));replace HB:=A_ (hb);replace HI0:=A_ (hi);(try clear hb hk hi)))
    go_loopg [3,7] k1 (fun kq v3 v7 w'=>∃ (x3_2:List (S30)) (x7_2:Int) (x1001_2:Int),v7=.int .i64 x7_2∧Aside0 (spec_l71World.l1 kq x3_2 x7_2 s0_0 x1001_2=some (r1,r2))∧Aside0 (kq≤k1)∧Aside0 (Kd.R k30 30 w' w.heap.size (fun _=>True) v3 x3_2)∧Aside0 (IsS68 w0 w' g s0_0 x1001_2)∧Aside0 (KeepBut w w' g none)∧Aside0 (Below w0.heap.size w0 w'))
    case atStart=>exact ⟨(x3_1),(wrap64 (2+t361)),(t362),zz1,H',⟨Nat.le_refl _⟩,⟨(zz15 HO_3)⟩,⟨(zz27 HI0)⟩,⟨(zz28 HK)⟩,⟨(zz29 HB HI0)⟩⟩
    case round=>
     clear H';obtain ⟨x3_2,x7_2,x1001_2,rfl,HA,HK2,HO_3,HI0,HK,HB⟩:=hrel;cases gk with
     | zero=>exact absurd HA.out (by simp [spec_l71World.l1])
     | succ k2=>
      obtain ⟨H⟩:=HA;simp only [spec_l71World.l1] at H
      replace H:=iteEg H;rcases H with ⟨c62b0,H⟩|⟨c62b0,H⟩
      ·replace H:=bindA H
       obtain ⟨⟨t363,t364⟩,A63,H⟩:=H;try dsimp only at H
       replace H:=bindA H;obtain ⟨⟨t365,t366⟩,A64,H⟩:=H;try dsimp only at H
       obtain ⟨y367,Ny367,H⟩:=bindY H;replace H:=bindA H;obtain ⟨⟨t370,t371⟩,A65,H⟩:=H;try dsimp only at H
       replace H:=iteNd H;obtain ⟨c66b0,H⟩:=H;replace H:=iteNd H;obtain ⟨c67b0,H⟩:=H;replace H:=bindA H;obtain ⟨⟨t374,t375⟩,A68,H⟩:=H;try dsimp only at H
       have HF69:=A_ H;clear H;go_upto_if 69 with (first|(refine gR 43 (some 58) Tryz.func43 (spec_l71Addr.calls k2 g s0_0 x1001_2 t363 t364 w0 _ ?side1 ?side2 A63.out) ?_;(case side1=>exact (zz27 HI0));(case side2=>exact (zz29 HB HI0));rintro w70 ⟨hi,hb,hk⟩;replace HO_3:=A_ (Kd.R_mono (Kd.R_keep (IsS68.apart (show IsS68 w0 _ g s0_0 x1001_2 from (zz27 HI0)) (zz15 HO_3) (by decide)) hk (fun _ h=>h.2)) (fun _ h=>h.1));replace HK:=A_ (KeepBut.trans (zz28 HK) hk (.inl rfl));replace HB:=A_ (hb);replace HI0:=A_ (hi);(try clear hb hk hi))|(refine gR 68 (some 60) Tryz.func68 (spec_l71Page.calls k2 g s0_0 t364 t365 t366 w0 _ ?side1 ?side2 A64.out) ?_;(case side1=>exact (zz27 HI0));(case side2=>exact (zz29 HB HI0));rintro w71 ⟨hi,hb,hk⟩;replace HO_3:=A_ (Kd.R_mono (Kd.R_keep (IsS68.apart (show IsS68 w0 _ g s0_0 t364 from (zz27 HI0)) (zz15 HO_3) (by decide)) hk (fun _ h=>h.2)) (fun _ h=>h.1));replace HK:=A_ (KeepBut.trans (zz28 HK) hk (.inl rfl));replace HB:=A_ (hb);replace HI0:=A_ (hi);(try clear hb hk hi))|((with_reducible refine gD (N:=61) rfl ?_);(try (refine gate_guard (by rfl) ?_;dsimp only));refine Kd.R_lit (Kd.int .i64) _ 3 ?hg (N:=61) ?hd (xs:=([0,0,0,0,1,2,4]:List Int)) (inner:=[.int .i64 0,.int .i64 0,.int .i64 0,.int .i64 0,.int .i64 1,.int .i64 2,.int .i64 4]) (ok:=fun _=>True) (okp:=fun _=>True) ?hr ?hp (fun _ hk=>hk) trivial (Below.refl _ _) (Nat.le_refl _) (by simp) ?_;(case hd=>rfl);(case hg=>rfl);(case hr=>exact zz14);(case hp=>exact rpI);intro v368 w72 ho73 hb hg_ hnew_;clear hg_ hnew_;(first|rw [← Ny367.out] at ho73|(simp only [Int.reduceToNat] at ho73;rw [← Ny367.out] at ho73));replace HO_3:=A_ (rB (zz15 HO_3) hb);have HO369:=A_ (Kd.R_lower ho73 (keep_size (w:=w) (g:=g) (row:=none) (zz28 HK)));replace HK:=A_ (KeepBut.trans (zz28 HK) (KeepBut.of_below hb g none) (.inl rfl));replace HB:=A_ (bS (zz29 HB HI0) hb);replace HI0:=A_ (IsS68.below (zz27 HI0) hb);clear hb ho73)|(refine gR 22 (some 63) Tryz.func22 (spec_l6Rd_pick.calls k2 g s0_0 t366 7 t370 t371 w0 _ ?side1 ?side2 A65.out) ?_;(case side1=>exact (zz27 HI0));(case side2=>exact (zz29 HB HI0));rintro w74 ⟨hi,hb,hk⟩;replace HO_3:=A_ (Kd.R_mono (Kd.R_keep (IsS68.apart (show IsS68 w0 _ g s0_0 t366 from (zz27 HI0)) (zz15 HO_3) (by decide)) hk (fun _ h=>h.2)) (fun _ h=>h.1));replace HO369:=A_ (Kd.R_mono (Kd.R_keep (IsS68.apart (show IsS68 w0 _ g s0_0 t366 from (zz27 HI0)) (zz15 HO369) (by decide)) hk (fun _ h=>h.2)) (fun _ h=>h.1));replace HK:=A_ (KeepBut.trans (zz28 HK) hk (.inl rfl));replace HB:=A_ (hb);replace HI0:=A_ (hi);(try clear hb hk hi);obtain ⟨Ao75,co75,eo75⟩:=Kd.R_slice HO369.out;subst eo75;have p372:0≤(t370:Int):=ofD;have q372:t370 < (y367.length:Int):=ofD;obtain ⟨ad372,e372,hx372_0⟩:=Kd.at_int (Kd.R_reads' HO369.out).2.2 t370 p372 q372;cases e372;replace p372:=eq_true p372;replace q372:=eq_true q372)|((with_reducible refine gD (N:=8) rfl ?_);(try (refine gate_guard (by rfl) ?_;dsimp only));refine boxE 8 #[.string (⟨#[]⟩:ByteArray),.string (⟨#[]⟩:ByteArray),.string (⟨#[]⟩:ByteArray),.int .i64 0] 30 ?_;intro gb373 hg w76 hbox hb;replace HO_3:=A_ (rB (Kd.R_elderB (zz15 HO_3) gb373 (Nat.le_of_eq hg.symm)) hb);replace HO369:=A_ (rB (zz15 HO369) hb);replace HB:=A_ (bS (zz29 HB HI0) hb);have BK373:=A_ (hbox);have GW373:=A_ ((by rw [hg];exact (keep_size (w:=w) (g:=g) (row:=none) (zz28 HK)):w.heap.size≤gb373));have GE373:=A_ ((Nat.le_trans HW0.out (by rw [hg];exact (keep_size (w:=w) (g:=g) (row:=none) (zz28 HK)):w.heap.size≤gb373):w0.heap.size≤gb373));replace HK:=A_ (KeepBut.trans (zz28 HK) (KeepBut.of_below hb g none) (.inl rfl));have NB0_373:=A_ ((by rw [hg];exact Nat.ne_of_lt (IsS68.lt (show IsS68 w0 _ g s0_0 t371 from (zz27 HI0))):g≠gb373));have NB373_0:=A_ ((by rw [hg];exact Nat.ne_of_gt (IsS68.lt (show IsS68 w0 _ g s0_0 t371 from (zz27 HI0))):gb373≠g));replace HI0:=A_ (IsS68.below (zz27 HI0) hb);clear hb hbox hg;have hnb77:=NB373_0.out;have hnc77:=NB0_373.out;obtain ⟨_,_,_,_,_,_,_,_⟩:=cf4 BK373)|(refine gR 22 (some 68) Tryz.func22 (spec_l6Rd_pick.calls k2 g s0_0 t371 8 t374 t375 w0 _ ?side1 ?side2 A68.out) ?_;(case side1=>exact (zz42 HI0 NB0_373));(case side2=>exact (zz43 HB HI0 GE373));rintro w79 ⟨hi,hb,hk⟩;replace HO_3:=A_ (Kd.R_mono (Kd.R_keep (IsS68.apart (show IsS68 w0 _ g s0_0 t371 from (zz42 HI0 NB0_373)) (by (with_reducible repeat (first|apply Kd.R_alloc|apply Kd.R_drewN|apply Kd.R_drew));exact (Kd.R_mono (Kd.R_far (p:=⟨gb373,3,none⟩) (Kd.R_far (p:=⟨gb373,2,none⟩) (Kd.R_far (p:=⟨gb373,1,none⟩) (Kd.R_far (p:=⟨gb373,0,none⟩) (Kd.R_mono HO_3.out (fun k_ hk=>(⟨hk,hk.2⟩:_∧k_≠gb373))) (fun _ hk=>hk.2) (.string t363)) (fun _ hk=>hk.2) (.string t365)) (fun _ hk=>hk.2) (.string (⟨#[]⟩:ByteArray))) (fun _ hk=>hk.2) (.int .i64 (rd y367 t370))) (fun _ h_=>h_.1))) (by decide)) hk (fun _ h=>h.2)) (fun _ h=>h.1));replace HO369:=A_ (Kd.R_mono (Kd.R_keep (IsS68.apart (show IsS68 w0 _ g s0_0 t371 from (zz42 HI0 NB0_373)) (by (with_reducible repeat (first|apply Kd.R_alloc|apply Kd.R_drewN|apply Kd.R_drew));exact (Kd.R_mono (Kd.R_far (p:=⟨gb373,3,none⟩) (Kd.R_far (p:=⟨gb373,2,none⟩) (Kd.R_far (p:=⟨gb373,1,none⟩) (Kd.R_far (p:=⟨gb373,0,none⟩) (Kd.R_types HO369.out BK373.out (by decide)) (fun _ hk=>hk.2) (.string t363)) (fun _ hk=>hk.2) (.string t365)) (fun _ hk=>hk.2) (.string (⟨#[]⟩:ByteArray))) (fun _ hk=>hk.2) (.int .i64 (rd y367 t370))) (fun _ h_=>h_.1))) (by decide)) hk (fun _ h=>h.2)) (fun _ h=>h.1));replace BK373:=A_ (KeepBut.blk hk (g':=gb373) (o:=.cells #[.string t363,.string t365,.string (⟨#[]⟩:ByteArray),.int .i64 (rd y367 t370)] 30 (0,0)) (zz37 BK373) NB373_0.out (by simp));replace HK:=A_ (KeepBut.trans (zz47 HK GW373) hk (.inl rfl));replace HB:=A_ (hb);replace HI0:=A_ (hi);(try clear hb hk hi)))
       obtain ⟨H⟩:=HF69;replace H:=iteEq H;rcases H with ⟨c80b0,c80b1,H⟩|⟨c80b0,c80b1,c80,H⟩
       ·(first|rw [c80b0]|(simp only [i64_w,i32_w];rw [c80b0])|skip)
        replace H:=bindA H;obtain ⟨⟨t376,t377⟩,A81,H⟩:=H;try dsimp only at H
        replace H:=bindA H;obtain ⟨⟨t378,t379,t380,t381,t382⟩,A82,H⟩:=H;try dsimp only at H
        have HF83:=A_ H;clear H;have hnb84:=NB373_0.out;have hnc84:=NB0_373.out;obtain ⟨_,_,_,_,_,_,_,_⟩:=cf4 BK373;go_wp2_with (first|(refine gR 43 (some 72) Tryz.func43 (spec_l71Addr.calls k2 g s0_0 t375 t376 t377 w0 _ ?side1 ?side2 A81.out) ?_;(case side1=>exact (zz42 HI0 NB0_373));(case side2=>exact (zz43 HB HI0 GE373));rintro w86 ⟨hi,hb,hk⟩;replace HO_3:=A_ (Kd.R_mono (Kd.R_keep (IsS68.apart (show IsS68 w0 _ g s0_0 t375 from (zz42 HI0 NB0_373)) (by (with_reducible repeat (first|apply Kd.R_alloc|apply Kd.R_drewN|apply Kd.R_drew));exact (Kd.R_mono (Kd.R_far (p:=⟨gb373,1,none⟩) (Kd.R_mono HO_3.out (fun k_ hk=>(⟨hk,hk.2⟩:_∧k_≠gb373))) (fun _ hk=>hk.2) (.string (⟨#[]⟩:ByteArray))) (fun _ h_=>h_.1))) (by decide)) hk (fun _ h=>h.2)) (fun _ h=>h.1));replace HO369:=A_ (Kd.R_mono (Kd.R_keep (IsS68.apart (show IsS68 w0 _ g s0_0 t375 from (zz42 HI0 NB0_373)) (by (with_reducible repeat (first|apply Kd.R_alloc|apply Kd.R_drewN|apply Kd.R_drew));exact (Kd.R_mono (Kd.R_far (p:=⟨gb373,1,none⟩) (Kd.R_types HO369.out BK373.out (by decide)) (fun _ hk=>hk.2) (.string (⟨#[]⟩:ByteArray))) (fun _ h_=>h_.1))) (by decide)) hk (fun _ h=>h.2)) (fun _ h=>h.1));replace BK373:=A_ (KeepBut.blk hk (g':=gb373) (o:=.cells #[.string t363,.string (⟨#[]⟩:ByteArray),.string (⟨#[]⟩:ByteArray),.int .i64 (rd y367 t370)] 30 (0,0)) (zz107 BK373) NB373_0.out (by simp));replace HK:=A_ (KeepBut.trans (zz47 HK GW373) hk (.inl rfl));replace HB:=A_ (hb);replace HI0:=A_ (hi);(try clear hb hk hi);obtain ⟨_,_,_,_,_,_,_,_⟩:=cf4 BK373;obtain ⟨Ao88,co88,eo88⟩:=Kd.R_slice HO_3.out;subst eo88)|((with_reducible refine gC (f:=44) rfl ?_);refine gsL (some 78) Tryz.func44 #[.slice Ao88 x3_2.length co88,.string t363] ?_;(with_reducible refine (spec_l11At.calls k2 _ _ x3_2 t363 t378 t379 t380 t381 t382 _ ?side1 ?side2 A82.out).mono ?_);(case side1=>exact (by refine (Kd.R_reads' (e:=30) (base:=w.heap.size) (ok:=fun k_=>(True∧k_≠gb373)) (n:=x3_2.length) (c:=co88) ?_).2.2;exact (zz143 HO_3)));(case side2=>exact (Kd.R_reads' HO_3.out).2.1);rintro e w89 ⟨rfl,hb⟩;refine ⟨_,rfl,?_⟩;replace HO_3:=A_ (rB (zz143 HO_3) hb);replace HO369:=A_ (rB (by (with_reducible repeat (first|apply Kd.R_alloc|apply Kd.R_drewN|apply Kd.R_drew));exact (Kd.R_mono (Kd.R_far (p:=⟨gb373,2,none⟩) (Kd.R_types HO369.out BK373.out (by decide)) (fun _ hk=>hk.2) (.string t376)) (fun _ h_=>h_.1))) hb);replace BK373:=A_ (bB (g:=gb373) (o:=.cells #[.string t363,.string (⟨#[]⟩:ByteArray),.string t376,.int .i64 (rd y367 t370)] 30 (0,0)) (zz109 BK373) hb);replace HK:=A_ (KeepBut.trans (zz47 HK GW373) (KeepBut.of_below hb g none) (.inl rfl));replace HB:=A_ (bS (zz43 HB HI0 GE373) hb);replace HI0:=A_ (IsS68.below (show IsS68 w0 (w86.setCell ⟨gb373,2,none⟩ (.string t376)) g s0_0 t377 from (zz42 HI0 NB0_373)) hb);(try clear hb))|((with_reducible refine gD (N:=9) rfl ?_);(try (refine gate_guard (by rfl) ?_;dsimp only));refine boxE 9 #[.string (⟨#[]⟩:ByteArray),.string (⟨#[]⟩:ByteArray),.string (⟨#[]⟩:ByteArray),.int .i64 0] 30 ?_;intro gb383 hg w90 hbox hb;replace HO_3:=A_ (rB (Kd.R_elderB (zz15 HO_3) gb383 (Nat.le_of_eq hg.symm)) hb);replace HO369:=A_ (rB (zz15 HO369) hb);replace HB:=A_ (bS (zz43 HB HI0 GE373) hb);have BK383:=A_ (hbox);have GW383:=A_ ((by rw [hg];exact (keep_size (w:=w) (g:=g) (row:=none) (zz47 HK GW373)):w.heap.size≤gb383));have GE383:=A_ ((Nat.le_trans HW0.out (by rw [hg];exact (keep_size (w:=w) (g:=g) (row:=none) (zz47 HK GW373)):w.heap.size≤gb383):w0.heap.size≤gb383));replace HK:=A_ (KeepBut.trans (zz47 HK GW373) (KeepBut.of_below hb g none) (.inl rfl));have NB373_383:=A_ ((by rw [hg];exact Nat.ne_of_lt (blk_lt (zz2 BK373)):gb373≠gb383));have NB383_373:=A_ ((by rw [hg];exact Nat.ne_of_gt (blk_lt (zz2 BK373)):gb383≠gb373));replace BK373:=A_ (bB (zz2 BK373) hb);have NB0_383:=A_ ((by rw [hg];exact Nat.ne_of_lt (IsS68.lt (show IsS68 w0 _ g s0_0 t377 from (zz42 HI0 NB0_373))):g≠gb383));have NB383_0:=A_ ((by rw [hg];exact Nat.ne_of_gt (IsS68.lt (show IsS68 w0 _ g s0_0 t377 from (zz42 HI0 NB0_373))):gb383≠g));replace HI0:=A_ (IsS68.below (zz42 HI0 NB0_373) hb);clear hb hbox hg;have hnb91:=NB383_373.out;have hnc91:=NB373_383.out;have hnb92:=NB383_0.out;have hnc92:=NB0_383.out;obtain ⟨_,_,_,_,_,_,_,_⟩:=cf4 BK383)|((with_reducible refine gate_store (t:=30) (p:=9) rfl ?_);refine store_event (t:=30) (p:=9) (v:=?vo_w94) (w1:=((((w90.setCell ⟨gb383,0,none⟩ (.string t378)).setCell ⟨gb383,1,none⟩ (.string t379)).setCell ⟨gb383,2,none⟩ (.string t380)).setCell ⟨gb383,3,none⟩ (.int .i64 t381))) ?hg ?ho ?hn ?hr ?_;(case ho=>rfl);(case hg=>rfl);(case hn=>rfl);(case hr=>exact zz14);intro w94 hw;have n0_:Aside0 (Kd.R k30 30 w94 w.heap.size (fun k_=>k_≠gb373∧k_≠gb383) (.slice Ao88 x3_2.length co88) x3_2):=⟨(by rw [hw];exact (by (with_reducible repeat (first|apply Kd.R_alloc|apply Kd.R_drewN|apply Kd.R_drew));exact Kd.R_mono (Kd.R_far (p:=⟨gb383,3,none⟩) (Kd.R_far (p:=⟨gb383,2,none⟩) (Kd.R_far (p:=⟨gb383,1,none⟩) (Kd.R_far (p:=⟨gb383,0,none⟩) (Kd.R_mono HO_3.out (fun k_ hk=>(⟨hk,hk.2⟩:_∧k_≠gb383))) (fun _ hk=>hk.2) (.string t378)) (fun _ hk=>hk.2) (.string t379)) (fun _ hk=>hk.2) (.string t380)) (fun _ hk=>hk.2) (.int .i64 t381)) (fun _ hk=>⟨hk.1.1.2,hk.1.2⟩)))⟩;have n1_:Aside0 (Kd.R (Kd.int .i64) 3 w94 w.heap.size (fun _=>True) (.slice (some ad372) y367.length co75) y367):=⟨(by rw [hw];exact (zz52 (rt HO369 BK383)))⟩;have n2_:Aside0 (w94.heap[gb373]?=some (.cells #[.string t363,.string (⟨#[]⟩:ByteArray),.string t376,.int .i64 (rd y367 t370)] 30 (0,0))):=⟨(by rw [hw];exact (zz104 BK373 NB373_383))⟩;have n3_:Aside0 (w94.heap[gb383]?=some (.cells #[.string t378,.string t379,.string t380,.int .i64 t381] 30 (0,0))):=⟨(by rw [hw];exact (zz37 BK383))⟩;have n4_:Aside0 (IsS68 w0 w94 g s0_0 t377):=⟨(by rw [hw];exact (zz151 HI0 NB0_373 NB0_383))⟩;have n5_:Aside0 (KeepBut w w94 g none):=⟨(by rw [hw];exact (zz153 HK GW373 GW383))⟩;have n6_:Aside0 (Below w0.heap.size w0 w94):=⟨(by rw [hw];exact (zz155 HB HI0 GE373 GE383))⟩;clear hw;clear HO_3;clear HO369;clear BK373;clear BK383;clear HI0;clear HK;clear HB;have HO_3:=n0_;have HO369:=n1_;have BK373:=n2_;have BK383:=n3_;have HI0:=n4_;have HK:=n5_;have HB:=n6_;clear n0_ n1_ n2_ n3_ n4_ n5_ n6_)|((with_reducible refine atG ?_ ?_ fun K_ hK_=>?_);rfl;exact undecG)|((with_reducible refine atI ?_ fun K_ hK_=>?_);exact undecI))
        refine unG hK_ ?_;clear hK_ K_;obtain ⟨H⟩:=HF83;replace H:=iteB H;rcases H with ⟨rfl,H⟩|⟨rfl,H⟩
        ·(first|refine iteT ?_|refine iteF ?_|skip)
         have H':=A_ H;clear H;(try ((with_reducible refine upS ?_);go_simp))
         go_wp2
         go_roundg k2
         case measure=>have:=HK1.out;have:=HK2.out;omega
         case rel=>exact ⟨(x3_2),(wrap64 (x7_2 - 1)),(t377),zz1,H',⟨(zz19 HK1 HK2)⟩,⟨(zz95 HO_3)⟩,⟨(zz151 HI0 NB0_373 NB0_383)⟩,⟨(zz153 HK GW373 GW383)⟩,⟨(zz155 HB HI0 GE373 GE383)⟩⟩
        ·(first|refine iteT ?_|refine iteF ?_|skip)
         replace H:=iteE H;rcases H with ⟨c96,H⟩|⟨c96,H⟩
         ·have c96b0:=dT c96
          clear c96;replace H:=iteN H;obtain ⟨c97,H⟩:=H;have LMc97:=A_ c97;clear c97;obtain ⟨y384,Ny384⟩:=toY (x3_2++[(⟨t363,(⟨#[]⟩:ByteArray),t376,rd y367 t370⟩:S30)]);(first|with_reducible replace H:=bindZ Ny384 H|rw [← Ny384.out] at H|skip)
          have H':=A_ H;clear H;have hnb98:=NB373_383.out;have hnc98:=NB383_373.out;have hnb99:=NB373_0.out;have hnc99:=NB0_373.out;obtain ⟨_,_,_,_,_,_,_,_⟩:=cf4 BK373;go_wp2_with (first|((with_reducible refine gate_builtin (b:=.append) (xs:=#[.tmp 89,.tmp 91]) rfl ?_);(try (refine gate_guard (by rfl) ?_;dsimp only));at_builtin;refine Kd.R_append k30 w.heap.size rfl (.tmp 89) (.tmp 91) 23 30 (.agg #[(.string ⟨#[]⟩),(.string ⟨#[]⟩),(.string ⟨#[]⟩),(.int .i64 0)]) 56 rfl Tryz.underlying23 info30 rfl (by decide) (by omega) (.slice Ao88 x3_2.length co88) x3_2 (⟨t363,(⟨#[]⟩:ByteArray),t376,rd y367 t370⟩:S30) [.string t363,.string (⟨#[]⟩:ByteArray),.string t376,.int .i64 (rd y367 t370)] (fun k_=>k_≠gb373∧k_≠gb383) (fun _=>False) rfl rfl ?aP (fun _ hk=>hk.elim) ?aF ?aO (Below.refl _ _) ?aS ?aL ?_;(case aP=>exact k30_mkM _ _ _ (⟨t363,(⟨#[]⟩:ByteArray),t376,rd y367 t370⟩:S30));(case aF=>exact (fun k_ hk=>⟨Kd.freshB (zz2 BK373) k_ hk,Kd.freshB (zz2 BK383) k_ hk⟩));(case aO=>exact (zz15 HO_3));(case aS=>exact (keep_size (w:=w) (g:=g) (row:=none) (zz153 HK GW373 GW383)));(case aL=>exact (zz5 LMc97));intro v385 w101 ho hb hg hat;rw [← Ny384.out] at ho;replace HO369:=A_ (Kd.R_over' (zz15 HO369) (Kd.R_typed (zz15 HO_3)) (by decide) hg);replace BK373:=A_ (blk_grown (zz2 BK373) hg (Kd.R_away HO_3.out (fun _ hk=>hk.1)));replace BK383:=A_ (blk_grown (zz2 BK383) hg (Kd.R_away HO_3.out (fun _ hk=>hk.2)));replace HB:=A_ (below_weaken (zz155 HB HI0 GE373 GE383) HL.out hb);replace HI0:=A_ (IsS68.grown (zz151 HI0 NB0_373 NB0_383) hg (IsS68.own_ne HI0.out HO_3.out (by decide)));replace HK:=A_ (KeepBut.trans (zz153 HK GW373 GW383) (KeepBut.of_grown hg g) (Kd.R_base2 HO_3.out));have HO386:=A_ (ho);clear HO_3;clear ho hb hg hat))
          go_roundg k2
          case measure=>have:=HK1.out;have:=HK2.out;omega
          case rel=>exact ⟨(y384),(wrap64 (x7_2 - 1)),(t377),zz1,H',⟨(zz19 HK1 HK2)⟩,⟨(zz95 HO386)⟩,⟨(zz151 HI0 NB0_373 NB0_383)⟩,⟨(zz153 HK GW373 GW383)⟩,⟨(zz155 HB HI0 GE373 GE383)⟩⟩
         ·exact absurd (show 0≤300 from by decide) c96
       ·(first|rw [c80b0]|(simp only [i64_w,i32_w];rw [c80b0])|skip)
        replace H:=bindA H;obtain ⟨⟨t387,t388,t389,t390,t391⟩,A105,H⟩:=H;try dsimp only at H
        have HF106:=A_ H;clear H;have hnb107:=NB373_0.out;have hnc107:=NB0_373.out;obtain ⟨_,_,_,_,_,_,_,_⟩:=cf4 BK373;obtain ⟨Ao109,co109,eo109⟩:=Kd.R_slice HO_3.out;subst eo109;go_wp2_with (first|(refine gR 44 (some 78) Tryz.func44 (spec_l11At.calls k2 _ _ x3_2 t363 t387 t388 t389 t390 t391 _ ?side1 ?side2 A105.out) ?_;(case side1=>exact (zz38 HO_3));(case side2=>exact (Kd.R_reads' HO_3.out).2.1);rintro w110 hb;replace HO_3:=A_ (rB (zz15 HO_3) hb);replace HO369:=A_ (rB (zz15 HO369) hb);replace BK373:=A_ (bB (zz2 BK373) hb);replace HK:=A_ (KeepBut.trans (zz47 HK GW373) (KeepBut.of_below hb g none) (.inl rfl));replace HB:=A_ (bS (zz43 HB HI0 GE373) hb);replace HI0:=A_ (IsS68.below (zz42 HI0 NB0_373) hb);(try clear hb))|((with_reducible refine gD (N:=9) rfl ?_);(try (refine gate_guard (by rfl) ?_;dsimp only));refine boxE 9 #[.string (⟨#[]⟩:ByteArray),.string (⟨#[]⟩:ByteArray),.string (⟨#[]⟩:ByteArray),.int .i64 0] 30 ?_;intro gb392 hg w111 hbox hb;replace HO_3:=A_ (rB (Kd.R_elderB (zz15 HO_3) gb392 (Nat.le_of_eq hg.symm)) hb);replace HO369:=A_ (rB (zz15 HO369) hb);replace HB:=A_ (bS (zz43 HB HI0 GE373) hb);have BK392:=A_ (hbox);have GW392:=A_ ((by rw [hg];exact (keep_size (w:=w) (g:=g) (row:=none) (zz47 HK GW373)):w.heap.size≤gb392));have GE392:=A_ ((Nat.le_trans HW0.out (by rw [hg];exact (keep_size (w:=w) (g:=g) (row:=none) (zz47 HK GW373)):w.heap.size≤gb392):w0.heap.size≤gb392));replace HK:=A_ (KeepBut.trans (zz47 HK GW373) (KeepBut.of_below hb g none) (.inl rfl));have NB373_392:=A_ ((by rw [hg];exact Nat.ne_of_lt (blk_lt (zz2 BK373)):gb373≠gb392));have NB392_373:=A_ ((by rw [hg];exact Nat.ne_of_gt (blk_lt (zz2 BK373)):gb392≠gb373));replace BK373:=A_ (bB (zz2 BK373) hb);have NB0_392:=A_ ((by rw [hg];exact Nat.ne_of_lt (IsS68.lt (show IsS68 w0 _ g s0_0 t375 from (zz42 HI0 NB0_373))):g≠gb392));have NB392_0:=A_ ((by rw [hg];exact Nat.ne_of_gt (IsS68.lt (show IsS68 w0 _ g s0_0 t375 from (zz42 HI0 NB0_373))):gb392≠g));replace HI0:=A_ (IsS68.below (zz42 HI0 NB0_373) hb);clear hb hbox hg;have hnb112:=NB392_373.out;have hnc112:=NB373_392.out;have hnb113:=NB392_0.out;have hnc113:=NB0_392.out;obtain ⟨_,_,_,_,_,_,_,_⟩:=cf4 BK392)|((with_reducible refine gate_store (t:=30) (p:=9) rfl ?_);refine store_event (t:=30) (p:=9) (v:=?vo_w115) (w1:=((((w111.setCell ⟨gb392,0,none⟩ (.string t387)).setCell ⟨gb392,1,none⟩ (.string t388)).setCell ⟨gb392,2,none⟩ (.string t389)).setCell ⟨gb392,3,none⟩ (.int .i64 t390))) ?hg ?ho ?hn ?hr ?_;(case ho=>rfl);(case hg=>rfl);(case hn=>rfl);(case hr=>exact zz14);intro w115 hw;have n0_:Aside0 (Kd.R k30 30 w115 w.heap.size (fun k_=>k_≠gb373∧k_≠gb392) (.slice Ao109 x3_2.length co109) x3_2):=⟨(by rw [hw];exact (by (with_reducible repeat (first|apply Kd.R_alloc|apply Kd.R_drewN|apply Kd.R_drew));exact Kd.R_mono (Kd.R_far (p:=⟨gb392,3,none⟩) (Kd.R_far (p:=⟨gb392,2,none⟩) (Kd.R_far (p:=⟨gb392,1,none⟩) (Kd.R_far (p:=⟨gb392,0,none⟩) (Kd.R_mono HO_3.out (fun k_ hk=>(⟨hk,hk.2⟩:_∧k_≠gb392))) (fun _ hk=>hk.2) (.string t387)) (fun _ hk=>hk.2) (.string t388)) (fun _ hk=>hk.2) (.string t389)) (fun _ hk=>hk.2) (.int .i64 t390)) (fun _ hk=>⟨hk.1.1.2,hk.1.2⟩)))⟩;have n1_:Aside0 (Kd.R (Kd.int .i64) 3 w115 w.heap.size (fun _=>True) (.slice (some ad372) y367.length co75) y367):=⟨(by rw [hw];exact (zz52 (rt HO369 BK392)))⟩;have n2_:Aside0 (w115.heap[gb373]?=some (.cells #[.string t363,.string t365,.string (⟨#[]⟩:ByteArray),.int .i64 (rd y367 t370)] 30 (0,0))):=⟨(by rw [hw];exact (zz104 BK373 NB373_392))⟩;have n3_:Aside0 (w115.heap[gb392]?=some (.cells #[.string t387,.string t388,.string t389,.int .i64 t390] 30 (0,0))):=⟨(by rw [hw];exact (zz37 BK392))⟩;have n4_:Aside0 (IsS68 w0 w115 g s0_0 t375):=⟨(by rw [hw];exact (zz151 HI0 NB0_373 NB0_392))⟩;have n5_:Aside0 (KeepBut w w115 g none):=⟨(by rw [hw];exact (zz153 HK GW373 GW392))⟩;have n6_:Aside0 (Below w0.heap.size w0 w115):=⟨(by rw [hw];exact (zz155 HB HI0 GE373 GE392))⟩;clear hw;clear HO_3;clear HO369;clear BK373;clear BK392;clear HI0;clear HK;clear HB;have HO_3:=n0_;have HO369:=n1_;have BK373:=n2_;have BK392:=n3_;have HI0:=n4_;have HK:=n5_;have HB:=n6_;clear n0_ n1_ n2_ n3_ n4_ n5_ n6_)|((with_reducible refine atG ?_ ?_ fun K_ hK_=>?_);rfl;exact undecG)|((with_reducible refine atI ?_ fun K_ hK_=>?_);exact undecI))
        refine unG hK_ ?_;clear hK_ K_;obtain ⟨H⟩:=HF106;replace H:=iteB H;rcases H with ⟨rfl,H⟩|⟨rfl,H⟩
        ·(first|refine iteT ?_|refine iteF ?_|skip)
         have H':=A_ H;clear H;(try ((with_reducible refine upS ?_);go_simp))
         go_wp2
         go_roundg k2
         case measure=>have:=HK1.out;have:=HK2.out;omega
         case rel=>exact ⟨(x3_2),(wrap64 (x7_2 - 1)),(t375),zz1,H',⟨(zz19 HK1 HK2)⟩,⟨(zz95 HO_3)⟩,⟨(zz151 HI0 NB0_373 NB0_392)⟩,⟨(zz153 HK GW373 GW392)⟩,⟨(zz155 HB HI0 GE373 GE392)⟩⟩
        ·(first|refine iteT ?_|refine iteF ?_|skip)
         replace H:=iteE H;rcases H with ⟨c117,H⟩|⟨c117,H⟩
         ·have c117b0:=dT c117
          have c117b1:decide (t365.size≤300)=true:=dT (by omega);clear c117;replace H:=iteN H;obtain ⟨c118,H⟩:=H;have LMc118:=A_ c118;clear c118;obtain ⟨y393,Ny393⟩:=toY (x3_2++[(⟨t363,t365,(⟨#[]⟩:ByteArray),rd y367 t370⟩:S30)]);(first|with_reducible replace H:=bindZ Ny393 H|rw [← Ny393.out] at H|skip)
          have H':=A_ H;clear H;have hnb119:=NB373_392.out;have hnc119:=NB392_373.out;have hnb120:=NB373_0.out;have hnc120:=NB0_373.out;obtain ⟨_,_,_,_,_,_,_,_⟩:=cf4 BK373;go_wp2_with (first|((with_reducible refine gate_builtin (b:=.append) (xs:=#[.tmp 89,.tmp 91]) rfl ?_);(try (refine gate_guard (by rfl) ?_;dsimp only));at_builtin;refine Kd.R_append k30 w.heap.size rfl (.tmp 89) (.tmp 91) 23 30 (.agg #[(.string ⟨#[]⟩),(.string ⟨#[]⟩),(.string ⟨#[]⟩),(.int .i64 0)]) 56 rfl Tryz.underlying23 info30 rfl (by decide) (by omega) (.slice Ao109 x3_2.length co109) x3_2 (⟨t363,t365,(⟨#[]⟩:ByteArray),rd y367 t370⟩:S30) [.string t363,.string t365,.string (⟨#[]⟩:ByteArray),.int .i64 (rd y367 t370)] (fun k_=>k_≠gb373∧k_≠gb392) (fun _=>False) rfl rfl ?aP (fun _ hk=>hk.elim) ?aF ?aO (Below.refl _ _) ?aS ?aL ?_;(case aP=>exact k30_mkM _ _ _ (⟨t363,t365,(⟨#[]⟩:ByteArray),rd y367 t370⟩:S30));(case aF=>exact (fun k_ hk=>⟨Kd.freshB (zz2 BK373) k_ hk,Kd.freshB (zz2 BK392) k_ hk⟩));(case aO=>exact (zz15 HO_3));(case aS=>exact (keep_size (w:=w) (g:=g) (row:=none) (zz153 HK GW373 GW392)));(case aL=>exact (zz5 LMc118));intro v394 w122 ho hb hg hat;rw [← Ny393.out] at ho;replace HO369:=A_ (Kd.R_over' (zz15 HO369) (Kd.R_typed (zz15 HO_3)) (by decide) hg);replace BK373:=A_ (blk_grown (zz2 BK373) hg (Kd.R_away HO_3.out (fun _ hk=>hk.1)));replace BK392:=A_ (blk_grown (zz2 BK392) hg (Kd.R_away HO_3.out (fun _ hk=>hk.2)));replace HB:=A_ (below_weaken (zz155 HB HI0 GE373 GE392) HL.out hb);replace HI0:=A_ (IsS68.grown (zz151 HI0 NB0_373 NB0_392) hg (IsS68.own_ne HI0.out HO_3.out (by decide)));replace HK:=A_ (KeepBut.trans (zz153 HK GW373 GW392) (KeepBut.of_grown hg g) (Kd.R_base2 HO_3.out));have HO395:=A_ (ho);clear HO_3;clear ho hb hg hat))
          go_roundg k2
          case measure=>have:=HK1.out;have:=HK2.out;omega
          case rel=>exact ⟨(y393),(wrap64 (x7_2 - 1)),(t375),zz1,H',⟨(zz19 HK1 HK2)⟩,⟨(zz95 HO395)⟩,⟨(zz151 HI0 NB0_373 NB0_392)⟩,⟨(zz153 HK GW373 GW392)⟩,⟨(zz155 HB HI0 GE373 GE392)⟩⟩
         ·have c117b0:=dF c117
          have c117b1:decide (t365.size≤300)=false:=dF (by omega);clear c117;have H':=A_ H;clear H;have hnb123:=NB373_392.out;have hnc123:=NB392_373.out;have hnb124:=NB373_0.out;have hnc124:=NB0_373.out;obtain ⟨_,_,_,_,_,_,_,_⟩:=cf4 BK373;go_wp2
          go_roundg k2
          case measure=>have:=HK1.out;have:=HK2.out;omega
          case rel=>exact ⟨(x3_2),(wrap64 (x7_2 - 1)),(t375),zz1,H',⟨(zz19 HK1 HK2)⟩,⟨(zz95 HO_3)⟩,⟨(zz151 HI0 NB0_373 NB0_392)⟩,⟨(zz153 HK GW373 GW392)⟩,⟨(zz155 HB HI0 GE373 GE392)⟩⟩
      ·simp only [Option.some.injEq,Prod.mk.injEq] at H
       obtain ⟨rfl,rfl⟩:=H;go_wp2
       go_ret
       exact ⟨_,zz6,(zz15 HO_3),(zz27 HI0),(zz29 HB HI0),(zz28 HK)⟩
def spec_l71Off.l0:Nat→List (S30)→Int→List Int→Int→Option ((List (S30))×Int)
 | 0,_,_,_,_=>none
 | k+1,x3,x4,x1000,x1001=>if x4 < 12 then ((spec_l6Dec.f k x4).bind fun t416=>(if 6+t416.size≤9223372036854775807 then (if x3.length < 2513169434916 then (spec_l71Off.l0 k (x3++[(⟨(⟨#[47,47,97,98,47,122]⟩:ByteArray)++t416,(⟨#[]⟩:ByteArray),(⟨#[]⟩:ByteArray),0⟩:S30)]) (wrap64 (x4+1)) x1000 x1001) else (none)) else (none))) else (some (x3,x1001))
def spec_l71Off.f (k:Nat) (s0_0:List Int) (s0_1:Int):Option ((List (S30))×Int):=(spec_l71World.f k s0_0 s0_1).bind fun bt396=>((spec_l6Rd_pick.f k s0_0 bt396.2 16).bind fun bt400=>(if bt400.1 > 0 then (some (bt396.1,bt400.2)) else ((spec_l6Rd_pick.f k s0_0 bt400.2 5).bind fun bt402=>(if bt402.1=0 then (if 0 < (bt396.1.length:Int) then (if bt396.1.length < 2513169434916 then (some ((bt396.1++[(⟨(rd_T30 bt396.1 0).f0,(rd_T30 bt396.1 0).f1,(rd_T30 bt396.1 0).f2,(rd_T30 bt396.1 0).f3⟩:S30)]),bt402.2)) else (none)) else (none)) else (if bt402.1=1 then (if 0 < (bt396.1.length:Int) then (some ((bt396.1.set (0:Int).toNat (⟨(rd_T30 bt396.1 0).f0,(rd_T30 bt396.1 0).f1,(rd_T30 bt396.1 0).f2,10⟩:S30)),bt402.2)) else (none)) else (if bt402.1=2 then ((spec_l6Rd_of.f k s0_0 bt402.2 (([(⟨#[47,47,65,66,47,97]⟩:ByteArray),(⟨#[]⟩:ByteArray),(⟨#[47,47,97,98]⟩:ByteArray)]:List ByteArray))).bind fun bt412=>(if 0 < (bt396.1.length:Int) then (some ((bt396.1.set (0:Int).toNat (⟨bt412.1,(rd_T30 bt396.1 0).f1,(rd_T30 bt396.1 0).f2,(rd_T30 bt396.1 0).f3⟩:S30)),bt412.2)) else (none))) else (if bt402.1=3 then (if 0 < (bt396.1.length:Int) then (some ((bt396.1.set (0:Int).toNat (⟨(rd_T30 bt396.1 0).f0,(rd_T30 bt396.1 0).f1,(⟨#[120]⟩:ByteArray),(rd_T30 bt396.1 0).f3⟩:S30)),bt402.2)) else (none)) else (spec_l71Off.l0 k bt396.1 0 s0_0 bt402.2))))))))
theorem spec_l71Off.calls (k:Nat) (g:Nat) (s0_0:List Int) (s0_1:Int) (r1:List (S30)) (r2:Int) (w0 w:World) (hI:IsS68 w0 w g s0_0 s0_1) (hB:Below w0.heap.size w0 w) (h:spec_l71Off.f k s0_0 s0_1=some (r1,r2)) :
  Calls Tryz.prog 20 #[.pointer (some ⟨g,0,none⟩)] w fun e w'=>∃ v0_:Value,e=.returned (v0_)∧Kd.R k30 30 w' w.heap.size (fun _=>True) v0_ r1∧IsS68 w0 w' g s0_0 r2∧Below w0.heap.size w0 w'∧KeepBut w w' g none:=by
 have hu30:=Tryz.underlying30;have HI0:=A_ hI;have HK:=A_ (KeepBut.refl w g none);have HL:=A_ hB.size;clear hI;have HW0:=A_ hB.size;have HB:=A_ hB;clear hB;unfold spec_l71Off.f at h
 have H:=h;clear h;replace H:=bindA H;obtain ⟨⟨t396,t399⟩,A2,H⟩:=H;try dsimp only at H
 replace H:=bindA H;obtain ⟨⟨t400,t401⟩,A3,H⟩:=H;try dsimp only at H
 have HF4:=A_ H;clear H;go_enter Tryz.func20,Tryz.ntmps20;go_upto_if 9 with (first|(refine gV 40 (some 6) Tryz.func40 (spec_l71World.calls k g s0_0 s0_1 t396 t399 w0 _ ?side1 ?side2 A2.out) ?_;(case side1=>exact (zz27 HI0));(case side2=>exact (zz29 HB HI0));rintro v397 w5 ⟨ho0,hi,hb,hk⟩;have HO398:=A_ (Kd.R_lower ho0 (keep_size (w:=w) (g:=g) (row:=none) (zz28 HK)));replace HK:=A_ (KeepBut.trans (zz28 HK) hk (.inl rfl));replace HB:=A_ (hb);replace HI0:=A_ (hi);(try clear hb hk hi ho0))|(refine gR 22 (some 8) Tryz.func22 (spec_l6Rd_pick.calls k g s0_0 t399 16 t400 t401 w0 _ ?side1 ?side2 A3.out) ?_;(case side1=>exact (zz27 HI0));(case side2=>exact (zz29 HB HI0));rintro w6 ⟨hi,hb,hk⟩;replace HO398:=A_ (Kd.R_mono (Kd.R_keep (IsS68.apart (show IsS68 w0 _ g s0_0 t399 from (zz27 HI0)) (zz15 HO398) (by decide)) hk (fun _ h=>h.2)) (fun _ h=>h.1));replace HK:=A_ (KeepBut.trans (zz28 HK) hk (.inl rfl));replace HB:=A_ (hb);replace HI0:=A_ (hi);(try clear hb hk hi)))
 obtain ⟨H⟩:=HF4;replace H:=iteEg H;rcases H with ⟨c7b0,H⟩|⟨c7b0,H⟩
 ·(first|rw [c7b0]|(simp only [i64_w,i32_w];rw [c7b0])|skip)
  simp only [Option.some.injEq,Prod.mk.injEq] at H
  obtain ⟨rfl,rfl⟩:=H;go_wp2
  go_ret
  exact ⟨_,zz6,(zz15 HO398),(zz27 HI0),(zz29 HB HI0),(zz28 HK)⟩
 ·(first|rw [c7b0]|(simp only [i64_w,i32_w];rw [c7b0])|skip)
  replace H:=bindA H;obtain ⟨⟨t402,t403⟩,A8,H⟩:=H;try dsimp only at H
  have HF9:=A_ H;clear H;go_upto_if 24 with (first|(refine gR 22 (some 12) Tryz.func22 (spec_l6Rd_pick.calls k g s0_0 t401 5 t402 t403 w0 _ ?side1 ?side2 A8.out) ?_;(case side1=>exact (zz27 HI0));(case side2=>exact (zz29 HB HI0));rintro w10 ⟨hi,hb,hk⟩;replace HO398:=A_ (Kd.R_mono (Kd.R_keep (IsS68.apart (show IsS68 w0 _ g s0_0 t401 from (zz27 HI0)) (zz15 HO398) (by decide)) hk (fun _ h=>h.2)) (fun _ h=>h.1));replace HK:=A_ (KeepBut.trans (zz28 HK) hk (.inl rfl));replace HB:=A_ (hb);replace HI0:=A_ (hi);(try clear hb hk hi)))
  obtain ⟨H⟩:=HF9;replace H:=iteEq H;rcases H with ⟨c11b0,c11b1,H⟩|⟨c11b0,c11b1,c11,H⟩
  ·(first|rw [c11b0]|(simp only [i64_w,i32_w];rw [c11b0])|skip)
   replace H:=iteN H;obtain ⟨c12,H⟩:=H;have c12b0:=dT c12;have c12b1:decide (0 < t396.length)=true:=dT (by omega);clear c12;replace H:=iteN H;obtain ⟨c13,H⟩:=H;have LMc13:=A_ c13;clear c13;obtain ⟨y405,Ny405⟩:=toY (t396++[(⟨(rd_T30 t396 0).f0,(rd_T30 t396 0).f1,(rd_T30 t396 0).f2,(rd_T30 t396 0).f3⟩:S30)]);(first|with_reducible replace H:=bindZ Ny405 H|rw [← Ny405.out] at H|skip)
   simp only [Option.some.injEq,Prod.mk.injEq] at H
   obtain ⟨rfl,rfl⟩:=H;obtain ⟨Ao14,co14,eo14⟩:=Kd.R_slice HO398.out;subst eo14;have p404:0≤(0:Int):=(by omega);have q404:0 < (t396.length:Int):=ofD;obtain ⟨ad404,e404,hx404_0,hx404_1,hx404_2,hx404_3⟩:=at_T30 (Kd.R_reads' HO398.out).2.2 0 p404 q404;cases e404
   have qi404:(0 < t396.length)=True:=eq_true (by omega);(try rw [show ((0:Int)).toNat=0 from rfl] at hx404_0)
   (try rw [show 0 * 4=0 from rfl] at hx404_0)
   (try rw [Addr.add_zero'] at hx404_0)
   (try rw [show ((0:Int)).toNat=0 from rfl] at hx404_1)
   (try rw [show 0 * 4=0 from rfl] at hx404_1)
   (try rw [Addr.add_zero'] at hx404_1)
   (try rw [show ((0:Int)).toNat=0 from rfl] at hx404_2)
   (try rw [show 0 * 4=0 from rfl] at hx404_2)
   (try rw [Addr.add_zero'] at hx404_2)
   (try rw [show ((0:Int)).toNat=0 from rfl] at hx404_3)
   (try rw [show 0 * 4=0 from rfl] at hx404_3)
   (try rw [Addr.add_zero'] at hx404_3)
   replace p404:=eq_true p404;replace q404:=eq_true q404;go_wp2_with (first|((with_reducible refine gate_builtin (b:=.append) (xs:=#[.tmp 26,.tmp 30]) rfl ?_);at_builtin;refine Kd.R_append k30 w.heap.size rfl (.tmp 26) (.tmp 30) 23 30 (.agg #[(.string ⟨#[]⟩),(.string ⟨#[]⟩),(.string ⟨#[]⟩),(.int .i64 0)]) 56 rfl Tryz.underlying23 info30 rfl (by decide) (by omega) (.slice (some ad404) t396.length co14) t396 (⟨(rd_T30 t396 0).f0,(rd_T30 t396 0).f1,(rd_T30 t396 0).f2,(rd_T30 t396 0).f3⟩:S30) [.string ((rd_T30 t396 0).f0),.string ((rd_T30 t396 0).f1),.string ((rd_T30 t396 0).f2),.int .i64 ((rd_T30 t396 0).f3)] (fun _=>True) (fun _=>False) rfl rfl ?aP (fun _ hk=>hk.elim) ?aF ?aO (Below.refl _ _) ?aS ?aL ?_;(case aP=>exact k30_mkM _ _ _ (⟨(rd_T30 t396 0).f0,(rd_T30 t396 0).f1,(rd_T30 t396 0).f2,(rd_T30 t396 0).f3⟩:S30));(case aF=>exact (fun _ _=>trivial));(case aO=>exact (zz15 HO398));(case aS=>exact (keep_size (w:=w) (g:=g) (row:=none) (zz28 HK)));(case aL=>exact (zz5 LMc13));intro v406 w15 ho hb hg hat;rw [← Ny405.out] at ho;replace HB:=A_ (below_weaken (zz29 HB HI0) HL.out hb);replace HI0:=A_ (IsS68.grown (zz27 HI0) hg (IsS68.own_ne HI0.out HO398.out (by decide)));replace HK:=A_ (KeepBut.trans (zz28 HK) (KeepBut.of_grown hg g) (Kd.R_base2 HO398.out));have HO407:=A_ (ho);clear HO398;clear ho hb hg hat))
   go_ret
   exact ⟨_,zz6,(zz15 HO407),(zz27 HI0),(zz29 HB HI0),(zz28 HK)⟩
  ·(first|rw [c11b0]|(simp only [i64_w,i32_w];rw [c11b0])|skip)
   replace H:=iteEq H;rcases H with ⟨c16b0,c16b1,H⟩|⟨c16b0,c16b1,c16,H⟩
   ·replace H:=iteN H
    obtain ⟨c17,H⟩:=H;have c17b0:=dT c17;have c17b1:decide (0 < t396.length)=true:=dT (by omega);clear c17;obtain ⟨y408,Ny408⟩:=toY (t396.set (0:Int).toNat (⟨(rd_T30 t396 0).f0,(rd_T30 t396 0).f1,(rd_T30 t396 0).f2,10⟩:S30));(first|with_reducible replace H:=bindZ Ny408 H|rw [← Ny408.out] at H|skip)
    simp only [Option.some.injEq,Prod.mk.injEq] at H
    obtain ⟨rfl,rfl⟩:=H;have p18:0≤(0:Int):=(by omega);have q18:(0:Int) < ((t396.length:Int):Int):=ofD;have qi18:(0 < t396.length)=True:=eq_true (by omega);obtain ⟨go18,co18,eo18,gb18,gl18,cl18,HG18⟩:=Kd.R_form HO398.out (by omega);(first|cases eo18|(injection eo18 with ea_ en_ ec_;(first|subst ea_|(injection ea_ with ea_;subst ea_));subst ec_;clear en_))
    have GB18:=A_ gb18;have GG18:=A_ HG18;clear gb18 gl18 HG18;obtain ⟨ce18,hcl18,hM18,hcc18,hfr18⟩:=Kd.R_elem HO398.out z30 (0:Int) p18 q18;obtain rfl:=k30_openM hM18;have hx18_0:w10.cell? ⟨go18,(0:Int).toNat * 4,none⟩=some (.string ((rd_T30 t396 0).f0)):=hcc18 0 _ rfl;have hx18_1:w10.cell? ⟨go18,(0:Int).toNat * 4+1,none⟩=some (.string ((rd_T30 t396 0).f1)):=hcc18 1 _ rfl;have hx18_2:w10.cell? ⟨go18,(0:Int).toNat * 4+2,none⟩=some (.string ((rd_T30 t396 0).f2)):=hcc18 2 _ rfl;have hx18_3:w10.cell? ⟨go18,(0:Int).toNat * 4+3,none⟩=some (.int .i64 ((rd_T30 t396 0).f3)):=hcc18 3 _ rfl;have hf18_0:w10.frozen? ⟨go18,(0:Int).toNat * 4,none⟩=false:=hfr18 0;have hf18_1:w10.frozen? ⟨go18,(0:Int).toNat * 4+1,none⟩=false:=hfr18 1;have hf18_2:w10.frozen? ⟨go18,(0:Int).toNat * 4+2,none⟩=false:=hfr18 2;have hf18_3:w10.frozen? ⟨go18,(0:Int).toNat * 4+3,none⟩=false:=hfr18 3;clear hcl18 hcc18 hfr18 hM18;(try rw [show ((0:Int)).toNat=0 from rfl] at hx18_0)
    (try simp only [Nat.reduceMul,Nat.zero_mul,Nat.zero_add,Nat.reduceAdd] at hx18_0)
    (try rw [show ((0:Int)).toNat=0 from rfl] at hf18_0)
    (try simp only [Nat.reduceMul,Nat.zero_mul,Nat.zero_add,Nat.reduceAdd] at hf18_0)
    (try rw [show ((0:Int)).toNat=0 from rfl] at hx18_1)
    (try simp only [Nat.reduceMul,Nat.zero_mul,Nat.zero_add,Nat.reduceAdd] at hx18_1)
    (try rw [show ((0:Int)).toNat=0 from rfl] at hf18_1)
    (try simp only [Nat.reduceMul,Nat.zero_mul,Nat.zero_add,Nat.reduceAdd] at hf18_1)
    (try rw [show ((0:Int)).toNat=0 from rfl] at hx18_2)
    (try simp only [Nat.reduceMul,Nat.zero_mul,Nat.zero_add,Nat.reduceAdd] at hx18_2)
    (try rw [show ((0:Int)).toNat=0 from rfl] at hf18_2)
    (try simp only [Nat.reduceMul,Nat.zero_mul,Nat.zero_add,Nat.reduceAdd] at hf18_2)
    (try rw [show ((0:Int)).toNat=0 from rfl] at hx18_3)
    (try simp only [Nat.reduceMul,Nat.zero_mul,Nat.zero_add,Nat.reduceAdd] at hx18_3)
    (try rw [show ((0:Int)).toNat=0 from rfl] at hf18_3)
    (try simp only [Nat.reduceMul,Nat.zero_mul,Nat.zero_add,Nat.reduceAdd] at hf18_3)
    replace p18:=eq_true p18;replace q18:=eq_true q18;have HX19:=A_ (show Kd.R k30 30 w10 w.heap.size (fun _=>True) (.slice (some ⟨go18,0,none⟩) t396.length co18) t396 from (zz15 HO398));obtain ⟨ce19,hcl19,hM19,hcc19,hfr19⟩:=Kd.R_elem HX19.out z30 (0:Int) (by omega) (by have h_:(0:Int) < ((t396.length:Int):Int):=ofD;first|exact h_|(have e_:=(Kd.R_reads' HO398.out).1;omega)|simpa using h_);obtain rfl:=k30_openM hM19;have HP19:=Kd.R_seg HX19.out (0:Int) (by omega) (by have h_:(0:Int) < ((t396.length:Int):Int):=ofD;first|exact h_|(have e_:=(Kd.R_reads' HO398.out).1;omega)|simpa using h_) (seg:=[.int .i64 10]) (j:=3) hcl19 hcc19 (show 4≤4 from by decide) (x':=(⟨(rd_T30 t396 0).f0,(rd_T30 t396 0).f1,(rd_T30 t396 0).f2,10⟩:S30)) (k30_mkM _ _ _ (⟨(rd_T30 t396 0).f0,(rd_T30 t396 0).f1,(rd_T30 t396 0).f2,10⟩:S30) ) (fun _ hk=>hk);have hx19_3:=hcc19 3 _ rfl;(try simp only [show (k30).sz=4 from rfl,Nat.mul_one,Nat.add_zero] at hx19_3)
    (try rw [show ((0:Int)).toNat=0 from rfl] at hx19_3)
    (try simp only [Nat.reduceMul,Nat.zero_mul,Nat.zero_add,Nat.reduceAdd] at hx19_3)
    have hf19_3:=hfr19 3;(try simp only [show (k30).sz=4 from rfl,Nat.mul_one,Nat.add_zero] at hf19_3)
    (try rw [show ((0:Int)).toNat=0 from rfl] at hf19_3)
    (try simp only [Nat.reduceMul,Nat.zero_mul,Nat.zero_add,Nat.reduceAdd] at hf19_3)
    clear hcl19 hcc19 hfr19 hM19;go_wp2_with (first|((with_reducible refine gate_store (t:=3) (p:=36) rfl ?_);refine store_event (t:=3) (p:=36) (v:=?vo_w20) (w1:=(w10.setCell ⟨go18,3,none⟩ (.int .i64 10))) ?hg ?ho ?hn ?hr ?_;(case ho=>rfl);(case hg=>rfl);(case hn=>rfl);(case hr=>exact zz14);intro w20 hw;have hg:w10.grownBy w20 (some go18):=(by rw [hw];exact HP19.2);have hp_:Kd.R k30 30 w20 w.heap.size (fun _=>True) (.slice (some ⟨go18,0,none⟩) t396.length co18) y408:=(by rw [hw,Ny408.out];exact HP19.1);clear HP19;replace HI0:=A_ (IsS68.grown (zz27 HI0) hg (IsS68.own_ne HI0.out HO398.out (by decide)));replace HB:=A_ ((by rw [hw];exact below_set (HB.out) (Nat.le_trans HL.out GB18.out):Below w0.heap.size w0 w20));replace HK:=A_ (KeepBut.trans (zz28 HK) (KeepBut.of_grown hg g) (Kd.R_base2 HO398.out));replace HO398:=A_ (hp_);clear hg hw hp_))
    go_ret
    exact ⟨_,zz6,(zz15 HO398),(zz27 HI0),(zz29 HB HI0),(zz28 HK)⟩
   ·replace H:=iteEq H
    rcases H with ⟨c21b0,c21b1,H⟩|⟨c21b0,c21b1,c21,H⟩
    ·obtain ⟨y409,Ny409⟩:=toY (([(⟨#[47,47,65,66,47,97]⟩:ByteArray),(⟨#[]⟩:ByteArray),(⟨#[47,47,97,98]⟩:ByteArray)]:List ByteArray))
     (first|with_reducible replace H:=bindZ Ny409 H|rw [← Ny409.out] at H|skip)
     replace H:=bindA H;obtain ⟨⟨t412,t413⟩,A22,H⟩:=H;try dsimp only at H
     replace H:=iteN H;obtain ⟨c23,H⟩:=H;have c23b0:=dT c23;have c23b1:decide (0 < t396.length)=true:=dT (by omega);clear c23;obtain ⟨y414,Ny414⟩:=toY (t396.set (0:Int).toNat (⟨t412,(rd_T30 t396 0).f1,(rd_T30 t396 0).f2,(rd_T30 t396 0).f3⟩:S30));(first|with_reducible replace H:=bindZ Ny414 H|rw [← Ny414.out] at H|skip)
     simp only [Option.some.injEq,Prod.mk.injEq] at H
     obtain ⟨rfl,rfl⟩:=H;go_wp2_with (first|((with_reducible refine gD (N:=41) rfl ?_);refine Kd.R_lit Kd.string _ 9 ?hg (N:=41) ?hd (xs:=([(⟨#[47,47,65,66,47,97]⟩:ByteArray),(⟨#[]⟩:ByteArray),(⟨#[47,47,97,98]⟩:ByteArray)]:List ByteArray)) (inner:=[.string (⟨#[47,47,65,66,47,97]⟩:ByteArray),.string (⟨#[]⟩:ByteArray),.string (⟨#[47,47,97,98]⟩:ByteArray)]) (ok:=fun _=>True) (okp:=fun _=>True) ?hr ?hp (fun _ hk=>hk) trivial (Below.refl _ _) (Nat.le_refl _) (by simp) ?_;(case hd=>rfl);(case hg=>rfl);(case hr=>exact zz14);(case hp=>exact (Reps.one (show Kd.M Kd.string _ _ _ (⟨#[47,47,65,66,47,97]⟩:ByteArray) [.string (⟨#[47,47,65,66,47,97]⟩:ByteArray)] from rfl) (Reps.one (show Kd.M Kd.string _ _ _ (⟨#[]⟩:ByteArray) [.string (⟨#[]⟩:ByteArray)] from rfl) (Reps.one (show Kd.M Kd.string _ _ _ (⟨#[47,47,97,98]⟩:ByteArray) [.string (⟨#[47,47,97,98]⟩:ByteArray)] from rfl) (Reps.none _ _)))));intro v410 w25 ho26 hb hg_ hnew_;clear hg_ hnew_;(first|rw [← Ny409.out] at ho26|(simp only [Int.reduceToNat] at ho26;rw [← Ny409.out] at ho26));replace HO398:=A_ (rB (zz15 HO398) hb);have HO411:=A_ (Kd.R_lower ho26 (keep_size (w:=w) (g:=g) (row:=none) (zz28 HK)));replace HK:=A_ (KeepBut.trans (zz28 HK) (KeepBut.of_below hb g none) (.inl rfl));replace HB:=A_ (bS (zz29 HB HI0) hb);replace HI0:=A_ (IsS68.below (zz27 HI0) hb);clear hb ho26;obtain ⟨Ao27,co27,eo27⟩:=Kd.R_slice HO411.out;subst eo27)|(refine gR 41 (some 42) Tryz.func41 (spec_l6Rd_of.calls k g s0_0 t403 _ _ y409 t412 t413 w0 _ ?side1 ?side2 ?side3 ?side4 ?side5 A22.out) ?_;(case side1=>exact (zz27 HI0));(case side2=>exact (zz29 HB HI0));(case side3=>exact (zz38 HO411));(case side4=>exact (Kd.R_reads' HO411.out).2.1);(case side5=>exact far_slice (IsS68.own_ne HI0.out HO411.out (by decide)));rintro w28 ⟨hi,hb,hk⟩;replace HO398:=A_ (Kd.R_mono (Kd.R_keep (IsS68.apart (show IsS68 w0 _ g s0_0 t403 from (zz27 HI0)) (zz15 HO398) (by decide)) hk (fun _ h=>h.2)) (fun _ h=>h.1));replace HO411:=A_ (Kd.R_mono (Kd.R_keep (IsS68.apart (show IsS68 w0 _ g s0_0 t403 from (zz27 HI0)) (zz15 HO411) (by decide)) hk (fun _ h=>h.2)) (fun _ h=>h.1));replace HK:=A_ (KeepBut.trans (zz28 HK) hk (.inl rfl));replace HB:=A_ (hb);replace HI0:=A_ (hi);(try clear hb hk hi);have p24:0≤(0:Int):=(by omega);have q24:(0:Int) < ((t396.length:Int):Int):=ofD;have qi24:(0 < t396.length)=True:=eq_true (by omega);obtain ⟨go24,co24,eo24,gb24,gl24,cl24,HG24⟩:=Kd.R_form HO398.out (by omega);(first|cases eo24|(injection eo24 with ea_ en_ ec_;(first|subst ea_|(injection ea_ with ea_;subst ea_));subst ec_;clear en_));have GB24:=A_ gb24;have GG24:=A_ HG24;clear gb24 gl24 HG24;obtain ⟨ce24,hcl24,hM24,hcc24,hfr24⟩:=Kd.R_elem HO398.out z30 (0:Int) p24 q24;obtain rfl:=k30_openM hM24;have hx24_0:w28.cell? ⟨go24,(0:Int).toNat * 4,none⟩=some (.string ((rd_T30 t396 0).f0)):=hcc24 0 _ rfl;have hx24_1:w28.cell? ⟨go24,(0:Int).toNat * 4+1,none⟩=some (.string ((rd_T30 t396 0).f1)):=hcc24 1 _ rfl;have hx24_2:w28.cell? ⟨go24,(0:Int).toNat * 4+2,none⟩=some (.string ((rd_T30 t396 0).f2)):=hcc24 2 _ rfl;have hx24_3:w28.cell? ⟨go24,(0:Int).toNat * 4+3,none⟩=some (.int .i64 ((rd_T30 t396 0).f3)):=hcc24 3 _ rfl;have hf24_0:w28.frozen? ⟨go24,(0:Int).toNat * 4,none⟩=false:=hfr24 0;have hf24_1:w28.frozen? ⟨go24,(0:Int).toNat * 4+1,none⟩=false:=hfr24 1;have hf24_2:w28.frozen? ⟨go24,(0:Int).toNat * 4+2,none⟩=false:=hfr24 2;have hf24_3:w28.frozen? ⟨go24,(0:Int).toNat * 4+3,none⟩=false:=hfr24 3;clear hcl24 hcc24 hfr24 hM24;(try rw [show ((0:Int)).toNat=0 from rfl] at hx24_0);(try simp only [Nat.reduceMul,Nat.zero_mul,Nat.zero_add,Nat.reduceAdd] at hx24_0);(try rw [show ((0:Int)).toNat=0 from rfl] at hf24_0);(try simp only [Nat.reduceMul,Nat.zero_mul,Nat.zero_add,Nat.reduceAdd] at hf24_0);(try rw [show ((0:Int)).toNat=0 from rfl] at hx24_1);(try simp only [Nat.reduceMul,Nat.zero_mul,Nat.zero_add,Nat.reduceAdd] at hx24_1);(try rw [show ((0:Int)).toNat=0 from rfl] at hf24_1);(try simp only [Nat.reduceMul,Nat.zero_mul,Nat.zero_add,Nat.reduceAdd] at hf24_1);(try rw [show ((0:Int)).toNat=0 from rfl] at hx24_2);(try simp only [Nat.reduceMul,Nat.zero_mul,Nat.zero_add,Nat.reduceAdd] at hx24_2);(try rw [show ((0:Int)).toNat=0 from rfl] at hf24_2);(try simp only [Nat.reduceMul,Nat.zero_mul,Nat.zero_add,Nat.reduceAdd] at hf24_2);(try rw [show ((0:Int)).toNat=0 from rfl] at hx24_3);(try simp only [Nat.reduceMul,Nat.zero_mul,Nat.zero_add,Nat.reduceAdd] at hx24_3);(try rw [show ((0:Int)).toNat=0 from rfl] at hf24_3);(try simp only [Nat.reduceMul,Nat.zero_mul,Nat.zero_add,Nat.reduceAdd] at hf24_3);replace p24:=eq_true p24;replace q24:=eq_true q24;have HX29:=A_ (show Kd.R k30 30 w28 w.heap.size (fun _=>True) (.slice (some ⟨go24,0,none⟩) t396.length co24) t396 from (zz15 HO398));obtain ⟨ce29,hcl29,hM29,hcc29,hfr29⟩:=Kd.R_elem HX29.out z30 (0:Int) (by omega) (by have h_:(0:Int) < ((t396.length:Int):Int):=ofD;first|exact h_|(have e_:=(Kd.R_reads' HO398.out).1;omega)|simpa using h_);obtain rfl:=k30_openM hM29;have HP29:=Kd.R_seg HX29.out (0:Int) (by omega) (by have h_:(0:Int) < ((t396.length:Int):Int):=ofD;first|exact h_|(have e_:=(Kd.R_reads' HO398.out).1;omega)|simpa using h_) (seg:=[.string t412]) (j:=0) hcl29 hcc29 (show 1≤4 from by decide) (x':=(⟨t412,(rd_T30 t396 0).f1,(rd_T30 t396 0).f2,(rd_T30 t396 0).f3⟩:S30)) (k30_mkM _ _ _ (⟨t412,(rd_T30 t396 0).f1,(rd_T30 t396 0).f2,(rd_T30 t396 0).f3⟩:S30) ) (fun _ hk=>hk);have hx29_0:=hcc29 0 _ rfl;(try simp only [show (k30).sz=4 from rfl,Nat.mul_one,Nat.add_zero] at hx29_0);(try rw [show ((0:Int)).toNat=0 from rfl] at hx29_0);(try simp only [Nat.reduceMul,Nat.zero_mul,Nat.zero_add,Nat.reduceAdd] at hx29_0);have hf29_0:=hfr29 0;(try simp only [show (k30).sz=4 from rfl,Nat.mul_one,Nat.add_zero] at hf29_0);(try rw [show ((0:Int)).toNat=0 from rfl] at hf29_0);(try simp only [Nat.reduceMul,Nat.zero_mul,Nat.zero_add,Nat.reduceAdd] at hf29_0);clear hcl29 hcc29 hfr29 hM29)|((with_reducible refine gate_store (t:=9) (p:=44) rfl ?_);refine store_event (t:=9) (p:=44) (v:=?vo_w30) (w1:=(w28.setCell ⟨go24,0,none⟩ (.string t412))) ?hg ?ho ?hn ?hr ?_;(case ho=>rfl);(case hg=>rfl);(case hn=>rfl);(case hr=>exact zz14);intro w30 hw;have hg:w28.grownBy w30 (some go24):=(by rw [hw];exact HP29.2);have hp_:Kd.R k30 30 w30 w.heap.size (fun _=>True) (.slice (some ⟨go24,0,none⟩) t396.length co24) y414:=(by rw [hw,Ny414.out];exact HP29.1);clear HP29;replace HI0:=A_ (IsS68.grown (zz27 HI0) hg (IsS68.own_ne HI0.out HO398.out (by decide)));replace HO411:=A_ (Kd.R_over' (v:=(.slice (some ⟨go24,0,none⟩) t396.length co24)) (zz15 HO411) (Kd.R_typed HO398.out) (by decide) hg);replace HB:=A_ ((by rw [hw];exact below_set (HB.out) (Nat.le_trans HL.out GB24.out):Below w0.heap.size w0 w30));replace HK:=A_ (KeepBut.trans (zz28 HK) (KeepBut.of_grown hg g) (Kd.R_base2 HO398.out));replace HO398:=A_ (hp_);clear hg hw hp_))
     go_ret
     exact ⟨_,zz6,(zz15 HO398),(zz27 HI0),(zz29 HB HI0),(zz28 HK)⟩
    ·replace H:=iteEq H
     rcases H with ⟨c31b0,c31b1,H⟩|⟨c31b0,c31b1,c31,H⟩
     ·replace H:=iteN H
      obtain ⟨c32,H⟩:=H;have c32b0:=dT c32;have c32b1:decide (0 < t396.length)=true:=dT (by omega);clear c32;obtain ⟨y415,Ny415⟩:=toY (t396.set (0:Int).toNat (⟨(rd_T30 t396 0).f0,(rd_T30 t396 0).f1,(⟨#[120]⟩:ByteArray),(rd_T30 t396 0).f3⟩:S30));(first|with_reducible replace H:=bindZ Ny415 H|rw [← Ny415.out] at H|skip)
      simp only [Option.some.injEq,Prod.mk.injEq] at H
      obtain ⟨rfl,rfl⟩:=H;have p33:0≤(0:Int):=(by omega);have q33:(0:Int) < ((t396.length:Int):Int):=ofD;have qi33:(0 < t396.length)=True:=eq_true (by omega);obtain ⟨go33,co33,eo33,gb33,gl33,cl33,HG33⟩:=Kd.R_form HO398.out (by omega);(first|cases eo33|(injection eo33 with ea_ en_ ec_;(first|subst ea_|(injection ea_ with ea_;subst ea_));subst ec_;clear en_))
      have GB33:=A_ gb33;have GG33:=A_ HG33;clear gb33 gl33 HG33;obtain ⟨ce33,hcl33,hM33,hcc33,hfr33⟩:=Kd.R_elem HO398.out z30 (0:Int) p33 q33;obtain rfl:=k30_openM hM33;have hx33_0:w10.cell? ⟨go33,(0:Int).toNat * 4,none⟩=some (.string ((rd_T30 t396 0).f0)):=hcc33 0 _ rfl;have hx33_1:w10.cell? ⟨go33,(0:Int).toNat * 4+1,none⟩=some (.string ((rd_T30 t396 0).f1)):=hcc33 1 _ rfl;have hx33_2:w10.cell? ⟨go33,(0:Int).toNat * 4+2,none⟩=some (.string ((rd_T30 t396 0).f2)):=hcc33 2 _ rfl;have hx33_3:w10.cell? ⟨go33,(0:Int).toNat * 4+3,none⟩=some (.int .i64 ((rd_T30 t396 0).f3)):=hcc33 3 _ rfl;have hf33_0:w10.frozen? ⟨go33,(0:Int).toNat * 4,none⟩=false:=hfr33 0;have hf33_1:w10.frozen? ⟨go33,(0:Int).toNat * 4+1,none⟩=false:=hfr33 1;have hf33_2:w10.frozen? ⟨go33,(0:Int).toNat * 4+2,none⟩=false:=hfr33 2;have hf33_3:w10.frozen? ⟨go33,(0:Int).toNat * 4+3,none⟩=false:=hfr33 3;clear hcl33 hcc33 hfr33 hM33;(try rw [show ((0:Int)).toNat=0 from rfl] at hx33_0)
      (try simp only [Nat.reduceMul,Nat.zero_mul,Nat.zero_add,Nat.reduceAdd] at hx33_0)
      (try rw [show ((0:Int)).toNat=0 from rfl] at hf33_0)
      (try simp only [Nat.reduceMul,Nat.zero_mul,Nat.zero_add,Nat.reduceAdd] at hf33_0)
      (try rw [show ((0:Int)).toNat=0 from rfl] at hx33_1)
      (try simp only [Nat.reduceMul,Nat.zero_mul,Nat.zero_add,Nat.reduceAdd] at hx33_1)
      (try rw [show ((0:Int)).toNat=0 from rfl] at hf33_1)
      (try simp only [Nat.reduceMul,Nat.zero_mul,Nat.zero_add,Nat.reduceAdd] at hf33_1)
      (try rw [show ((0:Int)).toNat=0 from rfl] at hx33_2)
      (try simp only [Nat.reduceMul,Nat.zero_mul,Nat.zero_add,Nat.reduceAdd] at hx33_2)
      (try rw [show ((0:Int)).toNat=0 from rfl] at hf33_2)
      (try simp only [Nat.reduceMul,Nat.zero_mul,Nat.zero_add,Nat.reduceAdd] at hf33_2)
      (try rw [show ((0:Int)).toNat=0 from rfl] at hx33_3)
      (try simp only [Nat.reduceMul,Nat.zero_mul,Nat.zero_add,Nat.reduceAdd] at hx33_3)
      (try rw [show ((0:Int)).toNat=0 from rfl] at hf33_3)
      (try simp only [Nat.reduceMul,Nat.zero_mul,Nat.zero_add,Nat.reduceAdd] at hf33_3)
      replace p33:=eq_true p33;replace q33:=eq_true q33;have HX34:=A_ (show Kd.R k30 30 w10 w.heap.size (fun _=>True) (.slice (some ⟨go33,0,none⟩) t396.length co33) t396 from (zz15 HO398));obtain ⟨ce34,hcl34,hM34,hcc34,hfr34⟩:=Kd.R_elem HX34.out z30 (0:Int) (by omega) (by have h_:(0:Int) < ((t396.length:Int):Int):=ofD;first|exact h_|(have e_:=(Kd.R_reads' HO398.out).1;omega)|simpa using h_);obtain rfl:=k30_openM hM34;have HP34:=Kd.R_seg HX34.out (0:Int) (by omega) (by have h_:(0:Int) < ((t396.length:Int):Int):=ofD;first|exact h_|(have e_:=(Kd.R_reads' HO398.out).1;omega)|simpa using h_) (seg:=[.string (⟨#[120]⟩:ByteArray)]) (j:=2) hcl34 hcc34 (show 3≤4 from by decide) (x':=(⟨(rd_T30 t396 0).f0,(rd_T30 t396 0).f1,(⟨#[120]⟩:ByteArray),(rd_T30 t396 0).f3⟩:S30)) (k30_mkM _ _ _ (⟨(rd_T30 t396 0).f0,(rd_T30 t396 0).f1,(⟨#[120]⟩:ByteArray),(rd_T30 t396 0).f3⟩:S30) ) (fun _ hk=>hk);have hx34_2:=hcc34 2 _ rfl;(try simp only [show (k30).sz=4 from rfl,Nat.mul_one,Nat.add_zero] at hx34_2)
      (try rw [show ((0:Int)).toNat=0 from rfl] at hx34_2)
      (try simp only [Nat.reduceMul,Nat.zero_mul,Nat.zero_add,Nat.reduceAdd] at hx34_2)
      have hf34_2:=hfr34 2;(try simp only [show (k30).sz=4 from rfl,Nat.mul_one,Nat.add_zero] at hf34_2)
      (try rw [show ((0:Int)).toNat=0 from rfl] at hf34_2)
      (try simp only [Nat.reduceMul,Nat.zero_mul,Nat.zero_add,Nat.reduceAdd] at hf34_2)
      clear hcl34 hcc34 hfr34 hM34;go_wp2_with (first|((with_reducible refine gate_store (t:=9) (p:=49) rfl ?_);refine store_event (t:=9) (p:=49) (v:=?vo_w35) (w1:=(w10.setCell ⟨go33,2,none⟩ (.string (⟨#[120]⟩:ByteArray)))) ?hg ?ho ?hn ?hr ?_;(case ho=>rfl);(case hg=>rfl);(case hn=>rfl);(case hr=>exact zz14);intro w35 hw;have hg:w10.grownBy w35 (some go33):=(by rw [hw];exact HP34.2);have hp_:Kd.R k30 30 w35 w.heap.size (fun _=>True) (.slice (some ⟨go33,0,none⟩) t396.length co33) y415:=(by rw [hw,Ny415.out];exact HP34.1);clear HP34;replace HI0:=A_ (IsS68.grown (zz27 HI0) hg (IsS68.own_ne HI0.out HO398.out (by decide)));replace HB:=A_ ((by rw [hw];exact below_set (HB.out) (Nat.le_trans HL.out GB33.out):Below w0.heap.size w0 w35));replace HK:=A_ (KeepBut.trans (zz28 HK) (KeepBut.of_grown hg g) (Kd.R_base2 HO398.out));replace HO398:=A_ (hp_);clear hg hw hp_))
      go_ret
      exact ⟨_,zz6,(zz15 HO398),(zz27 HI0),(zz29 HB HI0),(zz28 HK)⟩
     ·have H':=A_ H
      clear H;go_wp2
      go_loopg [3,4] k (fun kq v3 v4 w'=>∃ (x3_1:List (S30)) (x4_1:Int),v4=.int .i64 x4_1∧Aside0 (spec_l71Off.l0 kq x3_1 x4_1 s0_0 t403=some (r1,r2))∧Aside0 (kq≤k)∧Aside0 (Kd.R k30 30 w' w.heap.size (fun _=>True) v3 x3_1)∧Aside0 (IsS68 w0 w' g s0_0 t403)∧Aside0 (KeepBut w w' g none)∧Aside0 (Below w0.heap.size w0 w'))
      case atStart=>exact ⟨(t396),(0),zz1,H',⟨Nat.le_refl _⟩,⟨(zz15 HO398)⟩,⟨(zz27 HI0)⟩,⟨(zz28 HK)⟩,⟨(zz29 HB HI0)⟩⟩
      case round=>
       clear H';obtain ⟨x3_1,x4_1,rfl,HA,HK1,HO_3,HI0,HK,HB⟩:=hrel;cases gk with
       | zero=>exact absurd HA.out (by simp [spec_l71Off.l0])
       | succ k1=>
        obtain ⟨H⟩:=HA;simp only [spec_l71Off.l0] at H
        replace H:=iteEd H;rcases H with ⟨c36b0,H⟩|⟨c36b0,H⟩
        ·replace H:=bindA H
         obtain ⟨t416,A37,H⟩:=H;replace H:=iteN H;obtain ⟨c38,H⟩:=H;have c38b0:=eq_true c38;have c38b1:=dT c38;try have c38b2:(9223372036854775807 < 6+t416.size)=False:=eq_false (Nat.not_lt.2 c38)
         replace H:=iteN H;obtain ⟨c39,H⟩:=H;have LMc39:=A_ c39;clear c39;obtain ⟨y417,Ny417⟩:=toY (x3_1++[(⟨(⟨#[47,47,97,98,47,122]⟩:ByteArray)++t416,(⟨#[]⟩:ByteArray),(⟨#[]⟩:ByteArray),0⟩:S30)]);(first|with_reducible replace H:=bindZ Ny417 H|rw [← Ny417.out] at H|skip)
         have H':=A_ H;clear H;go_wp2_with (first|(refine gR 42 (some 19) Tryz.func42 (spec_l6Dec.calls k1 x4_1 t416 _ A37.out) ?_;rintro w40 hb;replace HO_3:=A_ (rB (zz15 HO_3) hb);replace HK:=A_ (KeepBut.trans (zz28 HK) (KeepBut.of_below hb g none) (.inl rfl));replace HB:=A_ (bS (zz29 HB HI0) hb);replace HI0:=A_ (IsS68.below (zz27 HI0) hb);(try clear hb))|((with_reducible refine gate_builtin (b:=.append) (xs:=#[.tmp 17,.tmp 22]) rfl ?_);at_builtin;refine Kd.R_append k30 w.heap.size rfl (.tmp 17) (.tmp 22) 23 30 (.agg #[(.string ⟨#[]⟩),(.string ⟨#[]⟩),(.string ⟨#[]⟩),(.int .i64 0)]) 56 rfl Tryz.underlying23 info30 rfl (by decide) (by omega) u3 x3_1 (⟨(⟨#[47,47,97,98,47,122]⟩:ByteArray)++t416,(⟨#[]⟩:ByteArray),(⟨#[]⟩:ByteArray),0⟩:S30) [.string ((⟨#[47,47,97,98,47,122]⟩:ByteArray)++t416),.string (⟨#[]⟩:ByteArray),.string (⟨#[]⟩:ByteArray),.int .i64 0] (fun _=>True) (fun _=>False) rfl rfl ?aP (fun _ hk=>hk.elim) ?aF ?aO (Below.refl _ _) ?aS ?aL ?_;(case aP=>exact k30_mkM _ _ _ (⟨(⟨#[47,47,97,98,47,122]⟩:ByteArray)++t416,(⟨#[]⟩:ByteArray),(⟨#[]⟩:ByteArray),0⟩:S30));(case aF=>exact (fun _ _=>trivial));(case aO=>exact (zz15 HO_3));(case aS=>exact (keep_size (w:=w) (g:=g) (row:=none) (zz28 HK)));(case aL=>exact (zz5 LMc39));intro v418 w41 ho hb hg hat;rw [← Ny417.out] at ho;replace HB:=A_ (below_weaken (zz29 HB HI0) HL.out hb);replace HI0:=A_ (IsS68.grown (zz27 HI0) hg (IsS68.own_ne HI0.out HO_3.out (by decide)));replace HK:=A_ (KeepBut.trans (zz28 HK) (KeepBut.of_grown hg g) (Kd.R_base2 HO_3.out));have HO419:=A_ (ho);clear HO_3;clear ho hb hg hat))
         go_roundg k1
         case measure=>have:=HK1.out;omega
         case rel=>exact ⟨(y417),(wrap64 (x4_1+1)),zz1,H',⟨(zz5 HK1)⟩,⟨(zz15 HO419)⟩,⟨(zz27 HI0)⟩,⟨(zz28 HK)⟩,⟨(zz29 HB HI0)⟩⟩
        ·simp only [Option.some.injEq,Prod.mk.injEq] at H
         obtain ⟨rfl,rfl⟩:=H;go_wp2
         go_ret
         exact ⟨_,zz6,(zz15 HO_3),(zz27 HI0),(zz29 HB HI0),(zz28 HK)⟩
def spec_l71Where.j0:Nat→List (S30)→Bool→List Int→Int→Option (ByteArray×Int)
 | 0,_,_,_,_=>none
 | k+1,x1,x12,x1000,x1001=>if x12=true then ((spec_l6Rd_pick.f k x1000 x1001 (x1.length:Int)).bind fun bt422=>(if 0≤bt422.1 then (if bt422.1 < (x1.length:Int) then (some ((rd_T30 x1 bt422.1).f0,bt422.2)) else (none)) else (none))) else ((spec_l71Addr.f k x1000 x1001).bind fun bt425=>(some (bt425.1,bt425.2)))
def spec_l71Where.f (k:Nat) (s0_0:List Int) (s0_1:Int) (l1:List (S30)):Option (ByteArray×Int):=if (l1.length:Int) > 0 then ((spec_l6Rd_pick.f k s0_0 s0_1 3).bind fun bt420=>(spec_l71Where.j0 k l1 (decide (bt420.1 > 0)) s0_0 bt420.2)) else (spec_l71Where.j0 k l1 false s0_0 s0_1)
theorem spec_l71Where.calls (k:Nat) (g:Nat) (s0_0:List Int) (s0_1:Int) (A1:Option Addr) (c1:Nat) (l1:List (S30)) (r1:ByteArray) (r2:Int) (w0 w:World) (hI:IsS68 w0 w g s0_0 s0_1) (hB:Below w0.heap.size w0 w) (hr1:∀ W_,KeepBut w W_ g none→Kd.C k30 W_ A1 l1.length l1) (hc1:l1.length≤c1) (h:spec_l71Where.f k s0_0 s0_1 l1=some (r1,r2)) :
  Calls Tryz.prog 21 #[.pointer (some ⟨g,0,none⟩),.slice A1 l1.length c1] w fun e w'=>e=.returned (.string r1)∧IsS68 w0 w' g s0_0 r2∧Below w0.heap.size w0 w'∧KeepBut w w' g none:=by
 have HR1:=A_ hr1;have HC1:=A_ hc1;clear hr1 hc1;have HI0:=A_ hI;have HK:=A_ (KeepBut.refl w g none);have HL:=A_ hB.size;clear hI;have HW0:=A_ hB.size;have HB:=A_ hB;clear hB;unfold spec_l71Where.f at h
 have H:=h;clear h;have HC3:=A_ H;clear H;go_enter Tryz.func21,Tryz.ntmps21;go_upto_region 1 with (fail)
 go_cut [12] (fun v12 wc=>∃ (kq:Nat) (x12_2:Bool) (x1001_2:Int),v12=.bool x12_2∧Aside0 (spec_l71Where.j0 kq l1 x12_2 s0_0 x1001_2=some (r1,r2))∧Aside0 (kq≤k)∧Aside0 (IsS68 w0 wc g s0_0 x1001_2)∧Aside0 (KeepBut w wc g none)∧Aside0 (Below w0.heap.size w0 wc))
 case first=>
  obtain ⟨H⟩:=HC3;replace H:=iteE H;rcases H with ⟨c4,H⟩|⟨c4,H⟩
  ·have c4b0:=gtT c4
   have c4b1:decide (0 < l1.length)=true:=dT (by omega);clear c4;(first|rw [c4b0]|(simp only [i64_w,i32_w];rw [c4b0])|skip)
   replace H:=bindA H;obtain ⟨⟨t420,t421⟩,A5,H⟩:=H;try dsimp only at H
   have H':=A_ H;clear H;go_wp2_with (first|(go_at_call 22;(with_reducible refine (spec_l6Rd_pick.calls k g s0_0 s0_1 3 t420 t421 w0 _ ?side1 ?side2 A5.out).mono ?_);(case side1=>exact (zz27 HI0));(case side2=>exact (zz29 HB HI0));rintro e w6 ⟨rfl,hi,hb,hk⟩;replace HK:=A_ (KeepBut.trans (zz28 HK) hk (.inl rfl));replace HB:=A_ (hb);replace HI0:=A_ (hi);(try clear hb hk hi)))
   go_meet
   case rel=>exact ⟨_,(decide (t420 > 0)),(t421),zz1,H',⟨zz7⟩,⟨(zz27 HI0)⟩,⟨(zz28 HK)⟩,⟨(zz29 HB HI0)⟩⟩
  ·have c4b0:=gtF c4
   have c4b1:decide (0 < l1.length)=false:=dF (by omega);clear c4;(first|rw [c4b0]|(simp only [i64_w,i32_w];rw [c4b0])|skip)
   have H':=A_ H;clear H;go_wp2
   go_meet
   case rel=>exact ⟨_,(false),(s0_1),zz1,H',⟨zz7⟩,⟨(zz27 HI0)⟩,⟨(zz28 HK)⟩,⟨(zz29 HB HI0)⟩⟩
 case rest=>
  clear HC3;obtain ⟨kq,x12_2,x1001_2,rfl,HA,HJ2,HI0,HK,HB⟩:=hcut;cases kq with
  | zero=>exact absurd HA.out (by simp [spec_l71Where.j0])
  | succ kj2=>
   obtain ⟨H⟩:=HA;simp only [spec_l71Where.j0] at H
   replace H:=iteB H;rcases H with ⟨rfl,H⟩|⟨rfl,H⟩
   ·replace H:=bindA H
    obtain ⟨⟨t422,t423⟩,A8,H⟩:=H;try dsimp only at H
    replace H:=iteNd H;obtain ⟨c9b0,H⟩:=H;replace H:=iteNd H;obtain ⟨c10b0,H⟩:=H;simp only [Option.some.injEq,Prod.mk.injEq] at H
    obtain ⟨rfl,rfl⟩:=H;go_wp2_with (first|(refine gR 22 (some 17) Tryz.func22 (spec_l6Rd_pick.calls kj2 g s0_0 x1001_2 (l1.length:Int) t422 t423 w0 _ ?side1 ?side2 A8.out) ?_;(case side1=>exact (zz27 HI0));(case side2=>exact (zz29 HB HI0));rintro w11 ⟨hi,hb,hk⟩;replace HK:=A_ (KeepBut.trans (zz28 HK) hk (.inl rfl));replace HB:=A_ (hb);replace HI0:=A_ (hi);(try clear hb hk hi);have p424:0≤(t422:Int):=ofD;have q424:t422 < (l1.length:Int):=ofD;obtain ⟨ad424,e424,hx424_0,hx424_1,hx424_2,hx424_3⟩:=at_T30 (Kd.C_foot_now HR1.out HK.out) t422 p424 q424;cases e424;replace p424:=eq_true p424;replace q424:=eq_true q424))
    go_ret
    exact ⟨zz6,(zz27 HI0),(zz29 HB HI0),(zz28 HK)⟩
   ·replace H:=bindA H
    obtain ⟨⟨t425,t426⟩,A12,H⟩:=H;try dsimp only at H
    simp only [Option.some.injEq,Prod.mk.injEq] at H
    obtain ⟨rfl,rfl⟩:=H;go_wp2_with (first|(refine gR 43 (some 22) Tryz.func43 (spec_l71Addr.calls kj2 g s0_0 x1001_2 t425 t426 w0 _ ?side1 ?side2 A12.out) ?_;(case side1=>exact (zz27 HI0));(case side2=>exact (zz29 HB HI0));rintro w13 ⟨hi,hb,hk⟩;replace HK:=A_ (KeepBut.trans (zz28 HK) hk (.inl rfl));replace HB:=A_ (hb);replace HI0:=A_ (hi);(try clear hb hk hi)))
    go_ret
    exact ⟨zz6,(zz27 HI0),(zz29 HB HI0),(zz28 HK)⟩
def spec_DrawWorldFrom.f (k:Nat) (l0:List Int):Option ((List (S30))×ByteArray):=(spec_l6Open.f l0).bind fun bt731=>((spec_l71Off.f k bt731.1 bt731.2).bind fun bt734=>((spec_l71Where.f k bt731.1 bt734.2 bt734.1).bind fun bt738=>(some (bt734.1,bt738.1))))
theorem spec_DrawWorldFrom.calls (k:Nat) (A0:Option Addr) (c0:Nat) (l0:List Int) (r1:List (S30)) (r2:ByteArray) (w:World) (hr0:Kd.C (Kd.int .u8) w A0 l0.length l0) (hc0:l0.length≤c0) (h:spec_DrawWorldFrom.f k l0=some (r1,r2)) :
  Calls Tryz.prog 11 #[.slice A0 l0.length c0] w fun e w'=>∃ v0_:Value,e=.returned (.tuple #[v0_,.string r2])∧Kd.R k30 30 w' w.heap.size (fun _=>True) v0_ r1∧Below w.heap.size w w':=by
 have HR0:=A_ hr0;have HC0:=A_ hc0;clear hr0 hc0;have HB:=A_ (Below.refl w.heap.size w);unfold spec_DrawWorldFrom.f at h
 have H:=h;clear h;replace H:=bindA H;obtain ⟨⟨t731,t732⟩,A2,H⟩:=H;try dsimp only at H
 replace H:=bindA H;obtain ⟨⟨t734,t737⟩,A3,H⟩:=H;try dsimp only at H
 replace H:=bindA H;obtain ⟨⟨t738,t739⟩,A4,H⟩:=H;try dsimp only at H
 simp only [Option.some.injEq,Prod.mk.injEq] at H
 obtain ⟨rfl,rfl⟩:=H;go_enter Tryz.func11,Tryz.ntmps11;go_wp2_with (first|(refine gV 19 (some 7) Tryz.func19 (spec_l6Open.calls _ _ l0 t731 t732 w _ ?side1 ?side2 ?side3 A2.out) ?_;(case side1=>exact (zz0 HB));(case side2=>exact HR0.out);(case side3=>exact HC0.out);rintro g733 w5 ⟨hi,hb,hb2⟩;replace HB:=A_ (hb);have HI733:=A_ (hi);(try clear hb hb2 hi))|(refine gV 20 (some 9) Tryz.func20 (spec_l71Off.calls k g733 t731 t732 t734 t737 w _ ?side1 ?side2 A3.out) ?_;(case side1=>exact (zz27 HI733));(case side2=>exact (zz29 HB HI733));rintro v735 w6 ⟨ho0,hi,hb,hk⟩;have HO736:=A_ (Kd.R_lower ho0 (below_size (zz29 HB HI733)));replace HB:=A_ (hb);replace HI733:=A_ (hi);(try clear hb hk hi ho0);obtain ⟨Ao7,co7,eo7⟩:=Kd.R_slice HO736.out;subst eo7)|((with_reducible refine gC (f:=21) rfl ?_);refine gsL (some 13) Tryz.func21 #[.pointer (some ⟨g733,0,none⟩),.slice Ao7 t734.length co7] ?_;(with_reducible refine (spec_l71Where.calls k g733 t731 t737 _ _ t734 t738 t739 w _ ?side1 ?side2 ?side3 ?side4 A4.out).mono ?_);(case side1=>exact (zz27 HI733));(case side2=>exact (zz29 HB HI733));(case side3=>exact Kd.C_foot_own (IsS68.apart (show IsS68 w _ g733 t731 t737 from (zz27 HI733)) (zz15 HO736) (by decide)) (fun _ h_=>h_.2));(case side4=>exact (Kd.R_reads' HO736.out).2.1);rintro e w8 ⟨rfl,hi,hb,hk⟩;refine ⟨_,rfl,?_⟩;replace HO736:=A_ (Kd.R_mono (Kd.R_keep (IsS68.apart (show IsS68 w _ g733 t731 t737 from (zz27 HI733)) (zz15 HO736) (by decide)) hk (fun _ h=>h.2)) (fun _ h=>h.1));replace HB:=A_ (hb);replace HI733:=A_ (hi);(try clear hb hk hi)))
 go_ret2
 exact ⟨_,zz6,(zz15 HO736),(zz29 HB HI733)⟩
end Go.Proofs.YtpomhjkbgbociaaGreatDoor.P
end
section
namespace Go.Proofs.YtpomhjkbgbociaaGreatDoor.B
open Go.RowKit Go.Proofs.YtpomhjkbgbociaaGreatDoorW.PrintWords Go.Proofs.YtpomhjkbgbociaaGreatDoorW.PrintLast Go.Proofs.YtpomhjkbgbociaaGreatDoorW.PrintMore
set_option linter.unusedVariables false
set_option linter.unusedSimpArgs false
theorem w64 {n:Int} (h0:-9223372036854775808≤n) (h1:n < 9223372036854775808):wrap64 n=n:=by
 unfold wrap64;omega
theorem tmod_nn {a b:Int} (h0:0≤a) (h1:0 < b):0≤Int.tmod a b∧Int.tmod a b < b:=
 ⟨Int.tmod_nonneg _ h0,Int.tmod_lt_of_pos _ h1⟩
theorem tdiv_nn {a b:Int} (h0:0≤a) (h1:0 < b):0≤Int.tdiv a b∧Int.tdiv a b≤a:=by
 rw [Int.tdiv_eq_ediv_of_nonneg h0]
 exact ⟨Int.ediv_nonneg h0 (by omega),Int.ediv_le_self _ h0⟩
theorem xor_nn {a b:Int} (h0:0≤a) (h1:a < 2 ^ 62) (h2:0≤b) (h3:b < 2 ^ 62) :
  0≤Go.bits .xor .i64 a b∧Go.bits .xor .i64 a b < 2 ^ 62:=by
 obtain ⟨x,rfl⟩:=Int.eq_ofNat_of_zero_le h0
 obtain ⟨y,rfl⟩:=Int.eq_ofNat_of_zero_le h2
 have hx:x < 2 ^ 62:=by exact_mod_cast h1
 have hy:y < 2 ^ 62:=by exact_mod_cast h3
 have hx':x % 2 ^ IntKind.i64.bits=x:=Nat.mod_eq_of_lt (Nat.lt_of_lt_of_le hx (by decide))
 have hy':y % 2 ^ IntKind.i64.bits=y:=Nat.mod_eq_of_lt (Nat.lt_of_lt_of_le hy (by decide))
 have hz:x ^^^ y < 2 ^ 62:=Nat.xor_lt_two_pow hx hy
 have e:Go.bits .xor .i64 (x:Int) (y:Int)=((x ^^^ y:Nat):Int):=by
  simp only [Go.bits,BitVec.ofInt_natCast,BitVec.toNat_xor,BitVec.toNat_ofNat,hx',hy']
  rw [IntKind.wrap_i64]
  have:((x ^^^ y:Nat):Int) < 2 ^ 62:=by exact_mod_cast hz
  omega
 rw [e]
 exact ⟨Int.natCast_nonneg _,by exact_mod_cast hz⟩
theorem rd_byte {b:List Int} (hb:∀ x ∈ b,0≤x∧x≤255) (i:Int):0≤rd b i∧rd b i≤255:=by
 unfold rd
 rw [List.getD_eq_getElem?_getD]
 cases h:b[i.toNat]? with
 | none=>simp
 | some v=>simpa using hb v (List.mem_of_getElem? h)
theorem wf_u8 {x:Int} (h:(Lit.int .u8 x).wf=true):0≤x∧x≤255:=by
 simp [Lit.wf,IntKind.min,IntKind.max,IntKind.signed,IntKind.bits] at h
 omega
abbrev L (s:ByteArray):List UInt8:=s.data.toList
theorem L_size (s:ByteArray):(L s).length=s.size:=(Lib.size_eq s).symm
theorem L_app (a b:ByteArray):L (a++b)=L a++L b:=by simp [L]
theorem L_ext (s:ByteArray) (a b:Nat):L (s.extract a b)=((L s).drop a).take (b - a):=Lib.extract_data s a b
theorem L_inj {a b:ByteArray} (h:L a=L b):a=b:=by
 cases a;cases b;congr 1;exact Array.toList_inj.1 h
theorem toList_inj {a b:ByteArray}:a.toList=b.toList↔a=b:=by
 rw [Lib.toList_data,Lib.toList_data];exact ⟨fun h=>L_inj h,fun h=>by rw [h]⟩
theorem toList_nil {a:ByteArray}:a.toList=([]:List UInt8)↔a.size=0:=by
 rw [Lib.toList_data,Lib.size_eq];exact List.length_eq_zero_iff.symm
theorem bt_L (s:ByteArray) (i:Nat):bt s i=(((L s).getD i 0).toNat:Int):=by
 unfold bt
 simp only [Int.toNat_natCast]
 split
 ·rename_i h
  rw [List.getD_eq_getElem?_getD,List.getElem?_eq_getElem (by rw [L_size];exact h)]
  simp [L]
  rfl
 ·rename_i h
  rw [List.getD_eq_getElem?_getD,List.getElem?_eq_none (by rw [L_size];omega)]
  rfl
theorem Ev_succ {α:Type} {g:Nat→Option α} {r:α} (h:Ev (fun k=>g (k+1)) r):Ev g r:=Ev.step (f:=fun k=>g (k+1)) (fun _=>rfl) h
end Go.Proofs.YtpomhjkbgbociaaGreatDoor.B
end
section
namespace Go.Proofs.YtpomhjkbgbociaaGreatDoor.Ad
open Go.RowKit Go.Proofs.YtpomhjkbgbociaaGreatDoorW.PrintWords Go.Proofs.YtpomhjkbgbociaaGreatDoor.B
set_option linter.unusedVariables false
set_option linter.unusedSimpArgs false
abbrev ofL (l:List UInt8):ByteArray:=⟨l.toArray⟩
theorem L_of (l:List UInt8):L (ofL l)=l:=by simp [L]
theorem of_L (s:ByteArray):ofL (L s)=s:=by apply L_inj;simp [L]
theorem ofL_app (a b:List UInt8):ofL (a++b)=ofL a++ofL b:=by apply L_inj;rw [L_of,L_app,L_of,L_of]
theorem ofL_size (l:List UInt8):(ofL l).size=l.length:=by rw [← L_size,L_of]
def plainB (c:UInt8):Bool:=(decide (97≤c.toNat) && decide (c.toNat≤122)) || (decide (48≤c.toNat) && decide (c.toNat≤57)) || c.toNat == 46 || c.toNat == 45
def hexN (c:UInt8):Option Nat:=
 if 48≤c.toNat∧c.toNat≤57 then some (c.toNat - 48) else if 97≤c.toNat∧c.toNat≤102 then some (c.toNat - 87) else if 65≤c.toNat∧c.toNat≤70 then some (c.toNat - 55) else none
theorem hexN_lt {c:UInt8} {x:Nat} (h:hexN c=some x):x < 16:=by
 unfold hexN at h
 split at h
 ·injection h;omega
 ·split at h
  ·injection h;omega
  ·split at h
   ·injection h;omega
   ·cases h
def fig (n:Nat):UInt8:=if n < 10 then UInt8.ofNat (48+n) else UInt8.ofNat (55+n)
def encN (n:Nat):List UInt8:=if plainB (UInt8.ofNat n) then [UInt8.ofNat n] else [37,fig (n / 16),fig (n % 16)]
theorem encN_len (n:Nat):(encN n).length≤3:=by unfold encN;split <;> simp
def esc:List UInt8→Option (List UInt8)
 | []=>some []
 | c :: r=>if c=37 then (match r with
   | a :: b :: q=>(match hexN a,hexN b with
    | some x,some y=>(esc q).map (encN (x * 16+y)++·)
    | _,_=>none)
   | _=>none) else (esc r).map (encN c.toNat++·)
theorem esc_short {r:List UInt8} (h:r.length≤1):esc (37 :: r)=none:=by
 match r,h with
 | [],_=>simp [esc]
 | [_],_=>simp [esc]
 | _ :: _ :: _,h=>simp at h
theorem esc_bad1 {a:UInt8} (b:UInt8) (q:List UInt8) (h:hexN a=none):esc (37 :: a :: b :: q)=none:=by simp [esc,h]
theorem esc_bad2 (a:UInt8) {b:UInt8} (q:List UInt8) (h:hexN b=none):esc (37 :: a :: b :: q)=none:=by
 cases ha:hexN a <;> simp [esc,h,ha]
theorem esc_sign {a b:UInt8} {x y:Nat} (q:List UInt8) (ha:hexN a=some x) (hb:hexN b=some y):esc (37 :: a :: b :: q)=(esc q).map (encN (x * 16+y)++·):=by simp [esc,ha,hb]
theorem esc_plain {c:UInt8} (r:List UInt8) (h:c≠37):esc (c :: r)=(esc r).map (encN c.toNat++·):=by rw [esc.eq_def];exact if_neg h
def escO (o:Option (List UInt8)):ByteArray×Bool:=match o with
 | some r=>(ofL r,true)
 | none=>(⟨#[]⟩,false)
def escNorm (s:ByteArray):ByteArray×Bool:=if s.size > 60 then (⟨#[]⟩,false) else escO (esc (L s))
def isNorm (s:ByteArray):Bool:=(escNorm s).2 && ((escNorm s).1.toList == s.toList)
theorem esc_len (n:Nat):∀ (l r:List UInt8),l.length≤n→esc l=some r→r.length≤3 * l.length:=by
 induction n with
 | zero=>
  intro l r hl h
  obtain rfl:l=[]:=List.length_eq_zero_iff.1 (by omega)
  simp [esc] at h
  subst h
  simp
 | succ n ih=>
  intro l r hl h
  match l,hl,h with
  | [],_,h=>simp [esc] at h;subst h;simp
  | c :: q,hl,h=>
   unfold esc at h
   split at h
   ·match q,hl,h with
    | a :: b :: q',hl,h=>
     simp only at h
     split at h
     ·obtain ⟨t,ht,rfl⟩:=Option.map_eq_some_iff.1 h
      have:=ih q' t (by simp at hl;omega) ht
      exact Nat.le_trans (by rw [List.length_append];exact Nat.add_le_add (encN_len _) this) (by simp only [List.length_cons];omega)
     ·cases h
    | [],_,h=>simp at h
    | [_],_,h=>simp at h
   ·obtain ⟨t,ht,rfl⟩:=Option.map_eq_some_iff.1 h
    have:=ih q t (by simp at hl;omega) ht
    exact Nat.le_trans (by rw [List.length_append];exact Nat.add_le_add (encN_len _) this) (by simp only [List.length_cons];omega)
theorem escNorm_size (s:ByteArray):(escNorm s).1.size≤180:=by
 unfold escNorm
 split
 ·exact Nat.zero_le _
 ·unfold escO
  split
  ·rename_i h1 _ r h
   have:=esc_len _ _ _ (Nat.le_refl _) h
   rw [ofL_size]
   rw [L_size] at this
   omega
  ·exact Nat.zero_le _
def body:List ByteArray→ByteArray
 | []=>⟨#[47]⟩
 | p :: r=>r.foldl (fun a q=>(a++⟨#[47]⟩)++q) ((⟨#[47]⟩:ByteArray)++p)
def pathB (parts:List ByteArray) (asks:Bool) (ask:ByteArray):ByteArray:=if asks=true then (body parts++⟨#[63]⟩)++ask else body parts
def textB (house:ByteArray) (parts:List ByteArray) (asks:Bool) (ask:ByteArray):ByteArray:=((⟨#[47,47]⟩:ByteArray)++house)++pathB parts asks ask
def partOk (p:ByteArray):Bool:=isNorm p && !(p.toList == []) && !(p.toList == [46]) && !(p.toList == [46,46])
def smallFrom (s:ByteArray):Nat→Nat→Bool
 | 0,_=>true
 | d+1,i=>if bt s i < 97 then false else if bt s i > 122 then false else smallFrom s d (i+1)
def isSmall (s:ByteArray):Bool:=smallFrom s s.size 0
def isHouse (s:ByteArray):Bool:=decide (1≤s.size) && decide (s.size≤5) && isSmall s
def addrOk (house:ByteArray) (parts:List ByteArray) (asks:Bool) (ask:ByteArray):Bool:=
 isHouse house && decide (parts.length≤5) && isNorm ask && (asks || ask.toList == []) && parts.all partOk && decide ((textB house parts asks ask).size≤60)
def addrText (house:ByteArray) (parts:List ByteArray) (asks:Bool) (ask:ByteArray):ByteArray:=if addrOk house parts asks ask=true then textB house parts asks ask else ⟨#[]⟩
theorem isNorm_size {s:ByteArray} (h:isNorm s=true):s.size≤60:=by
 unfold isNorm escNorm at h
 split at h
 ·simp at h
 ·omega
def sm (b:UInt8):UInt8:=if 65≤b.toNat∧b.toNat≤90 then b+32 else b
def smallB (s:ByteArray):ByteArray:=ofL ((L s).map sm)
end Go.Proofs.YtpomhjkbgbociaaGreatDoor.Ad
end
section
namespace Go.Proofs.YtpomhjkbgbociaaGreatDoor.P
open Go.RowKit Go.Proofs.YtpomhjkbgbociaaGreatDoorW.PrintWords Go.Proofs.YtpomhjkbgbociaaGreatDoorW.PrintLast Go.Proofs.YtpomhjkbgbociaaGreatDoorW.PrintMore Go.Proofs.YtpomhjkbgbociaaGreatDoor.B Go.Proofs.YtpomhjkbgbociaaGreatDoor.Ad
set_option linter.unusedVariables false
set_option linter.unusedSimpArgs false
def SmRow (b:Nat) (s:ByteArray) (i:Nat) (w:World):Prop:=
 b < w.heap.size∧∀ j,j < s.size→w.cell? ⟨b,j,none⟩=some (.int .u8 ((if j < i then sm ((L s).getD j 0) else (L s).getD j 0).toNat:Nat))∧w.frozen? ⟨b,j,none⟩=false
theorem sm_start (w:World) (e:TypeId) (s:ByteArray):SmRow w.heap.size s 0 (Lib.bytesWorld w e s):=by
 refine ⟨by rw [Lib.bytesWorld_size];omega,fun j hj=>⟨?_,?_⟩⟩
 ·rw [Lib.bytesWorld_cell w e s j hj];simp [L]
 ·have hk:s.size≤(Lib.bytesCells w e s).size:=by rw [Lib.bytesCells];simp
  simp only [World.frozen?,Lib.bytesWorld_at_new]
  simp
  omega
theorem sm_below (w:World) (e:TypeId) (s:ByteArray):Below w.heap.size w (Lib.bytesWorld w e s):=by
 refine ⟨rfl,rfl,rfl,by rw [Lib.bytesWorld_size];omega,fun j hj=>Lib.bytesWorld_at_old w e s j hj⟩
theorem sm_set {b:Nat} {s:ByteArray} {i:Nat} {w:World} (h:SmRow b s i w) (hi:i < s.size):SmRow b s (i+1) (w.setCell ⟨b,i,none⟩ (.int .u8 ((sm ((L s).getD i 0)).toNat:Nat))):=by
 refine ⟨by rw [size_set];exact h.1,fun j hj=>⟨?_,by rw [World.frozen?_setCell];exact (h.2 j hj).2⟩⟩
 rcases Nat.lt_trichotomy j i with h1|h1|h1
 ·rw [World.cell?_setCell_other _ _ _ _ (by intro e;injection e with _ e;omega),(h.2 j hj).1,if_pos h1,if_pos (by omega)]
 ·subst h1;rw [World.cell?_setCell_same _ _ _ (h.2 j hj).1,if_pos (by omega)]
 ·rw [World.cell?_setCell_other _ _ _ _ (by intro e;injection e with _ e;omega),(h.2 j hj).1,if_neg (by omega),if_neg (by omega)]
theorem sm_skip {b:Nat} {s:ByteArray} {i:Nat} {w:World} (h:SmRow b s i w) (hi:i < s.size) (he:sm ((L s).getD i 0)=(L s).getD i 0):SmRow b s (i+1) w:=by
 refine ⟨h.1,fun j hj=>⟨?_,(h.2 j hj).2⟩⟩
 rw [(h.2 j hj).1]
 rcases Nat.lt_trichotomy j i with h1|h1|h1
 ·rw [if_pos h1,if_pos (by omega)]
 ·subst h1;rw [if_neg (by omega),if_pos (by omega),he]
 ·rw [if_neg (by omega),if_neg (by omega)]
end Go.Proofs.YtpomhjkbgbociaaGreatDoor.P
end
section
namespace Go.Proofs.YtpomhjkbgbociaaGreatDoor.P
open Go.RowKit Go.Proofs.YtpomhjkbgbociaaGreatDoorW.PrintWords Go.Proofs.YtpomhjkbgbociaaGreatDoorW.PrintLast Go.Proofs.YtpomhjkbgbociaaGreatDoorW.PrintMore Go.Proofs.YtpomhjkbgbociaaGreatDoor.B Go.Proofs.YtpomhjkbgbociaaGreatDoor.Ad
set_option linter.unusedVariables false
set_option linter.unusedSimpArgs false
set_option maxHeartbeats 8000000
set_option maxRecDepth 100000
def stringslite_Index.f (a0:ByteArray) (a1:ByteArray):Option (Int):=match L a1 with
 | [c]=>some (Lib.indexByte (L a0) c)
 | _=>none
theorem one_of_L {a:ByteArray} {c:UInt8} (h:L a=[c]):a=⟨#[c]⟩:=L_inj (by rw [h])
theorem stringslite_Index.calls (a0:ByteArray) (a1:ByteArray) (r:Int) (w:World) (h:stringslite_Index.f a0 a1=some r) :
  Calls Tryz.prog 78 #[.string a0,.string a1] w fun e w'=>e=.returned (.int .i64 r)∧Below w.heap.size w w':=by
 unfold stringslite_Index.f at h
 split at h
 ·rename_i c hc
  obtain rfl:=sI h;obtain rfl:=one_of_L hc;exact (Tryz.stringslite_Index_one a0 c w).mono fun e w' ⟨he,hw⟩=>⟨he,hw ▸ Below.refl _ _⟩
 ·cases h
def strings_Count.f (a0:ByteArray) (a1:ByteArray):Option (Int):=match L a1 with
 | [c]=>some (Lib.countByte (L a0) c)
 | _=>none
theorem strings_Count.calls (a0:ByteArray) (a1:ByteArray) (r:Int) (w:World) (h:strings_Count.f a0 a1=some r) :
  Calls Tryz.prog 126 #[.string a0,.string a1] w fun e w'=>e=.returned (.int .i64 r)∧Below w.heap.size w w':=by
 unfold strings_Count.f at h
 split at h
 ·rename_i c hc
  obtain rfl:=sI h;obtain rfl:=one_of_L hc;exact (Tryz.strings_Count_one a0 c w).mono fun e w' ⟨he,hw⟩=>⟨he,hw ▸ Below.refl _ _⟩
 ·cases h
theorem row_at {w:World} {A:Option Addr} {xs:List ByteArray} (h:Kd.C Kd.string w A xs.length xs) (hn:0 < xs.length) :
  ∃ bk o,A=some ⟨bk,o,none⟩∧bk < w.heap.size∧∀ (j:Nat) x,xs[j]?=some x→w.cell? ⟨bk,o+j,none⟩=some (.string x):=by
 obtain ⟨_,_,h3⟩:=h;obtain ⟨ad,rfl,hc⟩:=h3 hn;have cells:∀ (j:Nat) x,xs[j]?=some x→w.cell? (ad.add j)=some (.string x):=by
  intro j x hx;obtain ⟨c,hl,hk,hcell⟩:=hc j x hx;have hk':c=[Value.string x]:=hk;subst hk';have:=hcell 0 (.string x) rfl;rw [show j * Kd.string.sz+0=j from (by show j * 1+0=j;omega)] at this;exact this
 have h0:=cells 0 xs[0] (List.getElem?_eq_getElem hn);obtain ⟨bk,o,sp⟩:=ad;have h0':w.cell? ⟨bk,o,sp⟩=some (.string xs[0]):=h0;have hsp:sp=none:=by
  cases sp with
  | none=>rfl
  | some y=>
   unfold World.cell? at h0'
   simp at h0'
   split at h0' <;> simp at h0'
 subst hsp;refine ⟨bk,o,rfl,?_,fun j x hx=>?_⟩
 ·rcases Nat.lt_or_ge bk w.heap.size with h|h
  ·exact h
  ·unfold World.cell? at h0'
   simp [Array.getElem?_eq_none h] at h0'
 ·have:=cells j x hx
  unfold Addr.add at this
  split at this
  ·rename_i hj;subst hj;exact this
  ·exact this
def strings_Join.f (l0:List ByteArray) (a1:ByteArray):Option (ByteArray):=
 if l0.length≤140737488355328∧(Lib.join (l0.map L) (L a1)).length≤140737488355328 then some (ofL (Lib.join (l0.map L) (L a1))) else none
theorem strings_Join.calls (A0:Option Addr) (c0:Nat) (l0:List ByteArray) (a1:ByteArray) (r:ByteArray) (w:World) (hr0:Kd.C Kd.string w A0 l0.length l0) (hc0:l0.length≤c0) (h:strings_Join.f l0 a1=some r) :
  Calls Tryz.prog 92 #[.slice A0 l0.length c0,.string a1] w fun e w'=>e=.returned (.string r)∧Below w.heap.size w w':=by
 unfold strings_Join.f at h
 split at h
 ·rename_i hh
  obtain rfl:=sI h;rcases Nat.eq_zero_or_pos l0.length with h0|h0
  ·obtain rfl:l0=[]:=List.length_eq_zero_iff.1 h0
   exact (Tryz.strings_Join_none A0 c0 a1 w).mono fun e w' ⟨he,hw⟩=>⟨he,hw ▸ Below.refl _ _⟩
  ·obtain ⟨bk,o,rfl,hb,hcells⟩:=row_at hr0 h0
   exact Tryz.strings_Join bk o c0 l0 a1 w hcells hb hh.1 hc0 hh.2
 ·cases h
def slices_Clone_string_string.f (l0:List ByteArray):Option (List ByteArray):=if l0.length * 16≤140737488355328 then some l0 else none
theorem slices_Clone_string_string.calls (A0:Option Addr) (c0:Nat) (l0:List ByteArray) (r:List ByteArray) (w:World) (hr0:Kd.C Kd.string w A0 l0.length l0) (hc0:l0.length≤c0) (h:slices_Clone_string_string.f l0=some r) :
  Calls Tryz.prog 62 #[.slice A0 l0.length c0] w fun e w'=>∃ v0_:Value,e=.returned (v0_)∧Kd.R Kd.string 9 w' w.heap.size (fun _=>True) v0_ r∧Below w.heap.size w w':=by
 unfold slices_Clone_string_string.f at h
 split at h
 ·rename_i hh
  obtain rfl:=sI h;rcases Nat.eq_zero_or_pos l0.length with h0|h0
  ·obtain rfl:l0=[]:=List.length_eq_zero_iff.1 h0
   cases A0 with
   | none=>exact (Tryz.slices_Clone_string_nil 0 c0 w).mono fun e w' ⟨he,hw⟩=>⟨_,he,Kd.R_nil _ _ _ _ _,hw ▸ Below.refl _ _⟩
   | some a=>exact (Tryz.slices_Clone_string_zero a c0 w).mono fun e w' ⟨v,he,ho,_,hb⟩=>⟨v,he,Kd.R_of_own ho (fun _ _=>trivial),hb⟩
  ·obtain ⟨bk,o,rfl,hb,hcells⟩:=row_at hr0 h0
   refine (Tryz.slices_Clone_string bk o l0.length c0 l0 w (Nat.le_refl _) hh (fun j hj=>?_)).mono fun e w' ⟨v,he,ho,_,hb'⟩=>⟨v,he,Kd.R_of_own ?_ (fun _ _=>trivial),hb'⟩
   ·rw [List.getD_eq_getElem?_getD,List.getElem?_eq_getElem hj]
    exact hcells j _ (List.getElem?_eq_getElem hj)
   ·rw [List.take_length] at ho
    exact ho
 ·cases h
def sq:ByteArray:=⟨#[47,63]⟩
theorem sq_at:sq.size=2∧(∀ h:0 < sq.size,(sq[0]'h).toNat=47)∧(∀ h:1 < sq.size,(sq[1]'h).toNat=63):=by decide +kernel
theorem valid_same (r:Int):Utf8.valid r=Lib.validRune r:=by
 unfold Utf8.valid Lib.validRune
 rw [Bool.eq_iff_iff];simp only [Bool.or_eq_true,Bool.and_eq_true,decide_eq_true_eq]
 omega
theorem decode_skip (s:ByteArray) (pos:Nat) (h:pos < s.size) (ha:128≤(s[pos]'h).toNat) :
  pos+(Utf8.decode s pos).2≤s.size∧∀ j,pos≤j→j < pos+(Utf8.decode s pos).2→∀ hj:j < s.size,128≤(s[j]'hj).toNat:=by
 have hn:¬ (s[pos]'h).toNat < 128:=by omega
 have one:pos+1≤s.size∧∀ j,pos≤j→j < pos+1→∀ hj:j < s.size,128≤(s[j]'hj).toNat:=by
  refine ⟨h,fun j h1 h2 hj=>?_⟩;obtain rfl:j=pos:=by omega
  exact ha
 have cont:∀ k,(decide (pos+k < s.size) && ((s.get! (pos+k)).toNat / 64 == 2))=true→pos+k < s.size∧∀ hj:pos+k < s.size,128≤(s[pos+k]'hj).toNat:=by
  intro k hk;simp only [Bool.and_eq_true,decide_eq_true_eq,beq_iff_eq] at hk
  refine ⟨hk.1,fun hj=>?_⟩;have e:=get_at s (pos+k) hj;rw [Nat.add_zero] at e;rw [e] at hk;omega
 simp only [Utf8.decode,get_at s pos h,hn,if_false]
 split
 ·rename_i h1
  simp only [Bool.and_eq_true] at h1
  obtain ⟨l1,b1⟩:=cont 1 (by simpa using h1.2);split
  ·refine ⟨(by show pos+2≤_;omega),fun j h2 h3 hj=>?_⟩
   have h3':j < pos+2:=h3;rcases (by omega:j=pos∨j=pos+1) with e|e
   ·subst e;exact ha
   ·subst e;exact b1 hj
  ·exact one
 ·split
  ·rename_i _ h1
   simp only [Bool.and_eq_true] at h1
   obtain ⟨l1,b1⟩:=cont 1 (by simpa using h1.1.2);obtain ⟨l2,b2⟩:=cont 2 (by simpa using h1.2);split
   ·refine ⟨(by show pos+3≤_;omega),fun j h2 h3 hj=>?_⟩
    have h3':j < pos+3:=h3;rcases (by omega:j=pos∨j=pos+1∨j=pos+2) with e|e|e
    ·subst e;exact ha
    ·subst e;exact b1 hj
    ·subst e;exact b2 hj
   ·exact one
  ·split
   ·rename_i _ _ h1
    simp only [Bool.and_eq_true] at h1
    obtain ⟨l1,b1⟩:=cont 1 (by simpa using h1.1.1.2);obtain ⟨l2,b2⟩:=cont 2 (by simpa using h1.1.2);obtain ⟨l3,b3⟩:=cont 3 (by simpa using h1.2);split
    ·refine ⟨(by show pos+4≤_;omega),fun j h2 h3 hj=>?_⟩
     have h3':j < pos+4:=h3;rcases (by omega:j=pos∨j=pos+1∨j=pos+2∨j=pos+3) with e|e|e|e
     ·subst e;exact ha
     ·subst e;exact b1 hj
     ·subst e;exact b2 hj
     ·subst e;exact b3 hj
    ·exact one
   ·exact one
theorem noAny_skip {s:ByteArray} {pos n:Nat} (h:Lib.NoAny (L s) (L sq) pos) (hb:∀ j,pos≤j→j < pos+n→∀ hj:j < s.size,128≤(s[j]'hj).toNat):Lib.NoAny (L s) (L sq) (pos+n):=by
 intro j b hj hx;rcases Nat.lt_or_ge j pos with hlt|hge
 ·exact h j b hlt hx
 ·obtain ⟨hl,he⟩:=List.getElem?_eq_some_iff.1 hx
  have hjs:j < s.size:=by rw [← L_size];exact hl
  have h1:=hb j hge hj hjs;have h2:(s[j]'hjs)=b:=by rw [← he];rfl
  rw [h2] at h1;have:L sq=[47,63]:=rfl;rw [this];simp only [List.contains_cons,List.contains_nil,Bool.or_false,Bool.or_eq_false_iff,beq_eq_false_iff_ne]
  constructor
  ·rintro rfl;exact absurd h1 (by decide)
  ·rintro rfl;exact absurd h1 (by decide)
theorem indexRune_far (r:Int) (w:World) (h0:128≤r) (h1:r≤2147483647) :
  Calls Tryz.prog 80 #[.string sq,.int .i32 r] w fun e w'=>e=.returned (.int .i64 (-1))∧Below w.heap.size w w':=by
 have g0:decide (0≤r)=true:=dT (by omega);have g1:decide (r < 128)=false:=dF (by omega);obtain ⟨hsz,hs0,hs1⟩:=sq_at;by_cases hr:r=65533
 ·subst hr
  have n0:=fun ty=>run_next_ascii (P:=Tryz.prog) w sq 0 ty (by rw [hsz];decide) (by rw [hs0];decide)
  have n1:=fun ty=>run_next_ascii (P:=Tryz.prog) w sq 1 ty (by rw [hsz];decide) (by rw [hs1];decide)
  rw [hs0] at n0;rw [hs1] at n1;have n2:=fun ty=>run_next_end (P:=Tryz.prog) w sq 2 ty (by rw [hsz];decide)
  clear hsz hs0 hs1 h0 h1 g0 g1;go_enter Tryz.func80,Tryz.ntmps80;go_wp2
  go_loopg [5,6] 2 (fun g _ _ wx=>∃ i:Nat,i+g=2∧wx=w.iter sq i)
  case atStart=>exact ⟨0,by omega,rfl⟩
  case round=>
   obtain ⟨i,hig,rfl⟩:=hrel;cases gk with
   | zero=>
    obtain rfl:i=2:=by omega
    go_wp2
    go_ret
    exact ⟨rfl,(Below.refl _ _).alloc (Nat.le_refl _) _⟩
   | succ g=>
    rcases (by omega:i=0∨i=1) with e|e
    ·subst e
     go_wp2
     go_roundg g
     case measure=>omega
     case rel=>exact ⟨1,by omega,rfl⟩
    ·subst e
     go_wp2
     go_roundg g
     case measure=>omega
     case rel=>exact ⟨2,by omega,rfl⟩
 ·have g2:(r == 65533)=false:=by simp [hr]
  cases hv:Lib.validRune r with
  | false=>
   go_enter Tryz.func80,Tryz.ntmps80;go_wp2_with (go_at_call 109;refine (Tryz.utf8_ValidRune _ _).mono ?_;rintro e w' ⟨rfl,hw⟩;rw [hw,hv])
   go_ret
   exact ⟨rfl,Below.refl _ _⟩
  | true=>
   obtain ⟨e1,e2,e3⟩:=encode_facts r (by rw [valid_same];exact hv) h0;go_enter Tryz.func80,Tryz.ntmps80;go_wp2_with (go_at_call 109;refine (Tryz.utf8_ValidRune _ _).mono ?_;rintro e w' ⟨rfl,hw⟩;rw [hw,hv])
   go_step3
   go_wp2
   generalize Utf8.encode r=nd at e1 e2 e3 ⊢;refine wp_loop_rounds 1 ?_;rw [rounds_succ];by_cases hn:nd.size=2
   ·obtain ⟨x,hx⟩:∃ x:UInt8,∀ h:1 < nd.size,nd[1]'h=x:=⟨nd[1]'(by omega),fun _=>rfl⟩
    have hx1:128≤x.toNat:=by
     have:=e3 (by omega);simp only [hn] at this
     rw [← hx (by omega)];exact this
    clear e3;have hne:((63:Int) != (x.toNat:Int))=true:=by simp;omega
    have hnz:((nd.size:Nat):Int) - 1=1:=by omega
    rw [hnz];have HN:=A_ hn;have hlt:(1:Int) < (nd.size:Int):=by omega
    clear hn hnz e1 e2;have hs1':=hs1 (by rw [hsz];decide);have hi1:(1:Int) < (sq.size:Int):=by rw [hsz];decide
    have hs2:(2:Int)≤(sq.size:Int):=by rw [hsz];decide
    go_wp2
    go_step3
    go_wp2
    go_quiet (fail)
    have HB:Aside0 (Below w.heap.size w (w.drewN nq)):=⟨pw_below_drewN (Below.refl _ _) nq⟩;generalize w.drewN nq=w1 at HB ⊢;have hib:Lib.indexByte (sq.extract 2 2).data.toList ((x.toNat:Int)).toNat.toUInt8=-1:=rfl;go_wp2
    go_quiet ((go_at_call 108;exact Calls.quiet_of_same (Tryz.strings_IndexByte _ _ _)))
    go_wp2
    rw [Exit.noGoto_ret];go_wp2
    rw [Exit.noGoto_ret];go_ret
    exact ⟨rfl,pw_below_drewN HB.out _⟩
   ·have hge:decide ((nd.size:Int) - 1 < 2)=false:=dF (by omega)
    go_wp2
    rw [Exit.noGoto_ret];go_ret
    exact ⟨rfl,Below.refl _ _⟩
def strings_IndexAny.f (a0 a1:ByteArray):Option Int:=if L a1=[47,63]∧a0.size < 4294967281 then some (Lib.indexAny (L a0) (L a1)) else none
def iterTo (w:World) (b:Nat) (s:ByteArray) (p:Nat):World:={ w with heap:=w.heap.setIfInBounds b (.stringIter s p) }
theorem iterTo_at {w:World} {b:Nat} {s:ByteArray} {p q:Nat} (h:w.heap[b]?=some (.stringIter s q)):(iterTo w b s p).heap[b]?=some (.stringIter s p):=by
 obtain ⟨hl,_⟩:=Array.getElem?_eq_some_iff.1 h;simp [iterTo,hl]
theorem iterTo_below {w0 w:World} {b:Nat} {s:ByteArray} {p:Nat} (h:Below w0.heap.size w0 w) (hb:w0.heap.size≤b):Below w0.heap.size w0 (iterTo w b s p):=
 ⟨h.os,h.tape,h.output,(by simp [iterTo];exact h.size),fun i hi=>by
  rw [← h.block i hi];simp only [iterTo]
  exact Array.getElem?_setIfInBounds_ne (by omega)⟩
theorem run_next_in {P:Program} (w:World) (b:Nat) (s:ByteArray) (pos:Nat) (hb:w.heap[b]?=some (.stringIter s pos)) (h:pos < s.size) (ty:TypeId) :
  (Instr.next (.pointer (some ⟨b,0,none⟩)) true ty).run P w=.ok (.tuple #[.bool true,.int .i64 pos,.int .i32 (Utf8.decode s pos).1]) (iterTo w b s (pos+(Utf8.decode s pos).2)):=by
 simp only [Instr.next,getObj,setObj,Sem.run_bind,Sem.run,hb,Result.andThen,h,if_true,iterTo]
 simp [goInt]
theorem run_next_out {P:Program} (w:World) (b:Nat) (s:ByteArray) (pos:Nat) (hb:w.heap[b]?=some (.stringIter s pos)) (h:¬ pos < s.size) (ty:TypeId) :
  (Instr.next (.pointer (some ⟨b,0,none⟩)) true ty).run P w=.ok (.tuple #[.bool false]) w:=by
 simp [Instr.next,getObj,Sem.run,hb,h]
theorem indexAny_few (s:ByteArray) (w:World) (h8:s.size≤8) :
  Calls Tryz.prog 54 #[.string s,.string sq] w fun e w'=>e=.returned (.int .i64 (Lib.indexAny (L s) (L sq)))∧Below w.heap.size w w':=by
 have hemp:sq.toList.isEmpty=false:=by decide +kernel
 have hn1:((sq.size:Int) == 1)=false:=by decide +kernel
 have h8z:decide ((8:Int) < (s.size:Int))=false:=dF (by omega);go_enter Tryz.func54,Tryz.ntmps54;go_wp2_with (go_at_call 81;refine (Tryz.strings_shouldUseASCIISet _ _).mono ?_;rintro e w' ⟨rfl,hw⟩;rw [hw,h8z])
 go_loopg [9,10] s.size (fun g _ _ wx=>∃ i:Nat,i+g=s.size∧Aside0 (wx.heap[w.heap.size]?=some (.stringIter s i))∧Aside0 (Lib.NoAny (L s) (L sq) i)∧Aside0 (Below w.heap.size w wx))
 case atStart=>exact ⟨0,by omega,⟨World.iter_heap w s 0⟩,⟨Lib.NoAny.zero _ _⟩,⟨(Below.refl _ _).alloc (Nat.le_refl _) _⟩⟩
 case round=>
  obtain ⟨i,hig,hI,HN,HB⟩:=hrel;cases gk with
  | zero=>
   obtain rfl:i=s.size:=by omega
   have hnx:=run_next_out (P:=Tryz.prog) wr w.heap.size s s.size hI.out (by omega);go_wp2
   go_ret
   exact ⟨(by rw [Lib.indexAny_none (by rw [L_size];exact HN.out)];rfl),HB.out⟩
  | succ g=>
   have hi:i < s.size:=by omega
   have hnx:=run_next_in (P:=Tryz.prog) wr w.heap.size s i hI.out hi;obtain ⟨x,hx⟩:∃ x:UInt8,s[i]'hi=x:=⟨_,rfl⟩;have Hx:Aside0 ((L s)[i]?=some x):=⟨(by rw [← hx];exact Lib.data_getElem? s i hi)⟩;by_cases hlt:x.toNat < 128
   ·have hd:=decode_ascii s i hi (by rw [hx];exact hlt)
    rw [hx] at hd;rw [hd] at hnx;clear hd;have HI2:Aside0 ((iterTo wr w.heap.size s (i+1)).heap[w.heap.size]?=some (.stringIter s (i+1))):=⟨iterTo_at hI.out⟩;have HB2:Aside0 (Below w.heap.size w (iterTo wr w.heap.size s (i+1))):=⟨iterTo_below HB.out (Nat.le_refl _)⟩;simp only at hnx
    have hcon:=Lib.contains_iff_indexByte (L sq) x;have hback:((x.toNat:Int)).toNat.toUInt8=x:=by simp
    obtain ⟨q,hq⟩:∃ q,Lib.indexByte sq.data.toList x=q:=⟨_,rfl⟩;have hcon:(L sq).contains x=decide (0≤q):=by rw [← hq];exact hcon
    clear hx HB hI;generalize iterTo wr w.heap.size s (i+1)=w2 at hnx HI2 HB2;cases hin:(L sq).contains x
    ·rw [hin] at hcon
     have hlt0:¬ ((0:Int)≤q):=of_decide_eq_false hcon.symm;clear hcon;have HS:Aside0 (Lib.NoAny (L s) (L sq) (i+1)):=⟨HN.out.succ Hx.out hin⟩;clear hin;go_wp2_with (go_at_call 80;refine (Tryz.strings_IndexRune_ascii _ _ _ (by omega) (by omega)).mono ?_;rintro e w' ⟨rfl,hw⟩;rw [hw,hback,hq])
     go_roundg g
     case measure=>omega
     case rel=>exact ⟨i+1,by omega,HI2,HS,HB2⟩
    ·rw [hin] at hcon
     have hge:(0:Int)≤q:=of_decide_eq_true hcon.symm;clear hcon;have HE:Aside0 (Lib.indexAny (L s) (L sq)=i):=⟨Lib.indexAny_hit HN.out Hx.out hin⟩;clear hin;go_wp2_with (go_at_call 80;refine (Tryz.strings_IndexRune_ascii _ _ _ (by omega) (by omega)).mono ?_;rintro e w' ⟨rfl,hw⟩;rw [hw,hback,hq])
     go_ret
     exact ⟨(by rw [HE.out];rfl),HB2.out⟩
   ·obtain ⟨hd1,hd2⟩:=decode_high s i hi (by rw [hx];omega)
    have hd3:=decode_le s i;obtain ⟨hk1,hk2⟩:=decode_skip s i hi (by rw [hx];omega);generalize (Utf8.decode s i).2=n at hnx hd2 hk1 hk2;generalize (Utf8.decode s i).1=c at hnx hd1 hd3;have HI2:Aside0 ((iterTo wr w.heap.size s (i+n)).heap[w.heap.size]?=some (.stringIter s (i+n))):=⟨iterTo_at hI.out⟩;have HB2:Aside0 (Below w.heap.size w (iterTo wr w.heap.size s (i+n))):=⟨iterTo_below HB.out (Nat.le_refl _)⟩;have HS:Aside0 (Lib.NoAny (L s) (L sq) (i+n)):=⟨noAny_skip HN.out hk2⟩;have hlo:(128:Int)≤(c:Int):=by omega
    have hhi:(c:Int)≤2147483647:=by omega
    have HK:=A_ hk1;have HD:=A_ hd2;clear hx HB hI HN Hx hk1 hk2 hd1 hd2 hd3 hlt;generalize iterTo wr w.heap.size s (i+n)=w2 at hnx HI2 HB2;go_wp2_with (go_at_call 80;refine (indexRune_far _ _ hlo hhi).mono ?_;rintro e w' ⟨rfl,hb⟩)
    have HC:=A_ hb;clear hb;go_roundg (g+1 - n)
    case measure=>have:=HK.out;have:=HD.out;omega
    case rel=>exact ⟨i+n,(zz5 HK),⟨(HC.out.block _ (by obtain ⟨hl,_⟩:=Array.getElem?_eq_some_iff.1 HI2.out;exact hl)).trans HI2.out⟩,HS,⟨HB2.out.trans (HC.out.mono HB2.out.size)⟩⟩
theorem strings_IndexAny.calls (a0 a1:ByteArray) (r:Int) (w:World) (h:strings_IndexAny.f a0 a1=some r) :
  Calls Tryz.prog 54 #[.string a0,.string a1] w fun e w'=>e=.returned (.int .i64 r)∧Below w.heap.size w w':=by
 unfold strings_IndexAny.f at h
 split at h
 ·rename_i hh
  obtain rfl:=sI h;obtain rfl:a1=sq:=L_inj (by rw [hh.1];rfl);rcases Nat.lt_or_ge 8 a0.size with h8|h8
  ·refine (Tryz.strings_IndexAny_long (fun w=>by kernel_rfl) a0 sq w (by decide +kernel) h8 hh.2 (by decide +kernel) (fun j b hb=>?_)).mono fun e w' ⟨he,hw⟩=>⟨he,hw ▸ ((Below.refl _ _).alloc (Nat.le_refl _) _).alloc (by simp) _⟩
   have hb':([47,63]:List UInt8)[j]?=some b:=hb;match j,hb' with
   | 0,hb'=>injection hb' with hb';subst hb';decide
   | 1,hb'=>injection hb' with hb';subst hb';decide
  ·exact indexAny_few a0 w h8
 ·cases h
end Go.Proofs.YtpomhjkbgbociaaGreatDoor.P
end
section
namespace Go.Proofs.YtpomhjkbgbociaaGreatDoor.P
open Go.RowKit Go.Proofs.YtpomhjkbgbociaaGreatDoorW.PrintWords Go.Proofs.YtpomhjkbgbociaaGreatDoorW.PrintLast Go.Proofs.YtpomhjkbgbociaaGreatDoorW.PrintMore
attribute [local go_sem] max2_int min2_int max_two min_two max_three min_three max_four min_four
set_option linter.unusedVariables false
set_option linter.unusedSimpArgs false
set_option maxHeartbeats 8000000
set_option maxRecDepth 100000
def stringslite_Cut.f (a0:ByteArray) (a1:ByteArray):Option (ByteArray×ByteArray×Bool):=(stringslite_Index.f a0 a1).bind fun t554=>(if t554 ≥ 0 then (if 0≤t554 then (if t554≤(a0.size:Int) then (if 0≤(wrap64 (t554+(a1.size:Int))) then (if (wrap64 (t554+(a1.size:Int)))≤(a0.size:Int) then (some (a0.extract 0 (t554:Int).toNat,a0.extract ((wrap64 (t554+(a1.size:Int))):Int).toNat a0.size,true)) else (none)) else (none)) else (none)) else (none)) else (some (a0,(⟨#[]⟩:ByteArray),false)))
theorem stringslite_Cut.calls (a0:ByteArray) (a1:ByteArray) (r1:ByteArray) (r2:ByteArray) (r3:Bool) (w:World) (h:stringslite_Cut.f a0 a1=some (r1,r2,r3)) :
  Calls Tryz.prog 52 #[.string a0,.string a1] w fun e w'=>e=.returned (.tuple #[.string r1,.string r2,.bool r3])∧Below w.heap.size w w':=by
 have HB:=A_ (Below.refl w.heap.size w);unfold stringslite_Cut.f at h
 have H:=h;clear h;replace H:=bindA H;obtain ⟨t554,A3,H⟩:=H;have HF4:=A_ H;clear H;go_enter Tryz.func52,Tryz.ntmps52;go_upto_if 12 with (first|(go_at_call 78;(with_reducible refine (stringslite_Index.calls a0 a1 t554 _ A3.out).mono ?_);rintro e w5 ⟨rfl,hb⟩;replace HB:=A_ (bS (zz0 HB) hb);(try clear hb)))
 repeat (go_quiet (first|(go_at_call 78;(with_reducible refine (stringslite_Index.calls a0 a1 t554 _ A3.out).mono ?_);rintro e w5 ⟨rfl,hb⟩;replace HB:=A_ (bS (zz0 HB) hb);(try clear hb)));go_upto_if 12 with (first|(go_at_call 78;(with_reducible refine (stringslite_Index.calls a0 a1 t554 _ A3.out).mono ?_);rintro e w5 ⟨rfl,hb⟩;replace HB:=A_ (bS (zz0 HB) hb);(try clear hb))))
 obtain ⟨H⟩:=HF4;replace H:=iteEe H;rcases H with ⟨c6b0,H⟩|⟨c6b0,H⟩
 ·(first|rw [c6b0]|(simp only [i64_w,i32_w];rw [c6b0])|skip)
  replace H:=iteN H;obtain ⟨c7,H⟩:=H;have c7b0:=eq_true c7;have c7b1:=dT c7;clear c7;replace H:=iteN H;obtain ⟨c8,H⟩:=H;have c8b0:=eq_true c8;have c8b1:=dT c8;clear c8;obtain ⟨ji9,hji9⟩:∃ j_:Int,(wrap64 (t554+(a1.size:Int)))=j_:=⟨_,rfl⟩;(first|rw [hji9] at H|simp only [hji9] at H)
  have hji9w:(IntKind.i64.wrap (t554+(a1.size:Int)))=ji9:=(i64_w _).trans hji9;replace H:=iteN H;obtain ⟨c10,H⟩:=H;have c10b0:=eq_true c10;have c10b1:=dT c10;clear c10;replace H:=iteN H;obtain ⟨c11,H⟩:=H;have c11b0:=eq_true c11;have c11b1:=dT c11;clear c11;simp only [Option.some.injEq,Prod.mk.injEq] at H
  obtain ⟨rfl,rfl,rfl⟩:=H;go_wp2
  repeat (go_quiet (fail);try go_wp2)
  go_ret3
  exact ⟨zz31,(zz0 HB)⟩
 ·(first|rw [c6b0]|(simp only [i64_w,i32_w];rw [c6b0])|skip)
  simp only [Option.some.injEq,Prod.mk.injEq] at H
  obtain ⟨rfl,rfl,rfl⟩:=H;go_wp2
  repeat (go_quiet (fail);try go_wp2)
  go_ret3
  exact ⟨zz6,(zz0 HB)⟩
def strings_Cut.f (a0:ByteArray) (a1:ByteArray):Option (ByteArray×ByteArray×Bool):=(stringslite_Cut.f a0 a1).bind fun bt555=>(some (bt555.1,bt555.2.1,bt555.2.2))
theorem strings_Cut.calls (a0:ByteArray) (a1:ByteArray) (r1:ByteArray) (r2:ByteArray) (r3:Bool) (w:World) (h:strings_Cut.f a0 a1=some (r1,r2,r3)) :
  Calls Tryz.prog 31 #[.string a0,.string a1] w fun e w'=>e=.returned (.tuple #[.string r1,.string r2,.bool r3])∧Below w.heap.size w w':=by
 have HB:=A_ (Below.refl w.heap.size w);unfold strings_Cut.f at h
 have H:=h;clear h;replace H:=bindA H;obtain ⟨⟨t555,t556,t557⟩,A3,H⟩:=H;try dsimp only at H
 simp only [Option.some.injEq,Prod.mk.injEq] at H
 obtain ⟨rfl,rfl,rfl⟩:=H;go_enter Tryz.func31,Tryz.ntmps31;go_wp2_with (first|(refine gR 52 (some 9) Tryz.func52 (stringslite_Cut.calls a0 a1 t555 t556 t557 _ A3.out) ?_;rintro w4 hb;replace HB:=A_ (bS (zz0 HB) hb);(try clear hb)))
 go_ret3
 exact ⟨zz6,(zz0 HB)⟩
def impl_writePath.f (a0_0:ByteArray) (l0_1:List ByteArray) (a0_2:Bool) (a0_3:ByteArray):Option (ByteArray):=(strings_Join.f l0_1 (⟨#[47]⟩:ByteArray)).bind fun t562=>(if 1+t562.size≤9223372036854775807 then (if a0_2=true then (if 1+a0_3.size≤9223372036854775807 then (if 1+t562.size+1+a0_3.size≤9223372036854775807 then (some (((⟨#[47]⟩:ByteArray)++t562)++((⟨#[63]⟩:ByteArray)++a0_3))) else (none)) else (none)) else (some ((⟨#[47]⟩:ByteArray)++t562))) else (none))
theorem impl_writePath.calls (a0_0:ByteArray) (A0_1:Option Addr) (c0_1:Nat) (l0_1:List ByteArray) (a0_2:Bool) (a0_3:ByteArray) (r:ByteArray) (w:World) (hr0_1:Kd.C Kd.string w A0_1 l0_1.length l0_1) (hc0_1:l0_1.length≤c0_1) (h:impl_writePath.f a0_0 l0_1 a0_2 a0_3=some r) :
  Calls Tryz.prog 64 #[.agg #[.string a0_0,.slice A0_1 l0_1.length c0_1,.bool a0_2,.string a0_3]] w fun e w'=>e=.returned (.string r)∧Below w.heap.size w w':=by
 have hu39:=Tryz.underlying39;have HR0_1:=A_ hr0_1;have HC0_1:=A_ hc0_1;clear hr0_1 hc0_1;have HB:=A_ (Below.refl w.heap.size w);unfold impl_writePath.f at h
 have H:=h;clear h;replace H:=bindA H;obtain ⟨t562,A2,H⟩:=H;replace H:=iteE H;rcases H with ⟨c3,H⟩|⟨c3,H⟩
 ·have c3b0:=eq_true c3
  have c3b1:=dT c3;try have c3b2:(9223372036854775807 < 1+t562.size)=False:=eq_false (Nat.not_lt.2 c3)
  have HF4:=A_ H;clear H;go_enter Tryz.func64,Tryz.ntmps64;go_upto_if 9 with (first|(refine boxF 1 #[.string a0_0,.slice A0_1 l0_1.length c0_1,.bool a0_2,.string a0_3] 39 ?_;intro gb561 hg w5 BK561 hb;have GE561:=geB hg (zz0 HB);replace HB:=A_ (bS (zz0 HB) hb);clear hb hg;obtain ⟨_,_,_,_,_,_,_,_⟩:=cf4 BK561)|(refine gR 92 (some 6) Tryz.func92 (strings_Join.calls _ _ l0_1 (⟨#[47]⟩:ByteArray) t562 _ ?side1 ?side2 A2.out) ?_;(case side1=>exact (zz96 HR0_1 HB));(case side2=>exact HC0_1.out);rintro w7 hb;replace BK561:=A_ (bB (zz2 BK561) hb);replace HB:=A_ (bS (zz3 HB GE561) hb);(try clear hb);obtain ⟨_,_,_,_,_,_,_,_⟩:=cf4 BK561))
  obtain ⟨H⟩:=HF4;replace H:=iteB H;rcases H with ⟨rfl,H⟩|⟨rfl,H⟩
  ·replace H:=iteN H
   obtain ⟨c10,H⟩:=H;have c10b0:=eq_true c10;have c10b1:=dT c10;try have c10b2:(9223372036854775807 < 1+a0_3.size)=False:=eq_false (Nat.not_lt.2 c10)
   replace H:=iteN H;obtain ⟨c11,H⟩:=H;have c11b0:=eq_true c11;have c11b1:=dT c11;try have c11b2:(9223372036854775807 < 1+t562.size+1+a0_3.size)=False:=eq_false (Nat.not_lt.2 c11)
   obtain rfl:=sI H;obtain ⟨_,_,_,_,_,_,_,_⟩:=cf4 BK561;go_wp2
   go_ret
   exact ⟨zz6,(zz3 HB GE561)⟩
  ·obtain rfl:=sI H
   go_wp2
   go_ret
   exact ⟨zz6,(zz3 HB GE561)⟩
 ·exact absurd H (by simp)
def impl_writeAddr.f (a0_0:ByteArray) (l0_1:List ByteArray) (a0_2:Bool) (a0_3:ByteArray):Option (ByteArray):=if 2+a0_0.size≤9223372036854775807 then ((impl_writePath.f a0_0 l0_1 a0_2 a0_3).bind fun t564=>(if 2+a0_0.size+t564.size≤9223372036854775807 then (some (((⟨#[47,47]⟩:ByteArray)++a0_0)++t564)) else (none))) else (none)
theorem impl_writeAddr.calls (a0_0:ByteArray) (A0_1:Option Addr) (c0_1:Nat) (l0_1:List ByteArray) (a0_2:Bool) (a0_3:ByteArray) (r:ByteArray) (w:World) (hr0_1:Kd.C Kd.string w A0_1 l0_1.length l0_1) (hc0_1:l0_1.length≤c0_1) (h:impl_writeAddr.f a0_0 l0_1 a0_2 a0_3=some r) :
  Calls Tryz.prog 38 #[.agg #[.string a0_0,.slice A0_1 l0_1.length c0_1,.bool a0_2,.string a0_3]] w fun e w'=>e=.returned (.string r)∧Below w.heap.size w w':=by
 have hu39:=Tryz.underlying39;have HR0_1:=A_ hr0_1;have HC0_1:=A_ hc0_1;clear hr0_1 hc0_1;have HB:=A_ (Below.refl w.heap.size w);unfold impl_writeAddr.f at h
 have H:=h;clear h;replace H:=iteE H;rcases H with ⟨c2,H⟩|⟨c2,H⟩
 ·have c2b0:=eq_true c2
  have c2b1:=dT c2;try have c2b2:(9223372036854775807 < 2+a0_0.size)=False:=eq_false (Nat.not_lt.2 c2)
  replace H:=bindA H;obtain ⟨t564,A3,H⟩:=H;replace H:=iteN H;obtain ⟨c4,H⟩:=H;have c4b0:=eq_true c4;have c4b1:=dT c4;try have c4b2:(9223372036854775807 < 2+a0_0.size+t564.size)=False:=eq_false (Nat.not_lt.2 c4)
  obtain rfl:=sI H;go_enter Tryz.func38,Tryz.ntmps38;try go_wp2_with (first|(refine boxF 1 #[.string a0_0,.slice A0_1 l0_1.length c0_1,.bool a0_2,.string a0_3] 39 ?_;intro gb563 hg w5 BK563 hb;have GE563:=geB hg (zz0 HB);replace HB:=A_ (bS (zz0 HB) hb);clear hb hg))
  replace BK563:=A_ (blk_drew BK563.out);replace HB:=A_ (below_drew1 HB.out);refine start_ (n:=7) (S:=fun w'=>w'.cell? ⟨gb563,0,none⟩=some (.string a0_0)∧w'.cell? ⟨gb563,1,none⟩=some (.slice A0_1 l0_1.length c0_1)∧w'.cell? ⟨gb563,2,none⟩=some (.bool a0_2)∧w'.cell? ⟨gb563,3,none⟩=some (.string a0_3)) (ds:=[]) #[yF,yF,yF,yF,yF,yF,yF] (by kernel_rfl) rfl rfl ⟨(blk_cell BK563.out 0).trans rfl,(blk_cell BK563.out 1).trans rfl,(blk_cell BK563.out 2).trans rfl,(blk_cell BK563.out 3).trans rfl⟩ (fun hHeld=>?_);generalize w5.drew=w6 at BK563 HB hHeld ⊢;refine pureY 0 (some 3) #[yT,yF,yF,yF,yF,yF,yF] ?_;refine takeY4 1 (some 4) #[yT,yT,yF,yF,yF,yF,yF] hHeld ?_;refine pureY 2 (some 5) #[yT,yT,yT,yF,yF,yF,yF] ?_;refine takeY4 3 (some 6) #[yT,yT,yT,yT,yF,yF,yF] hHeld ?_;refine one_ (i:=4) (N:=some 7) #[yT,yT,yT,yT,yT,yF,yF] rfl rfl (by kernel_rfl) (by decide) (fun K hK=>?_);refine goes_ Tryz.func64 (by kernel_rfl) rfl #[.agg #[.string a0_0,.slice A0_1 l0_1.length c0_1,.bool a0_2,.string a0_3]] (by rfl) rfl rfl zz35 ?_;with_reducible refine (impl_writePath.calls a0_0 _ _ l0_1 a0_2 a0_3 t564 _ ?side1 ?side2 A3.out).mono ?_
  (case side1=>exact (zz96 HR0_1 HB))
  (case side2=>exact HC0_1.out)
  rintro e w7 ⟨rfl,hb⟩;refine ⟨_,rfl,?_⟩;replace BK563:=A_ (bB (zz2 BK563) hb);replace HB:=A_ (bS (zz3 HB GE563) hb);(try clear hb)
  (try clear hb2)
  (try clear hk)
  (try clear hi)
  refine hK.out _ _ ⟨(blk_cell BK563.out 0).trans rfl,(blk_cell BK563.out 1).trans rfl,(blk_cell BK563.out 2).trans rfl,(blk_cell BK563.out 3).trans rfl⟩ (fun hHeld=>?_);clear hK K;refine nZ 7 ?_;refine pureY 5 (some 8) #[yT,yT,yT,yT,yT,yT,yF] ?_;refine pureY 6 (some 2) #[yT,yT,yT,yT,yT,yT,yT] ?_;refine done_ (by kernel_rfl) ?_;try go_wp2
  go_ret
  exact ⟨zz6,(zz3 HB GE563)⟩
 ·exact absurd H (by simp)
def strings_Index.f (a0:ByteArray) (a1:ByteArray):Option (Int):=(stringslite_Index.f a0 a1).bind fun t601=>(some t601)
theorem strings_Index.calls (a0:ByteArray) (a1:ByteArray) (r:Int) (w:World) (h:strings_Index.f a0 a1=some r) :
  Calls Tryz.prog 127 #[.string a0,.string a1] w fun e w'=>e=.returned (.int .i64 r)∧Below w.heap.size w w':=by
 have HB:=A_ (Below.refl w.heap.size w);unfold strings_Index.f at h
 have H:=h;clear h;replace H:=bindA H;obtain ⟨t601,A3,H⟩:=H;obtain rfl:=sI H;go_enter Tryz.func127,Tryz.ntmps127;go_wp2_with (first|(refine gR 78 (some 7) Tryz.func78 (stringslite_Index.calls a0 a1 t601 _ A3.out) ?_;rintro w4 hb;replace HB:=A_ (bS (zz0 HB) hb);(try clear hb)))
 go_ret
 exact ⟨zz6,(zz0 HB)⟩
end Go.Proofs.YtpomhjkbgbociaaGreatDoor.P
end
section
namespace Go.Proofs.YtpomhjkbgbociaaGreatDoor.P
open Go.RowKit Go.Proofs.YtpomhjkbgbociaaGreatDoorW.PrintWords Go.Proofs.YtpomhjkbgbociaaGreatDoorW.PrintLast Go.Proofs.YtpomhjkbgbociaaGreatDoorW.PrintMore Go.Proofs.YtpomhjkbgbociaaGreatDoor.B Go.Proofs.YtpomhjkbgbociaaGreatDoor.Ad
set_option linter.unusedVariables false
set_option linter.unusedSimpArgs false
set_option maxHeartbeats 8000000
set_option maxRecDepth 100000
def spec_l1Small.f (a0:ByteArray):Option (ByteArray):=if a0.size≤140737488351232 then some (smallB a0) else none
theorem spec_l1Small.calls (a0 r:ByteArray) (w:World) (h:spec_l1Small.f a0=some r) :
  Calls Tryz.prog 97 #[.string a0] w fun e w'=>e=.returned (.string r)∧Below w.heap.size w w':=by
 unfold spec_l1Small.f at h
 by_cases hs:a0.size≤140737488351232
 ·rw [if_pos hs] at h
  obtain rfl:=sI h;clear h;have hcv:=Lib.run_convert_string_bytes (P:=Tryz.prog) w 9 22 5 a0 Tryz.underlying9 Tryz.underlying22 Tryz.underlying5;go_enter Tryz.func97,Tryz.ntmps97;go_wp2_with fail
  clear hcv;go_loopw [4] (fun i wr=>∃ k:Nat,k≤a0.size∧i=.int .i64 k∧Aside0 (SmRow w.heap.size a0 k wr)∧Aside0 (Below w.heap.size w wr))
   (fun i _=>a0.size - (intOf i).toNat)
  case atStart=>
   refine ⟨0,Nat.zero_le _,rfl,⟨sm_start w 5 a0⟩,⟨?_⟩⟩;exact sm_below w 5 a0
  case round=>
   obtain ⟨k,hk,rfl,hI,hB⟩:=hrel;by_cases hlt:k < a0.size
   ·have hc:=(hI.out.2 k hlt).1
    have hf:=(hI.out.2 k hlt).2;rw [if_neg (by omega)] at hc;have hset:=A_ (sm_set hI.out hlt);have hskip:=A_ (sm_skip hI.out hlt);clear hI;generalize (L a0).getD k 0=b at hc hset hskip;have hb:=b.toNat_lt;by_cases h1:65≤b.toNat
    ·by_cases h2:b.toNat≤90
     ·have e1:(sm b).toNat=b.toNat+32:=by
       unfold sm
       rw [if_pos ⟨h1,h2⟩,UInt8.toNat_add];have:(32:UInt8).toNat=32:=rfl;omega
      rw [e1,show ((b.toNat+32:Nat):Int)=(b.toNat:Int)+32 from by omega] at hset;clear hskip e1;go_wp2
      exact ⟨⟨k+1,by omega,by go_num,hset,⟨hB.out.setCell (Nat.le_refl _) _⟩⟩,zz191⟩
     ·have e1:sm b=b:=by unfold sm;rw [if_neg (by omega)]
      have hS:Aside0 (SmRow w.heap.size a0 (k+1) wr):=⟨hskip.out e1⟩;clear e1 hset hskip;go_wp2
      exact ⟨⟨k+1,by omega,by go_num,hS,hB⟩,zz191⟩
    ·have e1:sm b=b:=by unfold sm;rw [if_neg (by omega)]
     have hS:Aside0 (SmRow w.heap.size a0 (k+1) wr):=⟨hskip.out e1⟩;clear e1 hset hskip;go_wp2
     exact ⟨⟨k+1,by omega,by go_num,hS,hB⟩,zz191⟩
   ·have ek:k=a0.size:=by omega
    have hcells:∀ j (hj:j < (L (smallB a0)).length),wr.cell? ((⟨w.heap.size,0,none⟩:Addr).add j)=some (.int .u8 ((L (smallB a0))[j].toNat:Int)):=by
     intro j hj;have hj':j < a0.size:=by rw [L_size,smallB,ofL_size,List.length_map,L_size] at hj;exact hj
     rw [add_plain,(hI.out.2 j hj').1,if_pos (by omega)];simp [smallB,L_of,List.getD_eq_getElem?_getD,List.getElem?_eq_getElem (show j < (L a0).length by rw [L_size];exact hj')]
    have hcv:=run_convert_bytes_back (P:=Tryz.prog) wr 22 9 5 ⟨w.heap.size,0,none⟩ (grownCap w a0.size 0 5) (L (smallB a0)) Tryz.underlying22 Tryz.underlying5 Tryz.underlying9 hcells;have hl:(L (smallB a0)).length=a0.size:=by rw [L_size,smallB,ofL_size,List.length_map,L_size]
    rw [hl,show (⟨(L (smallB a0)).toArray⟩:ByteArray)=smallB a0 from of_L _] at hcv;have Hk:=A_ ek;clear ek hcells hl;go_wp2
    go_ret
    exact ⟨rfl,hB.out⟩
 ·rw [if_neg hs] at h;cases h
def impl_smallLetters.f (a0:ByteArray):Option (ByteArray):=if a0.size≤140737488351232 then some (smallB a0) else none
theorem impl_smallLetters.calls (a0 r:ByteArray) (w:World) (h:impl_smallLetters.f a0=some r) :
  Calls Tryz.prog 56 #[.string a0] w fun e w'=>e=.returned (.string r)∧Below w.heap.size w w':=by
 unfold impl_smallLetters.f at h
 by_cases hs:a0.size≤140737488351232
 ·rw [if_pos hs] at h
  obtain rfl:=sI h;clear h;have hcv:=Lib.run_convert_string_bytes (P:=Tryz.prog) w 9 22 5 a0 Tryz.underlying9 Tryz.underlying22 Tryz.underlying5;go_enter Tryz.func56,Tryz.ntmps56;go_wp2_with fail
  clear hcv;go_loopw [10] (fun i wr=>∃ k:Nat,k≤a0.size∧i=.int .i64 k∧Aside0 (SmRow w.heap.size a0 k wr)∧Aside0 (Below w.heap.size w wr))
   (fun i _=>a0.size - (intOf i).toNat)
  case atStart=>
   refine ⟨0,Nat.zero_le _,rfl,⟨sm_start w 5 a0⟩,⟨?_⟩⟩;exact sm_below w 5 a0
  case round=>
   obtain ⟨k,hk,rfl,hI,hB⟩:=hrel;by_cases hlt:k < a0.size
   ·have hc:=(hI.out.2 k hlt).1
    have hf:=(hI.out.2 k hlt).2;rw [if_neg (by omega)] at hc;have hset:=A_ (sm_set hI.out hlt);have hskip:=A_ (sm_skip hI.out hlt);clear hI;generalize (L a0).getD k 0=b at hc hset hskip;have hb:=b.toNat_lt;by_cases h1:65≤b.toNat
    ·by_cases h2:b.toNat≤90
     ·have e1:(sm b).toNat=b.toNat+32:=by
       unfold sm
       rw [if_pos ⟨h1,h2⟩,UInt8.toNat_add];have:(32:UInt8).toNat=32:=rfl;omega
      rw [e1,show ((b.toNat+32:Nat):Int)=(b.toNat:Int)+32 from by omega] at hset;clear hskip e1;go_wp2
      exact ⟨⟨k+1,by omega,by go_num,hset,⟨hB.out.setCell (Nat.le_refl _) _⟩⟩,zz191⟩
     ·have e1:sm b=b:=by unfold sm;rw [if_neg (by omega)]
      have hS:Aside0 (SmRow w.heap.size a0 (k+1) wr):=⟨hskip.out e1⟩;clear e1 hset hskip;go_wp2
      exact ⟨⟨k+1,by omega,by go_num,hS,hB⟩,zz191⟩
    ·have e1:sm b=b:=by unfold sm;rw [if_neg (by omega)]
     have hS:Aside0 (SmRow w.heap.size a0 (k+1) wr):=⟨hskip.out e1⟩;clear e1 hset hskip;go_wp2
     exact ⟨⟨k+1,by omega,by go_num,hS,hB⟩,zz191⟩
   ·have ek:k=a0.size:=by omega
    have hcells:∀ j (hj:j < (L (smallB a0)).length),wr.cell? ((⟨w.heap.size,0,none⟩:Addr).add j)=some (.int .u8 ((L (smallB a0))[j].toNat:Int)):=by
     intro j hj;have hj':j < a0.size:=by rw [L_size,smallB,ofL_size,List.length_map,L_size] at hj;exact hj
     rw [add_plain,(hI.out.2 j hj').1,if_pos (by omega)];simp [smallB,L_of,List.getD_eq_getElem?_getD,List.getElem?_eq_getElem (show j < (L a0).length by rw [L_size];exact hj')]
    have hcv:=run_convert_bytes_back (P:=Tryz.prog) wr 22 9 5 ⟨w.heap.size,0,none⟩ (grownCap w a0.size 0 5) (L (smallB a0)) Tryz.underlying22 Tryz.underlying5 Tryz.underlying9 hcells;have hl:(L (smallB a0)).length=a0.size:=by rw [L_size,smallB,ofL_size,List.length_map,L_size]
    rw [hl,show (⟨(L (smallB a0)).toArray⟩:ByteArray)=smallB a0 from of_L _] at hcv;have Hk:=A_ ek;clear ek hcells hl;go_wp2
    go_ret
    exact ⟨rfl,hB.out⟩
 ·rw [if_neg hs] at h;cases h
end Go.Proofs.YtpomhjkbgbociaaGreatDoor.P
end
section
namespace Go.Proofs.YtpomhjkbgbociaaGreatDoor.P
open Go.RowKit Go.Proofs.YtpomhjkbgbociaaGreatDoorW.PrintWords Go.Proofs.YtpomhjkbgbociaaGreatDoorW.PrintLast Go.Proofs.YtpomhjkbgbociaaGreatDoorW.PrintMore
attribute [local go_sem] max2_int min2_int max_two min_two max_three min_three max_four min_four
set_option linter.unusedVariables false
set_option linter.unusedSimpArgs false
set_option maxHeartbeats 8000000
set_option maxRecDepth 100000
def spec_l1Whole.l0:Nat→ByteArray→ByteArray→ByteArray→Int→Option (ByteArray×List ByteArray×Bool×ByteArray×Bool)
 | 0,_,_,_,_=>none
 | k+1,x0,x4,x5,x6=>if x6 < (x0.size:Int) then (if 0≤x6 then (if (bt x0 x6)=47 then (if x6≤(x0.size:Int) then ((spec_l1Small.f (x0.extract 0 (x6:Int).toNat)).bind fun t490=>((spec_l1Way.f k t490 ([]:List ByteArray) false (⟨#[]⟩:ByteArray) (x0.extract (x6:Int).toNat x0.size)).bind fun bt491=>(some (bt491.1,bt491.2.1,bt491.2.2.1,bt491.2.2.2.1,bt491.2.2.2.2)))) else (none)) else (if (bt x0 x6)=63 then (if x6≤(x0.size:Int) then ((spec_l1Small.f (x0.extract 0 (x6:Int).toNat)).bind fun t498=>((spec_l1Way.f k t498 ([]:List ByteArray) false (⟨#[]⟩:ByteArray) (x0.extract (x6:Int).toNat x0.size)).bind fun bt499=>(some (bt499.1,bt499.2.1,bt499.2.2.1,bt499.2.2.2.1,bt499.2.2.2.2)))) else (none)) else (spec_l1Whole.l0 k x0 x4 x5 (wrap64 (x6+1))))) else (none)) else ((spec_l1Small.f x4).bind fun t506=>((spec_l1Way.f k t506 ([]:List ByteArray) false (⟨#[]⟩:ByteArray) x5).bind fun bt507=>(some (bt507.1,bt507.2.1,bt507.2.2.1,bt507.2.2.2.1,bt507.2.2.2.2))))
def spec_l1Whole.f (k:Nat) (a0:ByteArray):Option (ByteArray×List ByteArray×Bool×ByteArray×Bool):=spec_l1Whole.l0 k a0 a0 (⟨#[]⟩:ByteArray) 0
theorem spec_l1Whole.calls (k:Nat) (a0:ByteArray) (r1:ByteArray) (r2:List ByteArray) (r3:Bool) (r4:ByteArray) (r5:Bool) (w:World) (h:spec_l1Whole.f k a0=some (r1,r2,r3,r4,r5)) :
  Calls Tryz.prog 71 #[.string a0] w fun e w'=>∃ v1_:Value,e=.returned (.tuple #[.agg #[.string r1,v1_,.bool r3,.string r4],.bool r5])∧Kd.R Kd.string 9 w' w.heap.size (fun _=>True) v1_ r2∧Below w.heap.size w w':=by
 have hu39:=Tryz.underlying39;have HB:=A_ (Below.refl w.heap.size w);unfold spec_l1Whole.f at h
 have H:=h;clear h;have H':=A_ H;clear H;go_enter Tryz.func71,Tryz.ntmps71;go_wp2_with (first|(refine boxF 2 #[.string (⟨#[]⟩:ByteArray),.slice none 0 0,.bool false,.string (⟨#[]⟩:ByteArray)] 39 ?_;intro gb489 hg w2 BK489 hb;have GE489:=geB hg (zz0 HB);replace HB:=A_ (bS (zz0 HB) hb);clear hb hg))
 go_loopg [4,5,6] k (fun kq v4 v5 v6 w'=>∃ (x4_1:ByteArray) (x5_1:ByteArray) (x6_1:Int),v4=.string x4_1∧v5=.string x5_1∧v6=.int .i64 x6_1∧Aside0 (spec_l1Whole.l0 kq a0 x4_1 x5_1 x6_1=some (r1,r2,r3,r4,r5))∧Aside0 (kq≤k)∧Aside0 (w'.heap[gb489]?=some (.cells #[.string (⟨#[]⟩:ByteArray),(.slice none 0 0),.bool false,.string (⟨#[]⟩:ByteArray)] 39 (0,0)))∧Aside0 (Below w.heap.size w w'))
 case atStart=>exact ⟨(a0),((⟨#[]⟩:ByteArray)),(0),zz1,zz1,zz1,H',⟨Nat.le_refl _⟩,⟨(zz2 BK489)⟩,⟨(zz3 HB GE489)⟩⟩
 case round=>
  clear H';obtain ⟨x4_1,x5_1,x6_1,rfl,rfl,rfl,HA,HK1,BK489,HB⟩:=hrel;cases gk with
  | zero=>exact absurd HA.out (by simp [spec_l1Whole.l0])
  | succ k1=>
   obtain ⟨H⟩:=HA;simp only [spec_l1Whole.l0] at H
   replace H:=iteEd H;rcases H with ⟨c3b0,H⟩|⟨c3b0,H⟩
   ·replace H:=iteNd H
    obtain ⟨c4b0,H⟩:=H;replace H:=iteEq H;rcases H with ⟨c6b0,c6b1,H⟩|⟨c6b0,c6b1,c6,H⟩
    ·have c7b0:=eq_true (ofD:0≤x6_1)
     replace H:=iteN H;obtain ⟨c8,H⟩:=H;have c8b0:=eq_true c8;have c8b1:=dT c8;clear c8;have c9b0:=eq_true (ofD:0≤x6_1);have c10b0:=eq_true (ofD:x6_1≤(a0.size:Int));replace H:=bindA H;obtain ⟨t490,A11,H⟩:=H;replace H:=bindA H;obtain ⟨⟨t491,t492,t495,t496,t497⟩,A12,H⟩:=H;try dsimp only at H
     simp only [Option.some.injEq,Prod.mk.injEq] at H
     obtain ⟨rfl,rfl,rfl,rfl,rfl⟩:=H;have p5:0≤(x6_1:Int):=ofD;have q5:x6_1 < (a0.size:Int):=ofD;have hx5:=bt_at a0 x6_1;replace p5:=eq_true p5;replace q5:=eq_true q5;go_wp2_with (first|(refine gR 97 (some 31) Tryz.func97 (spec_l1Small.calls (a0.extract 0 (x6_1:Int).toNat) t490 _ A11.out) ?_;rintro w13 hb;replace BK489:=A_ (bB (zz2 BK489) hb);replace HB:=A_ (bS (zz3 HB GE489) hb);(try clear hb))|((with_reducible refine gC (f:=96) rfl ?_);refine gsL (some 34) Tryz.func96 #[.agg #[.string t490,.slice none 0 0,.bool false,.string (⟨#[]⟩:ByteArray)],.string (a0.extract (x6_1:Int).toNat a0.size)] ?_;(refine (spec_l1Way.calls k1 t490 _ _ ([]:List ByteArray) false (⟨#[]⟩:ByteArray) (a0.extract (x6_1:Int).toNat a0.size) t491 t492 t495 t496 t497 _ ?side1 ?side2 A12.out).mono ?_);(case side1=>exact Kd.C_nil _ _);(case side2=>exact Nat.le_refl _);rintro e w14 ⟨v493,rfl,ho0,hb⟩;refine ⟨_,rfl,?_⟩;have HO494:=A_ (Kd.R_lower ho0 (below_size (zz3 HB GE489)));replace BK489:=A_ (bB (zz2 BK489) hb);replace HB:=A_ (bS (zz3 HB GE489) hb);(try clear hb ho0);obtain ⟨_,_,_,_,_,_,_,_⟩:=cf4 BK489;obtain ⟨Ao16,co16,eo16⟩:=Kd.R_slice HO494.out;subst eo16))
     refine pR (results_ct rfl _ _ gb489 39 #[.string t491,.slice Ao16 t492.length co16,.bool t495,.string t496] (0,0) _ rfl (zz37 BK489) Tryz.underlying39 rfl (by kernel_rfl)) rfl ?_;exact ⟨_,zz6,(zz52 (rt HO494 BK489)),(zz3 HB GE489)⟩
    ·replace H:=iteEq H
     rcases H with ⟨c18b0,c18b1,H⟩|⟨c18b0,c18b1,c18,H⟩
     ·have c19b0:=eq_true (ofD:0≤x6_1)
      replace H:=iteN H;obtain ⟨c20,H⟩:=H;have c20b0:=eq_true c20;have c20b1:=dT c20;clear c20;have c21b0:=eq_true (ofD:0≤x6_1);have c22b0:=eq_true (ofD:x6_1≤(a0.size:Int));replace H:=bindA H;obtain ⟨t498,A23,H⟩:=H;replace H:=bindA H;obtain ⟨⟨t499,t500,t503,t504,t505⟩,A24,H⟩:=H;try dsimp only at H
      simp only [Option.some.injEq,Prod.mk.injEq] at H
      obtain ⟨rfl,rfl,rfl,rfl,rfl⟩:=H;have p5:0≤(x6_1:Int):=ofD;have q5:x6_1 < (a0.size:Int):=ofD;have hx5:=bt_at a0 x6_1;replace p5:=eq_true p5;replace q5:=eq_true q5;have p17:0≤(x6_1:Int):=ofD;have q17:x6_1 < (a0.size:Int):=ofD;have hx17:=bt_at a0 x6_1;replace p17:=eq_true p17;replace q17:=eq_true q17;go_wp2_with (first|(refine gR 97 (some 31) Tryz.func97 (spec_l1Small.calls (a0.extract 0 (x6_1:Int).toNat) t498 _ A23.out) ?_;rintro w25 hb;replace BK489:=A_ (bB (zz2 BK489) hb);replace HB:=A_ (bS (zz3 HB GE489) hb);(try clear hb))|((with_reducible refine gC (f:=96) rfl ?_);refine gsL (some 34) Tryz.func96 #[.agg #[.string t498,.slice none 0 0,.bool false,.string (⟨#[]⟩:ByteArray)],.string (a0.extract (x6_1:Int).toNat a0.size)] ?_;(refine (spec_l1Way.calls k1 t498 _ _ ([]:List ByteArray) false (⟨#[]⟩:ByteArray) (a0.extract (x6_1:Int).toNat a0.size) t499 t500 t503 t504 t505 _ ?side1 ?side2 A24.out).mono ?_);(case side1=>exact Kd.C_nil _ _);(case side2=>exact Nat.le_refl _);rintro e w26 ⟨v501,rfl,ho0,hb⟩;refine ⟨_,rfl,?_⟩;have HO502:=A_ (Kd.R_lower ho0 (below_size (zz3 HB GE489)));replace BK489:=A_ (bB (zz2 BK489) hb);replace HB:=A_ (bS (zz3 HB GE489) hb);(try clear hb ho0);obtain ⟨_,_,_,_,_,_,_,_⟩:=cf4 BK489;obtain ⟨Ao28,co28,eo28⟩:=Kd.R_slice HO502.out;subst eo28))
      refine pR (results_ct rfl _ _ gb489 39 #[.string t499,.slice Ao28 t500.length co28,.bool t503,.string t504] (0,0) _ rfl (zz37 BK489) Tryz.underlying39 rfl (by kernel_rfl)) rfl ?_;exact ⟨_,zz6,(zz52 (rt HO502 BK489)),(zz3 HB GE489)⟩
     ·have H':=A_ H
      clear H;have p5:0≤(x6_1:Int):=ofD;have q5:x6_1 < (a0.size:Int):=ofD;have hx5:=bt_at a0 x6_1;replace p5:=eq_true p5;replace q5:=eq_true q5;have p17:0≤(x6_1:Int):=ofD;have q17:x6_1 < (a0.size:Int):=ofD;have hx17:=bt_at a0 x6_1;replace p17:=eq_true p17;replace q17:=eq_true q17;go_wp2
      go_roundg k1
      case measure=>have:=HK1.out;omega
      case rel=>exact ⟨(x4_1),(x5_1),(wrap64 (x6_1+1)),zz1,zz1,zz1,H',⟨(zz5 HK1)⟩,⟨(zz2 BK489)⟩,⟨(zz3 HB GE489)⟩⟩
   ·replace H:=bindA H
    obtain ⟨t506,A29,H⟩:=H;replace H:=bindA H;obtain ⟨⟨t507,t508,t511,t512,t513⟩,A30,H⟩:=H;try dsimp only at H
    simp only [Option.some.injEq,Prod.mk.injEq] at H
    obtain ⟨rfl,rfl,rfl,rfl,rfl⟩:=H;go_wp2_with (first|(refine gR 97 (some 31) Tryz.func97 (spec_l1Small.calls x4_1 t506 _ A29.out) ?_;rintro w31 hb;replace BK489:=A_ (bB (zz2 BK489) hb);replace HB:=A_ (bS (zz3 HB GE489) hb);(try clear hb))|((with_reducible refine gC (f:=96) rfl ?_);refine gsL (some 34) Tryz.func96 #[.agg #[.string t506,.slice none 0 0,.bool false,.string (⟨#[]⟩:ByteArray)],.string x5_1] ?_;(refine (spec_l1Way.calls k1 t506 _ _ ([]:List ByteArray) false (⟨#[]⟩:ByteArray) x5_1 t507 t508 t511 t512 t513 _ ?side1 ?side2 A30.out).mono ?_);(case side1=>exact Kd.C_nil _ _);(case side2=>exact Nat.le_refl _);rintro e w32 ⟨v509,rfl,ho0,hb⟩;refine ⟨_,rfl,?_⟩;have HO510:=A_ (Kd.R_lower ho0 (below_size (zz3 HB GE489)));replace BK489:=A_ (bB (zz2 BK489) hb);replace HB:=A_ (bS (zz3 HB GE489) hb);(try clear hb ho0);obtain ⟨_,_,_,_,_,_,_,_⟩:=cf4 BK489;obtain ⟨Ao34,co34,eo34⟩:=Kd.R_slice HO510.out;subst eo34))
    refine pR (results_ct rfl _ _ gb489 39 #[.string t507,.slice Ao34 t508.length co34,.bool t511,.string t512] (0,0) _ rfl (zz37 BK489) Tryz.underlying39 rfl (by kernel_rfl)) rfl ?_;exact ⟨_,zz6,(zz52 (rt HO510 BK489)),(zz3 HB GE489)⟩
def spec_AddrRead.f (k:Nat) (a0:ByteArray):Option (ByteArray×List ByteArray×Bool×ByteArray×Bool):=(spec_l1Cut.f k a0 35).bind fun bt515=>(if (a0.size:Int) > 60 then (some ((⟨#[]⟩:ByteArray),([]:List ByteArray),false,(⟨#[]⟩:ByteArray),false)) else (if (bt515.1.size:Int) < 2 then (some ((⟨#[]⟩:ByteArray),([]:List ByteArray),false,(⟨#[]⟩:ByteArray),false)) else (if 0≤2 then (if 2≤(bt515.1.size:Int) then (if (bt515.1.extract 0 2).toList=([47,47]:List UInt8) then ((spec_l1Whole.f k (bt515.1.extract 2 bt515.1.size)).bind fun bt518=>(some (bt518.1,bt518.2.1,bt518.2.2.1,bt518.2.2.2.1,bt518.2.2.2.2))) else (some ((⟨#[]⟩:ByteArray),([]:List ByteArray),false,(⟨#[]⟩:ByteArray),false))) else (none)) else (none))))
theorem spec_AddrRead.calls (k:Nat) (a0:ByteArray) (r1:ByteArray) (r2:List ByteArray) (r3:Bool) (r4:ByteArray) (r5:Bool) (w:World) (h:spec_AddrRead.f k a0=some (r1,r2,r3,r4,r5)) :
  Calls Tryz.prog 46 #[.string a0] w fun e w'=>∃ v1_:Value,e=.returned (.tuple #[.agg #[.string r1,v1_,.bool r3,.string r4],.bool r5])∧Kd.R Kd.string 9 w' w.heap.size (fun _=>True) v1_ r2∧Below w.heap.size w w':=by
 have hu39:=Tryz.underlying39;have HB:=A_ (Below.refl w.heap.size w);unfold spec_AddrRead.f at h
 have H:=h;clear h;replace H:=bindA H;obtain ⟨⟨t515,t516,t517⟩,A2,H⟩:=H;try dsimp only at H
 have HF3:=A_ H;clear H;go_enter Tryz.func46,Tryz.ntmps46;go_wp2_with (first|((with_reducible refine gD (N:=2) rfl ?_);(try (refine gate_guard (by rfl) ?_;dsimp only));refine boxE 2 #[.string (⟨#[]⟩:ByteArray),.slice none 0 0,.bool false,.string (⟨#[]⟩:ByteArray)] 39 ?_;intro gb514 hg w4 hbox hb;have BK514:=A_ (hbox);have GE514:=geB hg (zz0 HB);replace HB:=A_ (bS (zz0 HB) hb);clear hb hbox hg)|(refine gR 70 (some 9) Tryz.func70 (spec_l1Cut.calls k a0 35 t515 t516 t517 _ A2.out) ?_;rintro w' ⟨nd,rfl⟩)|((with_reducible refine atG ?_ ?_ fun K_ hK_=>?_);rfl;exact undecG)|((with_reducible refine atI ?_ fun K_ hK_=>?_);exact undecI))
 refine unG hK_ ?_;clear hK_ K_;obtain ⟨H⟩:=HF3;replace H:=iteE H;rcases H with ⟨c5,H⟩|⟨c5,H⟩
 ·have c5b0:=gtT c5
  have c5b1:decide (60 < a0.size)=true:=dT (by omega);(first|refine iteT ?_|refine iteF ?_|skip)
  clear c5;(first|rw [c5b0]|(simp only [i64_w,i32_w];rw [c5b0])|skip)
  simp only [Option.some.injEq,Prod.mk.injEq] at H
  obtain ⟨rfl,rfl,rfl,rfl,rfl⟩:=H;obtain ⟨_,_,_,_,_,_,_,_⟩:=cf4 BK514;(try ((with_reducible refine upS ?_);go_simp))
  go_wp2
  refine pR (results_ct rfl _ _ gb514 39 #[.string (⟨#[]⟩:ByteArray),.slice none 0 0,.bool false,.string (⟨#[]⟩:ByteArray)] (0,0) _ rfl (zz37 BK514) Tryz.underlying39 rfl (by kernel_rfl)) rfl ?_;exact ⟨_,zz6,zz22,(zz3 HB GE514)⟩
 ·have c5b0:=gtF c5
  have c5b1:decide (60 < a0.size)=false:=dF (by omega);(first|refine iteT ?_|refine iteF ?_|skip)
  clear c5;(first|rw [c5b0]|(simp only [i64_w,i32_w];rw [c5b0])|skip)
  replace H:=iteE H;rcases H with ⟨c7,H⟩|⟨c7,H⟩
  ·have c7b0:=dT c7
   have c7b1:decide (t515.size < 2)=true:=dT (by omega);clear c7;simp only [Option.some.injEq,Prod.mk.injEq] at H
   obtain ⟨rfl,rfl,rfl,rfl,rfl⟩:=H;obtain ⟨_,_,_,_,_,_,_,_⟩:=cf4 BK514;go_wp2
   refine pR (results_ct rfl _ _ gb514 39 #[.string (⟨#[]⟩:ByteArray),.slice none 0 0,.bool false,.string (⟨#[]⟩:ByteArray)] (0,0) _ rfl (zz37 BK514) Tryz.underlying39 rfl (by kernel_rfl)) rfl ?_;exact ⟨_,zz6,zz22,(zz3 HB GE514)⟩
  ·have c7b0:=dF c7
   have c7b1:decide (t515.size < 2)=false:=dF (by omega);clear c7;replace H:=iteE H;rcases H with ⟨c9,H⟩|⟨c9,H⟩
   ·have c9b0:=eq_true c9
    have c9b1:=dT c9;clear c9;replace H:=iteN H;obtain ⟨c10,H⟩:=H;have c10b0:=eq_true c10;have c10b1:=dT c10;clear c10;replace H:=iteEq H;rcases H with ⟨c11b0,c11b1,H⟩|⟨c11b0,c11b1,c11,H⟩
    ·have c12b0:=eq_true (ofD:2≤(t515.size:Int))
     replace H:=bindA H;obtain ⟨⟨t518,t519,t522,t523,t524⟩,A13,H⟩:=H;try dsimp only at H
     simp only [Option.some.injEq,Prod.mk.injEq] at H
     obtain ⟨rfl,rfl,rfl,rfl,rfl⟩:=H;go_wp2_with (first|(refine gV 71 (some 29) Tryz.func71 (spec_l1Whole.calls k (t515.extract 2 t515.size) t518 t519 t522 t523 t524 _ A13.out) ?_;rintro v520 w14 ⟨ho0,hb⟩;have HO521:=A_ (Kd.R_lower ho0 (below_size (zz3 HB GE514)));replace BK514:=A_ (bB (zz2 BK514) hb);replace HB:=A_ (bS (zz3 HB GE514) hb);(try clear hb ho0);obtain ⟨_,_,_,_,_,_,_,_⟩:=cf4 BK514;obtain ⟨Ao16,co16,eo16⟩:=Kd.R_slice HO521.out;subst eo16))
     refine pR (results_ct rfl _ _ gb514 39 #[.string t518,.slice Ao16 t519.length co16,.bool t522,.string t523] (0,0) _ rfl (zz37 BK514) Tryz.underlying39 rfl (by kernel_rfl)) rfl ?_;exact ⟨_,zz6,(zz52 (rt HO521 BK514)),(zz3 HB GE514)⟩
    ·simp only [Option.some.injEq,Prod.mk.injEq] at H
     obtain ⟨rfl,rfl,rfl,rfl,rfl⟩:=H;obtain ⟨_,_,_,_,_,_,_,_⟩:=cf4 BK514;go_wp2
     refine pR (results_ct rfl _ _ gb514 39 #[.string (⟨#[]⟩:ByteArray),.slice none 0 0,.bool false,.string (⟨#[]⟩:ByteArray)] (0,0) _ rfl (zz37 BK514) Tryz.underlying39 rfl (by kernel_rfl)) rfl ?_;exact ⟨_,zz6,zz22,(zz3 HB GE514)⟩
   ·exact absurd H (by simp)
def spec_l11Norm.f (k:Nat) (a0:ByteArray):Option (Bool):=(spec_AddrRead.f k a0).bind fun bt525=>(if bt525.2.2.2.2=true then ((spec_AddrText.f k bt525.1 bt525.2.1 bt525.2.2.1 bt525.2.2.2.1).bind fun t533=>(some (t533.toList == a0.toList))) else (some false))
theorem spec_l11Norm.calls (k:Nat) (a0:ByteArray) (r:Bool) (w:World) (h:spec_l11Norm.f k a0=some r) :
  Calls Tryz.prog 26 #[.string a0] w fun e w'=>e=.returned (.bool r)∧Below w.heap.size w w':=by
 have hu39:=Tryz.underlying39;have HB:=A_ (Below.refl w.heap.size w);unfold spec_l11Norm.f at h
 have H:=h;clear h;replace H:=bindA H;obtain ⟨⟨t525,t526,t529,t530,t531⟩,A2,H⟩:=H;try dsimp only at H
 have HF3:=A_ H;clear H;go_enter Tryz.func26,Tryz.ntmps26;go_wp2_with (first|(refine gV 46 (some 7) Tryz.func46 (spec_AddrRead.calls k a0 t525 t526 t529 t530 t531 _ A2.out) ?_;rintro v527 w4 ⟨ho0,hb⟩;have HO528:=A_ (Kd.R_lower ho0 (below_size (zz0 HB)));replace HB:=A_ (bS (zz0 HB) hb);(try clear hb ho0))|(refine boxF 3 #[.string (⟨#[]⟩:ByteArray),.slice none 0 0,.bool false,.string (⟨#[]⟩:ByteArray)] 39 ?_;intro gb532 hg w5 BK532 hb;replace HO528:=A_ (rB (zz15 HO528) hb);have GE532:=geB hg (zz0 HB);replace HB:=A_ (bS (zz0 HB) hb);clear hb hg;obtain ⟨_,_,_,_,_,_,_,_⟩:=cf4 BK532;obtain ⟨Ao7,co7,eo7⟩:=Kd.R_slice HO528.out;subst eo7)|((with_reducible refine gate_store (t:=39) (p:=3) rfl ?_);refine store_event (t:=39) (p:=3) (v:=?vo_w8) (w1:=((((w5.setCell ⟨gb532,0,none⟩ (.string t525)).setCell ⟨gb532,1,none⟩ (.slice Ao7 t526.length co7)).setCell ⟨gb532,2,none⟩ (.bool t529)).setCell ⟨gb532,3,none⟩ (.string t530))) ?hg ?ho ?hn ?hr ?_;(case ho=>rfl);(case hg=>rfl);(case hn=>rfl);(case hr=>exact zz14);intro w8 hw;have n0_:Aside0 (Kd.R Kd.string 9 w8 w.heap.size (fun _=>True) (.slice Ao7 t526.length co7) t526):=⟨(by rw [hw];exact (zz52 (rt HO528 BK532)))⟩;have n1_:Aside0 (w8.heap[gb532]?=some (.cells #[.string t525,.slice Ao7 t526.length co7,.bool t529,.string t530] 39 (0,0))):=⟨(by rw [hw];exact (zz37 BK532))⟩;have n2_:Aside0 (Below w.heap.size w w8):=⟨(by rw [hw];exact (zz3 HB GE532))⟩;clear hw;clear HO528;clear BK532;clear HB;have HO528:=n0_;have BK532:=n1_;have HB:=n2_;clear n0_ n1_ n2_)|((with_reducible refine atG ?_ ?_ fun K_ hK_=>?_);rfl;exact undecG)|((with_reducible refine atI ?_ fun K_ hK_=>?_);exact undecI))
 refine unG hK_ ?_;clear hK_ K_;obtain ⟨H⟩:=HF3;replace H:=iteB H;rcases H with ⟨rfl,H⟩|⟨rfl,H⟩
 ·(first|refine iteT ?_|refine iteF ?_|skip)
  replace H:=bindA H;obtain ⟨t533,A10,H⟩:=H;obtain rfl:=sI H;obtain ⟨_,_,_,_,_,_,_,_⟩:=cf4 BK532;(try ((with_reducible refine upS ?_);go_simp))
  go_wp2_with (first|(go_at_call 47;(with_reducible refine (spec_AddrText.calls k t525 _ _ t526 t529 t530 t533 _ ?side1 ?side2 A10.out).mono ?_);(case side1=>exact (zz38 HO528));(case side2=>exact (Kd.R_reads' HO528.out).2.1);rintro e w12 ⟨rfl,hb⟩;replace HO528:=A_ (rB (zz15 HO528) hb);replace BK532:=A_ (bB (zz2 BK532) hb);replace HB:=A_ (bS (zz3 HB GE532) hb);(try clear hb)))
  go_ret
  exact ⟨zz6,(zz3 HB GE532)⟩
 ·(first|refine iteT ?_|refine iteF ?_|skip)
  obtain rfl:=sI H;(try ((with_reducible refine upS ?_);go_simp))
  go_wp2
  go_ret
  exact ⟨zz6,(zz3 HB GE532)⟩
mutual
def spec_WorldOk.l0:Nat→List (S30)→Int→Option (Bool)
 | 0,_,_=>none
 | k+1,x0,x3=>if x3 < (x0.length:Int) then (if 0≤x3 then ((spec_l11Norm.f k ((rd_T30 x0 x3).f0)).bind fun t535=>(if t535=true then (if (((rd_T30 x0 x3).f1).size:Int) > 300 then (spec_WorldOk.j1 k x0 x3 true) else ((spec_l6In.f ((rd_T30 x0 x3).f3) 0 9).bind fun t538=>(if t538=true then (if ((rd_T30 x0 x3).f2).toList=([]:List UInt8) then (spec_WorldOk.j1 k x0 x3 false) else (if ((rd_T30 x0 x3).f1).toList=([]:List UInt8) then ((spec_l11Norm.f k ((rd_T30 x0 x3).f2)).bind fun t542=>(spec_WorldOk.j1 k x0 x3 (!t542))) else (spec_WorldOk.j1 k x0 x3 true))) else (spec_WorldOk.j1 k x0 x3 true)))) else (spec_WorldOk.j1 k x0 x3 true))) else (none)) else (some (decide ((x0.length:Int)≤12)))
def spec_WorldOk.j1:Nat→List (S30)→Int→Bool→Option (Bool)
 | 0,_,_,_=>none
 | k+1,x0,x3,x60=>if x60=true then (some false) else (spec_WorldOk.l1 k x0 x3 0)
def spec_WorldOk.l1:Nat→List (S30)→Int→Int→Option (Bool)
 | 0,_,_,_=>none
 | k+1,x0,x3,x4=>if x4 < x3 then (if 0≤x4 then (if x4 < (x0.length:Int) then (if 0≤x3 then (if x3 < (x0.length:Int) then (if ((rd_T30 x0 x4).f0).toList=((rd_T30 x0 x3).f0).toList then (some false) else (spec_WorldOk.l1 k x0 x3 (wrap64 (x4+1)))) else (none)) else (none)) else (none)) else (none)) else (spec_WorldOk.l0 k x0 (wrap64 (x3+1)))
end
def spec_WorldOk.f (k:Nat) (l0:List (S30)):Option (Bool):=spec_WorldOk.l0 k l0 0
theorem spec_WorldOk.calls (k:Nat) (A0:Option Addr) (c0:Nat) (l0:List (S30)) (r:Bool) (w:World) (hr0:Kd.C k30 w A0 l0.length l0) (hc0:l0.length≤c0) (h:spec_WorldOk.f k l0=some r) :
  Calls Tryz.prog 10 #[.slice A0 l0.length c0] w fun e w'=>e=.returned (.bool r)∧Below w.heap.size w w':=by
 have HR0:=A_ hr0;have HC0:=A_ hc0;clear hr0 hc0;have HB:=A_ (Below.refl w.heap.size w);unfold spec_WorldOk.f at h
 have H:=h;clear h;have H':=A_ H;clear H;go_enter Tryz.func10,Tryz.ntmps10;go_wp2
 repeat (go_quiet (fail);try go_wp2)
 go_loopg [3] k (fun kq v3 w'=>∃ (x3_1:Int),v3=.int .i64 x3_1∧Aside0 (spec_WorldOk.l0 kq l0 x3_1=some r)∧Aside0 (kq≤k)∧Aside0 (Below w.heap.size w w'))
 case atStart=>exact ⟨(0),zz1,H',⟨Nat.le_refl _⟩,⟨(zz0 HB)⟩⟩
 case round=>
  clear H';obtain ⟨x3_1,rfl,HA,HK1,HB⟩:=hrel;cases gk with
  | zero=>exact absurd HA.out (by simp [spec_WorldOk.l0])
  | succ k1=>
   obtain ⟨H⟩:=HA;simp only [spec_WorldOk.l0] at H
   replace H:=iteEd H;rcases H with ⟨c2b0,H⟩|⟨c2b0,H⟩
   ·have HC3:=A_ H
    clear H;go_upto_region 4 with (fail)
    repeat (go_quiet (fail);go_upto_region 4 with (fail))
    go_cut [60] (fun v60 wc=>∃ (kq:Nat) (x60_2:Bool),v60=.bool x60_2∧Aside0 (spec_WorldOk.j1 kq l0 x3_1 x60_2=some r)∧Aside0 (kq≤k1)∧Aside0 (Below w.heap.size w wc))
    case first=>
     obtain ⟨H⟩:=HC3;replace H:=iteNd H;obtain ⟨c4b0,H⟩:=H;(first|rw [c4b0]|(simp only [i64_w,i32_w];rw [c4b0])|skip)
     replace H:=bindA H;obtain ⟨t535,A5,H⟩:=H;have HF6:=A_ H;clear H;obtain ⟨⟨ad534,e534,hx534_0,hx534_1,hx534_2,hx534_3⟩,p534,q534⟩:=atB (at_T30 HR0.out x3_1);cases e534
     obtain ⟨hx534_0,hx534_1,hx534_2,hx534_3⟩:=cb4 HB hx534_0 hx534_1 hx534_2 hx534_3;go_wp2_with (first|(go_at_call 26;(with_reducible refine (spec_l11Norm.calls k1 ((rd_T30 l0 x3_1).f0) t535 _ A5.out).mono ?_);rintro e w7 ⟨rfl,hb⟩;replace HB:=A_ (bS (zz0 HB) hb);(try clear hb))|((with_reducible refine atG ?_ ?_ fun K_ hK_=>?_);rfl;exact undecG)|((with_reducible refine atI ?_ fun K_ hK_=>?_);exact undecI))
     repeat (go_quiet (first|(go_at_call 26;(with_reducible refine (spec_l11Norm.calls k1 ((rd_T30 l0 x3_1).f0) t535 _ A5.out).mono ?_);rintro e w7 ⟨rfl,hb⟩;replace HB:=A_ (bS (zz0 HB) hb);(try clear hb))|((with_reducible refine atG ?_ ?_ fun K_ hK_=>?_);rfl;exact undecG)|((with_reducible refine atI ?_ fun K_ hK_=>?_);exact undecI));go_wp2_with (first|(go_at_call 26;(with_reducible refine (spec_l11Norm.calls k1 ((rd_T30 l0 x3_1).f0) t535 _ A5.out).mono ?_);rintro e w7 ⟨rfl,hb⟩;replace HB:=A_ (bS (zz0 HB) hb);(try clear hb))|((with_reducible refine atG ?_ ?_ fun K_ hK_=>?_);rfl;exact undecG)|((with_reducible refine atI ?_ fun K_ hK_=>?_);exact undecI)))
     refine unG hK_ ?_;clear hK_ K_;obtain ⟨H⟩:=HF6;replace H:=iteB H;rcases H with ⟨rfl,H⟩|⟨rfl,H⟩
     ·(first|refine iteT ?_|refine iteF ?_|skip)
      replace H:=iteE H;rcases H with ⟨c9,H⟩|⟨c9,H⟩
      ·have c9b0:=gtT c9
       have c9b1:decide (300 < ((rd_T30 l0 x3_1).f1).size)=true:=dT (by omega);clear c9;have H':=A_ H;clear H;obtain ⟨⟨ad536,e536,hx536_0,hx536_1,hx536_2,hx536_3⟩,p536,q536⟩:=atB (at_T30 HR0.out x3_1);obtain rfl:ad534=ad536:=(by injection e536);obtain ⟨hx536_0,hx536_1,hx536_2,hx536_3⟩:=cb4 HB hx536_0 hx536_1 hx536_2 hx536_3;go_wp2
       repeat (go_quiet (fail);try go_wp2)
       go_meet
       case rel=>exact ⟨_,(true),zz1,H',⟨(zz10 HK1)⟩,⟨(zz0 HB)⟩⟩
      ·have c9b0:=gtF c9
       have c9b1:decide (300 < ((rd_T30 l0 x3_1).f1).size)=false:=dF (by omega);clear c9;replace H:=bindA H;obtain ⟨t538,A10,H⟩:=H;have HF11:=A_ H;clear H;obtain ⟨⟨ad536,e536,hx536_0,hx536_1,hx536_2,hx536_3⟩,p536,q536⟩:=atB (at_T30 HR0.out x3_1);obtain rfl:ad534=ad536:=(by injection e536);obtain ⟨hx536_0,hx536_1,hx536_2,hx536_3⟩:=cb4 HB hx536_0 hx536_1 hx536_2 hx536_3;obtain ⟨⟨ad537,e537,hx537_0,hx537_1,hx537_2,hx537_3⟩,p537,q537⟩:=atB (at_T30 HR0.out x3_1);obtain rfl:ad534=ad537:=(by injection e537);obtain ⟨hx537_0,hx537_1,hx537_2,hx537_3⟩:=cb4 HB hx537_0 hx537_1 hx537_2 hx537_3;go_wp2_with (first|(go_at_call 27;(with_reducible refine (spec_l6In.calls ((rd_T30 l0 x3_1).f3) 0 9 t538 _ A10.out).mono ?_);rintro e w' ⟨rfl,⟨nd,rfl⟩⟩;(try first|exact ⟨rfl,_,World.drewN_drewN _ _ _⟩|exact ⟨rfl,_,Eq.trans (World.drewN_drewN _ _ _) (congrArg (World.drewN _) (Nat.add_assoc _ _ _))⟩))|((with_reducible refine atG ?_ ?_ fun K_ hK_=>?_);rfl;exact undecG)|((with_reducible refine atI ?_ fun K_ hK_=>?_);exact undecI))
       repeat (go_quiet (first|(go_at_call 27;(with_reducible refine (spec_l6In.calls ((rd_T30 l0 x3_1).f3) 0 9 t538 _ A10.out).mono ?_);rintro e w' ⟨rfl,⟨nd,rfl⟩⟩;(try first|exact ⟨rfl,_,World.drewN_drewN _ _ _⟩|exact ⟨rfl,_,Eq.trans (World.drewN_drewN _ _ _) (congrArg (World.drewN _) (Nat.add_assoc _ _ _))⟩))|((with_reducible refine atG ?_ ?_ fun K_ hK_=>?_);rfl;exact undecG)|((with_reducible refine atI ?_ fun K_ hK_=>?_);exact undecI));go_wp2_with (first|(go_at_call 27;(with_reducible refine (spec_l6In.calls ((rd_T30 l0 x3_1).f3) 0 9 t538 _ A10.out).mono ?_);rintro e w' ⟨rfl,⟨nd,rfl⟩⟩;(try first|exact ⟨rfl,_,World.drewN_drewN _ _ _⟩|exact ⟨rfl,_,Eq.trans (World.drewN_drewN _ _ _) (congrArg (World.drewN _) (Nat.add_assoc _ _ _))⟩))|((with_reducible refine atG ?_ ?_ fun K_ hK_=>?_);rfl;exact undecG)|((with_reducible refine atI ?_ fun K_ hK_=>?_);exact undecI)))
       refine unG hK_ ?_;clear hK_ K_;obtain ⟨H⟩:=HF11;replace H:=iteB H;rcases H with ⟨rfl,H⟩|⟨rfl,H⟩
       ·(first|refine iteT ?_|refine iteF ?_|skip)
        replace H:=iteEq H;rcases H with ⟨c13b0,c13b1,H⟩|⟨c13b0,c13b1,c13,H⟩
        ·have H':=A_ H
         clear H;obtain ⟨⟨ad539,e539,hx539_0,hx539_1,hx539_2,hx539_3⟩,p539,q539⟩:=atB (at_T30 HR0.out x3_1);obtain rfl:ad534=ad539:=(by injection e539);obtain ⟨hx539_0,hx539_1,hx539_2,hx539_3⟩:=cb4 HB hx539_0 hx539_1 hx539_2 hx539_3;go_wp2
         repeat (go_quiet (fail);try go_wp2)
         go_meet
         case rel=>exact ⟨_,(false),zz1,H',⟨(zz10 HK1)⟩,⟨(zz0 HB)⟩⟩
        ·replace H:=iteEq H
         rcases H with ⟨c14b0,c14b1,H⟩|⟨c14b0,c14b1,c14,H⟩
         ·replace H:=bindA H
          obtain ⟨t542,A15,H⟩:=H;have H':=A_ H;clear H;obtain ⟨⟨ad539,e539,hx539_0,hx539_1,hx539_2,hx539_3⟩,p539,q539⟩:=atB (at_T30 HR0.out x3_1);obtain rfl:ad534=ad539:=(by injection e539);obtain ⟨hx539_0,hx539_1,hx539_2,hx539_3⟩:=cb4 HB hx539_0 hx539_1 hx539_2 hx539_3;obtain ⟨⟨ad540,e540,hx540_0,hx540_1,hx540_2,hx540_3⟩,p540,q540⟩:=atB (at_T30 HR0.out x3_1);obtain rfl:ad534=ad540:=(by injection e540);obtain ⟨hx540_0,hx540_1,hx540_2,hx540_3⟩:=cb4 HB hx540_0 hx540_1 hx540_2 hx540_3;obtain ⟨⟨ad541,e541,hx541_0,hx541_1,hx541_2,hx541_3⟩,p541,q541⟩:=atB (at_T30 HR0.out x3_1);obtain rfl:ad534=ad541:=(by injection e541);obtain ⟨hx541_0,hx541_1,hx541_2,hx541_3⟩:=cb4 HB hx541_0 hx541_1 hx541_2 hx541_3;go_wp2_with (first|(go_at_call 26;(with_reducible refine (spec_l11Norm.calls k1 ((rd_T30 l0 x3_1).f2) t542 _ A15.out).mono ?_);rintro e w16 ⟨rfl,hb⟩;replace HB:=A_ (bS (zz0 HB) hb);(try clear hb)))
          repeat (go_quiet (first|(go_at_call 26;(with_reducible refine (spec_l11Norm.calls k1 ((rd_T30 l0 x3_1).f2) t542 _ A15.out).mono ?_);rintro e w16 ⟨rfl,hb⟩;replace HB:=A_ (bS (zz0 HB) hb);(try clear hb)));try go_wp2_with (first|(go_at_call 26;(with_reducible refine (spec_l11Norm.calls k1 ((rd_T30 l0 x3_1).f2) t542 _ A15.out).mono ?_);rintro e w16 ⟨rfl,hb⟩;replace HB:=A_ (bS (zz0 HB) hb);(try clear hb))))
          go_meet
          case rel=>exact ⟨_,(!t542),zz1,H',⟨(zz10 HK1)⟩,⟨(zz0 HB)⟩⟩
         ·have H':=A_ H
          clear H;obtain ⟨⟨ad539,e539,hx539_0,hx539_1,hx539_2,hx539_3⟩,p539,q539⟩:=atB (at_T30 HR0.out x3_1);obtain rfl:ad534=ad539:=(by injection e539);obtain ⟨hx539_0,hx539_1,hx539_2,hx539_3⟩:=cb4 HB hx539_0 hx539_1 hx539_2 hx539_3;obtain ⟨⟨ad540,e540,hx540_0,hx540_1,hx540_2,hx540_3⟩,p540,q540⟩:=atB (at_T30 HR0.out x3_1);obtain rfl:ad534=ad540:=(by injection e540);obtain ⟨hx540_0,hx540_1,hx540_2,hx540_3⟩:=cb4 HB hx540_0 hx540_1 hx540_2 hx540_3;go_wp2
          repeat (go_quiet (fail);try go_wp2)
          go_meet
          case rel=>exact ⟨_,(true),zz1,H',⟨(zz10 HK1)⟩,⟨(zz0 HB)⟩⟩
       ·(first|refine iteT ?_|refine iteF ?_|skip)
        have H':=A_ H;clear H;(try ((with_reducible refine upS ?_);go_simp))
        go_wp2
        repeat (go_quiet (fail);try go_wp2)
        go_meet
        case rel=>exact ⟨_,(true),zz1,H',⟨(zz10 HK1)⟩,⟨(zz0 HB)⟩⟩
     ·(first|refine iteT ?_|refine iteF ?_|skip)
      have H':=A_ H;clear H;(try ((with_reducible refine upS ?_);go_simp))
      go_wp2
      repeat (go_quiet (fail);try go_wp2)
      go_meet
      case rel=>exact ⟨_,(true),zz1,H',⟨(zz10 HK1)⟩,⟨(zz0 HB)⟩⟩
    case rest=>
     clear HC3;obtain ⟨kq,x60_2,rfl,HA,HJ2,HB⟩:=hcut;cases kq with
     | zero=>exact absurd HA.out (by simp [spec_WorldOk.j1])
     | succ kj2=>
      obtain ⟨H⟩:=HA;simp only [spec_WorldOk.j1] at H
      replace H:=iteB H;rcases H with ⟨rfl,H⟩|⟨rfl,H⟩
      ·obtain rfl:=sI H
       go_wp2
       repeat (go_quiet (fail);try go_wp2)
       go_ret
       exact ⟨zz6,(zz0 HB)⟩
      ·have H':=A_ H
       clear H;go_wp2
       repeat (go_quiet (fail);try go_wp2)
       go_loopg [4] kj2 (fun kq v4 w'=>∃ (x4_3:Int),v4=.int .i64 x4_3∧Aside0 (spec_WorldOk.l1 kq l0 x3_1 x4_3=some r)∧Aside0 (kq≤kj2)∧Aside0 (Below w.heap.size w w'))
       case atStart=>exact ⟨(0),zz1,H',⟨Nat.le_refl _⟩,⟨(zz0 HB)⟩⟩
       case round=>
        clear H';obtain ⟨x4_3,rfl,HA,HK3,HB⟩:=hrel;cases gk with
        | zero=>exact absurd HA.out (by simp [spec_WorldOk.l1])
        | succ k3=>
         obtain ⟨H⟩:=HA;simp only [spec_WorldOk.l1] at H
         replace H:=iteEd H;rcases H with ⟨c18b0,H⟩|⟨c18b0,H⟩
         ·replace H:=iteNd H
          obtain ⟨c19b0,H⟩:=H;replace H:=iteNd H;obtain ⟨c20b0,H⟩:=H;replace H:=iteNd H;obtain ⟨c21b0,H⟩:=H;replace H:=iteNd H;obtain ⟨c22b0,H⟩:=H;replace H:=iteEq H;rcases H with ⟨c23b0,c23b1,H⟩|⟨c23b0,c23b1,c23,H⟩
          ·obtain rfl:=sI H
           obtain ⟨⟨ad543,e543,hx543_0,hx543_1,hx543_2,hx543_3⟩,p543,q543⟩:=atB (at_T30 HR0.out x4_3);cases e543
           obtain ⟨hx543_0,hx543_1,hx543_2,hx543_3⟩:=cb4 HB hx543_0 hx543_1 hx543_2 hx543_3;obtain ⟨⟨ad544,e544,hx544_0,hx544_1,hx544_2,hx544_3⟩,p544,q544⟩:=atB (at_T30 HR0.out x3_1);obtain rfl:ad543=ad544:=(by injection e544);obtain ⟨hx544_0,hx544_1,hx544_2,hx544_3⟩:=cb4 HB hx544_0 hx544_1 hx544_2 hx544_3;go_wp2
           repeat (go_quiet (fail);try go_wp2)
           go_ret
           exact ⟨zz6,(zz0 HB)⟩
          ·have H':=A_ H
           clear H;obtain ⟨⟨ad543,e543,hx543_0,hx543_1,hx543_2,hx543_3⟩,p543,q543⟩:=atB (at_T30 HR0.out x4_3);cases e543
           obtain ⟨hx543_0,hx543_1,hx543_2,hx543_3⟩:=cb4 HB hx543_0 hx543_1 hx543_2 hx543_3;obtain ⟨⟨ad544,e544,hx544_0,hx544_1,hx544_2,hx544_3⟩,p544,q544⟩:=atB (at_T30 HR0.out x3_1);obtain rfl:ad543=ad544:=(by injection e544);obtain ⟨hx544_0,hx544_1,hx544_2,hx544_3⟩:=cb4 HB hx544_0 hx544_1 hx544_2 hx544_3;go_wp2
           repeat (go_quiet (fail);try go_wp2)
           go_roundg k3
           case measure=>have:=HK1.out;have:=HJ2.out;have:=HK3.out;omega
           case rel=>exact ⟨(wrap64 (x4_3+1)),zz1,H',⟨(zz63 HK1 HJ2 HK3)⟩,⟨(zz0 HB)⟩⟩
         ·have H':=A_ H
          clear H;go_wp2
          repeat (go_quiet (fail);try go_wp2)
          go_roundg k3
          case measure=>have:=HK1.out;have:=HJ2.out;have:=HK3.out;omega
          case rel=>exact ⟨(wrap64 (x3_1+1)),zz1,H',⟨(zz63 HK1 HJ2 HK3)⟩,⟨(zz0 HB)⟩⟩
   ·obtain rfl:=sI H
    go_wp2
    repeat (go_quiet (fail);try go_wp2)
    go_ret
    exact ⟨zz6,(zz0 HB)⟩
mutual
def strings_genSplit.j0:Nat→ByteArray→ByteArray→Int→Int→Option (List ByteArray)
 | 0,_,_,_,_=>none
 | k+1,x0,x1,x2,x3=>if 0≤(mn x3 (wrap64 ((x0.size:Int)+1))) then (if (mn x3 (wrap64 ((x0.size:Int)+1)):Int).toNat≤17592186044416 then (strings_genSplit.l0 k x0 x1 x2 (wrap64 ((mn x3 (wrap64 ((x0.size:Int)+1))) - 1)) (List.replicate (mn x3 (wrap64 ((x0.size:Int)+1)):Int).toNat (⟨#[]⟩:ByteArray)) 0) else (none)) else (none)
def strings_genSplit.l0:Nat→ByteArray→ByteArray→Int→Int→List ByteArray→Int→Option (List ByteArray)
 | 0,_,_,_,_,_,_=>none
 | k+1,x0,x1,x2,x3,x9,x10=>if x10 < x3 then ((strings_Index.f x0 x1).bind fun t609=>(if t609 < 0 then (if 0≤x10 then (if x10 < (x9.length:Int) then (if 0≤(wrap64 (x10+1)) then (if (wrap64 (x10+1))≤(x9.length:Int) then (some ((x9.set (x10:Int).toNat x0).take ((wrap64 (x10+1)):Int).toNat)) else (none)) else (none)) else (none)) else (none)) else (if 0≤(wrap64 (t609+x2)) then (if (wrap64 (t609+x2))≤(x0.size:Int) then (if 0≤x10 then (if x10 < (x9.length:Int) then (if 0≤(wrap64 (t609+(x1.size:Int))) then (if (wrap64 (t609+(x1.size:Int)))≤(x0.size:Int) then (strings_genSplit.l0 k (x0.extract ((wrap64 (t609+(x1.size:Int))):Int).toNat x0.size) x1 x2 x3 (x9.set (x10:Int).toNat (x0.extract 0 ((wrap64 (t609+x2)):Int).toNat)) (wrap64 (x10+1))) else (none)) else (none)) else (none)) else (none)) else (none)) else (none)))) else (if 0≤x10 then (if x10 < (x9.length:Int) then (if 0≤(wrap64 (x10+1)) then (if (wrap64 (x10+1))≤(x9.length:Int) then (some ((x9.set (x10:Int).toNat x0).take ((wrap64 (x10+1)):Int).toNat)) else (none)) else (none)) else (none)) else (none))
end
def strings_genSplit.f (k:Nat) (a0:ByteArray) (a1:ByteArray) (a2:Int) (a3:Int):Option (List ByteArray):=if a3=0 then (some ([]:List ByteArray)) else (if a1.toList=([]:List UInt8) then ((strings_explode.f a0 a3).bind fun t602=>(some t602)) else (if a3 < 0 then ((strings_Count.f a0 a1).bind fun t605=>(strings_genSplit.j0 k a0 a1 a2 (wrap64 (t605+1)))) else (strings_genSplit.j0 k a0 a1 a2 a3)))
theorem strings_genSplit.mono_l:∀ k,(∀ y0 y1 y2 y3,LeO (strings_genSplit.j0 k y0 y1 y2 y3) (strings_genSplit.j0 (k+1) y0 y1 y2 y3))∧(∀ y0 y1 y2 y3 y4 y5,LeO (strings_genSplit.l0 k y0 y1 y2 y3 y4 y5) (strings_genSplit.l0 (k+1) y0 y1 y2 y3 y4 y5))
 | 0=>by refine ⟨?_,?_⟩ <;> (intros;intro r h;simp [strings_genSplit.j0,strings_genSplit.l0] at h)
 | k+1=>by
  obtain ⟨ih0,ih1⟩:=strings_genSplit.mono_l k;refine ⟨?_,?_⟩ <;> intros <;> (first|unfold strings_genSplit.j0|unfold strings_genSplit.l0) <;>
  repeat' first|(with_reducible first|exact ih0 _ _ _ _|exact ih1 _ _ _ _ _ _|exact LeO.refl _|exact LeO.none _|refine LeO.ite ?_ ?_|refine LeO.bind ?_ (fun _=>?_))|exact LeO.none _|refine LeO.ite ?_ ?_|refine LeO.bind ?_ (fun _=>?_)
theorem strings_genSplit.mono:∀ a0 a1 a2 a3 k,LeO (strings_genSplit.f k a0 a1 a2 a3) (strings_genSplit.f (k+1) a0 a1 a2 a3):=by
 intro a0 a1 a2 a3 k;obtain ⟨ih0,ih1⟩:=strings_genSplit.mono_l k;unfold strings_genSplit.f
 repeat' first|(with_reducible first|exact ih0 _ _ _ _|exact ih1 _ _ _ _ _ _|exact LeO.refl _|exact LeO.none _|refine LeO.ite ?_ ?_|refine LeO.bind ?_ (fun _=>?_))|exact LeO.none _|refine LeO.ite ?_ ?_|refine LeO.bind ?_ (fun _=>?_)
theorem strings_genSplit.calls (k:Nat) (a0:ByteArray) (a1:ByteArray) (a2:Int) (a3:Int) (r:List ByteArray) (w:World) (h:strings_genSplit.f k a0 a1 a2 a3=some r) :
  Calls Tryz.prog 112 #[.string a0,.string a1,.int .i64 a2,.int .i64 a3] w fun e w'=>∃ v0_:Value,e=.returned (v0_)∧Kd.R Kd.string 9 w' w.heap.size (fun _=>True) v0_ r∧Below w.heap.size w w':=by
 have HB:=A_ (Below.refl w.heap.size w);unfold strings_genSplit.f at h
 have H:=h;clear h;replace H:=iteEq H;rcases H with ⟨c5b0,c5b1,H⟩|⟨c5b0,c5b1,c5,H⟩
 ·obtain rfl:=sI H
  go_enter Tryz.func112,Tryz.ntmps112;go_wp2
  go_ret
  exact ⟨_,zz6,zz22,(zz0 HB)⟩
 ·replace H:=iteEq H
  rcases H with ⟨c6b0,c6b1,H⟩|⟨c6b0,c6b1,c6,H⟩
  ·replace H:=bindA H
   obtain ⟨t602,A7,H⟩:=H;obtain rfl:=sI H;go_enter Tryz.func112,Tryz.ntmps112;go_wp2_with (first|(refine gV 125 (some 18) Tryz.func125 (strings_explode.calls a0 a3 t602 _ A7.out) ?_;rintro v603 w8 ⟨ho0,hb⟩;have HO604:=A_ (Kd.R_lower ho0 (below_size (zz0 HB)));replace HB:=A_ (bS (zz0 HB) hb);(try clear hb ho0)))
   go_ret
   exact ⟨_,zz6,(zz15 HO604),(zz0 HB)⟩
  ·have HC9:=A_ H
   clear H;go_enter Tryz.func112,Tryz.ntmps112;go_upto_if 20 with (fail)
   go_cut [3] (fun v3 wc=>∃ (kq:Nat) (x3_8:Int),v3=.int .i64 x3_8∧Aside0 (strings_genSplit.j0 kq a0 a1 a2 x3_8=some r)∧Aside0 (kq≤k)∧Aside0 (Below w.heap.size w wc))
   case first=>
    obtain ⟨H⟩:=HC9;replace H:=iteEd H;rcases H with ⟨c10b0,H⟩|⟨c10b0,H⟩
    ·(first|rw [c10b0]|(simp only [i64_w,i32_w];rw [c10b0])|skip)
     replace H:=bindA H;obtain ⟨t605,A11,H⟩:=H;have H':=A_ H;clear H;go_wp2_with (first|(refine gR 126 (some 23) Tryz.func126 (strings_Count.calls a0 a1 t605 _ A11.out) ?_;rintro w12 hb;replace HB:=A_ (bS (zz0 HB) hb);(try clear hb)))
     go_meet
     case rel=>exact ⟨_,(wrap64 (t605+1)),zz1,H',⟨zz7⟩,⟨(zz0 HB)⟩⟩
    ·(first|rw [c10b0]|(simp only [i64_w,i32_w];rw [c10b0])|skip)
     have H':=A_ H;clear H;go_wp2
     go_meet
     case rel=>exact ⟨_,(a3),zz1,H',⟨zz7⟩,⟨(zz0 HB)⟩⟩
   case rest=>
    clear HC9;obtain ⟨kq,x3_8,rfl,HA,HJ8,HB⟩:=hcut;cases kq with
    | zero=>exact absurd HA.out (by simp [strings_genSplit.j0])
    | succ kj8=>
     obtain ⟨H⟩:=HA;simp only [strings_genSplit.j0] at H
     obtain ⟨ji13,hji13⟩:∃ j_:Int,(mn x3_8 (wrap64 ((a0.size:Int)+1)))=j_:=⟨_,rfl⟩;(first|rw [hji13] at H|simp only [hji13] at H)
     have hji13_:(if (wrap64 ((a0.size:Int)+1)) < x3_8 then (wrap64 ((a0.size:Int)+1)) else x3_8)=ji13:=hji13;replace H:=iteE H;rcases H with ⟨c14,H⟩|⟨c14,H⟩
     ·have c14b0:=eq_true c14
      have c14b1:=dT c14;clear c14;replace H:=iteN H;obtain ⟨c15,H⟩:=H;have c15b0:=eq_true c15;have c15b1:=dT c15;clear c15;obtain ⟨y606,Ny606⟩:=toY (List.replicate (ji13:Int).toNat (⟨#[]⟩:ByteArray));(first|with_reducible replace H:=bindZ Ny606 H|rw [← Ny606.out] at H|skip)
      have H':=A_ H;clear H;go_wp2_with (first|((with_reducible refine gD (N:=31) rfl ?_);refine Kd.R_make Kd.string _ 9 rfl (N:=31) rfl 35 _ _ rfl ji13 rfl rfl Tryz.underlying35 (.string ⟨#[]⟩) 16 info9 rfl (by decide) (by omega) (⟨#[]⟩:ByteArray) (ok:=fun _=>True) (okp:=fun _=>True) rfl (fun _ hk=>hk) trivial ofD (Nat.le_trans (Nat.mul_le_mul_right _ (ofD:ji13.toNat≤17592186044416)) (by omega)) (Below.refl _ _) (Nat.le_refl _) ?_;intro v607 w16 ho17 hb hg_ hnew_;clear hg_ hnew_;(first|rw [← Ny606.out] at ho17|(simp only [Int.reduceToNat] at ho17;rw [← Ny606.out] at ho17));have HO608:=A_ (Kd.R_lower ho17 (below_size (zz0 HB)));replace HB:=A_ (bS (zz0 HB) hb);clear hb ho17))
      go_loopg [0,10] kj8 (fun kq v0 v10 w'=>∃ (x0_2:ByteArray) (x9_2:List ByteArray) (x10_2:Int),v0=.string x0_2∧v10=.int .i64 x10_2∧Aside0 (strings_genSplit.l0 kq x0_2 a1 a2 (wrap64 ((ji13) - 1)) x9_2 x10_2=some r)∧Aside0 (kq≤kj8)∧Aside0 (Kd.R Kd.string 9 w' w.heap.size (fun _=>True) v607 x9_2)∧Aside0 (Below w.heap.size w w'))
      case atStart=>exact ⟨(a0),(y606),(0),zz1,zz1,H',⟨Nat.le_refl _⟩,⟨(zz15 HO608)⟩,⟨(zz0 HB)⟩⟩
      case round=>
       clear H';obtain ⟨x0_2,x9_2,x10_2,rfl,rfl,HA,HK2,HO_9,HB⟩:=hrel;cases gk with
       | zero=>exact absurd HA.out (by simp [strings_genSplit.l0])
       | succ k2=>
        obtain ⟨H⟩:=HA;simp only [strings_genSplit.l0] at H
        replace H:=iteEd H;rcases H with ⟨c18b0,H⟩|⟨c18b0,H⟩
        ·replace H:=bindA H
         obtain ⟨t609,A19,H⟩:=H;have HF20:=A_ H;clear H;go_upto_if 41 with (first|(refine gR 127 (some 39) Tryz.func127 (strings_Index.calls x0_2 a1 t609 _ A19.out) ?_;rintro w21 hb;replace HO_9:=A_ (rB (zz15 HO_9) hb);replace HB:=A_ (bS (zz0 HB) hb);(try clear hb)))
         obtain ⟨H⟩:=HF20;replace H:=iteEd H;rcases H with ⟨c22b0,H⟩|⟨c22b0,H⟩
         ·(first|rw [c22b0]|(simp only [i64_w,i32_w];rw [c22b0])|skip)
          replace H:=iteNd H;obtain ⟨c23b0,H⟩:=H;replace H:=iteNd H;obtain ⟨c24b0,H⟩:=H;obtain ⟨y610,hy610⟩:∃ y_:List ByteArray,y_=(x9_2.set (x10_2:Int).toNat x0_2):=⟨_,rfl⟩;replace H:(if 0≤(wrap64 (x10_2+1)) then (if (wrap64 (x10_2+1))≤(x9_2.length:Int) then (some (y610.take ((wrap64 (x10_2+1)):Int).toNat)) else (none)) else (none))=some r:=by first|(rw [hy610];with_reducible exact H)|(have H2_:=(Option.bind_some _ _).symm.trans H;rw [hy610];with_reducible exact H2_)|(have H2_:=(Option.bind_some _ _).symm.trans H;with_reducible exact H2_)|with_reducible exact H|(rw [hy610];exact H)|exact H
          have Ny610:=A_ hy610;have Ly610:y610.length≤x9_2.length∧x9_2.length≤y610.length:=by rw [hy610,List.length_set];exact ⟨Nat.le_refl _,Nat.le_refl _⟩
          have My610:=Ly610.1;replace Ly610:=Ly610.2;clear hy610;obtain ⟨ji26,hji26⟩:∃ j_:Int,(wrap64 (x10_2+1))=j_:=⟨_,rfl⟩;(first|rw [hji26] at H|simp only [hji26] at H)
          have hji26w:(IntKind.i64.wrap (x10_2+1))=ji26:=(i64_w _).trans hji26;replace H:=iteN H;obtain ⟨c27,H⟩:=H;have c27b0:=eq_true c27;have c27b1:=dT c27;clear c27;replace H:=iteN H;obtain ⟨c28,H⟩:=H;have c28b0:=eq_true c28;have c28b1:=dT c28;clear c28;obtain ⟨y611,Ny611⟩:=toY (y610.take ((ji26):Int).toNat);(first|with_reducible replace H:=bindZ Ny611 H|rw [← Ny611.out] at H|skip)
          obtain rfl:=sI H;have p25:0≤(x10_2:Int):=ofD;have q25:(x10_2:Int) < ((x9_2.length:Int):Int):=ofD;obtain ⟨go25,co25,eo25,gb25,gl25,cl25,HG25⟩:=Kd.R_form HO_9.out (by omega);(first|cases eo25|(injection eo25 with ea_ en_ ec_;(first|subst ea_|(injection ea_ with ea_;subst ea_));subst ec_;clear en_))
          have GB25:=A_ gb25;have GG25:=A_ HG25;clear gb25 gl25 HG25;obtain ⟨hx25_0,hf25_0⟩:=Kd.R_celln (⟨#[]⟩:ByteArray) HO_9.out (x10_2:Int) p25 q25;replace p25:=eq_true p25;replace q25:=eq_true q25;have HP29:=Kd.R_putg HO_9.out (x10_2:Int) x0_2;go_wp2_with (first|((with_reducible refine gate_store (t:=9) (p:=61) rfl ?_);refine store_event (t:=9) (p:=61) (v:=?vo_w30) (w1:=(w21.setCell ⟨go25,(x10_2:Int).toNat,none⟩ (.string x0_2))) ?hg ?ho ?hn ?hr ?_;(case ho=>rfl);(case hg=>rfl);(case hn=>rfl);(case hr=>exact zz14);intro w30 hw;have hg:w21.grownBy w30 (some go25):=(by rw [hw];exact HP29.2);have hp_:Kd.R Kd.string 9 w30 w.heap.size (fun _=>True) (.slice (some ⟨go25,0,none⟩) x9_2.length co25) y610:=(by rw [hw,Ny610.out];exact HP29.1);clear HP29;replace HO_9:=A_ (hp_);replace HB:=A_ ((by rw [hw];exact below_set (HB.out) GB25.out:Below w.heap.size w w30));clear hg hw hp_;have q31:((ji26):Int)≤((x9_2.length:Int):Int):=ofD;obtain ⟨i031,hi031,_,hsz31,_⟩:=info_parts info9;have hcut31:=cut_to (P:=Tryz.prog) 35 9 .i64 Tryz.underlying35 hi031 (some ⟨go25,0,none⟩) x9_2.length co25 (ji26) ofD q31 (Kd.R_reads' HO_9.out).2.1;have hr31:=Kd.R_take (m:=((ji26):Int).toNat) HO_9.out (by omega);have hy31:y611.length=((ji26):Int).toNat:=(by rw [Ny611.out,List.length_take];omega);rw [← Ny611.out] at hr31;rw [← hy31] at hr31 hcut31;clear hy31 hi031 hsz31 HO_9;have HO613:=A_ hr31;clear hr31;replace q31:=eq_true q31))
          go_ret
          exact ⟨_,(by first|rfl|(simp [errW_none,errW_some] <;> rfl)|(simp only [← hji13,← hji26];first|rfl|(simp [errW_none,errW_some] <;> rfl))|(simp [*,errW_none,errW_some] <;> rfl)),(zz15 HO613),(zz0 HB)⟩
         ·(first|rw [c22b0]|(simp only [i64_w,i32_w];rw [c22b0])|skip)
          obtain ⟨ji32,hji32⟩:∃ j_:Int,(wrap64 (t609+a2))=j_:=⟨_,rfl⟩;(first|rw [hji32] at H|simp only [hji32] at H)
          have hji32w:(IntKind.i64.wrap (t609+a2))=ji32:=(i64_w _).trans hji32;replace H:=iteN H;obtain ⟨c33,H⟩:=H;have c33b0:=eq_true c33;have c33b1:=dT c33;clear c33;replace H:=iteN H;obtain ⟨c34,H⟩:=H;have c34b0:=eq_true c34;have c34b1:=dT c34;clear c34;replace H:=iteNd H;obtain ⟨c35b0,H⟩:=H;replace H:=iteNd H;obtain ⟨c36b0,H⟩:=H;obtain ⟨y614,hy614⟩:∃ y_:List ByteArray,y_=(x9_2.set (x10_2:Int).toNat (x0_2.extract 0 ((ji32):Int).toNat)):=⟨_,rfl⟩;replace H:(if 0≤(wrap64 (t609+(a1.size:Int))) then (if (wrap64 (t609+(a1.size:Int)))≤(x0_2.size:Int) then (strings_genSplit.l0 k2 (x0_2.extract ((wrap64 (t609+(a1.size:Int))):Int).toNat x0_2.size) a1 a2 (wrap64 ((ji13) - 1)) y614 (wrap64 (x10_2+1))) else (none)) else (none))=some r:=by first|(rw [hy614];with_reducible exact H)|(have H2_:=(Option.bind_some _ _).symm.trans H;rw [hy614];with_reducible exact H2_)|(have H2_:=(Option.bind_some _ _).symm.trans H;with_reducible exact H2_)|with_reducible exact H|(rw [hy614];exact H)|exact H
          have Ny614:=A_ hy614;have Ly614:y614.length≤x9_2.length∧x9_2.length≤y614.length:=by rw [hy614,List.length_set];exact ⟨Nat.le_refl _,Nat.le_refl _⟩
          have My614:=Ly614.1;replace Ly614:=Ly614.2;clear hy614;obtain ⟨ji38,hji38⟩:∃ j_:Int,(wrap64 (t609+(a1.size:Int)))=j_:=⟨_,rfl⟩;(first|rw [hji38] at H|simp only [hji38] at H)
          have hji38w:(IntKind.i64.wrap (t609+(a1.size:Int)))=ji38:=(i64_w _).trans hji38;replace H:=iteN H;obtain ⟨c39,H⟩:=H;have c39b0:=eq_true c39;have c39b1:=dT c39;clear c39;replace H:=iteN H;obtain ⟨c40,H⟩:=H;have c40b0:=eq_true c40;have c40b1:=dT c40;clear c40;have H':=A_ H;clear H;have p37:0≤(x10_2:Int):=ofD;have q37:(x10_2:Int) < ((x9_2.length:Int):Int):=ofD;obtain ⟨go37,co37,eo37,gb37,gl37,cl37,HG37⟩:=Kd.R_form HO_9.out (by omega);(first|cases eo37|(injection eo37 with ea_ en_ ec_;(first|subst ea_|(injection ea_ with ea_;subst ea_));subst ec_;clear en_))
          have GB37:=A_ gb37;have GG37:=A_ HG37;clear gb37 gl37 HG37;obtain ⟨hx37_0,hf37_0⟩:=Kd.R_celln (⟨#[]⟩:ByteArray) HO_9.out (x10_2:Int) p37 q37;replace p37:=eq_true p37;replace q37:=eq_true q37;have HP41:=Kd.R_putg HO_9.out (x10_2:Int) (x0_2.extract 0 ((ji32):Int).toNat);go_wp2_with (first|((with_reducible refine gate_store (t:=9) (p:=49) rfl ?_);refine store_event (t:=9) (p:=49) (v:=?vo_w42) (w1:=(w21.setCell ⟨go37,(x10_2:Int).toNat,none⟩ (.string (x0_2.extract 0 ((ji32):Int).toNat)))) ?hg ?ho ?hn ?hr ?_;(case ho=>rfl);(case hg=>rfl);(case hn=>rfl);(case hr=>exact zz14);intro w42 hw;have hg:w21.grownBy w42 (some go37):=(by rw [hw];exact HP41.2);have hp_:Kd.R Kd.string 9 w42 w.heap.size (fun _=>True) (.slice (some ⟨go37,0,none⟩) x9_2.length co37) y614:=(by rw [hw,Ny614.out];exact HP41.1);clear HP41;replace HO_9:=A_ (hp_);replace HB:=A_ ((by rw [hw];exact below_set (HB.out) GB37.out:Below w.heap.size w w42));clear hg hw hp_))
          go_roundg k2
          case measure=>have:=HJ8.out;have:=HK2.out;omega
          case rel=>exact ⟨(x0_2.extract ((ji38):Int).toNat x0_2.size),(y614),(wrap64 (x10_2+1)),(by first|rfl|(simp only [i64_w,i32_w];done)|(simp only [aid_isEmpty,aid_isEmpty2];done)|(simp;done)|((simp only [← hji38] <;> (first|rfl|simp));done)|(simp [*];done)),zz1,H',⟨(zz19 HJ8 HK2)⟩,⟨(zz15 HO_9)⟩,⟨(zz0 HB)⟩⟩
        ·replace H:=iteNd H
         obtain ⟨c43b0,H⟩:=H;replace H:=iteNd H;obtain ⟨c44b0,H⟩:=H;obtain ⟨y615,hy615⟩:∃ y_:List ByteArray,y_=(x9_2.set (x10_2:Int).toNat x0_2):=⟨_,rfl⟩;replace H:(if 0≤(wrap64 (x10_2+1)) then (if (wrap64 (x10_2+1))≤(x9_2.length:Int) then (some (y615.take ((wrap64 (x10_2+1)):Int).toNat)) else (none)) else (none))=some r:=by first|(rw [hy615];with_reducible exact H)|(have H2_:=(Option.bind_some _ _).symm.trans H;rw [hy615];with_reducible exact H2_)|(have H2_:=(Option.bind_some _ _).symm.trans H;with_reducible exact H2_)|with_reducible exact H|(rw [hy615];exact H)|exact H
         have Ny615:=A_ hy615;have Ly615:y615.length≤x9_2.length∧x9_2.length≤y615.length:=by rw [hy615,List.length_set];exact ⟨Nat.le_refl _,Nat.le_refl _⟩
         have My615:=Ly615.1;replace Ly615:=Ly615.2;clear hy615;obtain ⟨ji46,hji46⟩:∃ j_:Int,(wrap64 (x10_2+1))=j_:=⟨_,rfl⟩;(first|rw [hji46] at H|simp only [hji46] at H)
         have hji46w:(IntKind.i64.wrap (x10_2+1))=ji46:=(i64_w _).trans hji46;replace H:=iteN H;obtain ⟨c47,H⟩:=H;have c47b0:=eq_true c47;have c47b1:=dT c47;clear c47;replace H:=iteN H;obtain ⟨c48,H⟩:=H;have c48b0:=eq_true c48;have c48b1:=dT c48;clear c48;obtain ⟨y616,Ny616⟩:=toY (y615.take ((ji46):Int).toNat);(first|with_reducible replace H:=bindZ Ny616 H|rw [← Ny616.out] at H|skip)
         obtain rfl:=sI H;have p45:0≤(x10_2:Int):=ofD;have q45:(x10_2:Int) < ((x9_2.length:Int):Int):=ofD;obtain ⟨go45,co45,eo45,gb45,gl45,cl45,HG45⟩:=Kd.R_form HO_9.out (by omega);(first|cases eo45|(injection eo45 with ea_ en_ ec_;(first|subst ea_|(injection ea_ with ea_;subst ea_));subst ec_;clear en_))
         have GB45:=A_ gb45;have GG45:=A_ HG45;clear gb45 gl45 HG45;obtain ⟨hx45_0,hf45_0⟩:=Kd.R_celln (⟨#[]⟩:ByteArray) HO_9.out (x10_2:Int) p45 q45;replace p45:=eq_true p45;replace q45:=eq_true q45;have HP49:=Kd.R_putg HO_9.out (x10_2:Int) x0_2;go_wp2_with (first|((with_reducible refine gate_store (t:=9) (p:=61) rfl ?_);refine store_event (t:=9) (p:=61) (v:=?vo_w50) (w1:=(wr.setCell ⟨go45,(x10_2:Int).toNat,none⟩ (.string x0_2))) ?hg ?ho ?hn ?hr ?_;(case ho=>rfl);(case hg=>rfl);(case hn=>rfl);(case hr=>exact zz14);intro w50 hw;have hg:wr.grownBy w50 (some go45):=(by rw [hw];exact HP49.2);have hp_:Kd.R Kd.string 9 w50 w.heap.size (fun _=>True) (.slice (some ⟨go45,0,none⟩) x9_2.length co45) y615:=(by rw [hw,Ny615.out];exact HP49.1);clear HP49;replace HO_9:=A_ (hp_);replace HB:=A_ ((by rw [hw];exact below_set (HB.out) GB45.out:Below w.heap.size w w50));clear hg hw hp_;have q51:((ji46):Int)≤((x9_2.length:Int):Int):=ofD;obtain ⟨i051,hi051,_,hsz51,_⟩:=info_parts info9;have hcut51:=cut_to (P:=Tryz.prog) 35 9 .i64 Tryz.underlying35 hi051 (some ⟨go45,0,none⟩) x9_2.length co45 (ji46) ofD q51 (Kd.R_reads' HO_9.out).2.1;have hr51:=Kd.R_take (m:=((ji46):Int).toNat) HO_9.out (by omega);have hy51:y616.length=((ji46):Int).toNat:=(by rw [Ny616.out,List.length_take];omega);rw [← Ny616.out] at hr51;rw [← hy51] at hr51 hcut51;clear hy51 hi051 hsz51 HO_9;have HO618:=A_ hr51;clear hr51;replace q51:=eq_true q51))
         go_ret
         exact ⟨_,(by first|rfl|(simp [errW_none,errW_some] <;> rfl)|(simp only [← hji13,← hji46];first|rfl|(simp [errW_none,errW_some] <;> rfl))|(simp [*,errW_none,errW_some] <;> rfl)),(zz15 HO618),(zz0 HB)⟩
     ·exact absurd H (by simp)
end Go.Proofs.YtpomhjkbgbociaaGreatDoor.P
end
