/- Part 4 of the proof of FnWorldFromNorm: the plain functions of what it reaches, that Go comes to just their answers, what they answer, and the words that the walks use; conditions: each theorem's own. -/
import Derived.Test.YtpomhjkbgbociaaGreatDoorZFnWorldFromNormb
import Derived.Test.YtpomhjkbgbociaaGreatDoorZFnWorldFromNormc
import Derived.Laws.RangeAny
import Derived.LoopTactic

section
namespace Go.Proofs.YtpomhjkbgbociaaGreatDoor.P
open Go.RowKit Go.Proofs.YtpomhjkbgbociaaGreatDoorW.PrintWords Go.Proofs.YtpomhjkbgbociaaGreatDoorW.PrintLast Go.Proofs.YtpomhjkbgbociaaGreatDoorW.PrintMore
attribute [local go_sem] max2_int min2_int max_two min_two max_three min_three max_four min_four
set_option linter.unusedVariables false
set_option linter.unusedSimpArgs false
set_option maxHeartbeats 8000000
set_option maxRecDepth 100000
mutual
def spec_l71World.l0:Nat→List (S30)→List ByteArray→Int→List Int→Int→Option ((List (S30))×Int)
 | 0,_,_,_,_,_=>none
 | k+1,x3,x4,x5,x1000,x1001=>if x5 < 4 then ((spec_l6Rd_pick.f k x1000 x1001 2).bind fun bt336=>(if bt336.1=0 then (if 0≤x5 then (if x5 < (x4.length:Int) then (if 2+(rdOf ByteArray.empty x4 x5).size≤9223372036854775807 then (if 2+(rdOf ByteArray.empty x4 x5).size+7≤9223372036854775807 then ((spec_l71Groups.f k x1000 bt336.2).bind fun bt339=>((spec_NoticeText.f k bt339.1).bind fun t343=>((some (([0,0,0,1,2,5]:List Int):List Int)).bind fun y344=>((spec_l6Rd_pick.f k x1000 bt339.2 6).bind fun bt347=>(if 0≤bt347.1 then (if bt347.1 < (y344.length:Int) then ((spec_l6Rd_pick.f k x1000 bt347.2 12).bind fun bt351=>(if bt351.1=0 then ((spec_l71Addr.f k x1000 bt351.2).bind fun bt353=>(if 0≤300 then (if x3.length < 2513169434916 then (spec_l71World.l0 k (x3++[(⟨((⟨#[47,47]⟩:ByteArray)++(rdOf ByteArray.empty x4 x5))++(⟨#[47,110,111,116,105,99,101]⟩:ByteArray),(⟨#[]⟩:ByteArray),bt353.1,rd y344 bt347.1⟩:S30)]) x4 (wrap64 (x5+1)) x1000 bt353.2) else (none)) else (spec_l71World.l0 k x3 x4 (wrap64 (x5+1)) x1000 bt353.2))) else (if (t343.size:Int)≤300 then (if x3.length < 2513169434916 then (spec_l71World.l0 k (x3++[(⟨((⟨#[47,47]⟩:ByteArray)++(rdOf ByteArray.empty x4 x5))++(⟨#[47,110,111,116,105,99,101]⟩:ByteArray),t343,(⟨#[]⟩:ByteArray),rd y344 bt347.1⟩:S30)]) x4 (wrap64 (x5+1)) x1000 bt351.2) else (none)) else (spec_l71World.l0 k x3 x4 (wrap64 (x5+1)) x1000 bt351.2)))) else (none)) else (none)))))) else (none)) else (none)) else (none)) else (none)) else (spec_l71World.l0 k x3 x4 (wrap64 (x5+1)) x1000 bt336.2))) else ((spec_l6Rd_pick.f k x1000 x1001 7).bind fun bt361=>(spec_l71World.l1 k x3 (wrap64 (2+bt361.1)) x1000 bt361.2))
def spec_l71World.l1:Nat→List (S30)→Int→List Int→Int→Option ((List (S30))×Int)
 | 0,_,_,_,_=>none
 | k+1,x3,x7,x1000,x1001=>if x7 > 0 then ((spec_l71Addr.f k x1000 x1001).bind fun bt363=>((spec_l71Page.f k x1000 bt363.2).bind fun bt365=>((some (([0,0,0,0,1,2,4]:List Int):List Int)).bind fun y367=>((spec_l6Rd_pick.f k x1000 bt365.2 7).bind fun bt370=>(if 0≤bt370.1 then (if bt370.1 < (y367.length:Int) then ((spec_l6Rd_pick.f k x1000 bt370.2 8).bind fun bt374=>(if bt374.1=0 then ((spec_l71Addr.f k x1000 bt374.2).bind fun bt376=>((spec_l11At.f k x3 bt363.1).bind fun bt378=>(if bt378.2.2.2.2=true then (spec_l71World.l1 k x3 (wrap64 (x7 - 1)) x1000 bt376.2) else (if 0≤300 then (if x3.length < 2513169434916 then (spec_l71World.l1 k (x3++[(⟨bt363.1,(⟨#[]⟩:ByteArray),bt376.1,rd y367 bt370.1⟩:S30)]) (wrap64 (x7 - 1)) x1000 bt376.2) else (none)) else (spec_l71World.l1 k x3 (wrap64 (x7 - 1)) x1000 bt376.2))))) else ((spec_l11At.f k x3 bt363.1).bind fun bt387=>(if bt387.2.2.2.2=true then (spec_l71World.l1 k x3 (wrap64 (x7 - 1)) x1000 bt374.2) else (if (bt365.1.size:Int)≤300 then (if x3.length < 2513169434916 then (spec_l71World.l1 k (x3++[(⟨bt363.1,bt365.1,(⟨#[]⟩:ByteArray),rd y367 bt370.1⟩:S30)]) (wrap64 (x7 - 1)) x1000 bt374.2) else (none)) else (spec_l71World.l1 k x3 (wrap64 (x7 - 1)) x1000 bt374.2)))))) else (none)) else (none)))))) else (some (x3,x1001))
end
def spec_l71World.f (k:Nat) (s0_0:List Int) (s0_1:Int):Option ((List (S30))×Int):=(spec_l71Houses.f).bind fun t333=>(spec_l71World.l0 k (([]:List (S30))) t333 0 s0_0 s0_1)
def spec_l71World.T7:Bool×List (List Nat×List Nat):=(true,[([],[]),([],[]),([0,1],[0,1]),([2],[2]),([3],[3]),([4],[4]),([],[]),([6],[6]),([7,7],[7]),([],[]),([],[]),([10,8],[10]),([9,11],[9,11]),([12],[12]),([5,8,13],[5,8,13]),([],[]),([15,14,11,0,1,2,3,4,5,6,7,8,9,10,11,12,13,14,15],[14,15])])
def spec_l71World.B7:List Nat:=[0,0,3,7,15,31,0,64,192,0,0,1472,4032,8128,16383,0,65535]
theorem spec_l71World.tab7:rtab .any (opsOf Tryz.f40 7)=spec_l71World.T7:=by kernel_rfl
theorem spec_l71World.bits7:waitsOk spec_l71World.T7.2 spec_l71World.B7=true:=by kernel_rfl
theorem spec_l71World.calls (k:Nat) (g:Nat) (s0_0:List Int) (s0_1:Int) (r1:List (S30)) (r2:Int) (w0 w:World) (hI:IsS68 w0 w g s0_0 s0_1) (hB:Below w0.heap.size w0 w) (h:spec_l71World.f k s0_0 s0_1=some (r1,r2)) :
  Calls Tryz.prog 40 #[.pointer (some ⟨g,0,none⟩)] w fun e w'=>∃ v0_:Value,e=.returned (v0_)∧Kd.R k30 30 w' w.heap.size (fun _=>True) v0_ r1∧IsS68 w0 w' g s0_0 r2∧Below w0.heap.size w0 w'∧KeepBut w w' g none:=by
 have hu30:=Tryz.underlying30;have HI0:=A_ hI;have HK:=A_ (KeepBut.refl w g none);have HL:=A_ hB.size;clear hI;have HW0:=A_ hB.size;have HB:=A_ hB;clear hB;unfold spec_l71World.f at h
 have H:=h;clear h;obtain ⟨y330,Ny330⟩:=toY (([]:List (S30)));(first|with_reducible replace H:=bindZ Ny330 H|rw [← Ny330.out] at H|skip)
 replace H:=bindA H;obtain ⟨t333,A2,H⟩:=H;have H':=A_ H;clear H;go_enter Tryz.func40,Tryz.ntmps40;go_wp2_with (first|((with_reducible refine gD (N:=11) rfl ?_);(try (refine gate_guard (by rfl) ?_;dsimp only));refine Kd.R_lit k30 _ 30 ?hg (N:=11) ?hd (xs:=([]:List (S30))) (inner:=[]) (ok:=fun _=>True) (okp:=fun _=>True) ?hr ?hp (fun _ hk=>hk) trivial (Below.refl _ _) (Nat.le_refl _) (by simp) ?_;(case hd=>rfl);(case hg=>rfl);(case hr=>exact zz26);(case hp=>exact (Reps.none _ _));intro v331 w3 ho4 hb hg_ hnew_;clear hg_ hnew_;(first|rw [← Ny330.out] at ho4|(simp only [Int.reduceToNat] at ho4;rw [← Ny330.out] at ho4));have HO332:=A_ (Kd.R_lower ho4 (keep_size (w:=w) (g:=g) (row:=none) (zz19 HK)));replace HK:=A_ (KeepBut.trans (zz19 HK) (KeepBut.of_below hb g none) (.inl rfl));replace HB:=A_ (bS (zz20 HB HI0) hb);replace HI0:=A_ (IsS68.below (zz18 HI0) hb);clear hb ho4)|(refine gV 65 (some 12) Tryz.func65 (spec_l71Houses.calls  t333 _ A2.out) ?_;rintro v334 w5 ⟨ho0,hb⟩;replace HO332:=A_ (rB (zz8 HO332) hb);have HO335:=A_ (Kd.R_lower ho0 (keep_size (w:=w) (g:=g) (row:=none) (zz19 HK)));replace HK:=A_ (KeepBut.trans (zz19 HK) (KeepBut.of_below hb g none) (.inl rfl));replace HB:=A_ (bS (zz20 HB HI0) hb);replace HI0:=A_ (IsS68.below (zz18 HI0) hb);(try clear hb ho0)))
 go_loopg [3,5] k (fun kq v3 v5 w'=>∃ (x3_1:List (S30)) (x5_1:Int) (x1001_1:Int),v5=.int .i64 x5_1∧Aside0 (spec_l71World.l0 kq x3_1 t333 x5_1 s0_0 x1001_1=some (r1,r2))∧Aside0 (kq≤k)∧Aside0 (Kd.R k30 30 w' w.heap.size (fun _=>True) v3 x3_1)∧Aside0 (Kd.R Kd.string 9 w' w.heap.size (fun _=>True) v334 t333)∧Aside0 (IsS68 w0 w' g s0_0 x1001_1)∧Aside0 (KeepBut w w' g none)∧Aside0 (Below w0.heap.size w0 w'))
 case atStart=>exact ⟨(y330),(0),(s0_1),zz0,H',⟨Nat.le_refl _⟩,⟨(zz8 HO332)⟩,⟨(zz8 HO335)⟩,⟨(zz18 HI0)⟩,⟨(zz19 HK)⟩,⟨(zz20 HB HI0)⟩⟩
 case round=>
  clear H';obtain ⟨x3_1,x5_1,x1001_1,rfl,HA,HK1,HO_3,HO_4,HI0,HK,HB⟩:=hrel;cases gk with
  | zero=>exact absurd HA.out (by simp [spec_l71World.l0])
  | succ k1=>
   obtain ⟨H⟩:=HA;simp only [spec_l71World.l0] at H
   replace H:=iteEd H;rcases H with ⟨c6b0,H⟩|⟨c6b0,H⟩
   ·replace H:=bindA H
    obtain ⟨⟨t336,t337⟩,A7,H⟩:=H;try dsimp only at H
    have HF8:=A_ H;clear H;go_upto_if 19 with (first|(refine gR 22 (some 18) Tryz.func22 (spec_l6Rd_pick.calls k1 g s0_0 x1001_1 2 t336 t337 w0 _ ?side1 ?side2 A7.out) ?_;(case side1=>exact (zz18 HI0));(case side2=>exact (zz20 HB HI0));rintro w9 ⟨hi,hb,hk⟩;replace HO_3:=A_ (Kd.R_mono (Kd.R_keep (IsS68.apart (show IsS68 w0 _ g s0_0 x1001_1 from (zz18 HI0)) (zz8 HO_3) (by decide)) hk (fun _ h=>h.2)) (fun _ h=>h.1));replace HO_4:=A_ (Kd.R_mono (Kd.R_keep (IsS68.apart (show IsS68 w0 _ g s0_0 x1001_1 from (zz18 HI0)) (zz8 HO_4) (by decide)) hk (fun _ h=>h.2)) (fun _ h=>h.1));replace HK:=A_ (KeepBut.trans (zz19 HK) hk (.inl rfl));replace HB:=A_ (hb);replace HI0:=A_ (hi);(try clear hb hk hi)))
    obtain ⟨H⟩:=HF8;replace H:=iteEq H;rcases H with ⟨c10b0,c10b1,H⟩|⟨c10b0,c10b1,c10,H⟩
    ·(first|rw [c10b0]|(simp only [i64_w,i32_w];rw [c10b0])|skip)
     replace H:=iteNd H;obtain ⟨c11b0,H⟩:=H;replace H:=iteNd H;obtain ⟨c12b0,H⟩:=H;replace H:=iteN H;obtain ⟨c13,H⟩:=H;have c13b0:=eq_true c13;have c13b1:=dT c13;try have c13b2:(9223372036854775807 < 2+(rdOf ByteArray.empty t333 x5_1).size)=False:=eq_false (Nat.not_lt.2 c13)
     replace H:=iteN H;obtain ⟨c14,H⟩:=H;have c14b0:=eq_true c14;have c14b1:=dT c14;try have c14b2:(9223372036854775807 < 2+(rdOf ByteArray.empty t333 x5_1).size+7)=False:=eq_false (Nat.not_lt.2 c14)
     replace H:=bindA H;obtain ⟨⟨t339,t342⟩,A15,H⟩:=H;try dsimp only at H
     replace H:=bindA H;obtain ⟨t343,A16,H⟩:=H;obtain ⟨y344,Ny344,H⟩:=bindY H;replace H:=bindA H;obtain ⟨⟨t347,t348⟩,A17,H⟩:=H;try dsimp only at H
     replace H:=iteNd H;obtain ⟨c18b0,H⟩:=H;replace H:=iteNd H;obtain ⟨c19b0,H⟩:=H;replace H:=bindA H;obtain ⟨⟨t351,t352⟩,A20,H⟩:=H;try dsimp only at H
     have HF21:=A_ H;clear H;try go_wp2
     have pi349:(0≤(t347:Int))=True:=eq_true ofD;have qi349:(t347 < (y344.length:Int))=True:=eq_true ofD;replace HO_3:=A_ (Kd.R_drew HO_3.out);replace HO_4:=A_ (Kd.R_drew HO_4.out);replace HI0:=A_ (IsS68.drew HI0.out);replace HK:=A_ (keep_drew HK.out);replace HB:=A_ (below_drew1 HB.out);obtain ⟨Ao23,co23,eo23⟩:=Kd.R_slice HO_4.out;(first|subst eo23|(injection eo23 with f1_ f2_ f3_;have f4_:=f1_.symm;have f5_:=f3_.symm;clear f1_ f2_ f3_;subst f4_;subst f5_))
     obtain ⟨⟨ad338,e338,hx338_0⟩,p338,q338⟩:=atB (Kd.at_string (Kd.R_reads' HO_4.out).2.2 x5_1);cases e338
     refine start_ (n:=17) (S:=fun w'=>w'.cell? (ad338.add (x5_1).toNat)=some (.string (rdOf ByteArray.empty t333 x5_1))) (ds:=[]) #[yF,yF,yF,yF,yF,yF,yF,yF,yF,yF,yF,yF,yF,yF,yF,yF,yF] (by kernel_rfl) rfl rfl (hx338_0) (fun hHeld=>?_);refine with_tabW spec_l71World.tab7 spec_l71World.bits7 (fun HT_ HW_=>?_);generalize w9.drew=w22 at HO_3 HO_4 HI0 HK HB hx338_0 hHeld ⊢;refine pureZ 0 (some 20) #[yT,yF,yF,yF,yF,yF,yF,yF,yF,yF,yF,yF,yF,yF,yF,yF,yF] ?_;refine pureZ 1 (some 21) #[yT,yT,yF,yF,yF,yF,yF,yF,yF,yF,yF,yF,yF,yF,yF,yF,yF] ?_;refine pureZ 2 (some 22) #[yT,yT,yT,yF,yF,yF,yF,yF,yF,yF,yF,yF,yF,yF,yF,yF,yF] ?_;refine pureZ 6 (some 26) #[yT,yT,yT,yF,yF,yF,yT,yF,yF,yF,yF,yF,yF,yF,yF,yF,yF] ?_;refine pureZ 10 (some 30) #[yT,yT,yT,yF,yF,yF,yT,yF,yF,yF,yT,yF,yF,yF,yF,yF,yF] ?_;refine take_ (i:=3) (N:=some 23) (v:=?_) (a':=?_) #[yT,yT,yT,yT,yF,yF,yT,yF,yF,yF,yT,yF,yF,yF,yF,yF,yF] rfl rfl (take_ofW HT_.out HW_.out (by kernel_rfl)) (fun _ _ _ h=>h) (Or.inl ⟨by rfl,?_⟩) hHeld ?_ ?_;rotate_left
     ·intro w' s0
      go_simp
      with_reducible rfl
     rotate_left
     ·simp only [Act.put,List.setIfInBounds_toArray,List.set_cons_zero,List.set_cons_succ,i64_w,i32_w]
      rfl
     refine pureZ 4 (some 24) #[yT,yT,yT,yT,yT,yF,yT,yF,yF,yF,yT,yF,yF,yF,yF,yF,yF] ?_;refine pureZ 5 (some 25) #[yT,yT,yT,yT,yT,yT,yT,yF,yF,yF,yT,yF,yF,yF,yF,yF,yF] ?_;refine join_ (σ:=Value×Value×Addr×Nat) 1 #[yT,yT,yT,yT,yT,yT,yT,yT,yT,yT,yT,yT,yT,yT,yT,yT,yF] (fun s_=>[(27,s_.1),(28,.string t343),(29,s_.2.1),(31,.int .i64 t347),(33,.int .i64 (rd y344 t347)),(6,.pointer (some ⟨s_.2.2.2,0,none⟩)),(32,.pointer (some (s_.2.2.1.add (t347).toNat))),(34,.agg #[.string (((⟨#[47,47]⟩:ByteArray)++(rdOf ByteArray.empty t333 x5_1))++(⟨#[47,110,111,116,105,99,101]⟩:ByteArray)),.string t343,.string (⟨#[]⟩:ByteArray),.int .i64 (rd y344 t347)])]) (fun s_ w'=>(w'.cell? (ad338.add (x5_1).toNat)=some (.string (rdOf ByteArray.empty t333 x5_1)))∧(Kd.S k106 106 w' w.heap.size (fun k_=>some k_≠(.slice (some ad338) t333.length co23:Value).ownBlock) s_.1 t339)∧(Kd.R (Kd.int .i64) 3 w' w.heap.size (fun _=>True) s_.2.1 y344)∧(Kd.R k30 30 w' w.heap.size (fun k_=>k_≠s_.2.2.2) u3 x3_1)∧(Kd.R Kd.string 9 w' w.heap.size (fun _=>True) (.slice (some ad338) t333.length co23) t333)∧(∃ c_,(s_.2.1:Value)=.slice (some s_.2.2.1) y344.length c_)∧(w'.heap[s_.2.2.2]?=some (.cells #[.string (⟨#[]⟩:ByteArray),.string (⟨#[]⟩:ByteArray),.string (⟨#[]⟩:ByteArray),.int .i64 0] 30 (0,0)))∧(w.heap.size≤s_.2.2.2)∧(w0.heap.size≤s_.2.2.2)∧(g≠s_.2.2.2)∧(s_.2.2.2≠g)∧(IsS68 w0 w' g s0_0 t348)∧(KeepBut w w' g none)∧(Below w0.heap.size w0 w')) ?_ ?_;rotate_left
     ·intro hJ7_8_9_11_13_15
      refine join_ (σ:=Value×Value×Addr) 2 #[yT,yT,yT,yT,yT,yT,yT,yT,yT,yT,yT,yT,yT,yT,yT,yF,yF] (fun s_=>[(27,s_.1),(28,.string t343),(29,s_.2.1),(31,.int .i64 t347),(33,.int .i64 (rd y344 t347)),(32,.pointer (some (s_.2.2.add (t347).toNat))),(34,.agg #[.string (((⟨#[47,47]⟩:ByteArray)++(rdOf ByteArray.empty t333 x5_1))++(⟨#[47,110,111,116,105,99,101]⟩:ByteArray)),.string t343,.string (⟨#[]⟩:ByteArray),.int .i64 (rd y344 t347)])]) (fun s_ w'=>(w'.cell? (ad338.add (x5_1).toNat)=some (.string (rdOf ByteArray.empty t333 x5_1)))∧(Kd.S k106 106 w' w.heap.size (fun k_=>some k_≠(.slice (some ad338) t333.length co23:Value).ownBlock) s_.1 t339)∧(Kd.R (Kd.int .i64) 3 w' w.heap.size (fun _=>True) s_.2.1 y344)∧(Kd.R k30 30 w' w.heap.size (fun _=>True) u3 x3_1)∧(Kd.R Kd.string 9 w' w.heap.size (fun _=>True) (.slice (some ad338) t333.length co23) t333)∧(∃ c_,(s_.2.1:Value)=.slice (some s_.2.2) y344.length c_)∧(IsS68 w0 w' g s0_0 t348)∧(KeepBut w w' g none)∧(Below w0.heap.size w0 w')) ?_ ?_;rotate_left
      ·intro hJ7_8_9_11_13
       refine join_ (σ:=Value×Value×Addr×Nat) 3 #[yT,yT,yT,yT,yT,yT,yT,yT,yT,yT,yT,yT,yT,yF,yF,yT,yF] (fun s_=>[(27,s_.1),(28,.string t343),(29,s_.2.1),(31,.int .i64 t347),(6,.pointer (some ⟨s_.2.2.2,0,none⟩)),(32,.pointer (some (s_.2.2.1.add (t347).toNat)))]) (fun s_ w'=>(w'.cell? (ad338.add (x5_1).toNat)=some (.string (rdOf ByteArray.empty t333 x5_1)))∧(Kd.S k106 106 w' w.heap.size (fun k_=>some k_≠(.slice (some ad338) t333.length co23:Value).ownBlock) s_.1 t339)∧(Kd.R (Kd.int .i64) 3 w' w.heap.size (fun _=>True) s_.2.1 y344)∧(Kd.R k30 30 w' w.heap.size (fun k_=>k_≠s_.2.2.2) u3 x3_1)∧(Kd.R Kd.string 9 w' w.heap.size (fun _=>True) (.slice (some ad338) t333.length co23) t333)∧(∃ c_,(s_.2.1:Value)=.slice (some s_.2.2.1) y344.length c_)∧(w'.heap[s_.2.2.2]?=some (.cells #[.string (⟨#[]⟩:ByteArray),.string (⟨#[]⟩:ByteArray),.string (⟨#[]⟩:ByteArray),.int .i64 0] 30 (0,0)))∧(w.heap.size≤s_.2.2.2)∧(w0.heap.size≤s_.2.2.2)∧(g≠s_.2.2.2)∧(s_.2.2.2≠g)∧(IsS68 w0 w' g s0_0 t348)∧(KeepBut w w' g none)∧(Below w0.heap.size w0 w')) ?_ ?_;rotate_left
       ·intro hJ7_8_9_11_15
        refine join_ (σ:=Value×Value×Addr) 4 #[yT,yT,yT,yT,yT,yT,yT,yT,yT,yT,yT,yT,yT,yF,yF,yF,yF] (fun s_=>[(27,s_.1),(28,.string t343),(29,s_.2.1),(31,.int .i64 t347),(32,.pointer (some (s_.2.2.add (t347).toNat)))]) (fun s_ w'=>(w'.cell? (ad338.add (x5_1).toNat)=some (.string (rdOf ByteArray.empty t333 x5_1)))∧(Kd.S k106 106 w' w.heap.size (fun k_=>some k_≠(.slice (some ad338) t333.length co23:Value).ownBlock) s_.1 t339)∧(Kd.R (Kd.int .i64) 3 w' w.heap.size (fun _=>True) s_.2.1 y344)∧(Kd.R k30 30 w' w.heap.size (fun _=>True) u3 x3_1)∧(Kd.R Kd.string 9 w' w.heap.size (fun _=>True) (.slice (some ad338) t333.length co23) t333)∧(∃ c_,(s_.2.1:Value)=.slice (some s_.2.2) y344.length c_)∧(IsS68 w0 w' g s0_0 t348)∧(KeepBut w w' g none)∧(Below w0.heap.size w0 w')) ?_ ?_;rotate_left
        ·intro hJ7_8_9_11
         refine join_ (σ:=Value×Value×Addr×Nat) 5 #[yT,yT,yT,yT,yT,yT,yT,yT,yT,yT,yT,yF,yF,yF,yF,yT,yF] (fun s_=>[(27,s_.1),(28,.string t343),(29,s_.2.1),(6,.pointer (some ⟨s_.2.2.2,0,none⟩))]) (fun s_ w'=>(w'.cell? (ad338.add (x5_1).toNat)=some (.string (rdOf ByteArray.empty t333 x5_1)))∧(Kd.S k106 106 w' w.heap.size (fun k_=>some k_≠(.slice (some ad338) t333.length co23:Value).ownBlock) s_.1 t339)∧(Kd.R (Kd.int .i64) 3 w' w.heap.size (fun _=>True) s_.2.1 y344)∧(Kd.R k30 30 w' w.heap.size (fun k_=>k_≠s_.2.2.2) u3 x3_1)∧(Kd.R Kd.string 9 w' w.heap.size (fun _=>True) (.slice (some ad338) t333.length co23) t333)∧(∃ c_,(s_.2.1:Value)=.slice (some s_.2.2.1) y344.length c_)∧(w'.heap[s_.2.2.2]?=some (.cells #[.string (⟨#[]⟩:ByteArray),.string (⟨#[]⟩:ByteArray),.string (⟨#[]⟩:ByteArray),.int .i64 0] 30 (0,0)))∧(w.heap.size≤s_.2.2.2)∧(w0.heap.size≤s_.2.2.2)∧(g≠s_.2.2.2)∧(s_.2.2.2≠g)∧(IsS68 w0 w' g s0_0 t342)∧(KeepBut w w' g none)∧(Below w0.heap.size w0 w')) ?_ ?_;rotate_left
         ·intro hJ7_8_9_15
          refine join_ (σ:=Value×Nat) 5 #[yT,yT,yT,yT,yT,yT,yT,yT,yT,yF,yT,yT,yF,yF,yF,yT,yF] (fun s_=>[(27,s_.1),(28,.string t343),(31,.int .i64 t347),(6,.pointer (some ⟨s_.2,0,none⟩))]) (fun s_ w'=>(w'.cell? (ad338.add (x5_1).toNat)=some (.string (rdOf ByteArray.empty t333 x5_1)))∧(Kd.S k106 106 w' w.heap.size (fun k_=>some k_≠(.slice (some ad338) t333.length co23:Value).ownBlock) s_.1 t339)∧(Kd.R k30 30 w' w.heap.size (fun k_=>k_≠s_.2) u3 x3_1)∧(Kd.R Kd.string 9 w' w.heap.size (fun _=>True) (.slice (some ad338) t333.length co23) t333)∧(w'.heap[s_.2]?=some (.cells #[.string (⟨#[]⟩:ByteArray),.string (⟨#[]⟩:ByteArray),.string (⟨#[]⟩:ByteArray),.int .i64 0] 30 (0,0)))∧(w.heap.size≤s_.2)∧(w0.heap.size≤s_.2)∧(g≠s_.2)∧(s_.2≠g)∧(IsS68 w0 w' g s0_0 t348)∧(KeepBut w w' g none)∧(Below w0.heap.size w0 w')) ?_ ?_;rotate_left
          ·intro hJ7_8_11_15
           refine join_ (σ:=Value×Value×Addr) 6 #[yT,yT,yT,yT,yT,yT,yT,yT,yT,yT,yT,yF,yF,yF,yF,yF,yF] (fun s_=>[(27,s_.1),(28,.string t343),(29,s_.2.1)]) (fun s_ w'=>(w'.cell? (ad338.add (x5_1).toNat)=some (.string (rdOf ByteArray.empty t333 x5_1)))∧(Kd.S k106 106 w' w.heap.size (fun k_=>some k_≠(.slice (some ad338) t333.length co23:Value).ownBlock) s_.1 t339)∧(Kd.R (Kd.int .i64) 3 w' w.heap.size (fun _=>True) s_.2.1 y344)∧(Kd.R k30 30 w' w.heap.size (fun _=>True) u3 x3_1)∧(Kd.R Kd.string 9 w' w.heap.size (fun _=>True) (.slice (some ad338) t333.length co23) t333)∧(∃ c_,(s_.2.1:Value)=.slice (some s_.2.2) y344.length c_)∧(IsS68 w0 w' g s0_0 t342)∧(KeepBut w w' g none)∧(Below w0.heap.size w0 w')) ?_ ?_;rotate_left
           ·intro hJ7_8_9
            refine join_ (σ:=Value) 6 #[yT,yT,yT,yT,yT,yT,yT,yT,yT,yF,yT,yT,yF,yF,yF,yF,yF] (fun s_=>[(27,s_),(28,.string t343),(31,.int .i64 t347)]) (fun s_ w'=>(w'.cell? (ad338.add (x5_1).toNat)=some (.string (rdOf ByteArray.empty t333 x5_1)))∧(Kd.S k106 106 w' w.heap.size (fun k_=>some k_≠(.slice (some ad338) t333.length co23:Value).ownBlock) s_ t339)∧(Kd.R k30 30 w' w.heap.size (fun _=>True) u3 x3_1)∧(Kd.R Kd.string 9 w' w.heap.size (fun _=>True) (.slice (some ad338) t333.length co23) t333)∧(IsS68 w0 w' g s0_0 t348)∧(KeepBut w w' g none)∧(Below w0.heap.size w0 w')) ?_ ?_;rotate_left
            ·intro hJ7_8_11
             refine join_ (σ:=Value×Nat) 6 #[yT,yT,yT,yT,yT,yT,yT,yT,yT,yF,yT,yF,yF,yF,yF,yT,yF] (fun s_=>[(27,s_.1),(28,.string t343),(6,.pointer (some ⟨s_.2,0,none⟩))]) (fun s_ w'=>(w'.cell? (ad338.add (x5_1).toNat)=some (.string (rdOf ByteArray.empty t333 x5_1)))∧(Kd.S k106 106 w' w.heap.size (fun k_=>some k_≠(.slice (some ad338) t333.length co23:Value).ownBlock) s_.1 t339)∧(Kd.R k30 30 w' w.heap.size (fun k_=>k_≠s_.2) u3 x3_1)∧(Kd.R Kd.string 9 w' w.heap.size (fun _=>True) (.slice (some ad338) t333.length co23) t333)∧(w'.heap[s_.2]?=some (.cells #[.string (⟨#[]⟩:ByteArray),.string (⟨#[]⟩:ByteArray),.string (⟨#[]⟩:ByteArray),.int .i64 0] 30 (0,0)))∧(w.heap.size≤s_.2)∧(w0.heap.size≤s_.2)∧(g≠s_.2)∧(s_.2≠g)∧(IsS68 w0 w' g s0_0 t342)∧(KeepBut w w' g none)∧(Below w0.heap.size w0 w')) ?_ ?_;rotate_left
             ·intro hJ7_8_15
              refine join_ (σ:=Value×Value×Addr×Nat) 6 #[yT,yT,yT,yT,yT,yT,yT,yT,yF,yT,yT,yF,yF,yF,yF,yT,yF] (fun s_=>[(27,s_.1),(29,s_.2.1),(6,.pointer (some ⟨s_.2.2.2,0,none⟩))]) (fun s_ w'=>(w'.cell? (ad338.add (x5_1).toNat)=some (.string (rdOf ByteArray.empty t333 x5_1)))∧(Kd.S k106 106 w' w.heap.size (fun k_=>some k_≠(.slice (some ad338) t333.length co23:Value).ownBlock) s_.1 t339)∧(Kd.R (Kd.int .i64) 3 w' w.heap.size (fun _=>True) s_.2.1 y344)∧(Kd.R k30 30 w' w.heap.size (fun k_=>k_≠s_.2.2.2) u3 x3_1)∧(Kd.R Kd.string 9 w' w.heap.size (fun _=>True) (.slice (some ad338) t333.length co23) t333)∧(∃ c_,(s_.2.1:Value)=.slice (some s_.2.2.1) y344.length c_)∧(w'.heap[s_.2.2.2]?=some (.cells #[.string (⟨#[]⟩:ByteArray),.string (⟨#[]⟩:ByteArray),.string (⟨#[]⟩:ByteArray),.int .i64 0] 30 (0,0)))∧(w.heap.size≤s_.2.2.2)∧(w0.heap.size≤s_.2.2.2)∧(g≠s_.2.2.2)∧(s_.2.2.2≠g)∧(IsS68 w0 w' g s0_0 t342)∧(KeepBut w w' g none)∧(Below w0.heap.size w0 w')) ?_ ?_;rotate_left
              ·intro hJ7_9_15
               refine join_ (σ:=Value) 7 #[yT,yT,yT,yT,yT,yT,yT,yT,yT,yF,yT,yF,yF,yF,yF,yF,yF] (fun s_=>[(27,s_),(28,.string t343)]) (fun s_ w'=>(w'.cell? (ad338.add (x5_1).toNat)=some (.string (rdOf ByteArray.empty t333 x5_1)))∧(Kd.S k106 106 w' w.heap.size (fun k_=>some k_≠(.slice (some ad338) t333.length co23:Value).ownBlock) s_ t339)∧(Kd.R k30 30 w' w.heap.size (fun _=>True) u3 x3_1)∧(Kd.R Kd.string 9 w' w.heap.size (fun _=>True) (.slice (some ad338) t333.length co23) t333)∧(IsS68 w0 w' g s0_0 t342)∧(KeepBut w w' g none)∧(Below w0.heap.size w0 w')) ?_ ?_;rotate_left
               ·intro hJ7_8
                refine join_ (σ:=Value×Value×Addr) 7 #[yT,yT,yT,yT,yT,yT,yT,yT,yF,yT,yT,yF,yF,yF,yF,yF,yF] (fun s_=>[(27,s_.1),(29,s_.2.1)]) (fun s_ w'=>(w'.cell? (ad338.add (x5_1).toNat)=some (.string (rdOf ByteArray.empty t333 x5_1)))∧(Kd.S k106 106 w' w.heap.size (fun k_=>some k_≠(.slice (some ad338) t333.length co23:Value).ownBlock) s_.1 t339)∧(Kd.R (Kd.int .i64) 3 w' w.heap.size (fun _=>True) s_.2.1 y344)∧(Kd.R k30 30 w' w.heap.size (fun _=>True) u3 x3_1)∧(Kd.R Kd.string 9 w' w.heap.size (fun _=>True) (.slice (some ad338) t333.length co23) t333)∧(∃ c_,(s_.2.1:Value)=.slice (some s_.2.2) y344.length c_)∧(IsS68 w0 w' g s0_0 t342)∧(KeepBut w w' g none)∧(Below w0.heap.size w0 w')) ?_ ?_;rotate_left
                ·intro hJ7_9
                 refine join_ (σ:=Value×Nat) 7 #[yT,yT,yT,yT,yT,yT,yT,yT,yF,yF,yT,yF,yF,yF,yF,yT,yF] (fun s_=>[(27,s_.1),(6,.pointer (some ⟨s_.2,0,none⟩))]) (fun s_ w'=>(w'.cell? (ad338.add (x5_1).toNat)=some (.string (rdOf ByteArray.empty t333 x5_1)))∧(Kd.S k106 106 w' w.heap.size (fun k_=>some k_≠(.slice (some ad338) t333.length co23:Value).ownBlock) s_.1 t339)∧(Kd.R k30 30 w' w.heap.size (fun k_=>k_≠s_.2) u3 x3_1)∧(Kd.R Kd.string 9 w' w.heap.size (fun _=>True) (.slice (some ad338) t333.length co23) t333)∧(w'.heap[s_.2]?=some (.cells #[.string (⟨#[]⟩:ByteArray),.string (⟨#[]⟩:ByteArray),.string (⟨#[]⟩:ByteArray),.int .i64 0] 30 (0,0)))∧(w.heap.size≤s_.2)∧(w0.heap.size≤s_.2)∧(g≠s_.2)∧(s_.2≠g)∧(IsS68 w0 w' g s0_0 t342)∧(KeepBut w w' g none)∧(Below w0.heap.size w0 w')) ?_ ?_;rotate_left
                 ·intro hJ7_15
                  refine join_ (σ:=Value×Addr×Nat) 7 #[yT,yT,yT,yT,yT,yT,yT,yF,yF,yT,yT,yF,yF,yF,yF,yT,yF] (fun s_=>[(29,s_.1),(6,.pointer (some ⟨s_.2.2,0,none⟩))]) (fun s_ w'=>(w'.cell? (ad338.add (x5_1).toNat)=some (.string (rdOf ByteArray.empty t333 x5_1)))∧(Kd.R (Kd.int .i64) 3 w' w.heap.size (fun _=>True) s_.1 y344)∧(Kd.R k30 30 w' w.heap.size (fun k_=>k_≠s_.2.2) u3 x3_1)∧(Kd.R Kd.string 9 w' w.heap.size (fun _=>True) (.slice (some ad338) t333.length co23) t333)∧(∃ c_,(s_.1:Value)=.slice (some s_.2.1) y344.length c_)∧(w'.heap[s_.2.2]?=some (.cells #[.string (⟨#[]⟩:ByteArray),.string (⟨#[]⟩:ByteArray),.string (⟨#[]⟩:ByteArray),.int .i64 0] 30 (0,0)))∧(w.heap.size≤s_.2.2)∧(w0.heap.size≤s_.2.2)∧(g≠s_.2.2)∧(s_.2.2≠g)∧(IsS68 w0 w' g s0_0 t337)∧(KeepBut w w' g none)∧(Below w0.heap.size w0 w')) ?_ ?_;rotate_left
                  ·intro hJ9_15
                   refine join_ (σ:=Value) 8 #[yT,yT,yT,yT,yT,yT,yT,yT,yF,yF,yT,yF,yF,yF,yF,yF,yF] (fun s_=>[(27,s_)]) (fun s_ w'=>(w'.cell? (ad338.add (x5_1).toNat)=some (.string (rdOf ByteArray.empty t333 x5_1)))∧(Kd.S k106 106 w' w.heap.size (fun k_=>some k_≠(.slice (some ad338) t333.length co23:Value).ownBlock) s_ t339)∧(Kd.R k30 30 w' w.heap.size (fun _=>True) u3 x3_1)∧(Kd.R Kd.string 9 w' w.heap.size (fun _=>True) (.slice (some ad338) t333.length co23) t333)∧(IsS68 w0 w' g s0_0 t342)∧(KeepBut w w' g none)∧(Below w0.heap.size w0 w')) ?_ ?_;rotate_left
                   ·intro hJ7
                    refine join_ (σ:=Value×Addr) 8 #[yT,yT,yT,yT,yT,yT,yT,yF,yF,yT,yT,yF,yF,yF,yF,yF,yF] (fun s_=>[(29,s_.1)]) (fun s_ w'=>(w'.cell? (ad338.add (x5_1).toNat)=some (.string (rdOf ByteArray.empty t333 x5_1)))∧(Kd.R (Kd.int .i64) 3 w' w.heap.size (fun _=>True) s_.1 y344)∧(Kd.R k30 30 w' w.heap.size (fun _=>True) u3 x3_1)∧(Kd.R Kd.string 9 w' w.heap.size (fun _=>True) (.slice (some ad338) t333.length co23) t333)∧(∃ c_,(s_.1:Value)=.slice (some s_.2) y344.length c_)∧(IsS68 w0 w' g s0_0 t337)∧(KeepBut w w' g none)∧(Below w0.heap.size w0 w')) ?_ ?_;rotate_left
                    ·intro hJ9
                     refine join_ (σ:=Nat) 8 #[yT,yT,yT,yT,yT,yT,yT,yF,yF,yF,yT,yF,yF,yF,yF,yT,yF] (fun s_=>[(6,.pointer (some ⟨s_,0,none⟩))]) (fun s_ w'=>(w'.cell? (ad338.add (x5_1).toNat)=some (.string (rdOf ByteArray.empty t333 x5_1)))∧(Kd.R k30 30 w' w.heap.size (fun k_=>k_≠s_) u3 x3_1)∧(Kd.R Kd.string 9 w' w.heap.size (fun _=>True) (.slice (some ad338) t333.length co23) t333)∧(w'.heap[s_]?=some (.cells #[.string (⟨#[]⟩:ByteArray),.string (⟨#[]⟩:ByteArray),.string (⟨#[]⟩:ByteArray),.int .i64 0] 30 (0,0)))∧(w.heap.size≤s_)∧(w0.heap.size≤s_)∧(g≠s_)∧(s_≠g)∧(IsS68 w0 w' g s0_0 t337)∧(KeepBut w w' g none)∧(Below w0.heap.size w0 w')) ?_ ?_;rotate_left
                     ·intro hJ15
                      refine three_ (i:=7) (j:=9) (k:=15) (Ni:=some 27) (Nj:=some 29) (Nk:=some 6) #[yT,yT,yT,yT,yT,yT,yT,yT,yF,yF,yT,yF,yF,yF,yF,yF,yF] #[yT,yT,yT,yT,yT,yT,yT,yF,yF,yT,yT,yF,yF,yF,yF,yF,yF] #[yT,yT,yT,yT,yT,yT,yT,yF,yF,yF,yT,yF,yF,yF,yF,yT,yF] rfl rfl rfl rfl rfl rfl (three_of HT_.out (by kernel_rfl)) (by decide) (by decide) (by decide) (fun K hK=>?_) (fun K hK=>?_) (fun K hK=>?_)
                      ·skip
                       refine goes_ Tryz.func67 (by kernel_rfl) rfl #[.pointer (some ⟨g,0,none⟩)] (by rfl) rfl rfl zz27 ?_;with_reducible refine (spec_l71Groups.calls k1 g s0_0 t337 t339 t342 w0 _ ?side1 ?side2 A15.out).mono ?_
                       (case side1=>exact (zz18 HI0))
                       (case side2=>exact (zz20 HB HI0))
                       rintro e w24 ⟨v340,rfl,ho0,hi,hb,hk⟩;have HS0_:=keep_cell hk (hHeld) (zz143 HI0 HO_4);refine ⟨_,rfl,?_⟩;replace HO_3:=A_ (Kd.R_mono (Kd.R_keep (IsS68.apart (show IsS68 w0 _ g s0_0 t337 from (zz18 HI0)) (zz8 HO_3) (by decide)) hk (fun _ h=>h.2)) (fun _ h=>h.1));have HO341:=A_ (Kd.S_lower (Kd.S_new' ho0 (Kd.R_lt (zz8 HO_4))) (keep_size (w:=w) (g:=g) (row:=none) (zz19 HK)));replace HO_4:=A_ (Kd.R_mono (Kd.R_keep (IsS68.apart (show IsS68 w0 _ g s0_0 t337 from (zz18 HI0)) (zz8 HO_4) (by decide)) hk (fun _ h=>h.2)) (fun _ h=>h.1));replace HK:=A_ (KeepBut.trans (zz19 HK) hk (.inl rfl));replace HB:=A_ (hb);replace HI0:=A_ (hi);(try clear hb)
                       (try clear hb2)
                       (try clear hk)
                       (try clear hi)
                       (try clear ho0)
                       refine hK.out _ _ (HS0_) (fun hHeld=>?_);clear hK K;refine nZ 27 ?_;exact norm_ zz144 (hJ7 (v340) _ ⟨hHeld,(zz145 HO341),(zz8 HO_3),(zz8 HO_4),(zz18 HI0),(zz19 HK),(zz20 HB HI0)⟩)
                      ·skip
                       refine Kd.R_lit_step (Kd.int .i64) _ 3 ?hg (N:=29) ?hd (xs:=([0,0,0,1,2,5]:List Int)) (inner:=[.int .i64 0,.int .i64 0,.int .i64 0,.int .i64 1,.int .i64 2,.int .i64 5]) (ok:=fun _=>True) (okp:=fun _=>True) ?hr ?hp (fun _ hk=>hk) trivial (Below.refl _ _) (Nat.le_refl _) (by simp) ?_;(case hd=>rfl);(case hg=>rfl);(case hr=>exact zz26);(case hp=>exact rpI);intro v345 w24 ho25 hb hg_ hnew_;have HS0_:=(hb.cell (World.block_lt_of_cell? _ _ (hHeld))).trans (hHeld);clear hg_ hnew_;(first|rw [← Ny344.out] at ho25|(simp only [Int.reduceToNat] at ho25;rw [← Ny344.out] at ho25))
                       replace HO_3:=A_ (rB (zz8 HO_3) hb);replace HO_4:=A_ (rB (zz8 HO_4) hb);have HO346:=A_ (Kd.R_lower ho25 (keep_size (w:=w) (g:=g) (row:=none) (zz19 HK)));replace HK:=A_ (KeepBut.trans (zz19 HK) (KeepBut.of_below hb g none) (.inl rfl));replace HB:=A_ (bS (zz20 HB HI0) hb);replace HI0:=A_ (IsS68.below (zz18 HI0) hb);clear hb ho25;obtain ⟨Ao26,co26,eo26⟩:=Kd.R_slice HO346.out;subst eo26;obtain ⟨ado26,fo26,_⟩:=Kd.at_int (Kd.R_reads' HO346.out).2.2 0 (by decide) (by rw [Ny344.out];simp);cases fo26
                       refine hK.out _ _ (HS0_) (fun hHeld=>?_);clear hK K;refine nZ 29 ?_;exact norm_ zz144 (hJ9 (.slice (some ado26) y344.length co26,ado26) _ ⟨hHeld,(zz8 HO346),(zz8 HO_3),(zz8 HO_4),⟨_,rfl⟩,(zz18 HI0),(zz19 HK),(zz20 HB HI0)⟩)
                      ·skip
                       refine box_step ?hg (N:=6) ?hd (cs:=#[.string (⟨#[]⟩:ByteArray),.string (⟨#[]⟩:ByteArray),.string (⟨#[]⟩:ByteArray),.int .i64 0]) (t:=30) ?hr ?_;(case hd=>rfl);(case hg=>rfl);(case hr=>exact zz26);intro gb350 hg w24 hbox hb;have HS0_:=(hb.cell (World.block_lt_of_cell? _ _ (hHeld))).trans (hHeld);replace HO_3:=A_ (rB (Kd.R_elderB (zz8 HO_3) gb350 (Nat.le_of_eq hg.symm)) hb);replace HO_4:=A_ (rB (zz8 HO_4) hb);replace HB:=A_ (bS (zz20 HB HI0) hb);have BK350:=A_ (hbox);have GW350:=A_ ((by rw [hg];exact (keep_size (w:=w) (g:=g) (row:=none) (zz19 HK)):w.heap.size≤gb350));have GE350:=A_ ((Nat.le_trans HW0.out (by rw [hg];exact (keep_size (w:=w) (g:=g) (row:=none) (zz19 HK)):w.heap.size≤gb350):w0.heap.size≤gb350));replace HK:=A_ (KeepBut.trans (zz19 HK) (KeepBut.of_below hb g none) (.inl rfl));have NB0_350:=A_ ((by rw [hg];exact Nat.ne_of_lt (IsS68.lt (show IsS68 w0 _ g s0_0 t337 from (zz18 HI0))):g≠gb350));have NB350_0:=A_ ((by rw [hg];exact Nat.ne_of_gt (IsS68.lt (show IsS68 w0 _ g s0_0 t337 from (zz18 HI0))):gb350≠g));replace HI0:=A_ (IsS68.below (zz18 HI0) hb);clear hb hbox hg;refine hK.out _ _ (HS0_) (fun hHeld=>?_);clear hK K;refine nZ 6 ?_;exact norm_ zz144 (hJ15 (gb350) _ ⟨hHeld,(zz94 HO_3),(zz8 HO_4),(zz15 BK350),GW350.out,GE350.out,NB0_350.out,NB350_0.out,(zz37 HI0 NB0_350),(zz42 HK GW350),(zz38 HB HI0 GE350)⟩)
                     ·skip
                      rintro gb350 w25 ⟨hS_,h0_,h1_,h2_,h3_,h4_,h5_,h6_,h7_,h8_,h9_⟩;have n0_:=A_ h0_;have n1_:=A_ h1_;have n2_:=A_ h2_;have n3_:=A_ h3_;have n4_:=A_ h4_;have n5_:=A_ h5_;have n6_:=A_ h6_;have n7_:=A_ h7_;have n8_:=A_ h8_;have n9_:=A_ h9_;(try dsimp only at n0_ n1_ n2_ n3_ n4_ n5_ n6_ n7_ n8_ n9_)
                      clear HO_3;clear HO_4;clear HI0;clear HK;clear HB;clear h0_ h1_ h2_ h3_ h4_ h5_ h6_ h7_ h8_ h9_;have HO_3:=n0_;have HO_4:=n1_;have BK350:=n2_;have GW350:=n3_;have GE350:=n4_;have NB0_350:=n5_;have NB350_0:=n6_;have HI0:=n7_;have HK:=n8_;have HB:=n9_;clear n0_ n1_ n2_ n3_ n4_ n5_ n6_ n7_ n8_ n9_;have hHeld:w25.cell? (ad338.add (x5_1).toNat)=some (.string (rdOf ByteArray.empty t333 x5_1)):=hS_;refine norm_ (a':=?_) ?_ ?_;rotate_left
                      ·simp only [putAll,Act.put,List.setIfInBounds_toArray,List.set_cons_zero,List.set_cons_succ]
                       rfl
                      refine twoZ 7 9 (some 27) (some 29) #[yT,yT,yT,yT,yT,yT,yT,yT,yF,yF,yT,yF,yF,yF,yF,yT,yF] #[yT,yT,yT,yT,yT,yT,yT,yF,yF,yT,yT,yF,yF,yF,yF,yT,yF] (fun K hK=>?_) (fun K hK=>?_)
                      ·skip
                       refine goes_ Tryz.func67 (by kernel_rfl) rfl #[.pointer (some ⟨g,0,none⟩)] (by rfl) rfl rfl zz27 ?_;with_reducible refine (spec_l71Groups.calls k1 g s0_0 t337 t339 t342 w0 _ ?side1 ?side2 A15.out).mono ?_
                       (case side1=>exact (zz37 HI0 NB0_350))
                       (case side2=>exact (zz38 HB HI0 GE350))
                       rintro e w26 ⟨v340,rfl,ho0,hi,hb,hk⟩;have HS0_:=keep_cell hk (hHeld) (zz143 HI0 HO_4);refine ⟨_,rfl,?_⟩;replace HO_3:=A_ (Kd.R_mono (Kd.R_keep (IsS68.apart (show IsS68 w0 _ g s0_0 t337 from (zz37 HI0 NB0_350)) (zz8 HO_3) (by decide)) hk (fun _ h=>h.2)) (fun _ h=>h.1));replace BK350:=A_ (KeepBut.blk hk (g':=gb350) (o:=.cells #[.string (⟨#[]⟩:ByteArray),.string (⟨#[]⟩:ByteArray),.string (⟨#[]⟩:ByteArray),.int .i64 0] 30 (0,0)) (zz15 BK350) NB350_0.out (by simp));have HO341:=A_ (Kd.S_lower (Kd.S_new' ho0 (Kd.R_lt (zz8 HO_4))) (keep_size (w:=w) (g:=g) (row:=none) (zz42 HK GW350)));replace HO_4:=A_ (Kd.R_mono (Kd.R_keep (IsS68.apart (show IsS68 w0 _ g s0_0 t337 from (zz37 HI0 NB0_350)) (zz8 HO_4) (by decide)) hk (fun _ h=>h.2)) (fun _ h=>h.1));replace HK:=A_ (KeepBut.trans (zz42 HK GW350) hk (.inl rfl));replace HB:=A_ (hb);replace HI0:=A_ (hi);(try clear hb)
                       (try clear hb2)
                       (try clear hk)
                       (try clear hi)
                       (try clear ho0)
                       refine hK.out _ _ (HS0_) (fun hHeld=>?_);clear hK K;refine nZ 27 ?_;exact norm_ zz144 (hJ7_15 (_,gb350) _ ⟨hHeld,(zz145 HO341),(zz8 HO_3),(zz8 HO_4),(zz15 BK350),GW350.out,GE350.out,NB0_350.out,NB350_0.out,(zz37 HI0 NB0_350),(zz42 HK GW350),(zz38 HB HI0 GE350)⟩)
                      ·skip
                       refine Kd.R_lit_step (Kd.int .i64) _ 3 ?hg (N:=29) ?hd (xs:=([0,0,0,1,2,5]:List Int)) (inner:=[.int .i64 0,.int .i64 0,.int .i64 0,.int .i64 1,.int .i64 2,.int .i64 5]) (ok:=fun _=>True) (okp:=fun _=>True) ?hr ?hp (fun _ hk=>hk) trivial (Below.refl _ _) (Nat.le_refl _) (by simp) ?_;(case hd=>rfl);(case hg=>rfl);(case hr=>exact zz26);(case hp=>exact rpI);intro v345 w26 ho27 hb hg_ hnew_;have HS0_:=(hb.cell (World.block_lt_of_cell? _ _ (hHeld))).trans (hHeld);clear hg_ hnew_;(first|rw [← Ny344.out] at ho27|(simp only [Int.reduceToNat] at ho27;rw [← Ny344.out] at ho27))
                       replace HO_3:=A_ (rB (zz8 HO_3) hb);replace HO_4:=A_ (rB (zz8 HO_4) hb);have HO346:=A_ (Kd.R_lower ho27 (keep_size (w:=w) (g:=g) (row:=none) (zz42 HK GW350)));replace BK350:=A_ (bB (zz15 BK350) hb);replace HK:=A_ (KeepBut.trans (zz42 HK GW350) (KeepBut.of_below hb g none) (.inl rfl));replace HB:=A_ (bS (zz38 HB HI0 GE350) hb);replace HI0:=A_ (IsS68.below (zz37 HI0 NB0_350) hb);clear hb ho27;obtain ⟨Ao28,co28,eo28⟩:=Kd.R_slice HO346.out;subst eo28;obtain ⟨ado28,fo28,_⟩:=Kd.at_int (Kd.R_reads' HO346.out).2.2 0 (by decide) (by rw [Ny344.out];simp);cases fo28
                       refine hK.out _ _ (HS0_) (fun hHeld=>?_);clear hK K;refine nZ 29 ?_;exact norm_ zz144 (hJ9_15 (.slice (some ado28) y344.length co28,ado28,gb350) _ ⟨hHeld,(zz8 HO346),(zz8 HO_3),(zz8 HO_4),⟨_,rfl⟩,(zz15 BK350),GW350.out,GE350.out,NB0_350.out,NB350_0.out,(zz37 HI0 NB0_350),(zz42 HK GW350),(zz38 HB HI0 GE350)⟩)
                    ·skip
                     rintro ⟨v345,adz_v345⟩ w27 ⟨hS_,h0_,h1_,h2_,h3_,h4_,h5_,h6_⟩;have n0_:=A_ h0_;have n1_:=A_ h1_;have n2_:=A_ h2_;have n3_:=A_ h3_;have n4_:=A_ h4_;have n5_:=A_ h5_;have n6_:=A_ h6_;(try dsimp only at n0_ n1_ n2_ n3_ n4_ n5_ n6_)
                     clear HO_3;clear HO_4;clear HI0;clear HK;clear HB;clear h0_ h1_ h2_ h3_ h4_ h5_ h6_;have HO346:=n0_;have HO_3:=n1_;have HO_4:=n2_;have HA_HO346:=n3_;have HI0:=n4_;have HK:=n5_;have HB:=n6_;clear n0_ n1_ n2_ n3_ n4_ n5_ n6_;have hHeld:w27.cell? (ad338.add (x5_1).toNat)=some (.string (rdOf ByteArray.empty t333 x5_1)):=hS_;obtain ⟨co28,eo28⟩:=HA_HO346.out;clear HA_HO346;subst eo28;refine norm_ (a':=?_) ?_ ?_;rotate_left
                     ·simp only [putAll,Act.put,List.setIfInBounds_toArray,List.set_cons_zero,List.set_cons_succ]
                      rfl
                     refine twoZ 7 15 (some 27) (some 6) #[yT,yT,yT,yT,yT,yT,yT,yT,yF,yT,yT,yF,yF,yF,yF,yF,yF] #[yT,yT,yT,yT,yT,yT,yT,yF,yF,yT,yT,yF,yF,yF,yF,yT,yF] (fun K hK=>?_) (fun K hK=>?_)
                     ·skip
                      refine goes_ Tryz.func67 (by kernel_rfl) rfl #[.pointer (some ⟨g,0,none⟩)] (by rfl) rfl rfl zz27 ?_;with_reducible refine (spec_l71Groups.calls k1 g s0_0 t337 t339 t342 w0 _ ?side1 ?side2 A15.out).mono ?_
                      (case side1=>exact (zz18 HI0))
                      (case side2=>exact (zz20 HB HI0))
                      rintro e w29 ⟨v340,rfl,ho0,hi,hb,hk⟩;have HS0_:=keep_cell hk (hHeld) (zz143 HI0 HO_4);refine ⟨_,rfl,?_⟩;replace HO_3:=A_ (Kd.R_mono (Kd.R_keep (IsS68.apart (show IsS68 w0 _ g s0_0 t337 from (zz18 HI0)) (zz8 HO_3) (by decide)) hk (fun _ h=>h.2)) (fun _ h=>h.1));replace HO346:=A_ (Kd.R_mono (Kd.R_keep (IsS68.apart (show IsS68 w0 _ g s0_0 t337 from (zz18 HI0)) (zz8 HO346) (by decide)) hk (fun _ h=>h.2)) (fun _ h=>h.1));have HO341:=A_ (Kd.S_lower (Kd.S_new' ho0 (Kd.R_lt (zz8 HO_4))) (keep_size (w:=w) (g:=g) (row:=none) (zz19 HK)));replace HO_4:=A_ (Kd.R_mono (Kd.R_keep (IsS68.apart (show IsS68 w0 _ g s0_0 t337 from (zz18 HI0)) (zz8 HO_4) (by decide)) hk (fun _ h=>h.2)) (fun _ h=>h.1));replace HK:=A_ (KeepBut.trans (zz19 HK) hk (.inl rfl));replace HB:=A_ (hb);replace HI0:=A_ (hi);(try clear hb)
                      (try clear hb2)
                      (try clear hk)
                      (try clear hi)
                      (try clear ho0)
                      refine hK.out _ _ (HS0_) (fun hHeld=>?_);clear hK K;refine nZ 27 ?_;exact norm_ zz144 (hJ7_9 (_,.slice (some adz_v345) y344.length co28,adz_v345) _ ⟨hHeld,(zz145 HO341),(zz8 HO346),(zz8 HO_3),(zz8 HO_4),⟨_,rfl⟩,(zz18 HI0),(zz19 HK),(zz20 HB HI0)⟩)
                     ·skip
                      refine box_step ?hg (N:=6) ?hd (cs:=#[.string (⟨#[]⟩:ByteArray),.string (⟨#[]⟩:ByteArray),.string (⟨#[]⟩:ByteArray),.int .i64 0]) (t:=30) ?hr ?_;(case hd=>rfl);(case hg=>rfl);(case hr=>exact zz26);intro gb350 hg w29 hbox hb;have HS0_:=(hb.cell (World.block_lt_of_cell? _ _ (hHeld))).trans (hHeld);replace HO_3:=A_ (rB (Kd.R_elderB (zz8 HO_3) gb350 (Nat.le_of_eq hg.symm)) hb);replace HO_4:=A_ (rB (zz8 HO_4) hb);replace HO346:=A_ (rB (zz8 HO346) hb);replace HB:=A_ (bS (zz20 HB HI0) hb);have BK350:=A_ (hbox);have GW350:=A_ ((by rw [hg];exact (keep_size (w:=w) (g:=g) (row:=none) (zz19 HK)):w.heap.size≤gb350));have GE350:=A_ ((Nat.le_trans HW0.out (by rw [hg];exact (keep_size (w:=w) (g:=g) (row:=none) (zz19 HK)):w.heap.size≤gb350):w0.heap.size≤gb350));replace HK:=A_ (KeepBut.trans (zz19 HK) (KeepBut.of_below hb g none) (.inl rfl));have NB0_350:=A_ ((by rw [hg];exact Nat.ne_of_lt (IsS68.lt (show IsS68 w0 _ g s0_0 t337 from (zz18 HI0))):g≠gb350));have NB350_0:=A_ ((by rw [hg];exact Nat.ne_of_gt (IsS68.lt (show IsS68 w0 _ g s0_0 t337 from (zz18 HI0))):gb350≠g));replace HI0:=A_ (IsS68.below (zz18 HI0) hb);clear hb hbox hg;refine hK.out _ _ (HS0_) (fun hHeld=>?_);clear hK K;refine nZ 6 ?_;exact norm_ zz144 (hJ9_15 (.slice (some adz_v345) y344.length co28,adz_v345,gb350) _ ⟨hHeld,(zz8 HO346),(zz94 HO_3),(zz8 HO_4),⟨_,rfl⟩,(zz15 BK350),GW350.out,GE350.out,NB0_350.out,NB350_0.out,(zz37 HI0 NB0_350),(zz42 HK GW350),(zz38 HB HI0 GE350)⟩)
                   ·skip
                    rintro v340 w25 ⟨hS_,h0_,h1_,h2_,h3_,h4_,h5_⟩;have n0_:=A_ h0_;have n1_:=A_ h1_;have n2_:=A_ h2_;have n3_:=A_ h3_;have n4_:=A_ h4_;have n5_:=A_ h5_;(try dsimp only at n0_ n1_ n2_ n3_ n4_ n5_)
                    clear HO_3;clear HO_4;clear HI0;clear HK;clear HB;clear h0_ h1_ h2_ h3_ h4_ h5_;have HO341:=n0_;have HO_3:=n1_;have HO_4:=n2_;have HI0:=n3_;have HK:=n4_;have HB:=n5_;clear n0_ n1_ n2_ n3_ n4_ n5_;have hHeld:w25.cell? (ad338.add (x5_1).toNat)=some (.string (rdOf ByteArray.empty t333 x5_1)):=hS_;obtain ⟨Ao26,co26,eo26⟩:=Kd.S_slice HO341.out;(first|subst eo26|(injection eo26 with f1_ f2_ f3_;have f4_:=f1_.symm;have f5_:=f3_.symm;clear f1_ f2_ f3_;subst f4_;subst f5_))
                    refine norm_ (a':=?_) ?_ ?_;rotate_left
                    ·simp only [putAll,Act.put,List.setIfInBounds_toArray,List.set_cons_zero,List.set_cons_succ]
                     rfl
                    refine three_ (i:=8) (j:=9) (k:=15) (Ni:=some 28) (Nj:=some 29) (Nk:=some 6) #[yT,yT,yT,yT,yT,yT,yT,yT,yT,yF,yT,yF,yF,yF,yF,yF,yF] #[yT,yT,yT,yT,yT,yT,yT,yT,yF,yT,yT,yF,yF,yF,yF,yF,yF] #[yT,yT,yT,yT,yT,yT,yT,yT,yF,yF,yT,yF,yF,yF,yF,yT,yF] rfl rfl rfl rfl rfl rfl (three_of HT_.out (by kernel_rfl)) (by decide) (by decide) (by decide) (fun K hK=>?_) (fun K hK=>?_) (fun K hK=>?_)
                    ·skip
                     refine goes_ Tryz.func66 (by kernel_rfl) rfl #[.slice Ao26 t339.length co26] (by rfl) rfl rfl zz27 ?_;with_reducible refine (spec_NoticeText.calls k1 _ _ t339 t343 _ ?side1 ?side2 A16.out).mono ?_
                     (case side1=>exact (zz147 HO341))
                     (case side2=>exact (Kd.S_reads' HO341.out).2.1)
                     rintro e w27 ⟨rfl,hb⟩;have HS0_:=(hb.cell (World.block_lt_of_cell? _ _ (hHeld))).trans (hHeld);refine ⟨_,rfl,?_⟩;replace HO_3:=A_ (rB (zz8 HO_3) hb);replace HO_4:=A_ (rB (zz8 HO_4) hb);replace HO341:=A_ (Kd.S_below (zz35 HO341) hb);replace HK:=A_ (KeepBut.trans (zz19 HK) (KeepBut.of_below hb g none) (.inl rfl));replace HB:=A_ (bS (zz20 HB HI0) hb);replace HI0:=A_ (IsS68.below (zz18 HI0) hb);(try clear hb)
                     (try clear hb2)
                     (try clear hk)
                     (try clear hi)
                     refine hK.out _ _ (HS0_) (fun hHeld=>?_);clear hK K;refine nZ 28 ?_;exact norm_ zz144 (hJ7_8 (.slice Ao26 t339.length co26) _ ⟨hHeld,(zz35 HO341),(zz8 HO_3),(zz8 HO_4),(zz18 HI0),(zz19 HK),(zz20 HB HI0)⟩)
                    ·skip
                     refine Kd.R_lit_step (Kd.int .i64) _ 3 ?hg (N:=29) ?hd (xs:=([0,0,0,1,2,5]:List Int)) (inner:=[.int .i64 0,.int .i64 0,.int .i64 0,.int .i64 1,.int .i64 2,.int .i64 5]) (ok:=fun _=>True) (okp:=fun _=>True) ?hr ?hp (fun _ hk=>hk) trivial (Below.refl _ _) (Nat.le_refl _) (by simp) ?_;(case hd=>rfl);(case hg=>rfl);(case hr=>exact zz26);(case hp=>exact rpI);intro v345 w26 ho27 hb hg_ hnew_;have HS0_:=(hb.cell (World.block_lt_of_cell? _ _ (hHeld))).trans (hHeld);clear hg_ hnew_;(first|rw [← Ny344.out] at ho27|(simp only [Int.reduceToNat] at ho27;rw [← Ny344.out] at ho27))
                     replace HO_3:=A_ (rB (zz8 HO_3) hb);replace HO_4:=A_ (rB (zz8 HO_4) hb);replace HO341:=A_ (Kd.S_below (zz35 HO341) hb);have HO346:=A_ (Kd.R_lower ho27 (keep_size (w:=w) (g:=g) (row:=none) (zz19 HK)));replace HK:=A_ (KeepBut.trans (zz19 HK) (KeepBut.of_below hb g none) (.inl rfl));replace HB:=A_ (bS (zz20 HB HI0) hb);replace HI0:=A_ (IsS68.below (zz18 HI0) hb);clear hb ho27;obtain ⟨Ao28,co28,eo28⟩:=Kd.R_slice HO346.out;subst eo28;obtain ⟨ado28,fo28,_⟩:=Kd.at_int (Kd.R_reads' HO346.out).2.2 0 (by decide) (by rw [Ny344.out];simp);cases fo28
                     refine hK.out _ _ (HS0_) (fun hHeld=>?_);clear hK K;refine nZ 29 ?_;exact norm_ zz144 (hJ7_9 (_,.slice (some ado28) y344.length co28,ado28) _ ⟨hHeld,(zz35 HO341),(zz8 HO346),(zz8 HO_3),(zz8 HO_4),⟨_,rfl⟩,(zz18 HI0),(zz19 HK),(zz20 HB HI0)⟩)
                    ·skip
                     refine box_step ?hg (N:=6) ?hd (cs:=#[.string (⟨#[]⟩:ByteArray),.string (⟨#[]⟩:ByteArray),.string (⟨#[]⟩:ByteArray),.int .i64 0]) (t:=30) ?hr ?_;(case hd=>rfl);(case hg=>rfl);(case hr=>exact zz26);intro gb350 hg w26 hbox hb;have HS0_:=(hb.cell (World.block_lt_of_cell? _ _ (hHeld))).trans (hHeld);replace HO_3:=A_ (rB (Kd.R_elderB (zz8 HO_3) gb350 (Nat.le_of_eq hg.symm)) hb);replace HO_4:=A_ (rB (zz8 HO_4) hb);replace HO341:=A_ (Kd.S_below (zz35 HO341) hb);replace HB:=A_ (bS (zz20 HB HI0) hb);have BK350:=A_ (hbox);have GW350:=A_ ((by rw [hg];exact (keep_size (w:=w) (g:=g) (row:=none) (zz19 HK)):w.heap.size≤gb350));have GE350:=A_ ((Nat.le_trans HW0.out (by rw [hg];exact (keep_size (w:=w) (g:=g) (row:=none) (zz19 HK)):w.heap.size≤gb350):w0.heap.size≤gb350));replace HK:=A_ (KeepBut.trans (zz19 HK) (KeepBut.of_below hb g none) (.inl rfl));have NB0_350:=A_ ((by rw [hg];exact Nat.ne_of_lt (IsS68.lt (show IsS68 w0 _ g s0_0 t342 from (zz18 HI0))):g≠gb350));have NB350_0:=A_ ((by rw [hg];exact Nat.ne_of_gt (IsS68.lt (show IsS68 w0 _ g s0_0 t342 from (zz18 HI0))):gb350≠g));replace HI0:=A_ (IsS68.below (zz18 HI0) hb);clear hb hbox hg;refine hK.out _ _ (HS0_) (fun hHeld=>?_);clear hK K;refine nZ 6 ?_;exact norm_ zz144 (hJ7_15 (_,gb350) _ ⟨hHeld,(zz35 HO341),(zz94 HO_3),(zz8 HO_4),(zz15 BK350),GW350.out,GE350.out,NB0_350.out,NB350_0.out,(zz37 HI0 NB0_350),(zz42 HK GW350),(zz38 HB HI0 GE350)⟩)
                  ·skip
                   rintro ⟨v345,adz_v345,gb350⟩ w28 ⟨hS_,h0_,h1_,h2_,h3_,h4_,h5_,h6_,h7_,h8_,h9_,h10_,h11_⟩;have n0_:=A_ h0_;have n1_:=A_ h1_;have n2_:=A_ h2_;have n3_:=A_ h3_;have n4_:=A_ h4_;have n5_:=A_ h5_;have n6_:=A_ h6_;have n7_:=A_ h7_;have n8_:=A_ h8_;have n9_:=A_ h9_;have n10_:=A_ h10_;have n11_:=A_ h11_;(try dsimp only at n0_ n1_ n2_ n3_ n4_ n5_ n6_ n7_ n8_ n9_ n10_ n11_)
                   clear HO_3;clear HO_4;clear HI0;clear HK;clear HB;clear h0_ h1_ h2_ h3_ h4_ h5_ h6_ h7_ h8_ h9_ h10_ h11_;have HO346:=n0_;have HO_3:=n1_;have HO_4:=n2_;have HA_HO346:=n3_;have BK350:=n4_;have GW350:=n5_;have GE350:=n6_;have NB0_350:=n7_;have NB350_0:=n8_;have HI0:=n9_;have HK:=n10_;have HB:=n11_;clear n0_ n1_ n2_ n3_ n4_ n5_ n6_ n7_ n8_ n9_ n10_ n11_;have hHeld:w28.cell? (ad338.add (x5_1).toNat)=some (.string (rdOf ByteArray.empty t333 x5_1)):=hS_;obtain ⟨co29,eo29⟩:=HA_HO346.out;clear HA_HO346;subst eo29;refine norm_ (a':=?_) ?_ ?_;rotate_left
                   ·simp only [putAll,Act.put,List.setIfInBounds_toArray,List.set_cons_zero,List.set_cons_succ]
                    rfl
                   refine oneZ 7 (some 27) #[yT,yT,yT,yT,yT,yT,yT,yT,yF,yT,yT,yF,yF,yF,yF,yT,yF] (fun K hK=>?_);refine goes_ Tryz.func67 (by kernel_rfl) rfl #[.pointer (some ⟨g,0,none⟩)] (by rfl) rfl rfl zz27 ?_;with_reducible refine (spec_l71Groups.calls k1 g s0_0 t337 t339 t342 w0 _ ?side1 ?side2 A15.out).mono ?_
                   (case side1=>exact (zz37 HI0 NB0_350))
                   (case side2=>exact (zz38 HB HI0 GE350))
                   rintro e w30 ⟨v340,rfl,ho0,hi,hb,hk⟩;have HS0_:=keep_cell hk (hHeld) (zz143 HI0 HO_4);refine ⟨_,rfl,?_⟩;replace HO_3:=A_ (Kd.R_mono (Kd.R_keep (IsS68.apart (show IsS68 w0 _ g s0_0 t337 from (zz37 HI0 NB0_350)) (zz8 HO_3) (by decide)) hk (fun _ h=>h.2)) (fun _ h=>h.1));replace HO346:=A_ (Kd.R_mono (Kd.R_keep (IsS68.apart (show IsS68 w0 _ g s0_0 t337 from (zz37 HI0 NB0_350)) (zz8 HO346) (by decide)) hk (fun _ h=>h.2)) (fun _ h=>h.1));replace BK350:=A_ (KeepBut.blk hk (g':=gb350) (o:=.cells #[.string (⟨#[]⟩:ByteArray),.string (⟨#[]⟩:ByteArray),.string (⟨#[]⟩:ByteArray),.int .i64 0] 30 (0,0)) (zz15 BK350) NB350_0.out (by simp));have HO341:=A_ (Kd.S_lower (Kd.S_new' ho0 (Kd.R_lt (zz8 HO_4))) (keep_size (w:=w) (g:=g) (row:=none) (zz42 HK GW350)));replace HO_4:=A_ (Kd.R_mono (Kd.R_keep (IsS68.apart (show IsS68 w0 _ g s0_0 t337 from (zz37 HI0 NB0_350)) (zz8 HO_4) (by decide)) hk (fun _ h=>h.2)) (fun _ h=>h.1));replace HK:=A_ (KeepBut.trans (zz42 HK GW350) hk (.inl rfl));replace HB:=A_ (hb);replace HI0:=A_ (hi);(try clear hb)
                   (try clear hb2)
                   (try clear hk)
                   (try clear hi)
                   (try clear ho0)
                   refine hK.out _ _ (HS0_) (fun hHeld=>?_);clear hK K;refine nZ 27 ?_;exact norm_ zz144 (hJ7_9_15 (_,.slice (some adz_v345) y344.length co29,adz_v345,gb350) _ ⟨hHeld,(zz145 HO341),(zz8 HO346),(zz8 HO_3),(zz8 HO_4),⟨_,rfl⟩,(zz15 BK350),GW350.out,GE350.out,NB0_350.out,NB350_0.out,(zz37 HI0 NB0_350),(zz42 HK GW350),(zz38 HB HI0 GE350)⟩)
                 ·skip
                  rintro ⟨v340,gb350⟩ w26 ⟨hS_,h0_,h1_,h2_,h3_,h4_,h5_,h6_,h7_,h8_,h9_,h10_⟩;have n0_:=A_ h0_;have n1_:=A_ h1_;have n2_:=A_ h2_;have n3_:=A_ h3_;have n4_:=A_ h4_;have n5_:=A_ h5_;have n6_:=A_ h6_;have n7_:=A_ h7_;have n8_:=A_ h8_;have n9_:=A_ h9_;have n10_:=A_ h10_;(try dsimp only at n0_ n1_ n2_ n3_ n4_ n5_ n6_ n7_ n8_ n9_ n10_)
                  clear HO_3;clear HO_4;clear HI0;clear HK;clear HB;clear h0_ h1_ h2_ h3_ h4_ h5_ h6_ h7_ h8_ h9_ h10_;have HO341:=n0_;have HO_3:=n1_;have HO_4:=n2_;have BK350:=n3_;have GW350:=n4_;have GE350:=n5_;have NB0_350:=n6_;have NB350_0:=n7_;have HI0:=n8_;have HK:=n9_;have HB:=n10_;clear n0_ n1_ n2_ n3_ n4_ n5_ n6_ n7_ n8_ n9_ n10_;have hHeld:w26.cell? (ad338.add (x5_1).toNat)=some (.string (rdOf ByteArray.empty t333 x5_1)):=hS_;obtain ⟨Ao27,co27,eo27⟩:=Kd.S_slice HO341.out;(first|subst eo27|(injection eo27 with f1_ f2_ f3_;have f4_:=f1_.symm;have f5_:=f3_.symm;clear f1_ f2_ f3_;subst f4_;subst f5_))
                  refine norm_ (a':=?_) ?_ ?_;rotate_left
                  ·simp only [putAll,Act.put,List.setIfInBounds_toArray,List.set_cons_zero,List.set_cons_succ]
                   rfl
                  refine twoZ 8 9 (some 28) (some 29) #[yT,yT,yT,yT,yT,yT,yT,yT,yT,yF,yT,yF,yF,yF,yF,yT,yF] #[yT,yT,yT,yT,yT,yT,yT,yT,yF,yT,yT,yF,yF,yF,yF,yT,yF] (fun K hK=>?_) (fun K hK=>?_)
                  ·skip
                   refine goes_ Tryz.func66 (by kernel_rfl) rfl #[.slice Ao27 t339.length co27] (by rfl) rfl rfl zz27 ?_;with_reducible refine (spec_NoticeText.calls k1 _ _ t339 t343 _ ?side1 ?side2 A16.out).mono ?_
                   (case side1=>exact (zz147 HO341))
                   (case side2=>exact (Kd.S_reads' HO341.out).2.1)
                   rintro e w28 ⟨rfl,hb⟩;have HS0_:=(hb.cell (World.block_lt_of_cell? _ _ (hHeld))).trans (hHeld);refine ⟨_,rfl,?_⟩;replace HO_3:=A_ (rB (zz8 HO_3) hb);replace HO_4:=A_ (rB (zz8 HO_4) hb);replace HO341:=A_ (Kd.S_below (zz35 HO341) hb);replace BK350:=A_ (bB (zz15 BK350) hb);replace HK:=A_ (KeepBut.trans (zz42 HK GW350) (KeepBut.of_below hb g none) (.inl rfl));replace HB:=A_ (bS (zz38 HB HI0 GE350) hb);replace HI0:=A_ (IsS68.below (zz37 HI0 NB0_350) hb);(try clear hb)
                   (try clear hb2)
                   (try clear hk)
                   (try clear hi)
                   refine hK.out _ _ (HS0_) (fun hHeld=>?_);clear hK K;refine nZ 28 ?_;exact norm_ zz144 (hJ7_8_15 (.slice Ao27 t339.length co27,gb350) _ ⟨hHeld,(zz35 HO341),(zz8 HO_3),(zz8 HO_4),(zz15 BK350),GW350.out,GE350.out,NB0_350.out,NB350_0.out,(zz37 HI0 NB0_350),(zz42 HK GW350),(zz38 HB HI0 GE350)⟩)
                  ·skip
                   refine Kd.R_lit_step (Kd.int .i64) _ 3 ?hg (N:=29) ?hd (xs:=([0,0,0,1,2,5]:List Int)) (inner:=[.int .i64 0,.int .i64 0,.int .i64 0,.int .i64 1,.int .i64 2,.int .i64 5]) (ok:=fun _=>True) (okp:=fun _=>True) ?hr ?hp (fun _ hk=>hk) trivial (Below.refl _ _) (Nat.le_refl _) (by simp) ?_;(case hd=>rfl);(case hg=>rfl);(case hr=>exact zz26);(case hp=>exact rpI);intro v345 w27 ho28 hb hg_ hnew_;have HS0_:=(hb.cell (World.block_lt_of_cell? _ _ (hHeld))).trans (hHeld);clear hg_ hnew_;(first|rw [← Ny344.out] at ho28|(simp only [Int.reduceToNat] at ho28;rw [← Ny344.out] at ho28))
                   replace HO_3:=A_ (rB (zz8 HO_3) hb);replace HO_4:=A_ (rB (zz8 HO_4) hb);replace HO341:=A_ (Kd.S_below (zz35 HO341) hb);have HO346:=A_ (Kd.R_lower ho28 (keep_size (w:=w) (g:=g) (row:=none) (zz42 HK GW350)));replace BK350:=A_ (bB (zz15 BK350) hb);replace HK:=A_ (KeepBut.trans (zz42 HK GW350) (KeepBut.of_below hb g none) (.inl rfl));replace HB:=A_ (bS (zz38 HB HI0 GE350) hb);replace HI0:=A_ (IsS68.below (zz37 HI0 NB0_350) hb);clear hb ho28;obtain ⟨Ao29,co29,eo29⟩:=Kd.R_slice HO346.out;subst eo29;obtain ⟨ado29,fo29,_⟩:=Kd.at_int (Kd.R_reads' HO346.out).2.2 0 (by decide) (by rw [Ny344.out];simp);cases fo29
                   refine hK.out _ _ (HS0_) (fun hHeld=>?_);clear hK K;refine nZ 29 ?_;exact norm_ zz144 (hJ7_9_15 (_,.slice (some ado29) y344.length co29,ado29,gb350) _ ⟨hHeld,(zz35 HO341),(zz8 HO346),(zz8 HO_3),(zz8 HO_4),⟨_,rfl⟩,(zz15 BK350),GW350.out,GE350.out,NB0_350.out,NB350_0.out,(zz37 HI0 NB0_350),(zz42 HK GW350),(zz38 HB HI0 GE350)⟩)
                ·skip
                 rintro ⟨v340,v345,adz_v345⟩ w28 ⟨hS_,h0_,h1_,h2_,h3_,h4_,h5_,h6_,h7_⟩;have n0_:=A_ h0_;have n1_:=A_ h1_;have n2_:=A_ h2_;have n3_:=A_ h3_;have n4_:=A_ h4_;have n5_:=A_ h5_;have n6_:=A_ h6_;have n7_:=A_ h7_;(try dsimp only at n0_ n1_ n2_ n3_ n4_ n5_ n6_ n7_)
                 clear HO_3;clear HO_4;clear HI0;clear HK;clear HB;clear h0_ h1_ h2_ h3_ h4_ h5_ h6_ h7_;have HO341:=n0_;have HO346:=n1_;have HO_3:=n2_;have HO_4:=n3_;have HA_HO346:=n4_;have HI0:=n5_;have HK:=n6_;have HB:=n7_;clear n0_ n1_ n2_ n3_ n4_ n5_ n6_ n7_;have hHeld:w28.cell? (ad338.add (x5_1).toNat)=some (.string (rdOf ByteArray.empty t333 x5_1)):=hS_;obtain ⟨co29,eo29⟩:=HA_HO346.out;clear HA_HO346;subst eo29;obtain ⟨Ao30,co30,eo30⟩:=Kd.S_slice HO341.out;(first|subst eo30|(injection eo30 with f1_ f2_ f3_;have f4_:=f1_.symm;have f5_:=f3_.symm;clear f1_ f2_ f3_;subst f4_;subst f5_))
                 refine norm_ (a':=?_) ?_ ?_;rotate_left
                 ·simp only [putAll,Act.put,List.setIfInBounds_toArray,List.set_cons_zero,List.set_cons_succ]
                  rfl
                 refine twoZ 8 15 (some 28) (some 6) #[yT,yT,yT,yT,yT,yT,yT,yT,yT,yT,yT,yF,yF,yF,yF,yF,yF] #[yT,yT,yT,yT,yT,yT,yT,yT,yF,yT,yT,yF,yF,yF,yF,yT,yF] (fun K hK=>?_) (fun K hK=>?_)
                 ·skip
                  refine goes_ Tryz.func66 (by kernel_rfl) rfl #[.slice Ao30 t339.length co30] (by rfl) rfl rfl zz27 ?_;with_reducible refine (spec_NoticeText.calls k1 _ _ t339 t343 _ ?side1 ?side2 A16.out).mono ?_
                  (case side1=>exact (zz147 HO341))
                  (case side2=>exact (Kd.S_reads' HO341.out).2.1)
                  rintro e w31 ⟨rfl,hb⟩;have HS0_:=(hb.cell (World.block_lt_of_cell? _ _ (hHeld))).trans (hHeld);refine ⟨_,rfl,?_⟩;replace HO_3:=A_ (rB (zz8 HO_3) hb);replace HO_4:=A_ (rB (zz8 HO_4) hb);replace HO341:=A_ (Kd.S_below (zz35 HO341) hb);replace HO346:=A_ (rB (zz8 HO346) hb);replace HK:=A_ (KeepBut.trans (zz19 HK) (KeepBut.of_below hb g none) (.inl rfl));replace HB:=A_ (bS (zz20 HB HI0) hb);replace HI0:=A_ (IsS68.below (zz18 HI0) hb);(try clear hb)
                  (try clear hb2)
                  (try clear hk)
                  (try clear hi)
                  refine hK.out _ _ (HS0_) (fun hHeld=>?_);clear hK K;refine nZ 28 ?_;exact norm_ zz144 (hJ7_8_9 (.slice Ao30 t339.length co30,.slice (some adz_v345) y344.length co29,adz_v345) _ ⟨hHeld,(zz35 HO341),(zz8 HO346),(zz8 HO_3),(zz8 HO_4),⟨_,rfl⟩,(zz18 HI0),(zz19 HK),(zz20 HB HI0)⟩)
                 ·skip
                  refine box_step ?hg (N:=6) ?hd (cs:=#[.string (⟨#[]⟩:ByteArray),.string (⟨#[]⟩:ByteArray),.string (⟨#[]⟩:ByteArray),.int .i64 0]) (t:=30) ?hr ?_;(case hd=>rfl);(case hg=>rfl);(case hr=>exact zz26);intro gb350 hg w30 hbox hb;have HS0_:=(hb.cell (World.block_lt_of_cell? _ _ (hHeld))).trans (hHeld);replace HO_3:=A_ (rB (Kd.R_elderB (zz8 HO_3) gb350 (Nat.le_of_eq hg.symm)) hb);replace HO_4:=A_ (rB (zz8 HO_4) hb);replace HO341:=A_ (Kd.S_below (zz35 HO341) hb);replace HO346:=A_ (rB (zz8 HO346) hb);replace HB:=A_ (bS (zz20 HB HI0) hb);have BK350:=A_ (hbox);have GW350:=A_ ((by rw [hg];exact (keep_size (w:=w) (g:=g) (row:=none) (zz19 HK)):w.heap.size≤gb350));have GE350:=A_ ((Nat.le_trans HW0.out (by rw [hg];exact (keep_size (w:=w) (g:=g) (row:=none) (zz19 HK)):w.heap.size≤gb350):w0.heap.size≤gb350));replace HK:=A_ (KeepBut.trans (zz19 HK) (KeepBut.of_below hb g none) (.inl rfl));have NB0_350:=A_ ((by rw [hg];exact Nat.ne_of_lt (IsS68.lt (show IsS68 w0 _ g s0_0 t342 from (zz18 HI0))):g≠gb350));have NB350_0:=A_ ((by rw [hg];exact Nat.ne_of_gt (IsS68.lt (show IsS68 w0 _ g s0_0 t342 from (zz18 HI0))):gb350≠g));replace HI0:=A_ (IsS68.below (zz18 HI0) hb);clear hb hbox hg;refine hK.out _ _ (HS0_) (fun hHeld=>?_);clear hK K;refine nZ 6 ?_;exact norm_ zz144 (hJ7_9_15 (_,.slice (some adz_v345) y344.length co29,adz_v345,gb350) _ ⟨hHeld,(zz35 HO341),(zz8 HO346),(zz94 HO_3),(zz8 HO_4),⟨_,rfl⟩,(zz15 BK350),GW350.out,GE350.out,NB0_350.out,NB350_0.out,(zz37 HI0 NB0_350),(zz42 HK GW350),(zz38 HB HI0 GE350)⟩)
               ·skip
                rintro v340 w27 ⟨hS_,h0_,h1_,h2_,h3_,h4_,h5_⟩;have n0_:=A_ h0_;have n1_:=A_ h1_;have n2_:=A_ h2_;have n3_:=A_ h3_;have n4_:=A_ h4_;have n5_:=A_ h5_;(try dsimp only at n0_ n1_ n2_ n3_ n4_ n5_)
                clear HO_3;clear HO_4;clear HI0;clear HK;clear HB;clear h0_ h1_ h2_ h3_ h4_ h5_;have HO341:=n0_;have HO_3:=n1_;have HO_4:=n2_;have HI0:=n3_;have HK:=n4_;have HB:=n5_;clear n0_ n1_ n2_ n3_ n4_ n5_;have hHeld:w27.cell? (ad338.add (x5_1).toNat)=some (.string (rdOf ByteArray.empty t333 x5_1)):=hS_;refine norm_ (a':=?_) ?_ ?_;rotate_left
                ·simp only [putAll,Act.put,List.setIfInBounds_toArray,List.set_cons_zero,List.set_cons_succ]
                 rfl
                refine three_ (i:=9) (j:=11) (k:=15) (Ni:=some 29) (Nj:=some 31) (Nk:=some 6) #[yT,yT,yT,yT,yT,yT,yT,yT,yT,yT,yT,yF,yF,yF,yF,yF,yF] #[yT,yT,yT,yT,yT,yT,yT,yT,yT,yF,yT,yT,yF,yF,yF,yF,yF] #[yT,yT,yT,yT,yT,yT,yT,yT,yT,yF,yT,yF,yF,yF,yF,yT,yF] rfl rfl rfl rfl rfl rfl (three_of HT_.out (by kernel_rfl)) (by decide) (by decide) (by decide) (fun K hK=>?_) (fun K hK=>?_) (fun K hK=>?_)
                ·skip
                 refine Kd.R_lit_step (Kd.int .i64) _ 3 ?hg (N:=29) ?hd (xs:=([0,0,0,1,2,5]:List Int)) (inner:=[.int .i64 0,.int .i64 0,.int .i64 0,.int .i64 1,.int .i64 2,.int .i64 5]) (ok:=fun _=>True) (okp:=fun _=>True) ?hr ?hp (fun _ hk=>hk) trivial (Below.refl _ _) (Nat.le_refl _) (by simp) ?_;(case hd=>rfl);(case hg=>rfl);(case hr=>exact zz26);(case hp=>exact rpI);intro v345 w28 ho29 hb hg_ hnew_;have HS0_:=(hb.cell (World.block_lt_of_cell? _ _ (hHeld))).trans (hHeld);clear hg_ hnew_;(first|rw [← Ny344.out] at ho29|(simp only [Int.reduceToNat] at ho29;rw [← Ny344.out] at ho29))
                 replace HO_3:=A_ (rB (zz8 HO_3) hb);replace HO_4:=A_ (rB (zz8 HO_4) hb);replace HO341:=A_ (Kd.S_below (zz35 HO341) hb);have HO346:=A_ (Kd.R_lower ho29 (keep_size (w:=w) (g:=g) (row:=none) (zz19 HK)));replace HK:=A_ (KeepBut.trans (zz19 HK) (KeepBut.of_below hb g none) (.inl rfl));replace HB:=A_ (bS (zz20 HB HI0) hb);replace HI0:=A_ (IsS68.below (zz18 HI0) hb);clear hb ho29;obtain ⟨Ao30,co30,eo30⟩:=Kd.R_slice HO346.out;subst eo30;obtain ⟨ado30,fo30,_⟩:=Kd.at_int (Kd.R_reads' HO346.out).2.2 0 (by decide) (by rw [Ny344.out];simp);cases fo30
                 refine hK.out _ _ (HS0_) (fun hHeld=>?_);clear hK K;refine nZ 29 ?_;exact norm_ zz144 (hJ7_8_9 (_,.slice (some ado30) y344.length co30,ado30) _ ⟨hHeld,(zz35 HO341),(zz8 HO346),(zz8 HO_3),(zz8 HO_4),⟨_,rfl⟩,(zz18 HI0),(zz19 HK),(zz20 HB HI0)⟩)
                ·skip
                 refine goes_ Tryz.func22 (by kernel_rfl) rfl #[.pointer (some ⟨g,0,none⟩),.int .i64 6] (by rfl) rfl rfl zz27 ?_;with_reducible refine (spec_l6Rd_pick.calls k1 g s0_0 t342 6 t347 t348 w0 _ ?side1 ?side2 A17.out).mono ?_
                 (case side1=>exact (zz18 HI0))
                 (case side2=>exact (zz20 HB HI0))
                 rintro e w28 ⟨rfl,hi,hb,hk⟩;have HS0_:=keep_cell hk (hHeld) (zz143 HI0 HO_4);refine ⟨_,rfl,?_⟩;replace HO_3:=A_ (Kd.R_mono (Kd.R_keep (IsS68.apart (show IsS68 w0 _ g s0_0 t342 from (zz18 HI0)) (zz8 HO_3) (by decide)) hk (fun _ h=>h.2)) (fun _ h=>h.1));replace HO_4:=A_ (Kd.R_mono (Kd.R_keep (IsS68.apart (show IsS68 w0 _ g s0_0 t342 from (zz18 HI0)) (zz8 HO_4) (by decide)) hk (fun _ h=>h.2)) (fun _ h=>h.1));replace HO341:=A_ (Kd.S_mono (Kd.S_keep (IsS68.apartS (show IsS68 w0 _ g s0_0 t342 from (zz18 HI0)) (zz35 HO341) (by decide)) hk (fun _ h=>h.2)) (fun _ h=>h.1));replace HK:=A_ (KeepBut.trans (zz19 HK) hk (.inl rfl));replace HB:=A_ (hb);replace HI0:=A_ (hi);(try clear hb)
                 (try clear hb2)
                 (try clear hk)
                 (try clear hi)
                 refine hK.out _ _ (HS0_) (fun hHeld=>?_);clear hK K;refine nZ 31 ?_;exact norm_ zz144 (hJ7_8_11 (v340) _ ⟨hHeld,(zz35 HO341),(zz8 HO_3),(zz8 HO_4),(zz18 HI0),(zz19 HK),(zz20 HB HI0)⟩)
                ·skip
                 refine box_step ?hg (N:=6) ?hd (cs:=#[.string (⟨#[]⟩:ByteArray),.string (⟨#[]⟩:ByteArray),.string (⟨#[]⟩:ByteArray),.int .i64 0]) (t:=30) ?hr ?_;(case hd=>rfl);(case hg=>rfl);(case hr=>exact zz26);intro gb350 hg w28 hbox hb;have HS0_:=(hb.cell (World.block_lt_of_cell? _ _ (hHeld))).trans (hHeld);replace HO_3:=A_ (rB (Kd.R_elderB (zz8 HO_3) gb350 (Nat.le_of_eq hg.symm)) hb);replace HO_4:=A_ (rB (zz8 HO_4) hb);replace HO341:=A_ (Kd.S_below (zz35 HO341) hb);replace HB:=A_ (bS (zz20 HB HI0) hb);have BK350:=A_ (hbox);have GW350:=A_ ((by rw [hg];exact (keep_size (w:=w) (g:=g) (row:=none) (zz19 HK)):w.heap.size≤gb350));have GE350:=A_ ((Nat.le_trans HW0.out (by rw [hg];exact (keep_size (w:=w) (g:=g) (row:=none) (zz19 HK)):w.heap.size≤gb350):w0.heap.size≤gb350));replace HK:=A_ (KeepBut.trans (zz19 HK) (KeepBut.of_below hb g none) (.inl rfl));have NB0_350:=A_ ((by rw [hg];exact Nat.ne_of_lt (IsS68.lt (show IsS68 w0 _ g s0_0 t342 from (zz18 HI0))):g≠gb350));have NB350_0:=A_ ((by rw [hg];exact Nat.ne_of_gt (IsS68.lt (show IsS68 w0 _ g s0_0 t342 from (zz18 HI0))):gb350≠g));replace HI0:=A_ (IsS68.below (zz18 HI0) hb);clear hb hbox hg;refine hK.out _ _ (HS0_) (fun hHeld=>?_);clear hK K;refine nZ 6 ?_;exact norm_ zz144 (hJ7_8_15 (_,gb350) _ ⟨hHeld,(zz35 HO341),(zz94 HO_3),(zz8 HO_4),(zz15 BK350),GW350.out,GE350.out,NB0_350.out,NB350_0.out,(zz37 HI0 NB0_350),(zz42 HK GW350),(zz38 HB HI0 GE350)⟩)
              ·skip
               rintro ⟨v340,v345,adz_v345,gb350⟩ w29 ⟨hS_,h0_,h1_,h2_,h3_,h4_,h5_,h6_,h7_,h8_,h9_,h10_,h11_,h12_⟩;have n0_:=A_ h0_;have n1_:=A_ h1_;have n2_:=A_ h2_;have n3_:=A_ h3_;have n4_:=A_ h4_;have n5_:=A_ h5_;have n6_:=A_ h6_;have n7_:=A_ h7_;have n8_:=A_ h8_;have n9_:=A_ h9_;have n10_:=A_ h10_;have n11_:=A_ h11_;have n12_:=A_ h12_;(try dsimp only at n0_ n1_ n2_ n3_ n4_ n5_ n6_ n7_ n8_ n9_ n10_ n11_ n12_)
               clear HO_3;clear HO_4;clear HI0;clear HK;clear HB;clear h0_ h1_ h2_ h3_ h4_ h5_ h6_ h7_ h8_ h9_ h10_ h11_ h12_;have HO341:=n0_;have HO346:=n1_;have HO_3:=n2_;have HO_4:=n3_;have HA_HO346:=n4_;have BK350:=n5_;have GW350:=n6_;have GE350:=n7_;have NB0_350:=n8_;have NB350_0:=n9_;have HI0:=n10_;have HK:=n11_;have HB:=n12_;clear n0_ n1_ n2_ n3_ n4_ n5_ n6_ n7_ n8_ n9_ n10_ n11_ n12_;have hHeld:w29.cell? (ad338.add (x5_1).toNat)=some (.string (rdOf ByteArray.empty t333 x5_1)):=hS_;obtain ⟨co30,eo30⟩:=HA_HO346.out;clear HA_HO346;subst eo30;obtain ⟨Ao31,co31,eo31⟩:=Kd.S_slice HO341.out;(first|subst eo31|(injection eo31 with f1_ f2_ f3_;have f4_:=f1_.symm;have f5_:=f3_.symm;clear f1_ f2_ f3_;subst f4_;subst f5_))
               refine norm_ (a':=?_) ?_ ?_;rotate_left
               ·simp only [putAll,Act.put,List.setIfInBounds_toArray,List.set_cons_zero,List.set_cons_succ]
                rfl
               refine oneZ 8 (some 28) #[yT,yT,yT,yT,yT,yT,yT,yT,yT,yT,yT,yF,yF,yF,yF,yT,yF] (fun K hK=>?_);refine goes_ Tryz.func66 (by kernel_rfl) rfl #[.slice Ao31 t339.length co31] (by rfl) rfl rfl zz27 ?_;with_reducible refine (spec_NoticeText.calls k1 _ _ t339 t343 _ ?side1 ?side2 A16.out).mono ?_
               (case side1=>exact (zz147 HO341))
               (case side2=>exact (Kd.S_reads' HO341.out).2.1)
               rintro e w32 ⟨rfl,hb⟩;have HS0_:=(hb.cell (World.block_lt_of_cell? _ _ (hHeld))).trans (hHeld);refine ⟨_,rfl,?_⟩;replace HO_3:=A_ (rB (zz8 HO_3) hb);replace HO_4:=A_ (rB (zz8 HO_4) hb);replace HO341:=A_ (Kd.S_below (zz35 HO341) hb);replace HO346:=A_ (rB (zz8 HO346) hb);replace BK350:=A_ (bB (zz15 BK350) hb);replace HK:=A_ (KeepBut.trans (zz42 HK GW350) (KeepBut.of_below hb g none) (.inl rfl));replace HB:=A_ (bS (zz38 HB HI0 GE350) hb);replace HI0:=A_ (IsS68.below (zz37 HI0 NB0_350) hb);(try clear hb)
               (try clear hb2)
               (try clear hk)
               (try clear hi)
               refine hK.out _ _ (HS0_) (fun hHeld=>?_);clear hK K;refine nZ 28 ?_;exact norm_ zz144 (hJ7_8_9_15 (.slice Ao31 t339.length co31,.slice (some adz_v345) y344.length co30,adz_v345,gb350) _ ⟨hHeld,(zz35 HO341),(zz8 HO346),(zz8 HO_3),(zz8 HO_4),⟨_,rfl⟩,(zz15 BK350),GW350.out,GE350.out,NB0_350.out,NB350_0.out,(zz37 HI0 NB0_350),(zz42 HK GW350),(zz38 HB HI0 GE350)⟩)
             ·skip
              rintro ⟨v340,gb350⟩ w28 ⟨hS_,h0_,h1_,h2_,h3_,h4_,h5_,h6_,h7_,h8_,h9_,h10_⟩;have n0_:=A_ h0_;have n1_:=A_ h1_;have n2_:=A_ h2_;have n3_:=A_ h3_;have n4_:=A_ h4_;have n5_:=A_ h5_;have n6_:=A_ h6_;have n7_:=A_ h7_;have n8_:=A_ h8_;have n9_:=A_ h9_;have n10_:=A_ h10_;(try dsimp only at n0_ n1_ n2_ n3_ n4_ n5_ n6_ n7_ n8_ n9_ n10_)
              clear HO_3;clear HO_4;clear HI0;clear HK;clear HB;clear h0_ h1_ h2_ h3_ h4_ h5_ h6_ h7_ h8_ h9_ h10_;have HO341:=n0_;have HO_3:=n1_;have HO_4:=n2_;have BK350:=n3_;have GW350:=n4_;have GE350:=n5_;have NB0_350:=n6_;have NB350_0:=n7_;have HI0:=n8_;have HK:=n9_;have HB:=n10_;clear n0_ n1_ n2_ n3_ n4_ n5_ n6_ n7_ n8_ n9_ n10_;have hHeld:w28.cell? (ad338.add (x5_1).toNat)=some (.string (rdOf ByteArray.empty t333 x5_1)):=hS_;refine norm_ (a':=?_) ?_ ?_;rotate_left
              ·simp only [putAll,Act.put,List.setIfInBounds_toArray,List.set_cons_zero,List.set_cons_succ]
               rfl
              refine twoZ 9 11 (some 29) (some 31) #[yT,yT,yT,yT,yT,yT,yT,yT,yT,yT,yT,yF,yF,yF,yF,yT,yF] #[yT,yT,yT,yT,yT,yT,yT,yT,yT,yF,yT,yT,yF,yF,yF,yT,yF] (fun K hK=>?_) (fun K hK=>?_)
              ·skip
               refine Kd.R_lit_step (Kd.int .i64) _ 3 ?hg (N:=29) ?hd (xs:=([0,0,0,1,2,5]:List Int)) (inner:=[.int .i64 0,.int .i64 0,.int .i64 0,.int .i64 1,.int .i64 2,.int .i64 5]) (ok:=fun _=>True) (okp:=fun _=>True) ?hr ?hp (fun _ hk=>hk) trivial (Below.refl _ _) (Nat.le_refl _) (by simp) ?_;(case hd=>rfl);(case hg=>rfl);(case hr=>exact zz26);(case hp=>exact rpI);intro v345 w29 ho30 hb hg_ hnew_;have HS0_:=(hb.cell (World.block_lt_of_cell? _ _ (hHeld))).trans (hHeld);clear hg_ hnew_;(first|rw [← Ny344.out] at ho30|(simp only [Int.reduceToNat] at ho30;rw [← Ny344.out] at ho30))
               replace HO_3:=A_ (rB (zz8 HO_3) hb);replace HO_4:=A_ (rB (zz8 HO_4) hb);replace HO341:=A_ (Kd.S_below (zz35 HO341) hb);have HO346:=A_ (Kd.R_lower ho30 (keep_size (w:=w) (g:=g) (row:=none) (zz42 HK GW350)));replace BK350:=A_ (bB (zz15 BK350) hb);replace HK:=A_ (KeepBut.trans (zz42 HK GW350) (KeepBut.of_below hb g none) (.inl rfl));replace HB:=A_ (bS (zz38 HB HI0 GE350) hb);replace HI0:=A_ (IsS68.below (zz37 HI0 NB0_350) hb);clear hb ho30;obtain ⟨Ao31,co31,eo31⟩:=Kd.R_slice HO346.out;subst eo31;obtain ⟨ado31,fo31,_⟩:=Kd.at_int (Kd.R_reads' HO346.out).2.2 0 (by decide) (by rw [Ny344.out];simp);cases fo31
               refine hK.out _ _ (HS0_) (fun hHeld=>?_);clear hK K;refine nZ 29 ?_;exact norm_ zz144 (hJ7_8_9_15 (_,.slice (some ado31) y344.length co31,ado31,gb350) _ ⟨hHeld,(zz35 HO341),(zz8 HO346),(zz8 HO_3),(zz8 HO_4),⟨_,rfl⟩,(zz15 BK350),GW350.out,GE350.out,NB0_350.out,NB350_0.out,(zz37 HI0 NB0_350),(zz42 HK GW350),(zz38 HB HI0 GE350)⟩)
              ·skip
               refine goes_ Tryz.func22 (by kernel_rfl) rfl #[.pointer (some ⟨g,0,none⟩),.int .i64 6] (by rfl) rfl rfl zz27 ?_;with_reducible refine (spec_l6Rd_pick.calls k1 g s0_0 t342 6 t347 t348 w0 _ ?side1 ?side2 A17.out).mono ?_
               (case side1=>exact (zz37 HI0 NB0_350))
               (case side2=>exact (zz38 HB HI0 GE350))
               rintro e w29 ⟨rfl,hi,hb,hk⟩;have HS0_:=keep_cell hk (hHeld) (zz143 HI0 HO_4);refine ⟨_,rfl,?_⟩;replace HO_3:=A_ (Kd.R_mono (Kd.R_keep (IsS68.apart (show IsS68 w0 _ g s0_0 t342 from (zz37 HI0 NB0_350)) (zz8 HO_3) (by decide)) hk (fun _ h=>h.2)) (fun _ h=>h.1));replace HO_4:=A_ (Kd.R_mono (Kd.R_keep (IsS68.apart (show IsS68 w0 _ g s0_0 t342 from (zz37 HI0 NB0_350)) (zz8 HO_4) (by decide)) hk (fun _ h=>h.2)) (fun _ h=>h.1));replace HO341:=A_ (Kd.S_mono (Kd.S_keep (IsS68.apartS (show IsS68 w0 _ g s0_0 t342 from (zz37 HI0 NB0_350)) (zz35 HO341) (by decide)) hk (fun _ h=>h.2)) (fun _ h=>h.1));replace BK350:=A_ (KeepBut.blk hk (g':=gb350) (o:=.cells #[.string (⟨#[]⟩:ByteArray),.string (⟨#[]⟩:ByteArray),.string (⟨#[]⟩:ByteArray),.int .i64 0] 30 (0,0)) (zz15 BK350) NB350_0.out (by simp));replace HK:=A_ (KeepBut.trans (zz42 HK GW350) hk (.inl rfl));replace HB:=A_ (hb);replace HI0:=A_ (hi);(try clear hb)
               (try clear hb2)
               (try clear hk)
               (try clear hi)
               refine hK.out _ _ (HS0_) (fun hHeld=>?_);clear hK K;refine nZ 31 ?_;exact norm_ zz144 (hJ7_8_11_15 (_,gb350) _ ⟨hHeld,(zz35 HO341),(zz8 HO_3),(zz8 HO_4),(zz15 BK350),GW350.out,GE350.out,NB0_350.out,NB350_0.out,(zz37 HI0 NB0_350),(zz42 HK GW350),(zz38 HB HI0 GE350)⟩)
            ·skip
             rintro v340 w28 ⟨hS_,h0_,h1_,h2_,h3_,h4_,h5_⟩;have n0_:=A_ h0_;have n1_:=A_ h1_;have n2_:=A_ h2_;have n3_:=A_ h3_;have n4_:=A_ h4_;have n5_:=A_ h5_;(try dsimp only at n0_ n1_ n2_ n3_ n4_ n5_)
             clear HO_3;clear HO_4;clear HI0;clear HK;clear HB;clear h0_ h1_ h2_ h3_ h4_ h5_;have HO341:=n0_;have HO_3:=n1_;have HO_4:=n2_;have HI0:=n3_;have HK:=n4_;have HB:=n5_;clear n0_ n1_ n2_ n3_ n4_ n5_;have hHeld:w28.cell? (ad338.add (x5_1).toNat)=some (.string (rdOf ByteArray.empty t333 x5_1)):=hS_;refine norm_ (a':=?_) ?_ ?_;rotate_left
             ·simp only [putAll,Act.put,List.setIfInBounds_toArray,List.set_cons_zero,List.set_cons_succ]
              rfl
             refine twoZ 9 15 (some 29) (some 6) #[yT,yT,yT,yT,yT,yT,yT,yT,yT,yT,yT,yT,yF,yF,yF,yF,yF] #[yT,yT,yT,yT,yT,yT,yT,yT,yT,yF,yT,yT,yF,yF,yF,yT,yF] (fun K hK=>?_) (fun K hK=>?_)
             ·skip
              refine Kd.R_lit_step (Kd.int .i64) _ 3 ?hg (N:=29) ?hd (xs:=([0,0,0,1,2,5]:List Int)) (inner:=[.int .i64 0,.int .i64 0,.int .i64 0,.int .i64 1,.int .i64 2,.int .i64 5]) (ok:=fun _=>True) (okp:=fun _=>True) ?hr ?hp (fun _ hk=>hk) trivial (Below.refl _ _) (Nat.le_refl _) (by simp) ?_;(case hd=>rfl);(case hg=>rfl);(case hr=>exact zz26);(case hp=>exact rpI);intro v345 w29 ho30 hb hg_ hnew_;have HS0_:=(hb.cell (World.block_lt_of_cell? _ _ (hHeld))).trans (hHeld);clear hg_ hnew_;(first|rw [← Ny344.out] at ho30|(simp only [Int.reduceToNat] at ho30;rw [← Ny344.out] at ho30))
              replace HO_3:=A_ (rB (zz8 HO_3) hb);replace HO_4:=A_ (rB (zz8 HO_4) hb);replace HO341:=A_ (Kd.S_below (zz35 HO341) hb);have HO346:=A_ (Kd.R_lower ho30 (keep_size (w:=w) (g:=g) (row:=none) (zz19 HK)));replace HK:=A_ (KeepBut.trans (zz19 HK) (KeepBut.of_below hb g none) (.inl rfl));replace HB:=A_ (bS (zz20 HB HI0) hb);replace HI0:=A_ (IsS68.below (zz18 HI0) hb);clear hb ho30;obtain ⟨Ao31,co31,eo31⟩:=Kd.R_slice HO346.out;subst eo31;obtain ⟨ado31,fo31,_⟩:=Kd.at_int (Kd.R_reads' HO346.out).2.2 0 (by decide) (by rw [Ny344.out];simp);cases fo31
              refine hK.out _ _ (HS0_) (fun hHeld=>?_);clear hK K;refine nZ 29 ?_;refine pureZ 12 (some 32) #[yT,yT,yT,yT,yT,yT,yT,yT,yT,yT,yT,yT,yT,yF,yF,yF,yF] ?_;exact norm_ zz144 (hJ7_8_9_11 (_,.slice (some ado31) y344.length co31,ado31) _ ⟨hHeld,(zz35 HO341),(zz8 HO346),(zz8 HO_3),(zz8 HO_4),⟨_,rfl⟩,(zz18 HI0),(zz19 HK),(zz20 HB HI0)⟩)
             ·skip
              refine box_step ?hg (N:=6) ?hd (cs:=#[.string (⟨#[]⟩:ByteArray),.string (⟨#[]⟩:ByteArray),.string (⟨#[]⟩:ByteArray),.int .i64 0]) (t:=30) ?hr ?_;(case hd=>rfl);(case hg=>rfl);(case hr=>exact zz26);intro gb350 hg w29 hbox hb;have HS0_:=(hb.cell (World.block_lt_of_cell? _ _ (hHeld))).trans (hHeld);replace HO_3:=A_ (rB (Kd.R_elderB (zz8 HO_3) gb350 (Nat.le_of_eq hg.symm)) hb);replace HO_4:=A_ (rB (zz8 HO_4) hb);replace HO341:=A_ (Kd.S_below (zz35 HO341) hb);replace HB:=A_ (bS (zz20 HB HI0) hb);have BK350:=A_ (hbox);have GW350:=A_ ((by rw [hg];exact (keep_size (w:=w) (g:=g) (row:=none) (zz19 HK)):w.heap.size≤gb350));have GE350:=A_ ((Nat.le_trans HW0.out (by rw [hg];exact (keep_size (w:=w) (g:=g) (row:=none) (zz19 HK)):w.heap.size≤gb350):w0.heap.size≤gb350));replace HK:=A_ (KeepBut.trans (zz19 HK) (KeepBut.of_below hb g none) (.inl rfl));have NB0_350:=A_ ((by rw [hg];exact Nat.ne_of_lt (IsS68.lt (show IsS68 w0 _ g s0_0 t348 from (zz18 HI0))):g≠gb350));have NB350_0:=A_ ((by rw [hg];exact Nat.ne_of_gt (IsS68.lt (show IsS68 w0 _ g s0_0 t348 from (zz18 HI0))):gb350≠g));replace HI0:=A_ (IsS68.below (zz18 HI0) hb);clear hb hbox hg;refine hK.out _ _ (HS0_) (fun hHeld=>?_);clear hK K;refine nZ 6 ?_;exact norm_ zz144 (hJ7_8_11_15 (_,gb350) _ ⟨hHeld,(zz35 HO341),(zz94 HO_3),(zz8 HO_4),(zz15 BK350),GW350.out,GE350.out,NB0_350.out,NB350_0.out,(zz37 HI0 NB0_350),(zz42 HK GW350),(zz38 HB HI0 GE350)⟩)
           ·skip
            rintro ⟨v340,v345,adz_v345⟩ w30 ⟨hS_,h0_,h1_,h2_,h3_,h4_,h5_,h6_,h7_⟩;have n0_:=A_ h0_;have n1_:=A_ h1_;have n2_:=A_ h2_;have n3_:=A_ h3_;have n4_:=A_ h4_;have n5_:=A_ h5_;have n6_:=A_ h6_;have n7_:=A_ h7_;(try dsimp only at n0_ n1_ n2_ n3_ n4_ n5_ n6_ n7_)
            clear HO_3;clear HO_4;clear HI0;clear HK;clear HB;clear h0_ h1_ h2_ h3_ h4_ h5_ h6_ h7_;have HO341:=n0_;have HO346:=n1_;have HO_3:=n2_;have HO_4:=n3_;have HA_HO346:=n4_;have HI0:=n5_;have HK:=n6_;have HB:=n7_;clear n0_ n1_ n2_ n3_ n4_ n5_ n6_ n7_;have hHeld:w30.cell? (ad338.add (x5_1).toNat)=some (.string (rdOf ByteArray.empty t333 x5_1)):=hS_;obtain ⟨co31,eo31⟩:=HA_HO346.out;clear HA_HO346;subst eo31;refine norm_ (a':=?_) ?_ ?_;rotate_left
            ·simp only [putAll,Act.put,List.setIfInBounds_toArray,List.set_cons_zero,List.set_cons_succ]
             rfl
            refine twoZ 11 15 (some 31) (some 6) #[yT,yT,yT,yT,yT,yT,yT,yT,yT,yT,yT,yT,yF,yF,yF,yF,yF] #[yT,yT,yT,yT,yT,yT,yT,yT,yT,yT,yT,yF,yF,yF,yF,yT,yF] (fun K hK=>?_) (fun K hK=>?_)
            ·skip
             refine goes_ Tryz.func22 (by kernel_rfl) rfl #[.pointer (some ⟨g,0,none⟩),.int .i64 6] (by rfl) rfl rfl zz27 ?_;with_reducible refine (spec_l6Rd_pick.calls k1 g s0_0 t342 6 t347 t348 w0 _ ?side1 ?side2 A17.out).mono ?_
             (case side1=>exact (zz18 HI0))
             (case side2=>exact (zz20 HB HI0))
             rintro e w32 ⟨rfl,hi,hb,hk⟩;have HS0_:=keep_cell hk (hHeld) (zz143 HI0 HO_4);refine ⟨_,rfl,?_⟩;replace HO_3:=A_ (Kd.R_mono (Kd.R_keep (IsS68.apart (show IsS68 w0 _ g s0_0 t342 from (zz18 HI0)) (zz8 HO_3) (by decide)) hk (fun _ h=>h.2)) (fun _ h=>h.1));replace HO_4:=A_ (Kd.R_mono (Kd.R_keep (IsS68.apart (show IsS68 w0 _ g s0_0 t342 from (zz18 HI0)) (zz8 HO_4) (by decide)) hk (fun _ h=>h.2)) (fun _ h=>h.1));replace HO341:=A_ (Kd.S_mono (Kd.S_keep (IsS68.apartS (show IsS68 w0 _ g s0_0 t342 from (zz18 HI0)) (zz35 HO341) (by decide)) hk (fun _ h=>h.2)) (fun _ h=>h.1));replace HO346:=A_ (Kd.R_mono (Kd.R_keep (IsS68.apart (show IsS68 w0 _ g s0_0 t342 from (zz18 HI0)) (zz8 HO346) (by decide)) hk (fun _ h=>h.2)) (fun _ h=>h.1));replace HK:=A_ (KeepBut.trans (zz19 HK) hk (.inl rfl));replace HB:=A_ (hb);replace HI0:=A_ (hi);(try clear hb)
             (try clear hb2)
             (try clear hk)
             (try clear hi)
             refine hK.out _ _ (HS0_) (fun hHeld=>?_);clear hK K;refine nZ 31 ?_;refine pureZ 12 (some 32) #[yT,yT,yT,yT,yT,yT,yT,yT,yT,yT,yT,yT,yT,yF,yF,yF,yF] ?_;exact norm_ zz144 (hJ7_8_9_11 (_,.slice (some adz_v345) y344.length co31,adz_v345) _ ⟨hHeld,(zz35 HO341),(zz8 HO346),(zz8 HO_3),(zz8 HO_4),⟨_,rfl⟩,(zz18 HI0),(zz19 HK),(zz20 HB HI0)⟩)
            ·skip
             refine box_step ?hg (N:=6) ?hd (cs:=#[.string (⟨#[]⟩:ByteArray),.string (⟨#[]⟩:ByteArray),.string (⟨#[]⟩:ByteArray),.int .i64 0]) (t:=30) ?hr ?_;(case hd=>rfl);(case hg=>rfl);(case hr=>exact zz26);intro gb350 hg w32 hbox hb;have HS0_:=(hb.cell (World.block_lt_of_cell? _ _ (hHeld))).trans (hHeld);replace HO_3:=A_ (rB (Kd.R_elderB (zz8 HO_3) gb350 (Nat.le_of_eq hg.symm)) hb);replace HO_4:=A_ (rB (zz8 HO_4) hb);replace HO341:=A_ (Kd.S_below (zz35 HO341) hb);replace HO346:=A_ (rB (zz8 HO346) hb);replace HB:=A_ (bS (zz20 HB HI0) hb);have BK350:=A_ (hbox);have GW350:=A_ ((by rw [hg];exact (keep_size (w:=w) (g:=g) (row:=none) (zz19 HK)):w.heap.size≤gb350));have GE350:=A_ ((Nat.le_trans HW0.out (by rw [hg];exact (keep_size (w:=w) (g:=g) (row:=none) (zz19 HK)):w.heap.size≤gb350):w0.heap.size≤gb350));replace HK:=A_ (KeepBut.trans (zz19 HK) (KeepBut.of_below hb g none) (.inl rfl));have NB0_350:=A_ ((by rw [hg];exact Nat.ne_of_lt (IsS68.lt (show IsS68 w0 _ g s0_0 t342 from (zz18 HI0))):g≠gb350));have NB350_0:=A_ ((by rw [hg];exact Nat.ne_of_gt (IsS68.lt (show IsS68 w0 _ g s0_0 t342 from (zz18 HI0))):gb350≠g));replace HI0:=A_ (IsS68.below (zz18 HI0) hb);clear hb hbox hg;refine hK.out _ _ (HS0_) (fun hHeld=>?_);clear hK K;refine nZ 6 ?_;exact norm_ zz144 (hJ7_8_9_15 (_,.slice (some adz_v345) y344.length co31,adz_v345,gb350) _ ⟨hHeld,(zz35 HO341),(zz8 HO346),(zz94 HO_3),(zz8 HO_4),⟨_,rfl⟩,(zz15 BK350),GW350.out,GE350.out,NB0_350.out,NB350_0.out,(zz37 HI0 NB0_350),(zz42 HK GW350),(zz38 HB HI0 GE350)⟩)
          ·skip
           rintro ⟨v340,gb350⟩ w29 ⟨hS_,h0_,h1_,h2_,h3_,h4_,h5_,h6_,h7_,h8_,h9_,h10_⟩;have n0_:=A_ h0_;have n1_:=A_ h1_;have n2_:=A_ h2_;have n3_:=A_ h3_;have n4_:=A_ h4_;have n5_:=A_ h5_;have n6_:=A_ h6_;have n7_:=A_ h7_;have n8_:=A_ h8_;have n9_:=A_ h9_;have n10_:=A_ h10_;(try dsimp only at n0_ n1_ n2_ n3_ n4_ n5_ n6_ n7_ n8_ n9_ n10_)
           clear HO_3;clear HO_4;clear HI0;clear HK;clear HB;clear h0_ h1_ h2_ h3_ h4_ h5_ h6_ h7_ h8_ h9_ h10_;have HO341:=n0_;have HO_3:=n1_;have HO_4:=n2_;have BK350:=n3_;have GW350:=n4_;have GE350:=n5_;have NB0_350:=n6_;have NB350_0:=n7_;have HI0:=n8_;have HK:=n9_;have HB:=n10_;clear n0_ n1_ n2_ n3_ n4_ n5_ n6_ n7_ n8_ n9_ n10_;have hHeld:w29.cell? (ad338.add (x5_1).toNat)=some (.string (rdOf ByteArray.empty t333 x5_1)):=hS_;refine norm_ (a':=?_) ?_ ?_;rotate_left
           ·simp only [putAll,Act.put,List.setIfInBounds_toArray,List.set_cons_zero,List.set_cons_succ]
            rfl
           refine oneZ 9 (some 29) #[yT,yT,yT,yT,yT,yT,yT,yT,yT,yT,yT,yT,yF,yF,yF,yT,yF] (fun K hK=>?_);refine Kd.R_lit_step (Kd.int .i64) _ 3 ?hg (N:=29) ?hd (xs:=([0,0,0,1,2,5]:List Int)) (inner:=[.int .i64 0,.int .i64 0,.int .i64 0,.int .i64 1,.int .i64 2,.int .i64 5]) (ok:=fun _=>True) (okp:=fun _=>True) ?hr ?hp (fun _ hk=>hk) trivial (Below.refl _ _) (Nat.le_refl _) (by simp) ?_;(case hd=>rfl);(case hg=>rfl);(case hr=>exact zz26);(case hp=>exact rpI);intro v345 w30 ho31 hb hg_ hnew_;have HS0_:=(hb.cell (World.block_lt_of_cell? _ _ (hHeld))).trans (hHeld);clear hg_ hnew_;(first|rw [← Ny344.out] at ho31|(simp only [Int.reduceToNat] at ho31;rw [← Ny344.out] at ho31))
           replace HO_3:=A_ (rB (zz8 HO_3) hb);replace HO_4:=A_ (rB (zz8 HO_4) hb);replace HO341:=A_ (Kd.S_below (zz35 HO341) hb);have HO346:=A_ (Kd.R_lower ho31 (keep_size (w:=w) (g:=g) (row:=none) (zz42 HK GW350)));replace BK350:=A_ (bB (zz15 BK350) hb);replace HK:=A_ (KeepBut.trans (zz42 HK GW350) (KeepBut.of_below hb g none) (.inl rfl));replace HB:=A_ (bS (zz38 HB HI0 GE350) hb);replace HI0:=A_ (IsS68.below (zz37 HI0 NB0_350) hb);clear hb ho31;obtain ⟨Ao32,co32,eo32⟩:=Kd.R_slice HO346.out;subst eo32;obtain ⟨ado32,fo32,_⟩:=Kd.at_int (Kd.R_reads' HO346.out).2.2 0 (by decide) (by rw [Ny344.out];simp);cases fo32
           refine hK.out _ _ (HS0_) (fun hHeld=>?_);clear hK K;refine nZ 29 ?_;refine pureZ 12 (some 32) #[yT,yT,yT,yT,yT,yT,yT,yT,yT,yT,yT,yT,yT,yF,yF,yT,yF] ?_;exact norm_ zz144 (hJ7_8_9_11_15 (_,.slice (some ado32) y344.length co32,ado32,gb350) _ ⟨hHeld,(zz35 HO341),(zz8 HO346),(zz8 HO_3),(zz8 HO_4),⟨_,rfl⟩,(zz15 BK350),GW350.out,GE350.out,NB0_350.out,NB350_0.out,(zz37 HI0 NB0_350),(zz42 HK GW350),(zz38 HB HI0 GE350)⟩)
         ·skip
          rintro ⟨v340,v345,adz_v345,gb350⟩ w31 ⟨hS_,h0_,h1_,h2_,h3_,h4_,h5_,h6_,h7_,h8_,h9_,h10_,h11_,h12_⟩;have n0_:=A_ h0_;have n1_:=A_ h1_;have n2_:=A_ h2_;have n3_:=A_ h3_;have n4_:=A_ h4_;have n5_:=A_ h5_;have n6_:=A_ h6_;have n7_:=A_ h7_;have n8_:=A_ h8_;have n9_:=A_ h9_;have n10_:=A_ h10_;have n11_:=A_ h11_;have n12_:=A_ h12_;(try dsimp only at n0_ n1_ n2_ n3_ n4_ n5_ n6_ n7_ n8_ n9_ n10_ n11_ n12_)
          clear HO_3;clear HO_4;clear HI0;clear HK;clear HB;clear h0_ h1_ h2_ h3_ h4_ h5_ h6_ h7_ h8_ h9_ h10_ h11_ h12_;have HO341:=n0_;have HO346:=n1_;have HO_3:=n2_;have HO_4:=n3_;have HA_HO346:=n4_;have BK350:=n5_;have GW350:=n6_;have GE350:=n7_;have NB0_350:=n8_;have NB350_0:=n9_;have HI0:=n10_;have HK:=n11_;have HB:=n12_;clear n0_ n1_ n2_ n3_ n4_ n5_ n6_ n7_ n8_ n9_ n10_ n11_ n12_;have hHeld:w31.cell? (ad338.add (x5_1).toNat)=some (.string (rdOf ByteArray.empty t333 x5_1)):=hS_;obtain ⟨co32,eo32⟩:=HA_HO346.out;clear HA_HO346;subst eo32;refine norm_ (a':=?_) ?_ ?_;rotate_left
          ·simp only [putAll,Act.put,List.setIfInBounds_toArray,List.set_cons_zero,List.set_cons_succ]
           rfl
          refine oneZ 11 (some 31) #[yT,yT,yT,yT,yT,yT,yT,yT,yT,yT,yT,yT,yF,yF,yF,yT,yF] (fun K hK=>?_);refine goes_ Tryz.func22 (by kernel_rfl) rfl #[.pointer (some ⟨g,0,none⟩),.int .i64 6] (by rfl) rfl rfl zz27 ?_;with_reducible refine (spec_l6Rd_pick.calls k1 g s0_0 t342 6 t347 t348 w0 _ ?side1 ?side2 A17.out).mono ?_
          (case side1=>exact (zz37 HI0 NB0_350))
          (case side2=>exact (zz38 HB HI0 GE350))
          rintro e w33 ⟨rfl,hi,hb,hk⟩;have HS0_:=keep_cell hk (hHeld) (zz143 HI0 HO_4);refine ⟨_,rfl,?_⟩;replace HO_3:=A_ (Kd.R_mono (Kd.R_keep (IsS68.apart (show IsS68 w0 _ g s0_0 t342 from (zz37 HI0 NB0_350)) (zz8 HO_3) (by decide)) hk (fun _ h=>h.2)) (fun _ h=>h.1));replace HO_4:=A_ (Kd.R_mono (Kd.R_keep (IsS68.apart (show IsS68 w0 _ g s0_0 t342 from (zz37 HI0 NB0_350)) (zz8 HO_4) (by decide)) hk (fun _ h=>h.2)) (fun _ h=>h.1));replace HO341:=A_ (Kd.S_mono (Kd.S_keep (IsS68.apartS (show IsS68 w0 _ g s0_0 t342 from (zz37 HI0 NB0_350)) (zz35 HO341) (by decide)) hk (fun _ h=>h.2)) (fun _ h=>h.1));replace HO346:=A_ (Kd.R_mono (Kd.R_keep (IsS68.apart (show IsS68 w0 _ g s0_0 t342 from (zz37 HI0 NB0_350)) (zz8 HO346) (by decide)) hk (fun _ h=>h.2)) (fun _ h=>h.1));replace BK350:=A_ (KeepBut.blk hk (g':=gb350) (o:=.cells #[.string (⟨#[]⟩:ByteArray),.string (⟨#[]⟩:ByteArray),.string (⟨#[]⟩:ByteArray),.int .i64 0] 30 (0,0)) (zz15 BK350) NB350_0.out (by simp));replace HK:=A_ (KeepBut.trans (zz42 HK GW350) hk (.inl rfl));replace HB:=A_ (hb);replace HI0:=A_ (hi);(try clear hb)
          (try clear hb2)
          (try clear hk)
          (try clear hi)
          refine hK.out _ _ (HS0_) (fun hHeld=>?_);clear hK K;refine nZ 31 ?_;refine pureZ 12 (some 32) #[yT,yT,yT,yT,yT,yT,yT,yT,yT,yT,yT,yT,yT,yF,yF,yT,yF] ?_;exact norm_ zz144 (hJ7_8_9_11_15 (_,.slice (some adz_v345) y344.length co32,adz_v345,gb350) _ ⟨hHeld,(zz35 HO341),(zz8 HO346),(zz8 HO_3),(zz8 HO_4),⟨_,rfl⟩,(zz15 BK350),GW350.out,GE350.out,NB0_350.out,NB350_0.out,(zz37 HI0 NB0_350),(zz42 HK GW350),(zz38 HB HI0 GE350)⟩)
        ·skip
         rintro ⟨v340,v345,adz_v345⟩ w31 ⟨hS_,h0_,h1_,h2_,h3_,h4_,h5_,h6_,h7_⟩;have n0_:=A_ h0_;have n1_:=A_ h1_;have n2_:=A_ h2_;have n3_:=A_ h3_;have n4_:=A_ h4_;have n5_:=A_ h5_;have n6_:=A_ h6_;have n7_:=A_ h7_;(try dsimp only at n0_ n1_ n2_ n3_ n4_ n5_ n6_ n7_)
         clear HO_3;clear HO_4;clear HI0;clear HK;clear HB;clear h0_ h1_ h2_ h3_ h4_ h5_ h6_ h7_;have HO341:=n0_;have HO346:=n1_;have HO_3:=n2_;have HO_4:=n3_;have HA_HO346:=n4_;have HI0:=n5_;have HK:=n6_;have HB:=n7_;clear n0_ n1_ n2_ n3_ n4_ n5_ n6_ n7_;have hHeld:w31.cell? (ad338.add (x5_1).toNat)=some (.string (rdOf ByteArray.empty t333 x5_1)):=hS_;obtain ⟨co32,eo32⟩:=HA_HO346.out;clear HA_HO346;subst eo32;refine norm_ (a':=?_) ?_ ?_;rotate_left
         ·simp only [putAll,Act.put,List.setIfInBounds_toArray,List.set_cons_zero,List.set_cons_succ]
          rfl
         refine twoZ 13 15 (some 33) (some 6) #[yT,yT,yT,yT,yT,yT,yT,yT,yT,yT,yT,yT,yT,yT,yF,yF,yF] #[yT,yT,yT,yT,yT,yT,yT,yT,yT,yT,yT,yT,yT,yF,yF,yT,yF] (fun K hK=>?_) (fun K hK=>?_)
         ·skip
          (have p349:0≤(t347:Int):=ofD;have q349:t347 < (y344.length:Int):=ofD;obtain ⟨ad349,e349,hx349_0⟩:=Kd.at_int (Kd.R_reads' HO346.out).2.2 t347 p349 q349;obtain rfl:adz_v345=ad349:=(by injection e349))
          refine value_ (w1:=?_) (v:=?_) (by rfl) rfl ?_ ?_;rotate_left 2
          ·go_simp
           constructor
           ·rfl
           ·rfl
          clear hx349_0;refine hK.out _ _ (hHeld) (fun hHeld=>?_);clear hK K;refine nZ 33 ?_;refine pureZ 14 (some 34) #[yT,yT,yT,yT,yT,yT,yT,yT,yT,yT,yT,yT,yT,yT,yT,yF,yF] ?_;exact norm_ zz144 (hJ7_8_9_11_13 (_,.slice (some adz_v345) y344.length co32,adz_v345) _ ⟨hHeld,(zz35 HO341),(zz8 HO346),(zz8 HO_3),(zz8 HO_4),⟨_,rfl⟩,(zz18 HI0),(zz19 HK),(zz20 HB HI0)⟩)
         ·skip
          refine box_step ?hg (N:=6) ?hd (cs:=#[.string (⟨#[]⟩:ByteArray),.string (⟨#[]⟩:ByteArray),.string (⟨#[]⟩:ByteArray),.int .i64 0]) (t:=30) ?hr ?_;(case hd=>rfl);(case hg=>rfl);(case hr=>exact zz26);intro gb350 hg w33 hbox hb;have HS0_:=(hb.cell (World.block_lt_of_cell? _ _ (hHeld))).trans (hHeld);replace HO_3:=A_ (rB (Kd.R_elderB (zz8 HO_3) gb350 (Nat.le_of_eq hg.symm)) hb);replace HO_4:=A_ (rB (zz8 HO_4) hb);replace HO341:=A_ (Kd.S_below (zz35 HO341) hb);replace HO346:=A_ (rB (zz8 HO346) hb);replace HB:=A_ (bS (zz20 HB HI0) hb);have BK350:=A_ (hbox);have GW350:=A_ ((by rw [hg];exact (keep_size (w:=w) (g:=g) (row:=none) (zz19 HK)):w.heap.size≤gb350));have GE350:=A_ ((Nat.le_trans HW0.out (by rw [hg];exact (keep_size (w:=w) (g:=g) (row:=none) (zz19 HK)):w.heap.size≤gb350):w0.heap.size≤gb350));replace HK:=A_ (KeepBut.trans (zz19 HK) (KeepBut.of_below hb g none) (.inl rfl));have NB0_350:=A_ ((by rw [hg];exact Nat.ne_of_lt (IsS68.lt (show IsS68 w0 _ g s0_0 t348 from (zz18 HI0))):g≠gb350));have NB350_0:=A_ ((by rw [hg];exact Nat.ne_of_gt (IsS68.lt (show IsS68 w0 _ g s0_0 t348 from (zz18 HI0))):gb350≠g));replace HI0:=A_ (IsS68.below (zz18 HI0) hb);clear hb hbox hg;refine hK.out _ _ (HS0_) (fun hHeld=>?_);clear hK K;refine nZ 6 ?_;exact norm_ zz144 (hJ7_8_9_11_15 (_,.slice (some adz_v345) y344.length co32,adz_v345,gb350) _ ⟨hHeld,(zz35 HO341),(zz8 HO346),(zz94 HO_3),(zz8 HO_4),⟨_,rfl⟩,(zz15 BK350),GW350.out,GE350.out,NB0_350.out,NB350_0.out,(zz37 HI0 NB0_350),(zz42 HK GW350),(zz38 HB HI0 GE350)⟩)
       ·skip
        rintro ⟨v340,v345,adz_v345,gb350⟩ w32 ⟨hS_,h0_,h1_,h2_,h3_,h4_,h5_,h6_,h7_,h8_,h9_,h10_,h11_,h12_⟩;have n0_:=A_ h0_;have n1_:=A_ h1_;have n2_:=A_ h2_;have n3_:=A_ h3_;have n4_:=A_ h4_;have n5_:=A_ h5_;have n6_:=A_ h6_;have n7_:=A_ h7_;have n8_:=A_ h8_;have n9_:=A_ h9_;have n10_:=A_ h10_;have n11_:=A_ h11_;have n12_:=A_ h12_;(try dsimp only at n0_ n1_ n2_ n3_ n4_ n5_ n6_ n7_ n8_ n9_ n10_ n11_ n12_)
        clear HO_3;clear HO_4;clear HI0;clear HK;clear HB;clear h0_ h1_ h2_ h3_ h4_ h5_ h6_ h7_ h8_ h9_ h10_ h11_ h12_;have HO341:=n0_;have HO346:=n1_;have HO_3:=n2_;have HO_4:=n3_;have HA_HO346:=n4_;have BK350:=n5_;have GW350:=n6_;have GE350:=n7_;have NB0_350:=n8_;have NB350_0:=n9_;have HI0:=n10_;have HK:=n11_;have HB:=n12_;clear n0_ n1_ n2_ n3_ n4_ n5_ n6_ n7_ n8_ n9_ n10_ n11_ n12_;have hHeld:w32.cell? (ad338.add (x5_1).toNat)=some (.string (rdOf ByteArray.empty t333 x5_1)):=hS_;obtain ⟨co33,eo33⟩:=HA_HO346.out;clear HA_HO346;subst eo33;refine norm_ (a':=?_) ?_ ?_;rotate_left
        ·simp only [putAll,Act.put,List.setIfInBounds_toArray,List.set_cons_zero,List.set_cons_succ]
         rfl
        refine oneZ 13 (some 33) #[yT,yT,yT,yT,yT,yT,yT,yT,yT,yT,yT,yT,yT,yT,yF,yT,yF] (fun K hK=>?_);(have p349:0≤(t347:Int):=ofD;have q349:t347 < (y344.length:Int):=ofD;obtain ⟨ad349,e349,hx349_0⟩:=Kd.at_int (Kd.R_reads' HO346.out).2.2 t347 p349 q349;obtain rfl:adz_v345=ad349:=(by injection e349))
        refine value_ (w1:=?_) (v:=?_) (by rfl) rfl ?_ ?_;rotate_left 2
        ·go_simp
         constructor
         ·rfl
         ·rfl
        clear hx349_0;refine hK.out _ _ (hHeld) (fun hHeld=>?_);clear hK K;refine nZ 33 ?_;refine pureZ 14 (some 34) #[yT,yT,yT,yT,yT,yT,yT,yT,yT,yT,yT,yT,yT,yT,yT,yT,yF] ?_;exact norm_ zz144 (hJ7_8_9_11_13_15 (_,.slice (some adz_v345) y344.length co33,adz_v345,gb350) _ ⟨hHeld,(zz35 HO341),(zz8 HO346),(zz8 HO_3),(zz8 HO_4),⟨_,rfl⟩,(zz15 BK350),GW350.out,GE350.out,NB0_350.out,NB350_0.out,(zz37 HI0 NB0_350),(zz42 HK GW350),(zz38 HB HI0 GE350)⟩)
      ·skip
       rintro ⟨v340,v345,adz_v345⟩ w31 ⟨hS_,h0_,h1_,h2_,h3_,h4_,h5_,h6_,h7_⟩;have n0_:=A_ h0_;have n1_:=A_ h1_;have n2_:=A_ h2_;have n3_:=A_ h3_;have n4_:=A_ h4_;have n5_:=A_ h5_;have n6_:=A_ h6_;have n7_:=A_ h7_;(try dsimp only at n0_ n1_ n2_ n3_ n4_ n5_ n6_ n7_)
       clear HO_3;clear HO_4;clear HI0;clear HK;clear HB;clear h0_ h1_ h2_ h3_ h4_ h5_ h6_ h7_;have HO341:=n0_;have HO346:=n1_;have HO_3:=n2_;have HO_4:=n3_;have HA_HO346:=n4_;have HI0:=n5_;have HK:=n6_;have HB:=n7_;clear n0_ n1_ n2_ n3_ n4_ n5_ n6_ n7_;have hHeld:w31.cell? (ad338.add (x5_1).toNat)=some (.string (rdOf ByteArray.empty t333 x5_1)):=hS_;obtain ⟨co32,eo32⟩:=HA_HO346.out;clear HA_HO346;subst eo32;refine norm_ (a':=?_) ?_ ?_;rotate_left
       ·simp only [putAll,Act.put,List.setIfInBounds_toArray,List.set_cons_zero,List.set_cons_succ]
        rfl
       refine oneZ 15 (some 6) #[yT,yT,yT,yT,yT,yT,yT,yT,yT,yT,yT,yT,yT,yT,yT,yT,yF] (fun K hK=>?_);refine box_step ?hg (N:=6) ?hd (cs:=#[.string (⟨#[]⟩:ByteArray),.string (⟨#[]⟩:ByteArray),.string (⟨#[]⟩:ByteArray),.int .i64 0]) (t:=30) ?hr ?_;(case hd=>rfl);(case hg=>rfl);(case hr=>exact zz26);intro gb350 hg w33 hbox hb;have HS0_:=(hb.cell (World.block_lt_of_cell? _ _ (hHeld))).trans (hHeld);replace HO_3:=A_ (rB (Kd.R_elderB (zz8 HO_3) gb350 (Nat.le_of_eq hg.symm)) hb);replace HO_4:=A_ (rB (zz8 HO_4) hb);replace HO341:=A_ (Kd.S_below (zz35 HO341) hb);replace HO346:=A_ (rB (zz8 HO346) hb);replace HB:=A_ (bS (zz20 HB HI0) hb);have BK350:=A_ (hbox);have GW350:=A_ ((by rw [hg];exact (keep_size (w:=w) (g:=g) (row:=none) (zz19 HK)):w.heap.size≤gb350));have GE350:=A_ ((Nat.le_trans HW0.out (by rw [hg];exact (keep_size (w:=w) (g:=g) (row:=none) (zz19 HK)):w.heap.size≤gb350):w0.heap.size≤gb350));replace HK:=A_ (KeepBut.trans (zz19 HK) (KeepBut.of_below hb g none) (.inl rfl));have NB0_350:=A_ ((by rw [hg];exact Nat.ne_of_lt (IsS68.lt (show IsS68 w0 _ g s0_0 t348 from (zz18 HI0))):g≠gb350));have NB350_0:=A_ ((by rw [hg];exact Nat.ne_of_gt (IsS68.lt (show IsS68 w0 _ g s0_0 t348 from (zz18 HI0))):gb350≠g));replace HI0:=A_ (IsS68.below (zz18 HI0) hb);clear hb hbox hg;refine hK.out _ _ (HS0_) (fun hHeld=>?_);clear hK K;refine nZ 6 ?_;exact norm_ zz144 (hJ7_8_9_11_13_15 (_,.slice (some adz_v345) y344.length co32,adz_v345,gb350) _ ⟨hHeld,(zz35 HO341),(zz8 HO346),(zz94 HO_3),(zz8 HO_4),⟨_,rfl⟩,(zz15 BK350),GW350.out,GE350.out,NB0_350.out,NB350_0.out,(zz37 HI0 NB0_350),(zz42 HK GW350),(zz38 HB HI0 GE350)⟩)
     rintro ⟨v340,v345,adz_v345,gb350⟩ w32 ⟨hS_,h0_,h1_,h2_,h3_,h4_,h5_,h6_,h7_,h8_,h9_,h10_,h11_,h12_⟩;have n0_:=A_ h0_;have n1_:=A_ h1_;have n2_:=A_ h2_;have n3_:=A_ h3_;have n4_:=A_ h4_;have n5_:=A_ h5_;have n6_:=A_ h6_;have n7_:=A_ h7_;have n8_:=A_ h8_;have n9_:=A_ h9_;have n10_:=A_ h10_;have n11_:=A_ h11_;have n12_:=A_ h12_;(try dsimp only at n0_ n1_ n2_ n3_ n4_ n5_ n6_ n7_ n8_ n9_ n10_ n11_ n12_)
     clear HO_3;clear HO_4;clear HI0;clear HK;clear HB;clear h0_ h1_ h2_ h3_ h4_ h5_ h6_ h7_ h8_ h9_ h10_ h11_ h12_;have HO341:=n0_;have HO346:=n1_;have HO_3:=n2_;have HO_4:=n3_;have HA_HO346:=n4_;have BK350:=n5_;have GW350:=n6_;have GE350:=n7_;have NB0_350:=n8_;have NB350_0:=n9_;have HI0:=n10_;have HK:=n11_;have HB:=n12_;clear n0_ n1_ n2_ n3_ n4_ n5_ n6_ n7_ n8_ n9_ n10_ n11_ n12_;have hHeld:w32.cell? (ad338.add (x5_1).toNat)=some (.string (rdOf ByteArray.empty t333 x5_1)):=hS_;obtain ⟨co33,eo33⟩:=HA_HO346.out;clear HA_HO346;subst eo33;refine norm_ (a':=?_) ?_ ?_;rotate_left
     ·simp only [putAll,Act.put,List.setIfInBounds_toArray,List.set_cons_zero,List.set_cons_succ]
      rfl
     refine oneZ 16 (none) #[yT,yT,yT,yT,yT,yT,yT,yT,yT,yT,yT,yT,yT,yT,yT,yT,yT] (fun K hK=>?_);have hs34:w32.cell? ⟨gb350,0,none⟩=some (.string (⟨#[]⟩:ByteArray)):=(blk_cell BK350.out 0).trans rfl;have hfs34:=blk_frozen BK350.out 0;have hs35:w32.cell? ⟨gb350,1,none⟩=some (.string (⟨#[]⟩:ByteArray)):=(blk_cell BK350.out 1).trans rfl;have hfs35:=blk_frozen BK350.out 1;have hs36:w32.cell? ⟨gb350,2,none⟩=some (.string (⟨#[]⟩:ByteArray)):=(blk_cell BK350.out 2).trans rfl;have hfs36:=blk_frozen BK350.out 2;have hs37:w32.cell? ⟨gb350,3,none⟩=some (.int .i64 0):=(blk_cell BK350.out 3).trans rfl;have hfs37:=blk_frozen BK350.out 3;refine skip_ (w1:=?_) (by rfl) rfl ?_ ?_;rotate_left
     ·go_simp
      rfl
     refine hK.out _ _ (((cell_far (p:=⟨gb350,_,none⟩) (zz148 HO_4 BK350) _).trans (((cell_far (p:=⟨gb350,_,none⟩) (zz148 HO_4 BK350) _).trans (((cell_far (p:=⟨gb350,_,none⟩) (zz148 HO_4 BK350) _).trans (((cell_far (p:=⟨gb350,_,none⟩) (zz148 HO_4 BK350) _).trans (hHeld))))))))) (fun hHeld=>?_);clear hK K;refine done_ (done_of HT_.out (by kernel_rfl)) ?_;go_upto_if 37 with (first|(refine gR 22 (some 36) Tryz.func22 (spec_l6Rd_pick.calls k1 g s0_0 t348 12 t351 t352 w0 _ ?side1 ?side2 A20.out) ?_;(case side1=>exact (zz37 HI0 NB0_350));(case side2=>exact (zz38 HB HI0 GE350));rintro w38 ⟨hi,hb,hk⟩;replace HO_3:=A_ (Kd.R_mono (Kd.R_keep (IsS68.apart (show IsS68 w0 _ g s0_0 t348 from (zz37 HI0 NB0_350)) (by (with_reducible repeat (first|apply Kd.R_alloc|apply Kd.R_drewN|apply Kd.R_drew));exact (Kd.R_mono (Kd.R_far (p:=⟨gb350,3,none⟩) (Kd.R_far (p:=⟨gb350,2,none⟩) (Kd.R_far (p:=⟨gb350,1,none⟩) (Kd.R_far (p:=⟨gb350,0,none⟩) (Kd.R_mono HO_3.out (fun k_ hk=>(⟨hk,hk⟩:_∧k_≠gb350))) (fun _ hk=>hk.2) (.string (((⟨#[47,47]⟩:ByteArray)++(rdOf ByteArray.empty t333 x5_1))++(⟨#[47,110,111,116,105,99,101]⟩:ByteArray)))) (fun _ hk=>hk.2) (.string t343)) (fun _ hk=>hk.2) (.string (⟨#[]⟩:ByteArray))) (fun _ hk=>hk.2) (.int .i64 (rd y344 t347))) (fun _ h_=>h_.1))) (by decide)) hk (fun _ h=>h.2)) (fun _ h=>h.1));replace HO_4:=A_ (Kd.R_mono (Kd.R_keep (IsS68.apart (show IsS68 w0 _ g s0_0 t348 from (zz37 HI0 NB0_350)) (zz150 HO_4 BK350) (by decide)) hk (fun _ h=>h.2)) (fun _ h=>h.1));replace HO341:=A_ (Kd.S_mono (Kd.S_keep (IsS68.apartS (show IsS68 w0 _ g s0_0 t348 from (zz37 HI0 NB0_350)) (by (with_reducible repeat (first|apply Kd.S_alloc|apply Kd.S_drewN|apply Kd.S_drew));exact (Kd.S_mono (Kd.S_far (p:=⟨gb350,3,none⟩) (Kd.S_far (p:=⟨gb350,2,none⟩) (Kd.S_far (p:=⟨gb350,1,none⟩) (Kd.S_far (p:=⟨gb350,0,none⟩) (Kd.S_types HO341.out BK350.out (by decide)) (fun _ hk=>hk.2) (.string (((⟨#[47,47]⟩:ByteArray)++(rdOf ByteArray.empty t333 x5_1))++(⟨#[47,110,111,116,105,99,101]⟩:ByteArray)))) (fun _ hk=>hk.2) (.string t343)) (fun _ hk=>hk.2) (.string (⟨#[]⟩:ByteArray))) (fun _ hk=>hk.2) (.int .i64 (rd y344 t347))) (fun _ h_=>h_.1))) (by decide)) hk (fun _ h=>h.2)) (fun _ h=>h.1));replace HO346:=A_ (Kd.R_mono (Kd.R_keep (IsS68.apart (show IsS68 w0 _ g s0_0 t348 from (zz37 HI0 NB0_350)) (zz150 HO346 BK350) (by decide)) hk (fun _ h=>h.2)) (fun _ h=>h.1));replace BK350:=A_ (KeepBut.blk hk (g':=gb350) (o:=.cells #[.string (((⟨#[47,47]⟩:ByteArray)++(rdOf ByteArray.empty t333 x5_1))++(⟨#[47,110,111,116,105,99,101]⟩:ByteArray)),.string t343,.string (⟨#[]⟩:ByteArray),.int .i64 (rd y344 t347)] 30 (0,0)) (zz32 BK350) NB350_0.out (by simp));replace HK:=A_ (KeepBut.trans (zz42 HK GW350) hk (.inl rfl));replace HB:=A_ (hb);replace HI0:=A_ (hi);(try clear hb hk hi)))
     obtain ⟨H⟩:=HF21;replace H:=iteEq H;rcases H with ⟨c39b0,c39b1,H⟩|⟨c39b0,c39b1,c39,H⟩
     ·(first|rw [c39b0]|(simp only [i64_w,i32_w];rw [c39b0])|skip)
      replace H:=bindA H;obtain ⟨⟨t353,t354⟩,A40,H⟩:=H;try dsimp only at H
      have HF41:=A_ H;clear H;have hnb42:=NB350_0.out;have hnc42:=NB0_350.out;obtain ⟨_,_,_,_,_,_,_,_⟩:=cf4 BK350;go_upto_if 45 with (first|(refine gR 43 (some 40) Tryz.func43 (spec_l71Addr.calls k1 g s0_0 t352 t353 t354 w0 _ ?side1 ?side2 A40.out) ?_;(case side1=>exact (zz37 HI0 NB0_350));(case side2=>exact (zz38 HB HI0 GE350));rintro w44 ⟨hi,hb,hk⟩;replace HO_3:=A_ (Kd.R_mono (Kd.R_keep (IsS68.apart (show IsS68 w0 _ g s0_0 t352 from (zz37 HI0 NB0_350)) (by (with_reducible repeat (first|apply Kd.R_alloc|apply Kd.R_drewN|apply Kd.R_drew));exact (Kd.R_mono (Kd.R_far (p:=⟨gb350,1,none⟩) (Kd.R_mono HO_3.out (fun k_ hk=>(⟨hk,hk⟩:_∧k_≠gb350))) (fun _ hk=>hk.2) (.string (⟨#[]⟩:ByteArray))) (fun _ h_=>h_.1))) (by decide)) hk (fun _ h=>h.2)) (fun _ h=>h.1));replace HO_4:=A_ (Kd.R_mono (Kd.R_keep (IsS68.apart (show IsS68 w0 _ g s0_0 t352 from (zz37 HI0 NB0_350)) (zz153 HO_4 BK350) (by decide)) hk (fun _ h=>h.2)) (fun _ h=>h.1));replace HO341:=A_ (Kd.S_mono (Kd.S_keep (IsS68.apartS (show IsS68 w0 _ g s0_0 t352 from (zz37 HI0 NB0_350)) (by (with_reducible repeat (first|apply Kd.S_alloc|apply Kd.S_drewN|apply Kd.S_drew));exact (Kd.S_mono (Kd.S_far (p:=⟨gb350,1,none⟩) (Kd.S_types HO341.out BK350.out (by decide)) (fun _ hk=>hk.2) (.string (⟨#[]⟩:ByteArray))) (fun _ h_=>h_.1))) (by decide)) hk (fun _ h=>h.2)) (fun _ h=>h.1));replace HO346:=A_ (Kd.R_mono (Kd.R_keep (IsS68.apart (show IsS68 w0 _ g s0_0 t352 from (zz37 HI0 NB0_350)) (zz153 HO346 BK350) (by decide)) hk (fun _ h=>h.2)) (fun _ h=>h.1));replace BK350:=A_ (KeepBut.blk hk (g':=gb350) (o:=.cells #[.string (((⟨#[47,47]⟩:ByteArray)++(rdOf ByteArray.empty t333 x5_1))++(⟨#[47,110,111,116,105,99,101]⟩:ByteArray)),.string (⟨#[]⟩:ByteArray),.string (⟨#[]⟩:ByteArray),.int .i64 (rd y344 t347)] 30 (0,0)) (zz134 BK350) NB350_0.out (by simp));replace HK:=A_ (KeepBut.trans (zz42 HK GW350) hk (.inl rfl));replace HB:=A_ (hb);replace HI0:=A_ (hi);(try clear hb hk hi);obtain ⟨_,_,_,_,_,_,_,_⟩:=cf4 BK350)|((with_reducible refine gate_store (t:=9) (p:=41) rfl ?_);refine store_event (t:=9) (p:=41) (v:=?vo_w46) (w1:=(w44.setCell ⟨gb350,2,none⟩ (.string t353))) ?hg ?ho ?hn ?hr ?_;(case ho=>rfl);(case hg=>rfl);(case hn=>rfl);(case hr=>exact zz26);intro w46 hw;have n0_:Aside0 (Kd.R k30 30 w46 w.heap.size (fun k_=>k_≠gb350) u3 x3_1):=⟨(by rw [hw];exact (by (with_reducible repeat (first|apply Kd.R_alloc|apply Kd.R_drewN|apply Kd.R_drew));exact Kd.R_mono (Kd.R_far (p:=⟨gb350,2,none⟩) (Kd.R_mono HO_3.out (fun k_ hk=>(⟨hk,hk⟩:_∧k_≠gb350))) (fun _ hk=>hk.2) (.string t353)) (fun _ hk=>hk.1)))⟩;have n1_:Aside0 (Kd.R Kd.string 9 w46 w.heap.size (fun _=>True) (.slice (some ad338) t333.length co23) t333):=⟨(by rw [hw];exact (zz47 (rt HO_4 BK350)))⟩;have n2_:Aside0 (Kd.S k106 106 w46 w.heap.size (fun k_=>some k_≠(.slice (some ad338) t333.length co23:Value).ownBlock) v340 t339):=⟨(by rw [hw];exact (by (with_reducible repeat (first|apply Kd.S_alloc|apply Kd.S_drewN|apply Kd.S_drew));exact Kd.S_mono (Kd.S_far (p:=⟨gb350,2,none⟩) (Kd.S_types HO341.out BK350.out (by decide)) (fun _ hk=>hk.2) (.string t353)) (fun _ hk=>hk.1)))⟩;have n3_:Aside0 (Kd.R (Kd.int .i64) 3 w46 w.heap.size (fun _=>True) (.slice (some adz_v345) y344.length co33) y344):=⟨(by rw [hw];exact (zz47 (rt HO346 BK350)))⟩;have n4_:Aside0 (w46.heap[gb350]?=some (.cells #[.string (((⟨#[47,47]⟩:ByteArray)++(rdOf ByteArray.empty t333 x5_1))++(⟨#[47,110,111,116,105,99,101]⟩:ByteArray)),.string (⟨#[]⟩:ByteArray),.string t353,.int .i64 (rd y344 t347)] 30 (0,0))):=⟨(by rw [hw];exact (zz136 BK350))⟩;have n5_:Aside0 (IsS68 w0 w46 g s0_0 t354):=⟨(by rw [hw];exact (zz37 HI0 NB0_350))⟩;have n6_:Aside0 (KeepBut w w46 g none):=⟨(by rw [hw];exact (zz42 HK GW350))⟩;have n7_:Aside0 (Below w0.heap.size w0 w46):=⟨(by rw [hw];exact (zz38 HB HI0 GE350))⟩;clear hw;clear HO_3;clear HO_4;clear HO341;clear HO346;clear BK350;clear HI0;clear HK;clear HB;have HO_3:=n0_;have HO_4:=n1_;have HO341:=n2_;have HO346:=n3_;have BK350:=n4_;have HI0:=n5_;have HK:=n6_;have HB:=n7_;clear n0_ n1_ n2_ n3_ n4_ n5_ n6_ n7_;obtain ⟨_,_,_,_,_,_,_,_⟩:=cf4 BK350))
      obtain ⟨H⟩:=HF41;replace H:=iteE H;rcases H with ⟨c48,H⟩|⟨c48,H⟩
      ·have c48b0:=dT c48
       clear c48;(first|rw [c48b0]|(simp only [i64_w,i32_w];rw [c48b0])|skip)
       replace H:=iteN H;obtain ⟨c49,H⟩:=H;have LMc49:=A_ c49;clear c49;obtain ⟨y355,Ny355⟩:=toY (x3_1++[(⟨((⟨#[47,47]⟩:ByteArray)++(rdOf ByteArray.empty t333 x5_1))++(⟨#[47,110,111,116,105,99,101]⟩:ByteArray),(⟨#[]⟩:ByteArray),t353,rd y344 t347⟩:S30)]);(first|with_reducible replace H:=bindZ Ny355 H|rw [← Ny355.out] at H|skip)
       have H':=A_ H;clear H;have hnb50:=NB350_0.out;have hnc50:=NB0_350.out;obtain ⟨_,_,_,_,_,_,_,_⟩:=cf4 BK350;go_wp2_with (first|((with_reducible refine gate_builtin (b:=.append) (xs:=#[.tmp 46,.tmp 48]) rfl ?_);(try (refine gate_guard (by rfl) ?_;dsimp only));at_builtin;refine Kd.R_append k30 w.heap.size rfl (.tmp 46) (.tmp 48) 23 30 (.agg #[(.string ⟨#[]⟩),(.string ⟨#[]⟩),(.string ⟨#[]⟩),(.int .i64 0)]) 56 rfl Tryz.underlying23 info30 rfl (by decide) (by omega) u3 x3_1 (⟨((⟨#[47,47]⟩:ByteArray)++(rdOf ByteArray.empty t333 x5_1))++(⟨#[47,110,111,116,105,99,101]⟩:ByteArray),(⟨#[]⟩:ByteArray),t353,rd y344 t347⟩:S30) [.string (((⟨#[47,47]⟩:ByteArray)++(rdOf ByteArray.empty t333 x5_1))++(⟨#[47,110,111,116,105,99,101]⟩:ByteArray)),.string (⟨#[]⟩:ByteArray),.string t353,.int .i64 (rd y344 t347)] (fun k_=>k_≠gb350) (fun _=>False) rfl rfl ?aP (fun _ hk=>hk.elim) ?aF ?aO (Below.refl _ _) ?aS ?aL ?_;(case aP=>exact k30_mkM _ _ _ (⟨((⟨#[47,47]⟩:ByteArray)++(rdOf ByteArray.empty t333 x5_1))++(⟨#[47,110,111,116,105,99,101]⟩:ByteArray),(⟨#[]⟩:ByteArray),t353,rd y344 t347⟩:S30));(case aF=>exact (fun k_ hk=>Kd.freshB (zz15 BK350) k_ hk));(case aO=>exact (zz8 HO_3));(case aS=>exact (keep_size (w:=w) (g:=g) (row:=none) (zz42 HK GW350)));(case aL=>exact (zz3 LMc49));intro v356 w52 ho hb hg hat;rw [← Ny355.out] at ho;replace HO_4:=A_ (Kd.R_over' (zz8 HO_4) (Kd.R_typed (zz8 HO_3)) (by decide) hg);replace HO341:=A_ (Kd.S_over' (zz35 HO341) (Kd.R_typed (zz8 HO_3)) (by decide) hg);replace HO346:=A_ (Kd.R_over' (zz8 HO346) (Kd.R_typed (zz8 HO_3)) (by decide) hg);replace BK350:=A_ (blk_grown (zz15 BK350) hg (Kd.R_away HO_3.out (fun _ hk=>hk)));replace HB:=A_ (below_weaken (zz38 HB HI0 GE350) HL.out hb);replace HI0:=A_ (IsS68.grown (zz37 HI0 NB0_350) hg (IsS68.own_ne HI0.out HO_3.out (by decide)));replace HK:=A_ (KeepBut.trans (zz42 HK GW350) (KeepBut.of_grown hg g) (Kd.R_base2 HO_3.out));have HO357:=A_ (ho);clear HO_3;clear ho hb hg hat))
       go_roundg k1
       case measure=>have:=HK1.out;omega
       case rel=>exact ⟨(y355),(wrap64 (x5_1+1)),(t354),zz0,H',⟨(zz3 HK1)⟩,⟨(zz97 HO357)⟩,⟨(zz8 HO_4)⟩,⟨(zz37 HI0 NB0_350)⟩,⟨(zz42 HK GW350)⟩,⟨(zz38 HB HI0 GE350)⟩⟩
      ·exact absurd (show 0≤300 from by decide) c48
     ·(first|rw [c39b0]|(simp only [i64_w,i32_w];rw [c39b0])|skip)
      replace H:=iteE H;rcases H with ⟨c53,H⟩|⟨c53,H⟩
      ·have c53b0:=dT c53
       have c53b1:decide (t343.size≤300)=true:=dT (by omega);clear c53;replace H:=iteN H;obtain ⟨c54,H⟩:=H;have LMc54:=A_ c54;clear c54;obtain ⟨y358,Ny358⟩:=toY (x3_1++[(⟨((⟨#[47,47]⟩:ByteArray)++(rdOf ByteArray.empty t333 x5_1))++(⟨#[47,110,111,116,105,99,101]⟩:ByteArray),t343,(⟨#[]⟩:ByteArray),rd y344 t347⟩:S30)]);(first|with_reducible replace H:=bindZ Ny358 H|rw [← Ny358.out] at H|skip)
       have H':=A_ H;clear H;have hnb55:=NB350_0.out;have hnc55:=NB0_350.out;obtain ⟨_,_,_,_,_,_,_,_⟩:=cf4 BK350;go_wp2_with (first|((with_reducible refine gate_builtin (b:=.append) (xs:=#[.tmp 46,.tmp 48]) rfl ?_);(try (refine gate_guard (by rfl) ?_;dsimp only));at_builtin;refine Kd.R_append k30 w.heap.size rfl (.tmp 46) (.tmp 48) 23 30 (.agg #[(.string ⟨#[]⟩),(.string ⟨#[]⟩),(.string ⟨#[]⟩),(.int .i64 0)]) 56 rfl Tryz.underlying23 info30 rfl (by decide) (by omega) u3 x3_1 (⟨((⟨#[47,47]⟩:ByteArray)++(rdOf ByteArray.empty t333 x5_1))++(⟨#[47,110,111,116,105,99,101]⟩:ByteArray),t343,(⟨#[]⟩:ByteArray),rd y344 t347⟩:S30) [.string (((⟨#[47,47]⟩:ByteArray)++(rdOf ByteArray.empty t333 x5_1))++(⟨#[47,110,111,116,105,99,101]⟩:ByteArray)),.string t343,.string (⟨#[]⟩:ByteArray),.int .i64 (rd y344 t347)] (fun k_=>k_≠gb350) (fun _=>False) rfl rfl ?aP (fun _ hk=>hk.elim) ?aF ?aO (Below.refl _ _) ?aS ?aL ?_;(case aP=>exact k30_mkM _ _ _ (⟨((⟨#[47,47]⟩:ByteArray)++(rdOf ByteArray.empty t333 x5_1))++(⟨#[47,110,111,116,105,99,101]⟩:ByteArray),t343,(⟨#[]⟩:ByteArray),rd y344 t347⟩:S30));(case aF=>exact (fun k_ hk=>Kd.freshB (zz15 BK350) k_ hk));(case aO=>exact (zz8 HO_3));(case aS=>exact (keep_size (w:=w) (g:=g) (row:=none) (zz42 HK GW350)));(case aL=>exact (zz3 LMc54));intro v359 w57 ho hb hg hat;rw [← Ny358.out] at ho;replace HO_4:=A_ (Kd.R_over' (zz8 HO_4) (Kd.R_typed (zz8 HO_3)) (by decide) hg);replace HO341:=A_ (Kd.S_over' (zz35 HO341) (Kd.R_typed (zz8 HO_3)) (by decide) hg);replace HO346:=A_ (Kd.R_over' (zz8 HO346) (Kd.R_typed (zz8 HO_3)) (by decide) hg);replace BK350:=A_ (blk_grown (zz15 BK350) hg (Kd.R_away HO_3.out (fun _ hk=>hk)));replace HB:=A_ (below_weaken (zz38 HB HI0 GE350) HL.out hb);replace HI0:=A_ (IsS68.grown (zz37 HI0 NB0_350) hg (IsS68.own_ne HI0.out HO_3.out (by decide)));replace HK:=A_ (KeepBut.trans (zz42 HK GW350) (KeepBut.of_grown hg g) (Kd.R_base2 HO_3.out));have HO360:=A_ (ho);clear HO_3;clear ho hb hg hat))
       go_roundg k1
       case measure=>have:=HK1.out;omega
       case rel=>exact ⟨(y358),(wrap64 (x5_1+1)),(t352),zz0,H',⟨(zz3 HK1)⟩,⟨(zz97 HO360)⟩,⟨(zz8 HO_4)⟩,⟨(zz37 HI0 NB0_350)⟩,⟨(zz42 HK GW350)⟩,⟨(zz38 HB HI0 GE350)⟩⟩
      ·have c53b0:=dF c53
       have c53b1:decide (t343.size≤300)=false:=dF (by omega);clear c53;have H':=A_ H;clear H;have hnb58:=NB350_0.out;have hnc58:=NB0_350.out;obtain ⟨_,_,_,_,_,_,_,_⟩:=cf4 BK350;go_wp2
       go_roundg k1
       case measure=>have:=HK1.out;omega
       case rel=>exact ⟨(x3_1),(wrap64 (x5_1+1)),(t352),zz0,H',⟨(zz3 HK1)⟩,⟨(zz97 HO_3)⟩,⟨(zz8 HO_4)⟩,⟨(zz37 HI0 NB0_350)⟩,⟨(zz42 HK GW350)⟩,⟨(zz38 HB HI0 GE350)⟩⟩
    ·(first|rw [c10b0]|(simp only [i64_w,i32_w];rw [c10b0])|skip)
     have H':=A_ H;clear H;go_wp2
     go_roundg k1
     case measure=>have:=HK1.out;omega
     case rel=>exact ⟨(x3_1),(wrap64 (x5_1+1)),(t337),zz0,H',⟨(zz3 HK1)⟩,⟨(zz8 HO_3)⟩,⟨(zz8 HO_4)⟩,⟨(zz18 HI0)⟩,⟨(zz19 HK)⟩,⟨(zz20 HB HI0)⟩⟩
   ·replace H:=bindA H
    obtain ⟨⟨t361,t362⟩,A60,H⟩:=H;try dsimp only at H
    have H':=A_ H;clear H;go_wp2_with (first|(refine gR 22 (some 51) Tryz.func22 (spec_l6Rd_pick.calls k1 g s0_0 x1001_1 7 t361 t362 w0 _ ?side1 ?side2 A60.out) ?_;(case side1=>exact (zz18 HI0));(case side2=>exact (zz20 HB HI0));rintro w61 ⟨hi,hb,hk⟩;replace HO_3:=A_ (Kd.R_mono (Kd.R_keep (IsS68.apart (show IsS68 w0 _ g s0_0 x1001_1 from (zz18 HI0)) (zz8 HO_3) (by decide)) hk (fun _ h=>h.2)) (fun _ h=>h.1));replace HO_4:=A_ (Kd.R_mono (Kd.R_keep (IsS68.apart (show IsS68 w0 _ g s0_0 x1001_1 from (zz18 HI0)) (zz8 HO_4) (by decide)) hk (fun _ h=>h.2)) (fun _ h=>h.1));replace HK:=A_ (KeepBut.trans (zz19 HK) hk (.inl rfl));replace HB:=A_ (hb);replace HI0:=A_ (hi);(try clear hb hk hi)))
    go_loopg [3,7] k1 (fun kq v3 v7 w'=>∃ (x3_2:List (S30)) (x7_2:Int) (x1001_2:Int),v7=.int .i64 x7_2∧Aside0 (spec_l71World.l1 kq x3_2 x7_2 s0_0 x1001_2=some (r1,r2))∧Aside0 (kq≤k1)∧Aside0 (Kd.R k30 30 w' w.heap.size (fun _=>True) v3 x3_2)∧Aside0 (IsS68 w0 w' g s0_0 x1001_2)∧Aside0 (KeepBut w w' g none)∧Aside0 (Below w0.heap.size w0 w'))
    case atStart=>exact ⟨(x3_1),(wrap64 (2+t361)),(t362),zz0,H',⟨Nat.le_refl _⟩,⟨(zz8 HO_3)⟩,⟨(zz18 HI0)⟩,⟨(zz19 HK)⟩,⟨(zz20 HB HI0)⟩⟩
    case round=>
     clear H';obtain ⟨x3_2,x7_2,x1001_2,rfl,HA,HK2,HO_3,HI0,HK,HB⟩:=hrel;cases gk with
     | zero=>exact absurd HA.out (by simp [spec_l71World.l1])
     | succ k2=>
      obtain ⟨H⟩:=HA;simp only [spec_l71World.l1] at H
      replace H:=iteEg H;rcases H with ⟨c62b0,H⟩|⟨c62b0,H⟩
      ·replace H:=bindA H
       obtain ⟨⟨t363,t364⟩,A63,H⟩:=H;try dsimp only at H
       replace H:=bindA H;obtain ⟨⟨t365,t366⟩,A64,H⟩:=H;try dsimp only at H
       obtain ⟨y367,Ny367,H⟩:=bindY H;replace H:=bindA H;obtain ⟨⟨t370,t371⟩,A65,H⟩:=H;try dsimp only at H
       replace H:=iteNd H;obtain ⟨c66b0,H⟩:=H;replace H:=iteNd H;obtain ⟨c67b0,H⟩:=H;replace H:=bindA H;obtain ⟨⟨t374,t375⟩,A68,H⟩:=H;try dsimp only at H
       have HF69:=A_ H;clear H;go_upto_if 69 with (first|(refine gR 43 (some 58) Tryz.func43 (spec_l71Addr.calls k2 g s0_0 x1001_2 t363 t364 w0 _ ?side1 ?side2 A63.out) ?_;(case side1=>exact (zz18 HI0));(case side2=>exact (zz20 HB HI0));rintro w70 ⟨hi,hb,hk⟩;replace HO_3:=A_ (Kd.R_mono (Kd.R_keep (IsS68.apart (show IsS68 w0 _ g s0_0 x1001_2 from (zz18 HI0)) (zz8 HO_3) (by decide)) hk (fun _ h=>h.2)) (fun _ h=>h.1));replace HK:=A_ (KeepBut.trans (zz19 HK) hk (.inl rfl));replace HB:=A_ (hb);replace HI0:=A_ (hi);(try clear hb hk hi))|(refine gR 68 (some 60) Tryz.func68 (spec_l71Page.calls k2 g s0_0 t364 t365 t366 w0 _ ?side1 ?side2 A64.out) ?_;(case side1=>exact (zz18 HI0));(case side2=>exact (zz20 HB HI0));rintro w71 ⟨hi,hb,hk⟩;replace HO_3:=A_ (Kd.R_mono (Kd.R_keep (IsS68.apart (show IsS68 w0 _ g s0_0 t364 from (zz18 HI0)) (zz8 HO_3) (by decide)) hk (fun _ h=>h.2)) (fun _ h=>h.1));replace HK:=A_ (KeepBut.trans (zz19 HK) hk (.inl rfl));replace HB:=A_ (hb);replace HI0:=A_ (hi);(try clear hb hk hi))|((with_reducible refine gD (N:=61) rfl ?_);(try (refine gate_guard (by rfl) ?_;dsimp only));refine Kd.R_lit (Kd.int .i64) _ 3 ?hg (N:=61) ?hd (xs:=([0,0,0,0,1,2,4]:List Int)) (inner:=[.int .i64 0,.int .i64 0,.int .i64 0,.int .i64 0,.int .i64 1,.int .i64 2,.int .i64 4]) (ok:=fun _=>True) (okp:=fun _=>True) ?hr ?hp (fun _ hk=>hk) trivial (Below.refl _ _) (Nat.le_refl _) (by simp) ?_;(case hd=>rfl);(case hg=>rfl);(case hr=>exact zz26);(case hp=>exact rpI);intro v368 w72 ho73 hb hg_ hnew_;clear hg_ hnew_;(first|rw [← Ny367.out] at ho73|(simp only [Int.reduceToNat] at ho73;rw [← Ny367.out] at ho73));replace HO_3:=A_ (rB (zz8 HO_3) hb);have HO369:=A_ (Kd.R_lower ho73 (keep_size (w:=w) (g:=g) (row:=none) (zz19 HK)));replace HK:=A_ (KeepBut.trans (zz19 HK) (KeepBut.of_below hb g none) (.inl rfl));replace HB:=A_ (bS (zz20 HB HI0) hb);replace HI0:=A_ (IsS68.below (zz18 HI0) hb);clear hb ho73)|(refine gR 22 (some 63) Tryz.func22 (spec_l6Rd_pick.calls k2 g s0_0 t366 7 t370 t371 w0 _ ?side1 ?side2 A65.out) ?_;(case side1=>exact (zz18 HI0));(case side2=>exact (zz20 HB HI0));rintro w74 ⟨hi,hb,hk⟩;replace HO_3:=A_ (Kd.R_mono (Kd.R_keep (IsS68.apart (show IsS68 w0 _ g s0_0 t366 from (zz18 HI0)) (zz8 HO_3) (by decide)) hk (fun _ h=>h.2)) (fun _ h=>h.1));replace HO369:=A_ (Kd.R_mono (Kd.R_keep (IsS68.apart (show IsS68 w0 _ g s0_0 t366 from (zz18 HI0)) (zz8 HO369) (by decide)) hk (fun _ h=>h.2)) (fun _ h=>h.1));replace HK:=A_ (KeepBut.trans (zz19 HK) hk (.inl rfl));replace HB:=A_ (hb);replace HI0:=A_ (hi);(try clear hb hk hi);obtain ⟨Ao75,co75,eo75⟩:=Kd.R_slice HO369.out;subst eo75;have p372:0≤(t370:Int):=ofD;have q372:t370 < (y367.length:Int):=ofD;obtain ⟨ad372,e372,hx372_0⟩:=Kd.at_int (Kd.R_reads' HO369.out).2.2 t370 p372 q372;cases e372;replace p372:=eq_true p372;replace q372:=eq_true q372)|((with_reducible refine gD (N:=8) rfl ?_);(try (refine gate_guard (by rfl) ?_;dsimp only));refine boxE 8 #[.string (⟨#[]⟩:ByteArray),.string (⟨#[]⟩:ByteArray),.string (⟨#[]⟩:ByteArray),.int .i64 0] 30 ?_;intro gb373 hg w76 hbox hb;replace HO_3:=A_ (rB (Kd.R_elderB (zz8 HO_3) gb373 (Nat.le_of_eq hg.symm)) hb);replace HO369:=A_ (rB (zz8 HO369) hb);replace HB:=A_ (bS (zz20 HB HI0) hb);have BK373:=A_ (hbox);have GW373:=A_ ((by rw [hg];exact (keep_size (w:=w) (g:=g) (row:=none) (zz19 HK)):w.heap.size≤gb373));have GE373:=A_ ((Nat.le_trans HW0.out (by rw [hg];exact (keep_size (w:=w) (g:=g) (row:=none) (zz19 HK)):w.heap.size≤gb373):w0.heap.size≤gb373));replace HK:=A_ (KeepBut.trans (zz19 HK) (KeepBut.of_below hb g none) (.inl rfl));have NB0_373:=A_ ((by rw [hg];exact Nat.ne_of_lt (IsS68.lt (show IsS68 w0 _ g s0_0 t371 from (zz18 HI0))):g≠gb373));have NB373_0:=A_ ((by rw [hg];exact Nat.ne_of_gt (IsS68.lt (show IsS68 w0 _ g s0_0 t371 from (zz18 HI0))):gb373≠g));replace HI0:=A_ (IsS68.below (zz18 HI0) hb);clear hb hbox hg;have hnb77:=NB373_0.out;have hnc77:=NB0_373.out;obtain ⟨_,_,_,_,_,_,_,_⟩:=cf4 BK373)|(refine gR 22 (some 68) Tryz.func22 (spec_l6Rd_pick.calls k2 g s0_0 t371 8 t374 t375 w0 _ ?side1 ?side2 A68.out) ?_;(case side1=>exact (zz37 HI0 NB0_373));(case side2=>exact (zz38 HB HI0 GE373));rintro w79 ⟨hi,hb,hk⟩;replace HO_3:=A_ (Kd.R_mono (Kd.R_keep (IsS68.apart (show IsS68 w0 _ g s0_0 t371 from (zz37 HI0 NB0_373)) (by (with_reducible repeat (first|apply Kd.R_alloc|apply Kd.R_drewN|apply Kd.R_drew));exact (Kd.R_mono (Kd.R_far (p:=⟨gb373,3,none⟩) (Kd.R_far (p:=⟨gb373,2,none⟩) (Kd.R_far (p:=⟨gb373,1,none⟩) (Kd.R_far (p:=⟨gb373,0,none⟩) (Kd.R_mono HO_3.out (fun k_ hk=>(⟨hk,hk.2⟩:_∧k_≠gb373))) (fun _ hk=>hk.2) (.string t363)) (fun _ hk=>hk.2) (.string t365)) (fun _ hk=>hk.2) (.string (⟨#[]⟩:ByteArray))) (fun _ hk=>hk.2) (.int .i64 (rd y367 t370))) (fun _ h_=>h_.1))) (by decide)) hk (fun _ h=>h.2)) (fun _ h=>h.1));replace HO369:=A_ (Kd.R_mono (Kd.R_keep (IsS68.apart (show IsS68 w0 _ g s0_0 t371 from (zz37 HI0 NB0_373)) (by (with_reducible repeat (first|apply Kd.R_alloc|apply Kd.R_drewN|apply Kd.R_drew));exact (Kd.R_mono (Kd.R_far (p:=⟨gb373,3,none⟩) (Kd.R_far (p:=⟨gb373,2,none⟩) (Kd.R_far (p:=⟨gb373,1,none⟩) (Kd.R_far (p:=⟨gb373,0,none⟩) (Kd.R_types HO369.out BK373.out (by decide)) (fun _ hk=>hk.2) (.string t363)) (fun _ hk=>hk.2) (.string t365)) (fun _ hk=>hk.2) (.string (⟨#[]⟩:ByteArray))) (fun _ hk=>hk.2) (.int .i64 (rd y367 t370))) (fun _ h_=>h_.1))) (by decide)) hk (fun _ h=>h.2)) (fun _ h=>h.1));replace BK373:=A_ (KeepBut.blk hk (g':=gb373) (o:=.cells #[.string t363,.string t365,.string (⟨#[]⟩:ByteArray),.int .i64 (rd y367 t370)] 30 (0,0)) (zz32 BK373) NB373_0.out (by simp));replace HK:=A_ (KeepBut.trans (zz42 HK GW373) hk (.inl rfl));replace HB:=A_ (hb);replace HI0:=A_ (hi);(try clear hb hk hi)))
       obtain ⟨H⟩:=HF69;replace H:=iteEq H;rcases H with ⟨c80b0,c80b1,H⟩|⟨c80b0,c80b1,c80,H⟩
       ·(first|rw [c80b0]|(simp only [i64_w,i32_w];rw [c80b0])|skip)
        replace H:=bindA H;obtain ⟨⟨t376,t377⟩,A81,H⟩:=H;try dsimp only at H
        replace H:=bindA H;obtain ⟨⟨t378,t379,t380,t381,t382⟩,A82,H⟩:=H;try dsimp only at H
        have HF83:=A_ H;clear H;have hnb84:=NB373_0.out;have hnc84:=NB0_373.out;obtain ⟨_,_,_,_,_,_,_,_⟩:=cf4 BK373;go_wp2_with (first|(refine gR 43 (some 72) Tryz.func43 (spec_l71Addr.calls k2 g s0_0 t375 t376 t377 w0 _ ?side1 ?side2 A81.out) ?_;(case side1=>exact (zz37 HI0 NB0_373));(case side2=>exact (zz38 HB HI0 GE373));rintro w86 ⟨hi,hb,hk⟩;replace HO_3:=A_ (Kd.R_mono (Kd.R_keep (IsS68.apart (show IsS68 w0 _ g s0_0 t375 from (zz37 HI0 NB0_373)) (by (with_reducible repeat (first|apply Kd.R_alloc|apply Kd.R_drewN|apply Kd.R_drew));exact (Kd.R_mono (Kd.R_far (p:=⟨gb373,1,none⟩) (Kd.R_mono HO_3.out (fun k_ hk=>(⟨hk,hk.2⟩:_∧k_≠gb373))) (fun _ hk=>hk.2) (.string (⟨#[]⟩:ByteArray))) (fun _ h_=>h_.1))) (by decide)) hk (fun _ h=>h.2)) (fun _ h=>h.1));replace HO369:=A_ (Kd.R_mono (Kd.R_keep (IsS68.apart (show IsS68 w0 _ g s0_0 t375 from (zz37 HI0 NB0_373)) (by (with_reducible repeat (first|apply Kd.R_alloc|apply Kd.R_drewN|apply Kd.R_drew));exact (Kd.R_mono (Kd.R_far (p:=⟨gb373,1,none⟩) (Kd.R_types HO369.out BK373.out (by decide)) (fun _ hk=>hk.2) (.string (⟨#[]⟩:ByteArray))) (fun _ h_=>h_.1))) (by decide)) hk (fun _ h=>h.2)) (fun _ h=>h.1));replace BK373:=A_ (KeepBut.blk hk (g':=gb373) (o:=.cells #[.string t363,.string (⟨#[]⟩:ByteArray),.string (⟨#[]⟩:ByteArray),.int .i64 (rd y367 t370)] 30 (0,0)) (zz134 BK373) NB373_0.out (by simp));replace HK:=A_ (KeepBut.trans (zz42 HK GW373) hk (.inl rfl));replace HB:=A_ (hb);replace HI0:=A_ (hi);(try clear hb hk hi);obtain ⟨_,_,_,_,_,_,_,_⟩:=cf4 BK373;obtain ⟨Ao88,co88,eo88⟩:=Kd.R_slice HO_3.out;subst eo88)|((with_reducible refine gC (f:=44) rfl ?_);refine gsL (some 78) Tryz.func44 #[.slice Ao88 x3_2.length co88,.string t363] ?_;(with_reducible refine (spec_l11At.calls k2 _ _ x3_2 t363 t378 t379 t380 t381 t382 _ ?side1 ?side2 A82.out).mono ?_);(case side1=>exact (by refine (Kd.R_reads' (e:=30) (base:=w.heap.size) (ok:=fun k_=>(True∧k_≠gb373)) (n:=x3_2.length) (c:=co88) ?_).2.2;exact (zz170 HO_3)));(case side2=>exact (Kd.R_reads' HO_3.out).2.1);rintro e w89 ⟨rfl,hb⟩;refine ⟨_,rfl,?_⟩;replace HO_3:=A_ (rB (zz170 HO_3) hb);replace HO369:=A_ (rB (by (with_reducible repeat (first|apply Kd.R_alloc|apply Kd.R_drewN|apply Kd.R_drew));exact (Kd.R_mono (Kd.R_far (p:=⟨gb373,2,none⟩) (Kd.R_types HO369.out BK373.out (by decide)) (fun _ hk=>hk.2) (.string t376)) (fun _ h_=>h_.1))) hb);replace BK373:=A_ (bB (g:=gb373) (o:=.cells #[.string t363,.string (⟨#[]⟩:ByteArray),.string t376,.int .i64 (rd y367 t370)] 30 (0,0)) (zz136 BK373) hb);replace HK:=A_ (KeepBut.trans (zz42 HK GW373) (KeepBut.of_below hb g none) (.inl rfl));replace HB:=A_ (bS (zz38 HB HI0 GE373) hb);replace HI0:=A_ (IsS68.below (show IsS68 w0 (w86.setCell ⟨gb373,2,none⟩ (.string t376)) g s0_0 t377 from (zz37 HI0 NB0_373)) hb);(try clear hb))|((with_reducible refine gD (N:=9) rfl ?_);(try (refine gate_guard (by rfl) ?_;dsimp only));refine boxE 9 #[.string (⟨#[]⟩:ByteArray),.string (⟨#[]⟩:ByteArray),.string (⟨#[]⟩:ByteArray),.int .i64 0] 30 ?_;intro gb383 hg w90 hbox hb;replace HO_3:=A_ (rB (Kd.R_elderB (zz8 HO_3) gb383 (Nat.le_of_eq hg.symm)) hb);replace HO369:=A_ (rB (zz8 HO369) hb);replace HB:=A_ (bS (zz38 HB HI0 GE373) hb);have BK383:=A_ (hbox);have GW383:=A_ ((by rw [hg];exact (keep_size (w:=w) (g:=g) (row:=none) (zz42 HK GW373)):w.heap.size≤gb383));have GE383:=A_ ((Nat.le_trans HW0.out (by rw [hg];exact (keep_size (w:=w) (g:=g) (row:=none) (zz42 HK GW373)):w.heap.size≤gb383):w0.heap.size≤gb383));replace HK:=A_ (KeepBut.trans (zz42 HK GW373) (KeepBut.of_below hb g none) (.inl rfl));have NB373_383:=A_ ((by rw [hg];exact Nat.ne_of_lt (blk_lt (zz15 BK373)):gb373≠gb383));have NB383_373:=A_ ((by rw [hg];exact Nat.ne_of_gt (blk_lt (zz15 BK373)):gb383≠gb373));replace BK373:=A_ (bB (zz15 BK373) hb);have NB0_383:=A_ ((by rw [hg];exact Nat.ne_of_lt (IsS68.lt (show IsS68 w0 _ g s0_0 t377 from (zz37 HI0 NB0_373))):g≠gb383));have NB383_0:=A_ ((by rw [hg];exact Nat.ne_of_gt (IsS68.lt (show IsS68 w0 _ g s0_0 t377 from (zz37 HI0 NB0_373))):gb383≠g));replace HI0:=A_ (IsS68.below (zz37 HI0 NB0_373) hb);clear hb hbox hg;have hnb91:=NB383_373.out;have hnc91:=NB373_383.out;have hnb92:=NB383_0.out;have hnc92:=NB0_383.out;obtain ⟨_,_,_,_,_,_,_,_⟩:=cf4 BK383)|((with_reducible refine gate_store (t:=30) (p:=9) rfl ?_);refine store_event (t:=30) (p:=9) (v:=?vo_w94) (w1:=((((w90.setCell ⟨gb383,0,none⟩ (.string t378)).setCell ⟨gb383,1,none⟩ (.string t379)).setCell ⟨gb383,2,none⟩ (.string t380)).setCell ⟨gb383,3,none⟩ (.int .i64 t381))) ?hg ?ho ?hn ?hr ?_;(case ho=>rfl);(case hg=>rfl);(case hn=>rfl);(case hr=>exact zz26);intro w94 hw;have n0_:Aside0 (Kd.R k30 30 w94 w.heap.size (fun k_=>k_≠gb373∧k_≠gb383) (.slice Ao88 x3_2.length co88) x3_2):=⟨(by rw [hw];exact (by (with_reducible repeat (first|apply Kd.R_alloc|apply Kd.R_drewN|apply Kd.R_drew));exact Kd.R_mono (Kd.R_far (p:=⟨gb383,3,none⟩) (Kd.R_far (p:=⟨gb383,2,none⟩) (Kd.R_far (p:=⟨gb383,1,none⟩) (Kd.R_far (p:=⟨gb383,0,none⟩) (Kd.R_mono HO_3.out (fun k_ hk=>(⟨hk,hk.2⟩:_∧k_≠gb383))) (fun _ hk=>hk.2) (.string t378)) (fun _ hk=>hk.2) (.string t379)) (fun _ hk=>hk.2) (.string t380)) (fun _ hk=>hk.2) (.int .i64 t381)) (fun _ hk=>⟨hk.1.1.2,hk.1.2⟩)))⟩;have n1_:Aside0 (Kd.R (Kd.int .i64) 3 w94 w.heap.size (fun _=>True) (.slice (some ad372) y367.length co75) y367):=⟨(by rw [hw];exact (zz47 (rt HO369 BK383)))⟩;have n2_:Aside0 (w94.heap[gb373]?=some (.cells #[.string t363,.string (⟨#[]⟩:ByteArray),.string t376,.int .i64 (rd y367 t370)] 30 (0,0))):=⟨(by rw [hw];exact (zz176 BK373 NB373_383))⟩;have n3_:Aside0 (w94.heap[gb383]?=some (.cells #[.string t378,.string t379,.string t380,.int .i64 t381] 30 (0,0))):=⟨(by rw [hw];exact (zz32 BK383))⟩;have n4_:Aside0 (IsS68 w0 w94 g s0_0 t377):=⟨(by rw [hw];exact (zz179 HI0 NB0_373 NB0_383))⟩;have n5_:Aside0 (KeepBut w w94 g none):=⟨(by rw [hw];exact (zz181 HK GW373 GW383))⟩;have n6_:Aside0 (Below w0.heap.size w0 w94):=⟨(by rw [hw];exact (zz183 HB HI0 GE373 GE383))⟩;clear hw;clear HO_3;clear HO369;clear BK373;clear BK383;clear HI0;clear HK;clear HB;have HO_3:=n0_;have HO369:=n1_;have BK373:=n2_;have BK383:=n3_;have HI0:=n4_;have HK:=n5_;have HB:=n6_;clear n0_ n1_ n2_ n3_ n4_ n5_ n6_)|((with_reducible refine atG ?_ ?_ fun K_ hK_=>?_);rfl;exact undecG)|((with_reducible refine atI ?_ fun K_ hK_=>?_);exact undecI))
        refine unG hK_ ?_;clear hK_ K_;obtain ⟨H⟩:=HF83;replace H:=iteB H;rcases H with ⟨rfl,H⟩|⟨rfl,H⟩
        ·(first|refine iteT ?_|refine iteF ?_|skip)
         have H':=A_ H;clear H;(try ((with_reducible refine upS ?_);go_simp))
         go_wp2
         go_roundg k2
         case measure=>have:=HK1.out;have:=HK2.out;omega
         case rel=>exact ⟨(x3_2),(wrap64 (x7_2 - 1)),(t377),zz0,H',⟨(zz10 HK1 HK2)⟩,⟨(zz97 HO_3)⟩,⟨(zz179 HI0 NB0_373 NB0_383)⟩,⟨(zz181 HK GW373 GW383)⟩,⟨(zz183 HB HI0 GE373 GE383)⟩⟩
        ·(first|refine iteT ?_|refine iteF ?_|skip)
         replace H:=iteE H;rcases H with ⟨c96,H⟩|⟨c96,H⟩
         ·have c96b0:=dT c96
          clear c96;replace H:=iteN H;obtain ⟨c97,H⟩:=H;have LMc97:=A_ c97;clear c97;obtain ⟨y384,Ny384⟩:=toY (x3_2++[(⟨t363,(⟨#[]⟩:ByteArray),t376,rd y367 t370⟩:S30)]);(first|with_reducible replace H:=bindZ Ny384 H|rw [← Ny384.out] at H|skip)
          have H':=A_ H;clear H;have hnb98:=NB373_383.out;have hnc98:=NB383_373.out;have hnb99:=NB373_0.out;have hnc99:=NB0_373.out;obtain ⟨_,_,_,_,_,_,_,_⟩:=cf4 BK373;go_wp2_with (first|((with_reducible refine gate_builtin (b:=.append) (xs:=#[.tmp 89,.tmp 91]) rfl ?_);(try (refine gate_guard (by rfl) ?_;dsimp only));at_builtin;refine Kd.R_append k30 w.heap.size rfl (.tmp 89) (.tmp 91) 23 30 (.agg #[(.string ⟨#[]⟩),(.string ⟨#[]⟩),(.string ⟨#[]⟩),(.int .i64 0)]) 56 rfl Tryz.underlying23 info30 rfl (by decide) (by omega) (.slice Ao88 x3_2.length co88) x3_2 (⟨t363,(⟨#[]⟩:ByteArray),t376,rd y367 t370⟩:S30) [.string t363,.string (⟨#[]⟩:ByteArray),.string t376,.int .i64 (rd y367 t370)] (fun k_=>k_≠gb373∧k_≠gb383) (fun _=>False) rfl rfl ?aP (fun _ hk=>hk.elim) ?aF ?aO (Below.refl _ _) ?aS ?aL ?_;(case aP=>exact k30_mkM _ _ _ (⟨t363,(⟨#[]⟩:ByteArray),t376,rd y367 t370⟩:S30));(case aF=>exact (fun k_ hk=>⟨Kd.freshB (zz15 BK373) k_ hk,Kd.freshB (zz15 BK383) k_ hk⟩));(case aO=>exact (zz8 HO_3));(case aS=>exact (keep_size (w:=w) (g:=g) (row:=none) (zz181 HK GW373 GW383)));(case aL=>exact (zz3 LMc97));intro v385 w101 ho hb hg hat;rw [← Ny384.out] at ho;replace HO369:=A_ (Kd.R_over' (zz8 HO369) (Kd.R_typed (zz8 HO_3)) (by decide) hg);replace BK373:=A_ (blk_grown (zz15 BK373) hg (Kd.R_away HO_3.out (fun _ hk=>hk.1)));replace BK383:=A_ (blk_grown (zz15 BK383) hg (Kd.R_away HO_3.out (fun _ hk=>hk.2)));replace HB:=A_ (below_weaken (zz183 HB HI0 GE373 GE383) HL.out hb);replace HI0:=A_ (IsS68.grown (zz179 HI0 NB0_373 NB0_383) hg (IsS68.own_ne HI0.out HO_3.out (by decide)));replace HK:=A_ (KeepBut.trans (zz181 HK GW373 GW383) (KeepBut.of_grown hg g) (Kd.R_base2 HO_3.out));have HO386:=A_ (ho);clear HO_3;clear ho hb hg hat))
          go_roundg k2
          case measure=>have:=HK1.out;have:=HK2.out;omega
          case rel=>exact ⟨(y384),(wrap64 (x7_2 - 1)),(t377),zz0,H',⟨(zz10 HK1 HK2)⟩,⟨(zz97 HO386)⟩,⟨(zz179 HI0 NB0_373 NB0_383)⟩,⟨(zz181 HK GW373 GW383)⟩,⟨(zz183 HB HI0 GE373 GE383)⟩⟩
         ·exact absurd (show 0≤300 from by decide) c96
       ·(first|rw [c80b0]|(simp only [i64_w,i32_w];rw [c80b0])|skip)
        replace H:=bindA H;obtain ⟨⟨t387,t388,t389,t390,t391⟩,A105,H⟩:=H;try dsimp only at H
        have HF106:=A_ H;clear H;have hnb107:=NB373_0.out;have hnc107:=NB0_373.out;obtain ⟨_,_,_,_,_,_,_,_⟩:=cf4 BK373;obtain ⟨Ao109,co109,eo109⟩:=Kd.R_slice HO_3.out;subst eo109;go_wp2_with (first|(refine gR 44 (some 78) Tryz.func44 (spec_l11At.calls k2 _ _ x3_2 t363 t387 t388 t389 t390 t391 _ ?side1 ?side2 A105.out) ?_;(case side1=>exact (zz33 HO_3));(case side2=>exact (Kd.R_reads' HO_3.out).2.1);rintro w110 hb;replace HO_3:=A_ (rB (zz8 HO_3) hb);replace HO369:=A_ (rB (zz8 HO369) hb);replace BK373:=A_ (bB (zz15 BK373) hb);replace HK:=A_ (KeepBut.trans (zz42 HK GW373) (KeepBut.of_below hb g none) (.inl rfl));replace HB:=A_ (bS (zz38 HB HI0 GE373) hb);replace HI0:=A_ (IsS68.below (zz37 HI0 NB0_373) hb);(try clear hb))|((with_reducible refine gD (N:=9) rfl ?_);(try (refine gate_guard (by rfl) ?_;dsimp only));refine boxE 9 #[.string (⟨#[]⟩:ByteArray),.string (⟨#[]⟩:ByteArray),.string (⟨#[]⟩:ByteArray),.int .i64 0] 30 ?_;intro gb392 hg w111 hbox hb;replace HO_3:=A_ (rB (Kd.R_elderB (zz8 HO_3) gb392 (Nat.le_of_eq hg.symm)) hb);replace HO369:=A_ (rB (zz8 HO369) hb);replace HB:=A_ (bS (zz38 HB HI0 GE373) hb);have BK392:=A_ (hbox);have GW392:=A_ ((by rw [hg];exact (keep_size (w:=w) (g:=g) (row:=none) (zz42 HK GW373)):w.heap.size≤gb392));have GE392:=A_ ((Nat.le_trans HW0.out (by rw [hg];exact (keep_size (w:=w) (g:=g) (row:=none) (zz42 HK GW373)):w.heap.size≤gb392):w0.heap.size≤gb392));replace HK:=A_ (KeepBut.trans (zz42 HK GW373) (KeepBut.of_below hb g none) (.inl rfl));have NB373_392:=A_ ((by rw [hg];exact Nat.ne_of_lt (blk_lt (zz15 BK373)):gb373≠gb392));have NB392_373:=A_ ((by rw [hg];exact Nat.ne_of_gt (blk_lt (zz15 BK373)):gb392≠gb373));replace BK373:=A_ (bB (zz15 BK373) hb);have NB0_392:=A_ ((by rw [hg];exact Nat.ne_of_lt (IsS68.lt (show IsS68 w0 _ g s0_0 t375 from (zz37 HI0 NB0_373))):g≠gb392));have NB392_0:=A_ ((by rw [hg];exact Nat.ne_of_gt (IsS68.lt (show IsS68 w0 _ g s0_0 t375 from (zz37 HI0 NB0_373))):gb392≠g));replace HI0:=A_ (IsS68.below (zz37 HI0 NB0_373) hb);clear hb hbox hg;have hnb112:=NB392_373.out;have hnc112:=NB373_392.out;have hnb113:=NB392_0.out;have hnc113:=NB0_392.out;obtain ⟨_,_,_,_,_,_,_,_⟩:=cf4 BK392)|((with_reducible refine gate_store (t:=30) (p:=9) rfl ?_);refine store_event (t:=30) (p:=9) (v:=?vo_w115) (w1:=((((w111.setCell ⟨gb392,0,none⟩ (.string t387)).setCell ⟨gb392,1,none⟩ (.string t388)).setCell ⟨gb392,2,none⟩ (.string t389)).setCell ⟨gb392,3,none⟩ (.int .i64 t390))) ?hg ?ho ?hn ?hr ?_;(case ho=>rfl);(case hg=>rfl);(case hn=>rfl);(case hr=>exact zz26);intro w115 hw;have n0_:Aside0 (Kd.R k30 30 w115 w.heap.size (fun k_=>k_≠gb373∧k_≠gb392) (.slice Ao109 x3_2.length co109) x3_2):=⟨(by rw [hw];exact (by (with_reducible repeat (first|apply Kd.R_alloc|apply Kd.R_drewN|apply Kd.R_drew));exact Kd.R_mono (Kd.R_far (p:=⟨gb392,3,none⟩) (Kd.R_far (p:=⟨gb392,2,none⟩) (Kd.R_far (p:=⟨gb392,1,none⟩) (Kd.R_far (p:=⟨gb392,0,none⟩) (Kd.R_mono HO_3.out (fun k_ hk=>(⟨hk,hk.2⟩:_∧k_≠gb392))) (fun _ hk=>hk.2) (.string t387)) (fun _ hk=>hk.2) (.string t388)) (fun _ hk=>hk.2) (.string t389)) (fun _ hk=>hk.2) (.int .i64 t390)) (fun _ hk=>⟨hk.1.1.2,hk.1.2⟩)))⟩;have n1_:Aside0 (Kd.R (Kd.int .i64) 3 w115 w.heap.size (fun _=>True) (.slice (some ad372) y367.length co75) y367):=⟨(by rw [hw];exact (zz47 (rt HO369 BK392)))⟩;have n2_:Aside0 (w115.heap[gb373]?=some (.cells #[.string t363,.string t365,.string (⟨#[]⟩:ByteArray),.int .i64 (rd y367 t370)] 30 (0,0))):=⟨(by rw [hw];exact (zz176 BK373 NB373_392))⟩;have n3_:Aside0 (w115.heap[gb392]?=some (.cells #[.string t387,.string t388,.string t389,.int .i64 t390] 30 (0,0))):=⟨(by rw [hw];exact (zz32 BK392))⟩;have n4_:Aside0 (IsS68 w0 w115 g s0_0 t375):=⟨(by rw [hw];exact (zz179 HI0 NB0_373 NB0_392))⟩;have n5_:Aside0 (KeepBut w w115 g none):=⟨(by rw [hw];exact (zz181 HK GW373 GW392))⟩;have n6_:Aside0 (Below w0.heap.size w0 w115):=⟨(by rw [hw];exact (zz183 HB HI0 GE373 GE392))⟩;clear hw;clear HO_3;clear HO369;clear BK373;clear BK392;clear HI0;clear HK;clear HB;have HO_3:=n0_;have HO369:=n1_;have BK373:=n2_;have BK392:=n3_;have HI0:=n4_;have HK:=n5_;have HB:=n6_;clear n0_ n1_ n2_ n3_ n4_ n5_ n6_)|((with_reducible refine atG ?_ ?_ fun K_ hK_=>?_);rfl;exact undecG)|((with_reducible refine atI ?_ fun K_ hK_=>?_);exact undecI))
        refine unG hK_ ?_;clear hK_ K_;obtain ⟨H⟩:=HF106;replace H:=iteB H;rcases H with ⟨rfl,H⟩|⟨rfl,H⟩
        ·(first|refine iteT ?_|refine iteF ?_|skip)
         have H':=A_ H;clear H;(try ((with_reducible refine upS ?_);go_simp))
         go_wp2
         go_roundg k2
         case measure=>have:=HK1.out;have:=HK2.out;omega
         case rel=>exact ⟨(x3_2),(wrap64 (x7_2 - 1)),(t375),zz0,H',⟨(zz10 HK1 HK2)⟩,⟨(zz97 HO_3)⟩,⟨(zz179 HI0 NB0_373 NB0_392)⟩,⟨(zz181 HK GW373 GW392)⟩,⟨(zz183 HB HI0 GE373 GE392)⟩⟩
        ·(first|refine iteT ?_|refine iteF ?_|skip)
         replace H:=iteE H;rcases H with ⟨c117,H⟩|⟨c117,H⟩
         ·have c117b0:=dT c117
          have c117b1:decide (t365.size≤300)=true:=dT (by omega);clear c117;replace H:=iteN H;obtain ⟨c118,H⟩:=H;have LMc118:=A_ c118;clear c118;obtain ⟨y393,Ny393⟩:=toY (x3_2++[(⟨t363,t365,(⟨#[]⟩:ByteArray),rd y367 t370⟩:S30)]);(first|with_reducible replace H:=bindZ Ny393 H|rw [← Ny393.out] at H|skip)
          have H':=A_ H;clear H;have hnb119:=NB373_392.out;have hnc119:=NB392_373.out;have hnb120:=NB373_0.out;have hnc120:=NB0_373.out;obtain ⟨_,_,_,_,_,_,_,_⟩:=cf4 BK373;go_wp2_with (first|((with_reducible refine gate_builtin (b:=.append) (xs:=#[.tmp 89,.tmp 91]) rfl ?_);(try (refine gate_guard (by rfl) ?_;dsimp only));at_builtin;refine Kd.R_append k30 w.heap.size rfl (.tmp 89) (.tmp 91) 23 30 (.agg #[(.string ⟨#[]⟩),(.string ⟨#[]⟩),(.string ⟨#[]⟩),(.int .i64 0)]) 56 rfl Tryz.underlying23 info30 rfl (by decide) (by omega) (.slice Ao109 x3_2.length co109) x3_2 (⟨t363,t365,(⟨#[]⟩:ByteArray),rd y367 t370⟩:S30) [.string t363,.string t365,.string (⟨#[]⟩:ByteArray),.int .i64 (rd y367 t370)] (fun k_=>k_≠gb373∧k_≠gb392) (fun _=>False) rfl rfl ?aP (fun _ hk=>hk.elim) ?aF ?aO (Below.refl _ _) ?aS ?aL ?_;(case aP=>exact k30_mkM _ _ _ (⟨t363,t365,(⟨#[]⟩:ByteArray),rd y367 t370⟩:S30));(case aF=>exact (fun k_ hk=>⟨Kd.freshB (zz15 BK373) k_ hk,Kd.freshB (zz15 BK392) k_ hk⟩));(case aO=>exact (zz8 HO_3));(case aS=>exact (keep_size (w:=w) (g:=g) (row:=none) (zz181 HK GW373 GW392)));(case aL=>exact (zz3 LMc118));intro v394 w122 ho hb hg hat;rw [← Ny393.out] at ho;replace HO369:=A_ (Kd.R_over' (zz8 HO369) (Kd.R_typed (zz8 HO_3)) (by decide) hg);replace BK373:=A_ (blk_grown (zz15 BK373) hg (Kd.R_away HO_3.out (fun _ hk=>hk.1)));replace BK392:=A_ (blk_grown (zz15 BK392) hg (Kd.R_away HO_3.out (fun _ hk=>hk.2)));replace HB:=A_ (below_weaken (zz183 HB HI0 GE373 GE392) HL.out hb);replace HI0:=A_ (IsS68.grown (zz179 HI0 NB0_373 NB0_392) hg (IsS68.own_ne HI0.out HO_3.out (by decide)));replace HK:=A_ (KeepBut.trans (zz181 HK GW373 GW392) (KeepBut.of_grown hg g) (Kd.R_base2 HO_3.out));have HO395:=A_ (ho);clear HO_3;clear ho hb hg hat))
          go_roundg k2
          case measure=>have:=HK1.out;have:=HK2.out;omega
          case rel=>exact ⟨(y393),(wrap64 (x7_2 - 1)),(t375),zz0,H',⟨(zz10 HK1 HK2)⟩,⟨(zz97 HO395)⟩,⟨(zz179 HI0 NB0_373 NB0_392)⟩,⟨(zz181 HK GW373 GW392)⟩,⟨(zz183 HB HI0 GE373 GE392)⟩⟩
         ·have c117b0:=dF c117
          have c117b1:decide (t365.size≤300)=false:=dF (by omega);clear c117;have H':=A_ H;clear H;have hnb123:=NB373_392.out;have hnc123:=NB392_373.out;have hnb124:=NB373_0.out;have hnc124:=NB0_373.out;obtain ⟨_,_,_,_,_,_,_,_⟩:=cf4 BK373;go_wp2
          go_roundg k2
          case measure=>have:=HK1.out;have:=HK2.out;omega
          case rel=>exact ⟨(x3_2),(wrap64 (x7_2 - 1)),(t375),zz0,H',⟨(zz10 HK1 HK2)⟩,⟨(zz97 HO_3)⟩,⟨(zz179 HI0 NB0_373 NB0_392)⟩,⟨(zz181 HK GW373 GW392)⟩,⟨(zz183 HB HI0 GE373 GE392)⟩⟩
      ·simp only [Option.some.injEq,Prod.mk.injEq] at H
       obtain ⟨rfl,rfl⟩:=H;go_wp2
       go_ret
       exact ⟨_,zz12,(zz8 HO_3),(zz18 HI0),(zz20 HB HI0),(zz19 HK)⟩
def spec_l71Off.l0:Nat→List (S30)→Int→List Int→Int→Option ((List (S30))×Int)
 | 0,_,_,_,_=>none
 | k+1,x3,x4,x1000,x1001=>if x4 < 12 then ((spec_l6Dec.f k x4).bind fun t416=>(if 6+t416.size≤9223372036854775807 then (if x3.length < 2513169434916 then (spec_l71Off.l0 k (x3++[(⟨(⟨#[47,47,97,98,47,122]⟩:ByteArray)++t416,(⟨#[]⟩:ByteArray),(⟨#[]⟩:ByteArray),0⟩:S30)]) (wrap64 (x4+1)) x1000 x1001) else (none)) else (none))) else (some (x3,x1001))
def spec_l71Off.f (k:Nat) (s0_0:List Int) (s0_1:Int):Option ((List (S30))×Int):=(spec_l71World.f k s0_0 s0_1).bind fun bt396=>((spec_l6Rd_pick.f k s0_0 bt396.2 16).bind fun bt400=>(if bt400.1 > 0 then (some (bt396.1,bt400.2)) else ((spec_l6Rd_pick.f k s0_0 bt400.2 5).bind fun bt402=>(if bt402.1=0 then (if 0 < (bt396.1.length:Int) then (if bt396.1.length < 2513169434916 then (some ((bt396.1++[(⟨(rd_T30 bt396.1 0).f0,(rd_T30 bt396.1 0).f1,(rd_T30 bt396.1 0).f2,(rd_T30 bt396.1 0).f3⟩:S30)]),bt402.2)) else (none)) else (none)) else (if bt402.1=1 then (if 0 < (bt396.1.length:Int) then (some ((bt396.1.set (0:Int).toNat (⟨(rd_T30 bt396.1 0).f0,(rd_T30 bt396.1 0).f1,(rd_T30 bt396.1 0).f2,10⟩:S30)),bt402.2)) else (none)) else (if bt402.1=2 then ((spec_l6Rd_of.f k s0_0 bt402.2 (([(⟨#[47,47,65,66,47,97]⟩:ByteArray),(⟨#[]⟩:ByteArray),(⟨#[47,47,97,98]⟩:ByteArray)]:List ByteArray))).bind fun bt412=>(if 0 < (bt396.1.length:Int) then (some ((bt396.1.set (0:Int).toNat (⟨bt412.1,(rd_T30 bt396.1 0).f1,(rd_T30 bt396.1 0).f2,(rd_T30 bt396.1 0).f3⟩:S30)),bt412.2)) else (none))) else (if bt402.1=3 then (if 0 < (bt396.1.length:Int) then (some ((bt396.1.set (0:Int).toNat (⟨(rd_T30 bt396.1 0).f0,(rd_T30 bt396.1 0).f1,(⟨#[120]⟩:ByteArray),(rd_T30 bt396.1 0).f3⟩:S30)),bt402.2)) else (none)) else (spec_l71Off.l0 k bt396.1 0 s0_0 bt402.2))))))))
theorem spec_l71Off.calls (k:Nat) (g:Nat) (s0_0:List Int) (s0_1:Int) (r1:List (S30)) (r2:Int) (w0 w:World) (hI:IsS68 w0 w g s0_0 s0_1) (hB:Below w0.heap.size w0 w) (h:spec_l71Off.f k s0_0 s0_1=some (r1,r2)) :
  Calls Tryz.prog 20 #[.pointer (some ⟨g,0,none⟩)] w fun e w'=>∃ v0_:Value,e=.returned (v0_)∧Kd.R k30 30 w' w.heap.size (fun _=>True) v0_ r1∧IsS68 w0 w' g s0_0 r2∧Below w0.heap.size w0 w'∧KeepBut w w' g none:=by
 have hu30:=Tryz.underlying30;have HI0:=A_ hI;have HK:=A_ (KeepBut.refl w g none);have HL:=A_ hB.size;clear hI;have HW0:=A_ hB.size;have HB:=A_ hB;clear hB;unfold spec_l71Off.f at h
 have H:=h;clear h;replace H:=bindA H;obtain ⟨⟨t396,t399⟩,A2,H⟩:=H;try dsimp only at H
 replace H:=bindA H;obtain ⟨⟨t400,t401⟩,A3,H⟩:=H;try dsimp only at H
 have HF4:=A_ H;clear H;go_enter Tryz.func20,Tryz.ntmps20;go_upto_if 9 with (first|(refine gV 40 (some 6) Tryz.func40 (spec_l71World.calls k g s0_0 s0_1 t396 t399 w0 _ ?side1 ?side2 A2.out) ?_;(case side1=>exact (zz18 HI0));(case side2=>exact (zz20 HB HI0));rintro v397 w5 ⟨ho0,hi,hb,hk⟩;have HO398:=A_ (Kd.R_lower ho0 (keep_size (w:=w) (g:=g) (row:=none) (zz19 HK)));replace HK:=A_ (KeepBut.trans (zz19 HK) hk (.inl rfl));replace HB:=A_ (hb);replace HI0:=A_ (hi);(try clear hb hk hi ho0))|(refine gR 22 (some 8) Tryz.func22 (spec_l6Rd_pick.calls k g s0_0 t399 16 t400 t401 w0 _ ?side1 ?side2 A3.out) ?_;(case side1=>exact (zz18 HI0));(case side2=>exact (zz20 HB HI0));rintro w6 ⟨hi,hb,hk⟩;replace HO398:=A_ (Kd.R_mono (Kd.R_keep (IsS68.apart (show IsS68 w0 _ g s0_0 t399 from (zz18 HI0)) (zz8 HO398) (by decide)) hk (fun _ h=>h.2)) (fun _ h=>h.1));replace HK:=A_ (KeepBut.trans (zz19 HK) hk (.inl rfl));replace HB:=A_ (hb);replace HI0:=A_ (hi);(try clear hb hk hi)))
 obtain ⟨H⟩:=HF4;replace H:=iteEg H;rcases H with ⟨c7b0,H⟩|⟨c7b0,H⟩
 ·(first|rw [c7b0]|(simp only [i64_w,i32_w];rw [c7b0])|skip)
  simp only [Option.some.injEq,Prod.mk.injEq] at H
  obtain ⟨rfl,rfl⟩:=H;go_wp2
  go_ret
  exact ⟨_,zz12,(zz8 HO398),(zz18 HI0),(zz20 HB HI0),(zz19 HK)⟩
 ·(first|rw [c7b0]|(simp only [i64_w,i32_w];rw [c7b0])|skip)
  replace H:=bindA H;obtain ⟨⟨t402,t403⟩,A8,H⟩:=H;try dsimp only at H
  have HF9:=A_ H;clear H;go_upto_if 24 with (first|(refine gR 22 (some 12) Tryz.func22 (spec_l6Rd_pick.calls k g s0_0 t401 5 t402 t403 w0 _ ?side1 ?side2 A8.out) ?_;(case side1=>exact (zz18 HI0));(case side2=>exact (zz20 HB HI0));rintro w10 ⟨hi,hb,hk⟩;replace HO398:=A_ (Kd.R_mono (Kd.R_keep (IsS68.apart (show IsS68 w0 _ g s0_0 t401 from (zz18 HI0)) (zz8 HO398) (by decide)) hk (fun _ h=>h.2)) (fun _ h=>h.1));replace HK:=A_ (KeepBut.trans (zz19 HK) hk (.inl rfl));replace HB:=A_ (hb);replace HI0:=A_ (hi);(try clear hb hk hi)))
  obtain ⟨H⟩:=HF9;replace H:=iteEq H;rcases H with ⟨c11b0,c11b1,H⟩|⟨c11b0,c11b1,c11,H⟩
  ·(first|rw [c11b0]|(simp only [i64_w,i32_w];rw [c11b0])|skip)
   replace H:=iteN H;obtain ⟨c12,H⟩:=H;have c12b0:=dT c12;have c12b1:decide (0 < t396.length)=true:=dT (by omega);clear c12;replace H:=iteN H;obtain ⟨c13,H⟩:=H;have LMc13:=A_ c13;clear c13;obtain ⟨y405,Ny405⟩:=toY (t396++[(⟨(rd_T30 t396 0).f0,(rd_T30 t396 0).f1,(rd_T30 t396 0).f2,(rd_T30 t396 0).f3⟩:S30)]);(first|with_reducible replace H:=bindZ Ny405 H|rw [← Ny405.out] at H|skip)
   simp only [Option.some.injEq,Prod.mk.injEq] at H
   obtain ⟨rfl,rfl⟩:=H;obtain ⟨Ao14,co14,eo14⟩:=Kd.R_slice HO398.out;subst eo14;have p404:0≤(0:Int):=(by omega);have q404:0 < (t396.length:Int):=ofD;obtain ⟨ad404,e404,hx404_0,hx404_1,hx404_2,hx404_3⟩:=at_T30 (Kd.R_reads' HO398.out).2.2 0 p404 q404;cases e404
   have qi404:(0 < t396.length)=True:=eq_true (by omega);(try rw [show ((0:Int)).toNat=0 from rfl] at hx404_0)
   (try rw [show 0 * 4=0 from rfl] at hx404_0)
   (try rw [Addr.add_zero'] at hx404_0)
   (try rw [show ((0:Int)).toNat=0 from rfl] at hx404_1)
   (try rw [show 0 * 4=0 from rfl] at hx404_1)
   (try rw [Addr.add_zero'] at hx404_1)
   (try rw [show ((0:Int)).toNat=0 from rfl] at hx404_2)
   (try rw [show 0 * 4=0 from rfl] at hx404_2)
   (try rw [Addr.add_zero'] at hx404_2)
   (try rw [show ((0:Int)).toNat=0 from rfl] at hx404_3)
   (try rw [show 0 * 4=0 from rfl] at hx404_3)
   (try rw [Addr.add_zero'] at hx404_3)
   replace p404:=eq_true p404;replace q404:=eq_true q404;go_wp2_with (first|((with_reducible refine gate_builtin (b:=.append) (xs:=#[.tmp 26,.tmp 30]) rfl ?_);at_builtin;refine Kd.R_append k30 w.heap.size rfl (.tmp 26) (.tmp 30) 23 30 (.agg #[(.string ⟨#[]⟩),(.string ⟨#[]⟩),(.string ⟨#[]⟩),(.int .i64 0)]) 56 rfl Tryz.underlying23 info30 rfl (by decide) (by omega) (.slice (some ad404) t396.length co14) t396 (⟨(rd_T30 t396 0).f0,(rd_T30 t396 0).f1,(rd_T30 t396 0).f2,(rd_T30 t396 0).f3⟩:S30) [.string ((rd_T30 t396 0).f0),.string ((rd_T30 t396 0).f1),.string ((rd_T30 t396 0).f2),.int .i64 ((rd_T30 t396 0).f3)] (fun _=>True) (fun _=>False) rfl rfl ?aP (fun _ hk=>hk.elim) ?aF ?aO (Below.refl _ _) ?aS ?aL ?_;(case aP=>exact k30_mkM _ _ _ (⟨(rd_T30 t396 0).f0,(rd_T30 t396 0).f1,(rd_T30 t396 0).f2,(rd_T30 t396 0).f3⟩:S30));(case aF=>exact (fun _ _=>trivial));(case aO=>exact (zz8 HO398));(case aS=>exact (keep_size (w:=w) (g:=g) (row:=none) (zz19 HK)));(case aL=>exact (zz3 LMc13));intro v406 w15 ho hb hg hat;rw [← Ny405.out] at ho;replace HB:=A_ (below_weaken (zz20 HB HI0) HL.out hb);replace HI0:=A_ (IsS68.grown (zz18 HI0) hg (IsS68.own_ne HI0.out HO398.out (by decide)));replace HK:=A_ (KeepBut.trans (zz19 HK) (KeepBut.of_grown hg g) (Kd.R_base2 HO398.out));have HO407:=A_ (ho);clear HO398;clear ho hb hg hat))
   go_ret
   exact ⟨_,zz12,(zz8 HO407),(zz18 HI0),(zz20 HB HI0),(zz19 HK)⟩
  ·(first|rw [c11b0]|(simp only [i64_w,i32_w];rw [c11b0])|skip)
   replace H:=iteEq H;rcases H with ⟨c16b0,c16b1,H⟩|⟨c16b0,c16b1,c16,H⟩
   ·replace H:=iteN H
    obtain ⟨c17,H⟩:=H;have c17b0:=dT c17;have c17b1:decide (0 < t396.length)=true:=dT (by omega);clear c17;obtain ⟨y408,Ny408⟩:=toY (t396.set (0:Int).toNat (⟨(rd_T30 t396 0).f0,(rd_T30 t396 0).f1,(rd_T30 t396 0).f2,10⟩:S30));(first|with_reducible replace H:=bindZ Ny408 H|rw [← Ny408.out] at H|skip)
    simp only [Option.some.injEq,Prod.mk.injEq] at H
    obtain ⟨rfl,rfl⟩:=H;have p18:0≤(0:Int):=(by omega);have q18:(0:Int) < ((t396.length:Int):Int):=ofD;have qi18:(0 < t396.length)=True:=eq_true (by omega);obtain ⟨go18,co18,eo18,gb18,gl18,cl18,HG18⟩:=Kd.R_form HO398.out (by omega);(first|cases eo18|(injection eo18 with ea_ en_ ec_;(first|subst ea_|(injection ea_ with ea_;subst ea_));subst ec_;clear en_))
    have GB18:=A_ gb18;have GG18:=A_ HG18;clear gb18 gl18 HG18;obtain ⟨ce18,hcl18,hM18,hcc18,hfr18⟩:=Kd.R_elem HO398.out z30 (0:Int) p18 q18;obtain rfl:=k30_openM hM18;have hx18_0:w10.cell? ⟨go18,(0:Int).toNat * 4,none⟩=some (.string ((rd_T30 t396 0).f0)):=hcc18 0 _ rfl;have hx18_1:w10.cell? ⟨go18,(0:Int).toNat * 4+1,none⟩=some (.string ((rd_T30 t396 0).f1)):=hcc18 1 _ rfl;have hx18_2:w10.cell? ⟨go18,(0:Int).toNat * 4+2,none⟩=some (.string ((rd_T30 t396 0).f2)):=hcc18 2 _ rfl;have hx18_3:w10.cell? ⟨go18,(0:Int).toNat * 4+3,none⟩=some (.int .i64 ((rd_T30 t396 0).f3)):=hcc18 3 _ rfl;have hf18_0:w10.frozen? ⟨go18,(0:Int).toNat * 4,none⟩=false:=hfr18 0;have hf18_1:w10.frozen? ⟨go18,(0:Int).toNat * 4+1,none⟩=false:=hfr18 1;have hf18_2:w10.frozen? ⟨go18,(0:Int).toNat * 4+2,none⟩=false:=hfr18 2;have hf18_3:w10.frozen? ⟨go18,(0:Int).toNat * 4+3,none⟩=false:=hfr18 3;clear hcl18 hcc18 hfr18 hM18;(try rw [show ((0:Int)).toNat=0 from rfl] at hx18_0)
    (try simp only [Nat.reduceMul,Nat.zero_mul,Nat.zero_add,Nat.reduceAdd] at hx18_0)
    (try rw [show ((0:Int)).toNat=0 from rfl] at hf18_0)
    (try simp only [Nat.reduceMul,Nat.zero_mul,Nat.zero_add,Nat.reduceAdd] at hf18_0)
    (try rw [show ((0:Int)).toNat=0 from rfl] at hx18_1)
    (try simp only [Nat.reduceMul,Nat.zero_mul,Nat.zero_add,Nat.reduceAdd] at hx18_1)
    (try rw [show ((0:Int)).toNat=0 from rfl] at hf18_1)
    (try simp only [Nat.reduceMul,Nat.zero_mul,Nat.zero_add,Nat.reduceAdd] at hf18_1)
    (try rw [show ((0:Int)).toNat=0 from rfl] at hx18_2)
    (try simp only [Nat.reduceMul,Nat.zero_mul,Nat.zero_add,Nat.reduceAdd] at hx18_2)
    (try rw [show ((0:Int)).toNat=0 from rfl] at hf18_2)
    (try simp only [Nat.reduceMul,Nat.zero_mul,Nat.zero_add,Nat.reduceAdd] at hf18_2)
    (try rw [show ((0:Int)).toNat=0 from rfl] at hx18_3)
    (try simp only [Nat.reduceMul,Nat.zero_mul,Nat.zero_add,Nat.reduceAdd] at hx18_3)
    (try rw [show ((0:Int)).toNat=0 from rfl] at hf18_3)
    (try simp only [Nat.reduceMul,Nat.zero_mul,Nat.zero_add,Nat.reduceAdd] at hf18_3)
    replace p18:=eq_true p18;replace q18:=eq_true q18;have HX19:=A_ (show Kd.R k30 30 w10 w.heap.size (fun _=>True) (.slice (some ⟨go18,0,none⟩) t396.length co18) t396 from (zz8 HO398));obtain ⟨ce19,hcl19,hM19,hcc19,hfr19⟩:=Kd.R_elem HX19.out z30 (0:Int) (by omega) (by have h_:(0:Int) < ((t396.length:Int):Int):=ofD;first|exact h_|(have e_:=(Kd.R_reads' HO398.out).1;omega)|simpa using h_);obtain rfl:=k30_openM hM19;have HP19:=Kd.R_seg HX19.out (0:Int) (by omega) (by have h_:(0:Int) < ((t396.length:Int):Int):=ofD;first|exact h_|(have e_:=(Kd.R_reads' HO398.out).1;omega)|simpa using h_) (seg:=[.int .i64 10]) (j:=3) hcl19 hcc19 (show 4≤4 from by decide) (x':=(⟨(rd_T30 t396 0).f0,(rd_T30 t396 0).f1,(rd_T30 t396 0).f2,10⟩:S30)) (k30_mkM _ _ _ (⟨(rd_T30 t396 0).f0,(rd_T30 t396 0).f1,(rd_T30 t396 0).f2,10⟩:S30) ) (fun _ hk=>hk);have hx19_3:=hcc19 3 _ rfl;(try simp only [show (k30).sz=4 from rfl,Nat.mul_one,Nat.add_zero] at hx19_3)
    (try rw [show ((0:Int)).toNat=0 from rfl] at hx19_3)
    (try simp only [Nat.reduceMul,Nat.zero_mul,Nat.zero_add,Nat.reduceAdd] at hx19_3)
    have hf19_3:=hfr19 3;(try simp only [show (k30).sz=4 from rfl,Nat.mul_one,Nat.add_zero] at hf19_3)
    (try rw [show ((0:Int)).toNat=0 from rfl] at hf19_3)
    (try simp only [Nat.reduceMul,Nat.zero_mul,Nat.zero_add,Nat.reduceAdd] at hf19_3)
    clear hcl19 hcc19 hfr19 hM19;go_wp2_with (first|((with_reducible refine gate_store (t:=3) (p:=36) rfl ?_);refine store_event (t:=3) (p:=36) (v:=?vo_w20) (w1:=(w10.setCell ⟨go18,3,none⟩ (.int .i64 10))) ?hg ?ho ?hn ?hr ?_;(case ho=>rfl);(case hg=>rfl);(case hn=>rfl);(case hr=>exact zz26);intro w20 hw;have hg:w10.grownBy w20 (some go18):=(by rw [hw];exact HP19.2);have hp_:Kd.R k30 30 w20 w.heap.size (fun _=>True) (.slice (some ⟨go18,0,none⟩) t396.length co18) y408:=(by rw [hw,Ny408.out];exact HP19.1);clear HP19;replace HI0:=A_ (IsS68.grown (zz18 HI0) hg (IsS68.own_ne HI0.out HO398.out (by decide)));replace HB:=A_ ((by rw [hw];exact below_set (HB.out) (Nat.le_trans HL.out GB18.out):Below w0.heap.size w0 w20));replace HK:=A_ (KeepBut.trans (zz19 HK) (KeepBut.of_grown hg g) (Kd.R_base2 HO398.out));replace HO398:=A_ (hp_);clear hg hw hp_))
    go_ret
    exact ⟨_,zz12,(zz8 HO398),(zz18 HI0),(zz20 HB HI0),(zz19 HK)⟩
   ·replace H:=iteEq H
    rcases H with ⟨c21b0,c21b1,H⟩|⟨c21b0,c21b1,c21,H⟩
    ·obtain ⟨y409,Ny409⟩:=toY (([(⟨#[47,47,65,66,47,97]⟩:ByteArray),(⟨#[]⟩:ByteArray),(⟨#[47,47,97,98]⟩:ByteArray)]:List ByteArray))
     (first|with_reducible replace H:=bindZ Ny409 H|rw [← Ny409.out] at H|skip)
     replace H:=bindA H;obtain ⟨⟨t412,t413⟩,A22,H⟩:=H;try dsimp only at H
     replace H:=iteN H;obtain ⟨c23,H⟩:=H;have c23b0:=dT c23;have c23b1:decide (0 < t396.length)=true:=dT (by omega);clear c23;obtain ⟨y414,Ny414⟩:=toY (t396.set (0:Int).toNat (⟨t412,(rd_T30 t396 0).f1,(rd_T30 t396 0).f2,(rd_T30 t396 0).f3⟩:S30));(first|with_reducible replace H:=bindZ Ny414 H|rw [← Ny414.out] at H|skip)
     simp only [Option.some.injEq,Prod.mk.injEq] at H
     obtain ⟨rfl,rfl⟩:=H;go_wp2_with (first|((with_reducible refine gD (N:=41) rfl ?_);refine Kd.R_lit Kd.string _ 9 ?hg (N:=41) ?hd (xs:=([(⟨#[47,47,65,66,47,97]⟩:ByteArray),(⟨#[]⟩:ByteArray),(⟨#[47,47,97,98]⟩:ByteArray)]:List ByteArray)) (inner:=[.string (⟨#[47,47,65,66,47,97]⟩:ByteArray),.string (⟨#[]⟩:ByteArray),.string (⟨#[47,47,97,98]⟩:ByteArray)]) (ok:=fun _=>True) (okp:=fun _=>True) ?hr ?hp (fun _ hk=>hk) trivial (Below.refl _ _) (Nat.le_refl _) (by simp) ?_;(case hd=>rfl);(case hg=>rfl);(case hr=>exact zz26);(case hp=>exact (Reps.one (show Kd.M Kd.string _ _ _ (⟨#[47,47,65,66,47,97]⟩:ByteArray) [.string (⟨#[47,47,65,66,47,97]⟩:ByteArray)] from rfl) (Reps.one (show Kd.M Kd.string _ _ _ (⟨#[]⟩:ByteArray) [.string (⟨#[]⟩:ByteArray)] from rfl) (Reps.one (show Kd.M Kd.string _ _ _ (⟨#[47,47,97,98]⟩:ByteArray) [.string (⟨#[47,47,97,98]⟩:ByteArray)] from rfl) (Reps.none _ _)))));intro v410 w25 ho26 hb hg_ hnew_;clear hg_ hnew_;(first|rw [← Ny409.out] at ho26|(simp only [Int.reduceToNat] at ho26;rw [← Ny409.out] at ho26));replace HO398:=A_ (rB (zz8 HO398) hb);have HO411:=A_ (Kd.R_lower ho26 (keep_size (w:=w) (g:=g) (row:=none) (zz19 HK)));replace HK:=A_ (KeepBut.trans (zz19 HK) (KeepBut.of_below hb g none) (.inl rfl));replace HB:=A_ (bS (zz20 HB HI0) hb);replace HI0:=A_ (IsS68.below (zz18 HI0) hb);clear hb ho26;obtain ⟨Ao27,co27,eo27⟩:=Kd.R_slice HO411.out;subst eo27)|(refine gR 41 (some 42) Tryz.func41 (spec_l6Rd_of.calls k g s0_0 t403 _ _ y409 t412 t413 w0 _ ?side1 ?side2 ?side3 ?side4 ?side5 A22.out) ?_;(case side1=>exact (zz18 HI0));(case side2=>exact (zz20 HB HI0));(case side3=>exact (zz33 HO411));(case side4=>exact (Kd.R_reads' HO411.out).2.1);(case side5=>exact far_slice (IsS68.own_ne HI0.out HO411.out (by decide)));rintro w28 ⟨hi,hb,hk⟩;replace HO398:=A_ (Kd.R_mono (Kd.R_keep (IsS68.apart (show IsS68 w0 _ g s0_0 t403 from (zz18 HI0)) (zz8 HO398) (by decide)) hk (fun _ h=>h.2)) (fun _ h=>h.1));replace HO411:=A_ (Kd.R_mono (Kd.R_keep (IsS68.apart (show IsS68 w0 _ g s0_0 t403 from (zz18 HI0)) (zz8 HO411) (by decide)) hk (fun _ h=>h.2)) (fun _ h=>h.1));replace HK:=A_ (KeepBut.trans (zz19 HK) hk (.inl rfl));replace HB:=A_ (hb);replace HI0:=A_ (hi);(try clear hb hk hi);have p24:0≤(0:Int):=(by omega);have q24:(0:Int) < ((t396.length:Int):Int):=ofD;have qi24:(0 < t396.length)=True:=eq_true (by omega);obtain ⟨go24,co24,eo24,gb24,gl24,cl24,HG24⟩:=Kd.R_form HO398.out (by omega);(first|cases eo24|(injection eo24 with ea_ en_ ec_;(first|subst ea_|(injection ea_ with ea_;subst ea_));subst ec_;clear en_));have GB24:=A_ gb24;have GG24:=A_ HG24;clear gb24 gl24 HG24;obtain ⟨ce24,hcl24,hM24,hcc24,hfr24⟩:=Kd.R_elem HO398.out z30 (0:Int) p24 q24;obtain rfl:=k30_openM hM24;have hx24_0:w28.cell? ⟨go24,(0:Int).toNat * 4,none⟩=some (.string ((rd_T30 t396 0).f0)):=hcc24 0 _ rfl;have hx24_1:w28.cell? ⟨go24,(0:Int).toNat * 4+1,none⟩=some (.string ((rd_T30 t396 0).f1)):=hcc24 1 _ rfl;have hx24_2:w28.cell? ⟨go24,(0:Int).toNat * 4+2,none⟩=some (.string ((rd_T30 t396 0).f2)):=hcc24 2 _ rfl;have hx24_3:w28.cell? ⟨go24,(0:Int).toNat * 4+3,none⟩=some (.int .i64 ((rd_T30 t396 0).f3)):=hcc24 3 _ rfl;have hf24_0:w28.frozen? ⟨go24,(0:Int).toNat * 4,none⟩=false:=hfr24 0;have hf24_1:w28.frozen? ⟨go24,(0:Int).toNat * 4+1,none⟩=false:=hfr24 1;have hf24_2:w28.frozen? ⟨go24,(0:Int).toNat * 4+2,none⟩=false:=hfr24 2;have hf24_3:w28.frozen? ⟨go24,(0:Int).toNat * 4+3,none⟩=false:=hfr24 3;clear hcl24 hcc24 hfr24 hM24;(try rw [show ((0:Int)).toNat=0 from rfl] at hx24_0);(try simp only [Nat.reduceMul,Nat.zero_mul,Nat.zero_add,Nat.reduceAdd] at hx24_0);(try rw [show ((0:Int)).toNat=0 from rfl] at hf24_0);(try simp only [Nat.reduceMul,Nat.zero_mul,Nat.zero_add,Nat.reduceAdd] at hf24_0);(try rw [show ((0:Int)).toNat=0 from rfl] at hx24_1);(try simp only [Nat.reduceMul,Nat.zero_mul,Nat.zero_add,Nat.reduceAdd] at hx24_1);(try rw [show ((0:Int)).toNat=0 from rfl] at hf24_1);(try simp only [Nat.reduceMul,Nat.zero_mul,Nat.zero_add,Nat.reduceAdd] at hf24_1);(try rw [show ((0:Int)).toNat=0 from rfl] at hx24_2);(try simp only [Nat.reduceMul,Nat.zero_mul,Nat.zero_add,Nat.reduceAdd] at hx24_2);(try rw [show ((0:Int)).toNat=0 from rfl] at hf24_2);(try simp only [Nat.reduceMul,Nat.zero_mul,Nat.zero_add,Nat.reduceAdd] at hf24_2);(try rw [show ((0:Int)).toNat=0 from rfl] at hx24_3);(try simp only [Nat.reduceMul,Nat.zero_mul,Nat.zero_add,Nat.reduceAdd] at hx24_3);(try rw [show ((0:Int)).toNat=0 from rfl] at hf24_3);(try simp only [Nat.reduceMul,Nat.zero_mul,Nat.zero_add,Nat.reduceAdd] at hf24_3);replace p24:=eq_true p24;replace q24:=eq_true q24;have HX29:=A_ (show Kd.R k30 30 w28 w.heap.size (fun _=>True) (.slice (some ⟨go24,0,none⟩) t396.length co24) t396 from (zz8 HO398));obtain ⟨ce29,hcl29,hM29,hcc29,hfr29⟩:=Kd.R_elem HX29.out z30 (0:Int) (by omega) (by have h_:(0:Int) < ((t396.length:Int):Int):=ofD;first|exact h_|(have e_:=(Kd.R_reads' HO398.out).1;omega)|simpa using h_);obtain rfl:=k30_openM hM29;have HP29:=Kd.R_seg HX29.out (0:Int) (by omega) (by have h_:(0:Int) < ((t396.length:Int):Int):=ofD;first|exact h_|(have e_:=(Kd.R_reads' HO398.out).1;omega)|simpa using h_) (seg:=[.string t412]) (j:=0) hcl29 hcc29 (show 1≤4 from by decide) (x':=(⟨t412,(rd_T30 t396 0).f1,(rd_T30 t396 0).f2,(rd_T30 t396 0).f3⟩:S30)) (k30_mkM _ _ _ (⟨t412,(rd_T30 t396 0).f1,(rd_T30 t396 0).f2,(rd_T30 t396 0).f3⟩:S30) ) (fun _ hk=>hk);have hx29_0:=hcc29 0 _ rfl;(try simp only [show (k30).sz=4 from rfl,Nat.mul_one,Nat.add_zero] at hx29_0);(try rw [show ((0:Int)).toNat=0 from rfl] at hx29_0);(try simp only [Nat.reduceMul,Nat.zero_mul,Nat.zero_add,Nat.reduceAdd] at hx29_0);have hf29_0:=hfr29 0;(try simp only [show (k30).sz=4 from rfl,Nat.mul_one,Nat.add_zero] at hf29_0);(try rw [show ((0:Int)).toNat=0 from rfl] at hf29_0);(try simp only [Nat.reduceMul,Nat.zero_mul,Nat.zero_add,Nat.reduceAdd] at hf29_0);clear hcl29 hcc29 hfr29 hM29)|((with_reducible refine gate_store (t:=9) (p:=44) rfl ?_);refine store_event (t:=9) (p:=44) (v:=?vo_w30) (w1:=(w28.setCell ⟨go24,0,none⟩ (.string t412))) ?hg ?ho ?hn ?hr ?_;(case ho=>rfl);(case hg=>rfl);(case hn=>rfl);(case hr=>exact zz26);intro w30 hw;have hg:w28.grownBy w30 (some go24):=(by rw [hw];exact HP29.2);have hp_:Kd.R k30 30 w30 w.heap.size (fun _=>True) (.slice (some ⟨go24,0,none⟩) t396.length co24) y414:=(by rw [hw,Ny414.out];exact HP29.1);clear HP29;replace HI0:=A_ (IsS68.grown (zz18 HI0) hg (IsS68.own_ne HI0.out HO398.out (by decide)));replace HO411:=A_ (Kd.R_over' (v:=(.slice (some ⟨go24,0,none⟩) t396.length co24)) (zz8 HO411) (Kd.R_typed HO398.out) (by decide) hg);replace HB:=A_ ((by rw [hw];exact below_set (HB.out) (Nat.le_trans HL.out GB24.out):Below w0.heap.size w0 w30));replace HK:=A_ (KeepBut.trans (zz19 HK) (KeepBut.of_grown hg g) (Kd.R_base2 HO398.out));replace HO398:=A_ (hp_);clear hg hw hp_))
     go_ret
     exact ⟨_,zz12,(zz8 HO398),(zz18 HI0),(zz20 HB HI0),(zz19 HK)⟩
    ·replace H:=iteEq H
     rcases H with ⟨c31b0,c31b1,H⟩|⟨c31b0,c31b1,c31,H⟩
     ·replace H:=iteN H
      obtain ⟨c32,H⟩:=H;have c32b0:=dT c32;have c32b1:decide (0 < t396.length)=true:=dT (by omega);clear c32;obtain ⟨y415,Ny415⟩:=toY (t396.set (0:Int).toNat (⟨(rd_T30 t396 0).f0,(rd_T30 t396 0).f1,(⟨#[120]⟩:ByteArray),(rd_T30 t396 0).f3⟩:S30));(first|with_reducible replace H:=bindZ Ny415 H|rw [← Ny415.out] at H|skip)
      simp only [Option.some.injEq,Prod.mk.injEq] at H
      obtain ⟨rfl,rfl⟩:=H;have p33:0≤(0:Int):=(by omega);have q33:(0:Int) < ((t396.length:Int):Int):=ofD;have qi33:(0 < t396.length)=True:=eq_true (by omega);obtain ⟨go33,co33,eo33,gb33,gl33,cl33,HG33⟩:=Kd.R_form HO398.out (by omega);(first|cases eo33|(injection eo33 with ea_ en_ ec_;(first|subst ea_|(injection ea_ with ea_;subst ea_));subst ec_;clear en_))
      have GB33:=A_ gb33;have GG33:=A_ HG33;clear gb33 gl33 HG33;obtain ⟨ce33,hcl33,hM33,hcc33,hfr33⟩:=Kd.R_elem HO398.out z30 (0:Int) p33 q33;obtain rfl:=k30_openM hM33;have hx33_0:w10.cell? ⟨go33,(0:Int).toNat * 4,none⟩=some (.string ((rd_T30 t396 0).f0)):=hcc33 0 _ rfl;have hx33_1:w10.cell? ⟨go33,(0:Int).toNat * 4+1,none⟩=some (.string ((rd_T30 t396 0).f1)):=hcc33 1 _ rfl;have hx33_2:w10.cell? ⟨go33,(0:Int).toNat * 4+2,none⟩=some (.string ((rd_T30 t396 0).f2)):=hcc33 2 _ rfl;have hx33_3:w10.cell? ⟨go33,(0:Int).toNat * 4+3,none⟩=some (.int .i64 ((rd_T30 t396 0).f3)):=hcc33 3 _ rfl;have hf33_0:w10.frozen? ⟨go33,(0:Int).toNat * 4,none⟩=false:=hfr33 0;have hf33_1:w10.frozen? ⟨go33,(0:Int).toNat * 4+1,none⟩=false:=hfr33 1;have hf33_2:w10.frozen? ⟨go33,(0:Int).toNat * 4+2,none⟩=false:=hfr33 2;have hf33_3:w10.frozen? ⟨go33,(0:Int).toNat * 4+3,none⟩=false:=hfr33 3;clear hcl33 hcc33 hfr33 hM33;(try rw [show ((0:Int)).toNat=0 from rfl] at hx33_0)
      (try simp only [Nat.reduceMul,Nat.zero_mul,Nat.zero_add,Nat.reduceAdd] at hx33_0)
      (try rw [show ((0:Int)).toNat=0 from rfl] at hf33_0)
      (try simp only [Nat.reduceMul,Nat.zero_mul,Nat.zero_add,Nat.reduceAdd] at hf33_0)
      (try rw [show ((0:Int)).toNat=0 from rfl] at hx33_1)
      (try simp only [Nat.reduceMul,Nat.zero_mul,Nat.zero_add,Nat.reduceAdd] at hx33_1)
      (try rw [show ((0:Int)).toNat=0 from rfl] at hf33_1)
      (try simp only [Nat.reduceMul,Nat.zero_mul,Nat.zero_add,Nat.reduceAdd] at hf33_1)
      (try rw [show ((0:Int)).toNat=0 from rfl] at hx33_2)
      (try simp only [Nat.reduceMul,Nat.zero_mul,Nat.zero_add,Nat.reduceAdd] at hx33_2)
      (try rw [show ((0:Int)).toNat=0 from rfl] at hf33_2)
      (try simp only [Nat.reduceMul,Nat.zero_mul,Nat.zero_add,Nat.reduceAdd] at hf33_2)
      (try rw [show ((0:Int)).toNat=0 from rfl] at hx33_3)
      (try simp only [Nat.reduceMul,Nat.zero_mul,Nat.zero_add,Nat.reduceAdd] at hx33_3)
      (try rw [show ((0:Int)).toNat=0 from rfl] at hf33_3)
      (try simp only [Nat.reduceMul,Nat.zero_mul,Nat.zero_add,Nat.reduceAdd] at hf33_3)
      replace p33:=eq_true p33;replace q33:=eq_true q33;have HX34:=A_ (show Kd.R k30 30 w10 w.heap.size (fun _=>True) (.slice (some ⟨go33,0,none⟩) t396.length co33) t396 from (zz8 HO398));obtain ⟨ce34,hcl34,hM34,hcc34,hfr34⟩:=Kd.R_elem HX34.out z30 (0:Int) (by omega) (by have h_:(0:Int) < ((t396.length:Int):Int):=ofD;first|exact h_|(have e_:=(Kd.R_reads' HO398.out).1;omega)|simpa using h_);obtain rfl:=k30_openM hM34;have HP34:=Kd.R_seg HX34.out (0:Int) (by omega) (by have h_:(0:Int) < ((t396.length:Int):Int):=ofD;first|exact h_|(have e_:=(Kd.R_reads' HO398.out).1;omega)|simpa using h_) (seg:=[.string (⟨#[120]⟩:ByteArray)]) (j:=2) hcl34 hcc34 (show 3≤4 from by decide) (x':=(⟨(rd_T30 t396 0).f0,(rd_T30 t396 0).f1,(⟨#[120]⟩:ByteArray),(rd_T30 t396 0).f3⟩:S30)) (k30_mkM _ _ _ (⟨(rd_T30 t396 0).f0,(rd_T30 t396 0).f1,(⟨#[120]⟩:ByteArray),(rd_T30 t396 0).f3⟩:S30) ) (fun _ hk=>hk);have hx34_2:=hcc34 2 _ rfl;(try simp only [show (k30).sz=4 from rfl,Nat.mul_one,Nat.add_zero] at hx34_2)
      (try rw [show ((0:Int)).toNat=0 from rfl] at hx34_2)
      (try simp only [Nat.reduceMul,Nat.zero_mul,Nat.zero_add,Nat.reduceAdd] at hx34_2)
      have hf34_2:=hfr34 2;(try simp only [show (k30).sz=4 from rfl,Nat.mul_one,Nat.add_zero] at hf34_2)
      (try rw [show ((0:Int)).toNat=0 from rfl] at hf34_2)
      (try simp only [Nat.reduceMul,Nat.zero_mul,Nat.zero_add,Nat.reduceAdd] at hf34_2)
      clear hcl34 hcc34 hfr34 hM34;go_wp2_with (first|((with_reducible refine gate_store (t:=9) (p:=49) rfl ?_);refine store_event (t:=9) (p:=49) (v:=?vo_w35) (w1:=(w10.setCell ⟨go33,2,none⟩ (.string (⟨#[120]⟩:ByteArray)))) ?hg ?ho ?hn ?hr ?_;(case ho=>rfl);(case hg=>rfl);(case hn=>rfl);(case hr=>exact zz26);intro w35 hw;have hg:w10.grownBy w35 (some go33):=(by rw [hw];exact HP34.2);have hp_:Kd.R k30 30 w35 w.heap.size (fun _=>True) (.slice (some ⟨go33,0,none⟩) t396.length co33) y415:=(by rw [hw,Ny415.out];exact HP34.1);clear HP34;replace HI0:=A_ (IsS68.grown (zz18 HI0) hg (IsS68.own_ne HI0.out HO398.out (by decide)));replace HB:=A_ ((by rw [hw];exact below_set (HB.out) (Nat.le_trans HL.out GB33.out):Below w0.heap.size w0 w35));replace HK:=A_ (KeepBut.trans (zz19 HK) (KeepBut.of_grown hg g) (Kd.R_base2 HO398.out));replace HO398:=A_ (hp_);clear hg hw hp_))
      go_ret
      exact ⟨_,zz12,(zz8 HO398),(zz18 HI0),(zz20 HB HI0),(zz19 HK)⟩
     ·have H':=A_ H
      clear H;go_wp2
      go_loopg [3,4] k (fun kq v3 v4 w'=>∃ (x3_1:List (S30)) (x4_1:Int),v4=.int .i64 x4_1∧Aside0 (spec_l71Off.l0 kq x3_1 x4_1 s0_0 t403=some (r1,r2))∧Aside0 (kq≤k)∧Aside0 (Kd.R k30 30 w' w.heap.size (fun _=>True) v3 x3_1)∧Aside0 (IsS68 w0 w' g s0_0 t403)∧Aside0 (KeepBut w w' g none)∧Aside0 (Below w0.heap.size w0 w'))
      case atStart=>exact ⟨(t396),(0),zz0,H',⟨Nat.le_refl _⟩,⟨(zz8 HO398)⟩,⟨(zz18 HI0)⟩,⟨(zz19 HK)⟩,⟨(zz20 HB HI0)⟩⟩
      case round=>
       clear H';obtain ⟨x3_1,x4_1,rfl,HA,HK1,HO_3,HI0,HK,HB⟩:=hrel;cases gk with
       | zero=>exact absurd HA.out (by simp [spec_l71Off.l0])
       | succ k1=>
        obtain ⟨H⟩:=HA;simp only [spec_l71Off.l0] at H
        replace H:=iteEd H;rcases H with ⟨c36b0,H⟩|⟨c36b0,H⟩
        ·replace H:=bindA H
         obtain ⟨t416,A37,H⟩:=H;replace H:=iteN H;obtain ⟨c38,H⟩:=H;have c38b0:=eq_true c38;have c38b1:=dT c38;try have c38b2:(9223372036854775807 < 6+t416.size)=False:=eq_false (Nat.not_lt.2 c38)
         replace H:=iteN H;obtain ⟨c39,H⟩:=H;have LMc39:=A_ c39;clear c39;obtain ⟨y417,Ny417⟩:=toY (x3_1++[(⟨(⟨#[47,47,97,98,47,122]⟩:ByteArray)++t416,(⟨#[]⟩:ByteArray),(⟨#[]⟩:ByteArray),0⟩:S30)]);(first|with_reducible replace H:=bindZ Ny417 H|rw [← Ny417.out] at H|skip)
         have H':=A_ H;clear H;go_wp2_with (first|(refine gR 42 (some 19) Tryz.func42 (spec_l6Dec.calls k1 x4_1 t416 _ A37.out) ?_;rintro w40 hb;replace HO_3:=A_ (rB (zz8 HO_3) hb);replace HK:=A_ (KeepBut.trans (zz19 HK) (KeepBut.of_below hb g none) (.inl rfl));replace HB:=A_ (bS (zz20 HB HI0) hb);replace HI0:=A_ (IsS68.below (zz18 HI0) hb);(try clear hb))|((with_reducible refine gate_builtin (b:=.append) (xs:=#[.tmp 17,.tmp 22]) rfl ?_);at_builtin;refine Kd.R_append k30 w.heap.size rfl (.tmp 17) (.tmp 22) 23 30 (.agg #[(.string ⟨#[]⟩),(.string ⟨#[]⟩),(.string ⟨#[]⟩),(.int .i64 0)]) 56 rfl Tryz.underlying23 info30 rfl (by decide) (by omega) u3 x3_1 (⟨(⟨#[47,47,97,98,47,122]⟩:ByteArray)++t416,(⟨#[]⟩:ByteArray),(⟨#[]⟩:ByteArray),0⟩:S30) [.string ((⟨#[47,47,97,98,47,122]⟩:ByteArray)++t416),.string (⟨#[]⟩:ByteArray),.string (⟨#[]⟩:ByteArray),.int .i64 0] (fun _=>True) (fun _=>False) rfl rfl ?aP (fun _ hk=>hk.elim) ?aF ?aO (Below.refl _ _) ?aS ?aL ?_;(case aP=>exact k30_mkM _ _ _ (⟨(⟨#[47,47,97,98,47,122]⟩:ByteArray)++t416,(⟨#[]⟩:ByteArray),(⟨#[]⟩:ByteArray),0⟩:S30));(case aF=>exact (fun _ _=>trivial));(case aO=>exact (zz8 HO_3));(case aS=>exact (keep_size (w:=w) (g:=g) (row:=none) (zz19 HK)));(case aL=>exact (zz3 LMc39));intro v418 w41 ho hb hg hat;rw [← Ny417.out] at ho;replace HB:=A_ (below_weaken (zz20 HB HI0) HL.out hb);replace HI0:=A_ (IsS68.grown (zz18 HI0) hg (IsS68.own_ne HI0.out HO_3.out (by decide)));replace HK:=A_ (KeepBut.trans (zz19 HK) (KeepBut.of_grown hg g) (Kd.R_base2 HO_3.out));have HO419:=A_ (ho);clear HO_3;clear ho hb hg hat))
         go_roundg k1
         case measure=>have:=HK1.out;omega
         case rel=>exact ⟨(y417),(wrap64 (x4_1+1)),zz0,H',⟨(zz3 HK1)⟩,⟨(zz8 HO419)⟩,⟨(zz18 HI0)⟩,⟨(zz19 HK)⟩,⟨(zz20 HB HI0)⟩⟩
        ·simp only [Option.some.injEq,Prod.mk.injEq] at H
         obtain ⟨rfl,rfl⟩:=H;go_wp2
         go_ret
         exact ⟨_,zz12,(zz8 HO_3),(zz18 HI0),(zz20 HB HI0),(zz19 HK)⟩
def spec_l71Where.j0:Nat→List (S30)→Bool→List Int→Int→Option (ByteArray×Int)
 | 0,_,_,_,_=>none
 | k+1,x1,x12,x1000,x1001=>if x12=true then ((spec_l6Rd_pick.f k x1000 x1001 (x1.length:Int)).bind fun bt422=>(if 0≤bt422.1 then (if bt422.1 < (x1.length:Int) then (some ((rd_T30 x1 bt422.1).f0,bt422.2)) else (none)) else (none))) else ((spec_l71Addr.f k x1000 x1001).bind fun bt425=>(some (bt425.1,bt425.2)))
def spec_l71Where.f (k:Nat) (s0_0:List Int) (s0_1:Int) (l1:List (S30)):Option (ByteArray×Int):=if (l1.length:Int) > 0 then ((spec_l6Rd_pick.f k s0_0 s0_1 3).bind fun bt420=>(spec_l71Where.j0 k l1 (decide (bt420.1 > 0)) s0_0 bt420.2)) else (spec_l71Where.j0 k l1 false s0_0 s0_1)
theorem spec_l71Where.calls (k:Nat) (g:Nat) (s0_0:List Int) (s0_1:Int) (A1:Option Addr) (c1:Nat) (l1:List (S30)) (r1:ByteArray) (r2:Int) (w0 w:World) (hI:IsS68 w0 w g s0_0 s0_1) (hB:Below w0.heap.size w0 w) (hr1:∀ W_,KeepBut w W_ g none→Kd.C k30 W_ A1 l1.length l1) (hc1:l1.length≤c1) (h:spec_l71Where.f k s0_0 s0_1 l1=some (r1,r2)) :
  Calls Tryz.prog 21 #[.pointer (some ⟨g,0,none⟩),.slice A1 l1.length c1] w fun e w'=>e=.returned (.string r1)∧IsS68 w0 w' g s0_0 r2∧Below w0.heap.size w0 w'∧KeepBut w w' g none:=by
 have HR1:=A_ hr1;have HC1:=A_ hc1;clear hr1 hc1;have HI0:=A_ hI;have HK:=A_ (KeepBut.refl w g none);have HL:=A_ hB.size;clear hI;have HW0:=A_ hB.size;have HB:=A_ hB;clear hB;unfold spec_l71Where.f at h
 have H:=h;clear h;have HC3:=A_ H;clear H;go_enter Tryz.func21,Tryz.ntmps21;go_upto_region 1 with (fail)
 go_cut [12] (fun v12 wc=>∃ (kq:Nat) (x12_2:Bool) (x1001_2:Int),v12=.bool x12_2∧Aside0 (spec_l71Where.j0 kq l1 x12_2 s0_0 x1001_2=some (r1,r2))∧Aside0 (kq≤k)∧Aside0 (IsS68 w0 wc g s0_0 x1001_2)∧Aside0 (KeepBut w wc g none)∧Aside0 (Below w0.heap.size w0 wc))
 case first=>
  obtain ⟨H⟩:=HC3;replace H:=iteE H;rcases H with ⟨c4,H⟩|⟨c4,H⟩
  ·have c4b0:=gtT c4
   have c4b1:decide (0 < l1.length)=true:=dT (by omega);clear c4;(first|rw [c4b0]|(simp only [i64_w,i32_w];rw [c4b0])|skip)
   replace H:=bindA H;obtain ⟨⟨t420,t421⟩,A5,H⟩:=H;try dsimp only at H
   have H':=A_ H;clear H;go_wp2_with (first|(go_at_call 22;(with_reducible refine (spec_l6Rd_pick.calls k g s0_0 s0_1 3 t420 t421 w0 _ ?side1 ?side2 A5.out).mono ?_);(case side1=>exact (zz18 HI0));(case side2=>exact (zz20 HB HI0));rintro e w6 ⟨rfl,hi,hb,hk⟩;replace HK:=A_ (KeepBut.trans (zz19 HK) hk (.inl rfl));replace HB:=A_ (hb);replace HI0:=A_ (hi);(try clear hb hk hi)))
   go_meet
   case rel=>exact ⟨_,(decide (t420 > 0)),(t421),zz0,H',⟨zz17⟩,⟨(zz18 HI0)⟩,⟨(zz19 HK)⟩,⟨(zz20 HB HI0)⟩⟩
  ·have c4b0:=gtF c4
   have c4b1:decide (0 < l1.length)=false:=dF (by omega);clear c4;(first|rw [c4b0]|(simp only [i64_w,i32_w];rw [c4b0])|skip)
   have H':=A_ H;clear H;go_wp2
   go_meet
   case rel=>exact ⟨_,(false),(s0_1),zz0,H',⟨zz17⟩,⟨(zz18 HI0)⟩,⟨(zz19 HK)⟩,⟨(zz20 HB HI0)⟩⟩
 case rest=>
  clear HC3;obtain ⟨kq,x12_2,x1001_2,rfl,HA,HJ2,HI0,HK,HB⟩:=hcut;cases kq with
  | zero=>exact absurd HA.out (by simp [spec_l71Where.j0])
  | succ kj2=>
   obtain ⟨H⟩:=HA;simp only [spec_l71Where.j0] at H
   replace H:=iteB H;rcases H with ⟨rfl,H⟩|⟨rfl,H⟩
   ·replace H:=bindA H
    obtain ⟨⟨t422,t423⟩,A8,H⟩:=H;try dsimp only at H
    replace H:=iteNd H;obtain ⟨c9b0,H⟩:=H;replace H:=iteNd H;obtain ⟨c10b0,H⟩:=H;simp only [Option.some.injEq,Prod.mk.injEq] at H
    obtain ⟨rfl,rfl⟩:=H;go_wp2_with (first|(refine gR 22 (some 17) Tryz.func22 (spec_l6Rd_pick.calls kj2 g s0_0 x1001_2 (l1.length:Int) t422 t423 w0 _ ?side1 ?side2 A8.out) ?_;(case side1=>exact (zz18 HI0));(case side2=>exact (zz20 HB HI0));rintro w11 ⟨hi,hb,hk⟩;replace HK:=A_ (KeepBut.trans (zz19 HK) hk (.inl rfl));replace HB:=A_ (hb);replace HI0:=A_ (hi);(try clear hb hk hi);have p424:0≤(t422:Int):=ofD;have q424:t422 < (l1.length:Int):=ofD;obtain ⟨ad424,e424,hx424_0,hx424_1,hx424_2,hx424_3⟩:=at_T30 (Kd.C_foot_now HR1.out HK.out) t422 p424 q424;cases e424;replace p424:=eq_true p424;replace q424:=eq_true q424))
    go_ret
    exact ⟨zz12,(zz18 HI0),(zz20 HB HI0),(zz19 HK)⟩
   ·replace H:=bindA H
    obtain ⟨⟨t425,t426⟩,A12,H⟩:=H;try dsimp only at H
    simp only [Option.some.injEq,Prod.mk.injEq] at H
    obtain ⟨rfl,rfl⟩:=H;go_wp2_with (first|(refine gR 43 (some 22) Tryz.func43 (spec_l71Addr.calls kj2 g s0_0 x1001_2 t425 t426 w0 _ ?side1 ?side2 A12.out) ?_;(case side1=>exact (zz18 HI0));(case side2=>exact (zz20 HB HI0));rintro w13 ⟨hi,hb,hk⟩;replace HK:=A_ (KeepBut.trans (zz19 HK) hk (.inl rfl));replace HB:=A_ (hb);replace HI0:=A_ (hi);(try clear hb hk hi)))
    go_ret
    exact ⟨zz12,(zz18 HI0),(zz20 HB HI0),(zz19 HK)⟩
def spec_DrawWorldFrom.f (k:Nat) (l0:List Int):Option ((List (S30))×ByteArray):=(spec_l6Open.f l0).bind fun bt731=>((spec_l71Off.f k bt731.1 bt731.2).bind fun bt734=>((spec_l71Where.f k bt731.1 bt734.2 bt734.1).bind fun bt738=>(some (bt734.1,bt738.1))))
theorem spec_DrawWorldFrom.calls (k:Nat) (A0:Option Addr) (c0:Nat) (l0:List Int) (r1:List (S30)) (r2:ByteArray) (w:World) (hr0:Kd.C (Kd.int .u8) w A0 l0.length l0) (hc0:l0.length≤c0) (h:spec_DrawWorldFrom.f k l0=some (r1,r2)) :
  Calls Tryz.prog 11 #[.slice A0 l0.length c0] w fun e w'=>∃ v0_:Value,e=.returned (.tuple #[v0_,.string r2])∧Kd.R k30 30 w' w.heap.size (fun _=>True) v0_ r1∧Below w.heap.size w w':=by
 have HR0:=A_ hr0;have HC0:=A_ hc0;clear hr0 hc0;have HB:=A_ (Below.refl w.heap.size w);unfold spec_DrawWorldFrom.f at h
 have H:=h;clear h;replace H:=bindA H;obtain ⟨⟨t731,t732⟩,A2,H⟩:=H;try dsimp only at H
 replace H:=bindA H;obtain ⟨⟨t734,t737⟩,A3,H⟩:=H;try dsimp only at H
 replace H:=bindA H;obtain ⟨⟨t738,t739⟩,A4,H⟩:=H;try dsimp only at H
 simp only [Option.some.injEq,Prod.mk.injEq] at H
 obtain ⟨rfl,rfl⟩:=H;go_enter Tryz.func11,Tryz.ntmps11;go_wp2_with (first|(refine gV 19 (some 7) Tryz.func19 (spec_l6Open.calls _ _ l0 t731 t732 w _ ?side1 ?side2 ?side3 A2.out) ?_;(case side1=>exact (zz5 HB));(case side2=>exact HR0.out);(case side3=>exact HC0.out);rintro g733 w5 ⟨hi,hb,hb2⟩;replace HB:=A_ (hb);have HI733:=A_ (hi);(try clear hb hb2 hi))|(refine gV 20 (some 9) Tryz.func20 (spec_l71Off.calls k g733 t731 t732 t734 t737 w _ ?side1 ?side2 A3.out) ?_;(case side1=>exact (zz18 HI733));(case side2=>exact (zz20 HB HI733));rintro v735 w6 ⟨ho0,hi,hb,hk⟩;have HO736:=A_ (Kd.R_lower ho0 (below_size (zz20 HB HI733)));replace HB:=A_ (hb);replace HI733:=A_ (hi);(try clear hb hk hi ho0);obtain ⟨Ao7,co7,eo7⟩:=Kd.R_slice HO736.out;subst eo7)|((with_reducible refine gC (f:=21) rfl ?_);refine gsL (some 13) Tryz.func21 #[.pointer (some ⟨g733,0,none⟩),.slice Ao7 t734.length co7] ?_;(with_reducible refine (spec_l71Where.calls k g733 t731 t737 _ _ t734 t738 t739 w _ ?side1 ?side2 ?side3 ?side4 A4.out).mono ?_);(case side1=>exact (zz18 HI733));(case side2=>exact (zz20 HB HI733));(case side3=>exact Kd.C_foot_own (IsS68.apart (show IsS68 w _ g733 t731 t737 from (zz18 HI733)) (zz8 HO736) (by decide)) (fun _ h_=>h_.2));(case side4=>exact (Kd.R_reads' HO736.out).2.1);rintro e w8 ⟨rfl,hi,hb,hk⟩;refine ⟨_,rfl,?_⟩;replace HO736:=A_ (Kd.R_mono (Kd.R_keep (IsS68.apart (show IsS68 w _ g733 t731 t737 from (zz18 HI733)) (zz8 HO736) (by decide)) hk (fun _ h=>h.2)) (fun _ h=>h.1));replace HB:=A_ (hb);replace HI733:=A_ (hi);(try clear hb hk hi)))
 go_ret2
 exact ⟨_,zz12,(zz8 HO736),(zz20 HB HI733)⟩
def spec_l1Way.l0:Nat→ByteArray→Bool→List ByteArray→List ByteArray→Int→ByteArray→List ByteArray→Bool→ByteArray→Option (ByteArray×List ByteArray×Bool×ByteArray×Bool)
 | 0,_,_,_,_,_,_,_,_,_=>none
 | k+1,x6,x7,x8,x9,x10,x463000,x463001,x463002,x463003=>if x10 < (x9.length:Int) then (if 0≤x10 then ((spec_EscNorm.f k (rdOf ByteArray.empty x9 x10)).bind fun bt477=>(if bt477.2=true then (if x8.length < 8796093022208 then (spec_l1Way.l0 k x6 x7 (x8++[bt477.1]) x9 (wrap64 (x10+1)) x463000 x463001 x463002 x463003) else (none)) else (some ((⟨#[]⟩:ByteArray),([]:List ByteArray),false,(⟨#[]⟩:ByteArray),false)))) else (none)) else ((spec_EscNorm.f k x6).bind fun bt482=>((spec_PathClean.f k x8).bind fun t484=>(if bt482.2=true then ((spec_AddrOk.f k x463000 t484 x7 bt482.1).bind fun t488=>(if t488=true then (some (x463000,t484,x7,bt482.1,true)) else (some ((⟨#[]⟩:ByteArray),([]:List ByteArray),false,(⟨#[]⟩:ByteArray),false)))) else (some ((⟨#[]⟩:ByteArray),([]:List ByteArray),false,(⟨#[]⟩:ByteArray),false)))))
def spec_l1Way.f (k:Nat) (a0_0:ByteArray) (l0_1:List ByteArray) (a0_2:Bool) (a0_3:ByteArray) (a1:ByteArray):Option (ByteArray×List ByteArray×Bool×ByteArray×Bool):=(spec_l1Cut.f k a1 63).bind fun bt464=>((some (([]:List ByteArray):List ByteArray)).bind fun y467=>(if y467.length+l0_1.length < 8796093022208 then ((spec_l1Split.f k bt464.1 47).bind fun t473=>(spec_l1Way.l0 k bt464.2.1 bt464.2.2 (y467++l0_1) t473 0 a0_0 l0_1 a0_2 a0_3)) else (none)))
def spec_l1Way.T12:Bool×List (List Nat×List Nat):=(true,[([],[]),([0],[0]),([],[]),([2],[2]),([],[]),([],[]),([1,3,4,5],[1,3,4,5]),([],[]),([7,6,3,0,1,2,3,4,5,6,7],[6,7])])
def spec_l1Way.B12:List Nat:=[0,1,0,4,0,0,63,0,255]
theorem spec_l1Way.tab12:rtab .any (opsOf Tryz.f96 12)=spec_l1Way.T12:=by kernel_rfl
theorem spec_l1Way.bits12:waitsOk spec_l1Way.T12.2 spec_l1Way.B12=true:=by kernel_rfl
theorem spec_l1Way.calls (k:Nat) (a0_0:ByteArray) (A0_1:Option Addr) (c0_1:Nat) (l0_1:List ByteArray) (a0_2:Bool) (a0_3:ByteArray) (a1:ByteArray) (r1:ByteArray) (r2:List ByteArray) (r3:Bool) (r4:ByteArray) (r5:Bool) (w:World) (hr0_1:Kd.C Kd.string w A0_1 l0_1.length l0_1) (hc0_1:l0_1.length≤c0_1) (h:spec_l1Way.f k a0_0 l0_1 a0_2 a0_3 a1=some (r1,r2,r3,r4,r5)) :
  Calls Tryz.prog 96 #[.agg #[.string a0_0,.slice A0_1 l0_1.length c0_1,.bool a0_2,.string a0_3],.string a1] w fun e w'=>∃ v1_:Value,e=.returned (.tuple #[.agg #[.string r1,v1_,.bool r3,.string r4],.bool r5])∧Kd.R Kd.string 9 w' w.heap.size (fun _=>True) v1_ r2∧Below w.heap.size w w':=by
 have hu39:=Tryz.underlying39;have HR0_1:=A_ hr0_1;have HC0_1:=A_ hc0_1;clear hr0_1 hc0_1;have HB:=A_ (Below.refl w.heap.size w);unfold spec_l1Way.f at h
 have H:=h;clear h;replace H:=bindA H;obtain ⟨⟨t464,t465,t466⟩,A3,H⟩:=H;try dsimp only at H
 obtain ⟨y467,Ny467,H⟩:=bindY H;replace H:=iteE H;rcases H with ⟨c4,H⟩|⟨c4,H⟩
 ·have LMc4:=A_ c4
  clear c4;obtain ⟨y470,Ny470⟩:=toY (y467++l0_1);(first|with_reducible replace H:=bindZ Ny470 H|rw [← Ny470.out] at H|skip)
  replace H:=bindA H;obtain ⟨t473,A5,H⟩:=H;have H':=A_ H;clear H;go_enter Tryz.func96,Tryz.ntmps96;go_wp2_with (first|(refine boxF 2 #[.string a0_0,.slice A0_1 l0_1.length c0_1,.bool a0_2,.string a0_3] 39 ?_;intro gb462 hg w6 BK462 hb;have GE462:=geB hg (zz5 HB);replace HB:=A_ (bS (zz5 HB) hb);clear hb hg)|(refine boxF 4 #[.string (⟨#[]⟩:ByteArray),.slice none 0 0,.bool false,.string (⟨#[]⟩:ByteArray)] 39 ?_;intro gb463 hg w7 BK463 hb;have GE463:=geB hg (zz16 HB GE462);replace HB:=A_ (bS (zz16 HB GE462) hb);have NB462_463:=A_ ((by rw [hg];exact Nat.ne_of_lt (blk_lt (zz15 BK462)):gb462≠gb463));have NB463_462:=A_ ((by rw [hg];exact Nat.ne_of_gt (blk_lt (zz15 BK462)):gb463≠gb462));replace BK462:=A_ (bB (zz15 BK462) hb);clear hb hg)|(refine gR 70 (some 18) Tryz.func70 (spec_l1Cut.calls k a1 63 t464 t465 t466 _ A3.out) ?_;rintro w' ⟨nd,rfl⟩)|((with_reducible refine gD (N:=22) rfl ?_);refine Kd.R_lit Kd.string _ 9 ?hg (N:=22) ?hd (xs:=([]:List ByteArray)) (inner:=[]) (ok:=fun _=>True) (okp:=fun _=>True) ?hr ?hp (fun _ hk=>hk) trivial (Below.refl _ _) (Nat.le_refl _) (by simp) ?_;(case hd=>rfl);(case hg=>rfl);(case hr=>exact zz26);(case hp=>exact (Reps.none _ _));intro v468 w8 ho9 hb hg_ hnew_;clear hg_ hnew_;(first|rw [← Ny467.out] at ho9|(simp only [Int.reduceToNat] at ho9;rw [← Ny467.out] at ho9));have HO469:=A_ (Kd.R_lower ho9 (below_size (zz73 HB GE462 GE463)));replace BK462:=A_ (bB (zz15 BK462) hb);replace BK463:=A_ (bB (zz15 BK463) hb);replace HB:=A_ (bS (zz73 HB GE462 GE463) hb);clear hb ho9;have hnb10:=NB462_463.out;have hnc10:=NB463_462.out;obtain ⟨_,_,_,_,_,_,_,_⟩:=cf4 BK462)|((with_reducible refine gate_builtin (b:=.append) (xs:=#[.tmp 22,.tmp 24]) rfl ?_);at_builtin;refine Kd.R_append_rows Kd.string (w0:=w) w.heap.size rfl (.tmp 22) (.tmp 24) 35 9 (.string ⟨#[]⟩) 16 rfl Tryz.underlying35 info9 rfl (by decide) (by omega) v468 y467 l0_1 _ _ _ (fun _=>True) (fun _=>False) rfl rfl ?aO ?aR (fun _ _ h=>h) (fun _ h=>h.elim) ?aF ?aB ?aS ?aL ?_;(case aR=>exact (zz98 HR0_1 HB));(case aB=>exact (zz73 HB GE462 GE463));(case aF=>exact (fun _ _=>trivial));(case aO=>exact (zz8 HO469));(case aS=>exact (below_size (zz73 HB GE462 GE463)));(case aL=>exact (zz3 LMc4));intro v471 w12 ho hb hg hat;rw [← Ny470.out] at ho;replace BK462:=A_ (blk_grown (zz15 BK462) hg (Kd.R_ne HO469.out BK462.out (by decide)));replace BK463:=A_ (blk_grown (zz15 BK463) hg (Kd.R_ne HO469.out BK463.out (by decide)));replace HB:=A_ (hb);have HO472:=A_ (ho);clear HO469;clear ho hb hg hat)|(refine gV 119 (some 27) Tryz.func119 (spec_l1Split.calls k t464 47 t473 _ A5.out) ?_;rintro v474 w13 ⟨ho0,hb⟩;have HO475:=A_ (Kd.R_lower (Kd.R_new' ho0 (Kd.R_lt (zz8 HO472))) (below_size (zz73 HB GE462 GE463)));replace HO472:=A_ (Kd.R_elder' (zz8 HO472) (Kd.R_base ho0) hb);replace BK462:=A_ (bB (zz15 BK462) hb);replace BK463:=A_ (bB (zz15 BK463) hb);replace HB:=A_ (bS (zz73 HB GE462 GE463) hb);(try clear hb ho0)))
  go_loopg [8,10] k (fun kq v8 v10 w'=>∃ (x8_1:List ByteArray) (x10_1:Int) (x464000_1:ByteArray) (x464002_1:Bool) (x464003_1:ByteArray),v10=.int .i64 x10_1∧Aside0 (spec_l1Way.l0 kq t465 t466 x8_1 t473 x10_1 a0_0 l0_1 a0_2 a0_3=some (r1,r2,r3,r4,r5))∧Aside0 (kq≤k)∧Aside0 (Kd.R Kd.string 9 w' w.heap.size (fun k_=>some k_≠(v474:Value).ownBlock) v8 x8_1)∧Aside0 (Kd.R Kd.string 9 w' w.heap.size (fun k_=>some k_≠(v8:Value).ownBlock) v474 t473)∧Aside0 (w'.heap[gb462]?=some (.cells #[.string a0_0,(.slice A0_1 l0_1.length c0_1),.bool a0_2,.string a0_3] 39 (0,0)))∧Aside0 (w'.heap[gb463]?=some (.cells #[.string x464000_1,(.slice none 0 0),.bool x464002_1,.string x464003_1] 39 (0,0)))∧Aside0 (Below w.heap.size w w'))
  case atStart=>exact ⟨(y470),(0),((⟨#[]⟩:ByteArray)),(false),((⟨#[]⟩:ByteArray)),zz0,H',⟨Nat.le_refl _⟩,⟨(zz94 HO472)⟩,⟨(zz94 HO475)⟩,⟨(zz15 BK462)⟩,⟨(zz15 BK463)⟩,⟨(zz73 HB GE462 GE463)⟩⟩
  case round=>
   clear H';obtain ⟨x8_1,x10_1,x464000_1,x464002_1,x464003_1,rfl,HA,HK1,HO_8,HO_9,BK462,BK463,HB⟩:=hrel;cases gk with
   | zero=>exact absurd HA.out (by simp [spec_l1Way.l0])
   | succ k1=>
    obtain ⟨H⟩:=HA;simp only [spec_l1Way.l0] at H
    replace H:=iteEd H;rcases H with ⟨c14b0,H⟩|⟨c14b0,H⟩
    ·replace H:=iteNd H
     obtain ⟨c15b0,H⟩:=H;replace H:=bindA H;obtain ⟨⟨t477,t478⟩,A16,H⟩:=H;try dsimp only at H
     have HF17:=A_ H;clear H;obtain ⟨Ao18,co18,eo18⟩:=Kd.R_slice HO_9.out;subst eo18;obtain ⟨⟨ad476,e476,hx476_0⟩,p476,q476⟩:=atB (Kd.at_string (Kd.R_reads' HO_9.out).2.2 x10_1);cases e476
     go_upto_if 43 with (first|(refine gR 120 (some 39) Tryz.func120 (spec_EscNorm.calls k1 (rdOf ByteArray.empty t473 x10_1) t477 t478 _ A16.out) ?_;rintro w19 hb;replace HO_8:=A_ (rB (zz8 HO_8) hb);replace HO_9:=A_ (rB (zz8 HO_9) hb);replace BK462:=A_ (bB (zz15 BK462) hb);replace BK463:=A_ (bB (zz15 BK463) hb);replace HB:=A_ (bS (zz73 HB GE462 GE463) hb);(try clear hb)))
     obtain ⟨H⟩:=HF17;replace H:=iteB H;rcases H with ⟨rfl,H⟩|⟨rfl,H⟩
     ·replace H:=iteN H
      obtain ⟨c21,H⟩:=H;have LMc21:=A_ c21;clear c21;obtain ⟨y479,Ny479⟩:=toY (x8_1++[t477]);(first|with_reducible replace H:=bindZ Ny479 H|rw [← Ny479.out] at H|skip)
      have H':=A_ H;clear H;go_wp2_with (first|((with_reducible refine gate_builtin (b:=.append) (xs:=#[.tmp 45,.tmp 47]) rfl ?_);at_builtin;refine Kd.R_append Kd.string (w0:=w) w.heap.size rfl (.tmp 45) (.tmp 47) 35 9 (.string ⟨#[]⟩) 16 rfl Tryz.underlying35 info9 rfl (by decide) (by omega) u8 x8_1 t477 [.string t477] (fun k_=>some k_≠(.slice (some ad476) t473.length co18:Value).ownBlock) (fun _=>False) rfl rfl ?aP (fun _ hk=>hk.elim) ?aF ?aO ?aB ?aS ?aL ?_;(case aP=>exact rfl);(case aB=>exact (zz73 HB GE462 GE463));(case aF=>exact (fun k_ hk=>Kd.fresh' (Kd.R_lt (zz8 HO_9)) k_ hk));(case aO=>exact (zz8 HO_8));(case aS=>exact (below_size (zz73 HB GE462 GE463)));(case aL=>exact (zz3 LMc21));intro v480 w22 ho hb hg hat;rw [← Ny479.out] at ho;replace HO_9:=A_ (Kd.R_after (ok:=(fun _=>True)) (zz96 HO_9) hg hat);replace BK462:=A_ (blk_grown (zz15 BK462) hg (Kd.R_ne HO_8.out BK462.out (by decide)));replace BK463:=A_ (blk_grown (zz15 BK463) hg (Kd.R_ne HO_8.out BK463.out (by decide)));replace HB:=A_ (hb);have HO481:=A_ (ho);clear HO_8;clear ho hb hg hat))
      go_roundg k1
      case measure=>have:=HK1.out;omega
      case rel=>exact ⟨(y479),(wrap64 (x10_1+1)),(x464000_1),(x464002_1),(x464003_1),zz0,H',⟨(zz3 HK1)⟩,⟨(zz8 HO481)⟩,⟨(zz94 HO_9)⟩,⟨(zz15 BK462)⟩,⟨(zz15 BK463)⟩,⟨(zz73 HB GE462 GE463)⟩⟩
     ·simp only [Option.some.injEq,Prod.mk.injEq] at H
      obtain ⟨rfl,rfl,rfl,rfl,rfl⟩:=H;have hnb23:=NB463_462.out;have hnc23:=NB462_463.out;obtain ⟨_,_,_,_,_,_,_,_⟩:=cf4 BK463;go_wp2
      refine pR (results_ct rfl _ _ gb463 39 #[.string (⟨#[]⟩:ByteArray),.slice none 0 0,.bool false,.string (⟨#[]⟩:ByteArray)] (0,0) _ rfl (zz32 BK463) Tryz.underlying39 rfl (by kernel_rfl)) rfl ?_;exact ⟨_,zz12,zz4,(zz73 HB GE462 GE463)⟩
    ·replace H:=bindA H
     obtain ⟨⟨t482,t483⟩,A25,H⟩:=H;try dsimp only at H
     replace H:=bindA H;obtain ⟨t484,A26,H⟩:=H;have HF27:=A_ H;clear H;obtain ⟨Ao28,co28,eo28⟩:=Kd.R_slice HO_9.out;subst eo28;try go_wp2_with (first|(refine gR 120 (some 51) Tryz.func120 (spec_EscNorm.calls k1 t465 t482 t483 _ A25.out) ?_;rintro w29 hb;replace HO_8:=A_ (rB (zz8 HO_8) hb);replace HO_9:=A_ (rB (zz8 HO_9) hb);replace BK462:=A_ (bB (zz15 BK462) hb);replace BK463:=A_ (bB (zz15 BK463) hb);replace HB:=A_ (bS (zz73 HB GE462 GE463) hb);(try clear hb);obtain ⟨Ao30,co30,eo30⟩:=Kd.R_slice HO_8.out;subst eo30))
     replace HO_8:=A_ (Kd.R_drew HO_8.out);replace HO_9:=A_ (Kd.R_drew HO_9.out);replace BK462:=A_ (blk_drew BK462.out);replace BK463:=A_ (blk_drew BK463.out);replace HB:=A_ (below_drew1 HB.out);refine start_ (n:=9) (S:=fun w'=>w'.cell? ⟨gb462,0,none⟩=some (.string a0_0)∧w'.cell? ⟨gb462,1,none⟩=some (.slice A0_1 l0_1.length c0_1)∧w'.cell? ⟨gb462,2,none⟩=some (.bool a0_2)∧w'.cell? ⟨gb462,3,none⟩=some (.string a0_3)) (ds:=[]) #[yF,yF,yF,yF,yF,yF,yF,yF,yF] (by kernel_rfl) rfl rfl ⟨(blk_cell BK462.out 0).trans rfl,(blk_cell BK462.out 1).trans rfl,(blk_cell BK462.out 2).trans rfl,(blk_cell BK462.out 3).trans rfl⟩ (fun hHeld=>?_);refine with_tabW spec_l1Way.tab12 spec_l1Way.bits12 (fun HT_ HW_=>?_);generalize w29.drew=w31 at HO_8 HO_9 BK462 BK463 HB hHeld ⊢;refine pureZ 0 (some 54) #[yT,yF,yF,yF,yF,yF,yF,yF,yF] ?_;refine pureZ 2 (some 56) #[yT,yF,yT,yF,yF,yF,yF,yF,yF] ?_;refine pureZ 4 (some 58) #[yT,yF,yT,yF,yT,yF,yF,yF,yF] ?_;refine pureZ 5 (some 59) #[yT,yF,yT,yF,yT,yT,yF,yF,yF] ?_;refine takeZ4 1 (some 55) #[yT,yT,yT,yF,yT,yT,yF,yF,yF] hHeld ?_;refine join_ (σ:=Value×Nat) 1 #[yT,yT,yT,yT,yT,yT,yT,yT,yF] (fun s_=>[(57,s_.1),(15,.pointer (some ⟨s_.2,0,none⟩)),(60,.agg #[.string a0_0,s_.1,.bool t466,.string t482])]) (fun s_ w'=>(w'.cell? ⟨gb462,0,none⟩=some (.string a0_0)∧w'.cell? ⟨gb462,1,none⟩=some (.slice A0_1 l0_1.length c0_1)∧w'.cell? ⟨gb462,2,none⟩=some (.bool a0_2)∧w'.cell? ⟨gb462,3,none⟩=some (.string a0_3))∧(Kd.R Kd.string 9 w' w.heap.size (fun k_=>some k_≠(.slice Ao30 x8_1.length co30:Value).ownBlock∧some k_≠(.slice Ao28 t473.length co28:Value).ownBlock) s_.1 t484)∧(Kd.R Kd.string 9 w' w.heap.size (fun k_=>some k_≠(s_.1:Value).ownBlock∧some k_≠(.slice Ao28 t473.length co28:Value).ownBlock) (.slice Ao30 x8_1.length co30) x8_1)∧(Kd.R Kd.string 9 w' w.heap.size (fun k_=>some k_≠(s_.1:Value).ownBlock∧some k_≠(.slice Ao30 x8_1.length co30:Value).ownBlock) (.slice Ao28 t473.length co28) t473)∧(w'.heap[gb462]?=some (.cells #[.string a0_0,.slice A0_1 l0_1.length c0_1,.bool a0_2,.string a0_3] 39 (0,0)))∧(w'.heap[gb463]?=some (.cells #[.string x464000_1,.slice none 0 0,.bool x464002_1,.string x464003_1] 39 (0,0)))∧(w'.heap[s_.2]?=some (.cells #[.string (⟨#[]⟩:ByteArray),.slice none 0 0,.bool false,.string (⟨#[]⟩:ByteArray)] 39 (0,0)))∧(w.heap.size≤s_.2)∧(w.heap.size≤s_.2)∧(gb462≠s_.2)∧(s_.2≠gb462)∧(gb463≠s_.2)∧(s_.2≠gb463)∧(Below w.heap.size w w')) ?_ ?_;rotate_left
     ·intro hCont
      refine twoZ 3 7 (some 57) (some 15) #[yT,yT,yT,yT,yT,yT,yF,yF,yF] #[yT,yT,yT,yF,yT,yT,yF,yT,yF] (fun K hK=>?_) (fun K hK=>?_)
      ·skip
       refine goes_ Tryz.func121 (by kernel_rfl) rfl #[.slice Ao30 x8_1.length co30] (by rfl) rfl rfl zz27 ?_;with_reducible refine (spec_PathClean.calls k1 _ _ x8_1 t484 _ ?side1 ?side2 A26.out).mono ?_
       (case side1=>exact (zz33 HO_8))
       (case side2=>exact (Kd.R_reads' HO_8.out).2.1)
       rintro e w32 ⟨v485,rfl,ho0,hb⟩;refine ⟨_,rfl,?_⟩;have HO486:=A_ (Kd.R_lower (Kd.R_new' (Kd.R_new' ho0 (Kd.R_lt (zz8 HO_8))) (Kd.R_lt (zz8 HO_9))) (below_size (zz73 HB GE462 GE463)));replace HO_8:=A_ (Kd.R_elder' (zz8 HO_8) (Kd.R_base ho0) hb);replace HO_9:=A_ (Kd.R_elder' (zz8 HO_9) (Kd.R_base ho0) hb);replace BK462:=A_ (bB (zz15 BK462) hb);replace BK463:=A_ (bB (zz15 BK463) hb);replace HB:=A_ (bS (zz73 HB GE462 GE463) hb);(try clear hb)
       (try clear hb2)
       (try clear hk)
       (try clear hi)
       (try clear ho0)
       obtain ⟨Ao33,co33,eo33⟩:=Kd.R_slice HO486.out;(first|subst eo33|(injection eo33 with f1_ f2_ f3_;have f4_:=f1_.symm;have f5_:=f3_.symm;clear f1_ f2_ f3_;subst f4_;subst f5_))
       refine hK.out _ _ ⟨(blk_cell BK462.out 0).trans rfl,(blk_cell BK462.out 1).trans rfl,(blk_cell BK462.out 2).trans rfl,(blk_cell BK462.out 3).trans rfl⟩ (fun hHeld=>?_);clear hK K;refine nZ 57 ?_;refine pureZ 6 (some 60) #[yT,yT,yT,yT,yT,yT,yT,yF,yF] ?_;refine oneZ 7 (some 15) #[yT,yT,yT,yT,yT,yT,yT,yT,yF] (fun K hK=>?_);refine box_step ?hg (N:=15) ?hd (cs:=#[.string (⟨#[]⟩:ByteArray),.slice none 0 0,.bool false,.string (⟨#[]⟩:ByteArray)]) (t:=39) ?hr ?_;(case hd=>rfl);(case hg=>rfl);(case hr=>exact zz26);intro gb487 hg w34 hbox hb;replace HO_8:=A_ (rB (zz8 HO_8) hb);replace HO_9:=A_ (rB (zz8 HO_9) hb);replace HO486:=A_ (rB (zz8 HO486) hb);have BK487:=A_ (hbox);have GW487:=A_ ((by rw [hg];exact (below_size (zz73 HB GE462 GE463)):w.heap.size≤gb487));have GE487:=A_ ((by rw [hg];exact (below_size (zz73 HB GE462 GE463)):w.heap.size≤gb487));replace HB:=A_ (bS (zz73 HB GE462 GE463) hb);have NB462_487:=A_ ((by rw [hg];exact Nat.ne_of_lt (blk_lt (zz15 BK462)):gb462≠gb487));have NB487_462:=A_ ((by rw [hg];exact Nat.ne_of_gt (blk_lt (zz15 BK462)):gb487≠gb462));replace BK462:=A_ (bB (zz15 BK462) hb);have NB463_487:=A_ ((by rw [hg];exact Nat.ne_of_lt (blk_lt (zz15 BK463)):gb463≠gb487));have NB487_463:=A_ ((by rw [hg];exact Nat.ne_of_gt (blk_lt (zz15 BK463)):gb487≠gb463));replace BK463:=A_ (bB (zz15 BK463) hb);clear hb hbox hg;refine hK.out _ _ ⟨(blk_cell BK462.out 0).trans rfl,(blk_cell BK462.out 1).trans rfl,(blk_cell BK462.out 2).trans rfl,(blk_cell BK462.out 3).trans rfl⟩ (fun hHeld=>?_);clear hK K;refine nZ 15 ?_;exact norm_ viaP (hCont (.slice Ao33 t484.length co33,gb487) _ ⟨hHeld,(zz43 HO486),(zz200 HO_8),(zz200 HO_9),(zz15 BK462),(zz15 BK463),(zz15 BK487),GW487.out,GE487.out,NB462_487.out,NB487_462.out,NB463_487.out,NB487_463.out,(zz201 HB GE462 GE463 GE487)⟩)
      ·skip
       refine box_step ?hg (N:=15) ?hd (cs:=#[.string (⟨#[]⟩:ByteArray),.slice none 0 0,.bool false,.string (⟨#[]⟩:ByteArray)]) (t:=39) ?hr ?_;(case hd=>rfl);(case hg=>rfl);(case hr=>exact zz26);intro gb487 hg w32 hbox hb;replace HO_8:=A_ (rB (zz8 HO_8) hb);replace HO_9:=A_ (rB (zz8 HO_9) hb);have BK487:=A_ (hbox);have GW487:=A_ ((by rw [hg];exact (below_size (zz73 HB GE462 GE463)):w.heap.size≤gb487));have GE487:=A_ ((by rw [hg];exact (below_size (zz73 HB GE462 GE463)):w.heap.size≤gb487));replace HB:=A_ (bS (zz73 HB GE462 GE463) hb);have NB462_487:=A_ ((by rw [hg];exact Nat.ne_of_lt (blk_lt (zz15 BK462)):gb462≠gb487));have NB487_462:=A_ ((by rw [hg];exact Nat.ne_of_gt (blk_lt (zz15 BK462)):gb487≠gb462));replace BK462:=A_ (bB (zz15 BK462) hb);have NB463_487:=A_ ((by rw [hg];exact Nat.ne_of_lt (blk_lt (zz15 BK463)):gb463≠gb487));have NB487_463:=A_ ((by rw [hg];exact Nat.ne_of_gt (blk_lt (zz15 BK463)):gb487≠gb463));replace BK463:=A_ (bB (zz15 BK463) hb);clear hb hbox hg;refine hK.out _ _ ⟨(blk_cell BK462.out 0).trans rfl,(blk_cell BK462.out 1).trans rfl,(blk_cell BK462.out 2).trans rfl,(blk_cell BK462.out 3).trans rfl⟩ (fun hHeld=>?_);clear hK K;refine nZ 15 ?_;refine oneZ 3 (some 57) #[yT,yT,yT,yT,yT,yT,yF,yT,yF] (fun K hK=>?_);refine goes_ Tryz.func121 (by kernel_rfl) rfl #[.slice Ao30 x8_1.length co30] (by rfl) rfl rfl zz27 ?_;with_reducible refine (spec_PathClean.calls k1 _ _ x8_1 t484 _ ?side1 ?side2 A26.out).mono ?_
       (case side1=>exact (zz33 HO_8))
       (case side2=>exact (Kd.R_reads' HO_8.out).2.1)
       rintro e w33 ⟨v485,rfl,ho0,hb⟩;refine ⟨_,rfl,?_⟩;have HO486:=A_ (Kd.R_lower (Kd.R_new' (Kd.R_new' ho0 (Kd.R_lt (zz8 HO_8))) (Kd.R_lt (zz8 HO_9))) (below_size (zz201 HB GE462 GE463 GE487)));replace HO_8:=A_ (Kd.R_elder' (zz8 HO_8) (Kd.R_base ho0) hb);replace HO_9:=A_ (Kd.R_elder' (zz8 HO_9) (Kd.R_base ho0) hb);replace BK462:=A_ (bB (zz15 BK462) hb);replace BK463:=A_ (bB (zz15 BK463) hb);replace BK487:=A_ (bB (zz15 BK487) hb);replace HB:=A_ (bS (zz201 HB GE462 GE463 GE487) hb);(try clear hb)
       (try clear hb2)
       (try clear hk)
       (try clear hi)
       (try clear ho0)
       obtain ⟨Ao34,co34,eo34⟩:=Kd.R_slice HO486.out;(first|subst eo34|(injection eo34 with f1_ f2_ f3_;have f4_:=f1_.symm;have f5_:=f3_.symm;clear f1_ f2_ f3_;subst f4_;subst f5_))
       refine hK.out _ _ ⟨(blk_cell BK462.out 0).trans rfl,(blk_cell BK462.out 1).trans rfl,(blk_cell BK462.out 2).trans rfl,(blk_cell BK462.out 3).trans rfl⟩ (fun hHeld=>?_);clear hK K;refine nZ 57 ?_;refine pureZ 6 (some 60) #[yT,yT,yT,yT,yT,yT,yT,yT,yF] ?_;exact norm_ viaP (hCont (.slice Ao34 t484.length co34,gb487) _ ⟨hHeld,(zz43 HO486),(zz200 HO_8),(zz200 HO_9),(zz15 BK462),(zz15 BK463),(zz15 BK487),GW487.out,GE487.out,NB462_487.out,NB487_462.out,NB463_487.out,NB487_463.out,(zz201 HB GE462 GE463 GE487)⟩)
     rintro ⟨v485,gb487⟩ w35 ⟨hS_,h0_,h1_,h2_,h3_,h4_,h5_,h6_,h7_,h8_,h9_,h10_,h11_,h12_⟩;have n0_:=A_ h0_;have n1_:=A_ h1_;have n2_:=A_ h2_;have n3_:=A_ h3_;have n4_:=A_ h4_;have n5_:=A_ h5_;have n6_:=A_ h6_;have n7_:=A_ h7_;have n8_:=A_ h8_;have n9_:=A_ h9_;have n10_:=A_ h10_;have n11_:=A_ h11_;have n12_:=A_ h12_;(try dsimp only at n0_ n1_ n2_ n3_ n4_ n5_ n6_ n7_ n8_ n9_ n10_ n11_ n12_)
     clear HO_8;clear HO_9;clear BK462;clear BK463;clear HB;clear h0_ h1_ h2_ h3_ h4_ h5_ h6_ h7_ h8_ h9_ h10_ h11_ h12_;have HO486:=n0_;have HO_8:=n1_;have HO_9:=n2_;have BK462:=n3_;have BK463:=n4_;have BK487:=n5_;have GW487:=n6_;have GE487:=n7_;have NB462_487:=n8_;have NB487_462:=n9_;have NB463_487:=n10_;have NB487_463:=n11_;have HB:=n12_;clear n0_ n1_ n2_ n3_ n4_ n5_ n6_ n7_ n8_ n9_ n10_ n11_ n12_;have hHeld:w35.cell? ⟨gb462,0,none⟩=some (.string a0_0)∧w35.cell? ⟨gb462,1,none⟩=some (.slice A0_1 l0_1.length c0_1)∧w35.cell? ⟨gb462,2,none⟩=some (.bool a0_2)∧w35.cell? ⟨gb462,3,none⟩=some (.string a0_3):=hS_;obtain ⟨Ao36,co36,eo36⟩:=Kd.R_slice HO486.out;(first|subst eo36|(injection eo36 with f1_ f2_ f3_;have f4_:=f1_.symm;have f5_:=f3_.symm;clear f1_ f2_ f3_;subst f4_;subst f5_))
     refine norm_ (a':=?_) ?_ ?_;rotate_left
     ·simp only [putAll,Act.put,List.setIfInBounds_toArray,List.set_cons_zero,List.set_cons_succ]
      rfl
     refine oneZ 8 (none) #[yT,yT,yT,yT,yT,yT,yT,yT,yT] (fun K hK=>?_);have hs37:w35.cell? ⟨gb487,0,none⟩=some (.string (⟨#[]⟩:ByteArray)):=(blk_cell BK487.out 0).trans rfl;have hfs37:=blk_frozen BK487.out 0;have hns37_0:=NB462_487.out;have hns37_1:=NB463_487.out;have hms37_0:=NB487_462.out;have hms37_1:=NB487_463.out;have hs38:w35.cell? ⟨gb487,1,none⟩=some (.slice none 0 0):=(blk_cell BK487.out 1).trans rfl;have hfs38:=blk_frozen BK487.out 1;have hns38_0:=NB462_487.out;have hns38_1:=NB463_487.out;have hms38_0:=NB487_462.out;have hms38_1:=NB487_463.out;have hs39:w35.cell? ⟨gb487,2,none⟩=some (.bool false):=(blk_cell BK487.out 2).trans rfl;have hfs39:=blk_frozen BK487.out 2;have hns39_0:=NB462_487.out;have hns39_1:=NB463_487.out;have hms39_0:=NB487_462.out;have hms39_1:=NB487_463.out;have hs40:w35.cell? ⟨gb487,3,none⟩=some (.string (⟨#[]⟩:ByteArray)):=(blk_cell BK487.out 3).trans rfl;have hfs40:=blk_frozen BK487.out 3;have hns40_0:=NB462_487.out;have hns40_1:=NB463_487.out;have hms40_0:=NB487_462.out;have hms40_1:=NB487_463.out;refine skip_ (w1:=?_) (by rfl) rfl ?_ ?_;rotate_left
     ·go_simp
      rfl
     refine hK.out _ _ ⟨((cell_far (p:=⟨gb487,_,none⟩) NB462_487.out _).trans (((cell_far (p:=⟨gb487,_,none⟩) NB462_487.out _).trans (((cell_far (p:=⟨gb487,_,none⟩) NB462_487.out _).trans (((cell_far (p:=⟨gb487,_,none⟩) NB462_487.out _).trans (hHeld.1)))))))),((cell_far (p:=⟨gb487,_,none⟩) NB462_487.out _).trans (((cell_far (p:=⟨gb487,_,none⟩) NB462_487.out _).trans (((cell_far (p:=⟨gb487,_,none⟩) NB462_487.out _).trans (((cell_far (p:=⟨gb487,_,none⟩) NB462_487.out _).trans (hHeld.2.1)))))))),((cell_far (p:=⟨gb487,_,none⟩) NB462_487.out _).trans (((cell_far (p:=⟨gb487,_,none⟩) NB462_487.out _).trans (((cell_far (p:=⟨gb487,_,none⟩) NB462_487.out _).trans (((cell_far (p:=⟨gb487,_,none⟩) NB462_487.out _).trans (hHeld.2.2.1)))))))),((cell_far (p:=⟨gb487,_,none⟩) NB462_487.out _).trans (((cell_far (p:=⟨gb487,_,none⟩) NB462_487.out _).trans (((cell_far (p:=⟨gb487,_,none⟩) NB462_487.out _).trans (((cell_far (p:=⟨gb487,_,none⟩) NB462_487.out _).trans (hHeld.2.2.2))))))))⟩ (fun hHeld=>?_);clear hK K;refine done_ (done_of HT_.out (by kernel_rfl)) ?_;have n0_:Aside0 (Kd.R Kd.string 9 ((((w35.setCell ⟨gb487,0,none⟩ (.string a0_0)).setCell ⟨gb487,1,none⟩ (.slice Ao36 t484.length co36)).setCell ⟨gb487,2,none⟩ (.bool t466)).setCell ⟨gb487,3,none⟩ (.string t482)) w.heap.size (fun k_=>some k_≠(.slice Ao28 t473.length co28:Value).ownBlock∧some k_≠(.slice Ao36 t484.length co36:Value).ownBlock) (.slice Ao30 x8_1.length co30) x8_1):=⟨(zz47 (rt HO_8 BK487))⟩;have n1_:Aside0 (Kd.R Kd.string 9 ((((w35.setCell ⟨gb487,0,none⟩ (.string a0_0)).setCell ⟨gb487,1,none⟩ (.slice Ao36 t484.length co36)).setCell ⟨gb487,2,none⟩ (.bool t466)).setCell ⟨gb487,3,none⟩ (.string t482)) w.heap.size (fun k_=>some k_≠(.slice Ao30 x8_1.length co30:Value).ownBlock∧some k_≠(.slice Ao36 t484.length co36:Value).ownBlock) (.slice Ao28 t473.length co28) t473):=⟨(zz47 (rt HO_9 BK487))⟩;have n2_:Aside0 (Kd.R Kd.string 9 ((((w35.setCell ⟨gb487,0,none⟩ (.string a0_0)).setCell ⟨gb487,1,none⟩ (.slice Ao36 t484.length co36)).setCell ⟨gb487,2,none⟩ (.bool t466)).setCell ⟨gb487,3,none⟩ (.string t482)) w.heap.size (fun k_=>some k_≠(.slice Ao30 x8_1.length co30:Value).ownBlock∧some k_≠(.slice Ao28 t473.length co28:Value).ownBlock) (.slice Ao36 t484.length co36) t484):=⟨(zz47 (rt HO486 BK487))⟩;have n3_:Aside0 (((((w35.setCell ⟨gb487,0,none⟩ (.string a0_0)).setCell ⟨gb487,1,none⟩ (.slice Ao36 t484.length co36)).setCell ⟨gb487,2,none⟩ (.bool t466)).setCell ⟨gb487,3,none⟩ (.string t482)).heap[gb462]?=some (.cells #[.string a0_0,.slice A0_1 l0_1.length c0_1,.bool a0_2,.string a0_3] 39 (0,0))):=⟨(zz176 BK462 NB462_487)⟩;have n4_:Aside0 (((((w35.setCell ⟨gb487,0,none⟩ (.string a0_0)).setCell ⟨gb487,1,none⟩ (.slice Ao36 t484.length co36)).setCell ⟨gb487,2,none⟩ (.bool t466)).setCell ⟨gb487,3,none⟩ (.string t482)).heap[gb463]?=some (.cells #[.string x464000_1,.slice none 0 0,.bool x464002_1,.string x464003_1] 39 (0,0))):=⟨(zz176 BK463 NB463_487)⟩;have n5_:Aside0 (((((w35.setCell ⟨gb487,0,none⟩ (.string a0_0)).setCell ⟨gb487,1,none⟩ (.slice Ao36 t484.length co36)).setCell ⟨gb487,2,none⟩ (.bool t466)).setCell ⟨gb487,3,none⟩ (.string t482)).heap[gb487]?=some (.cells #[.string a0_0,.slice Ao36 t484.length co36,.bool t466,.string t482] 39 (0,0))):=⟨(zz32 BK487)⟩;have n6_:Aside0 (Below w.heap.size w ((((w35.setCell ⟨gb487,0,none⟩ (.string a0_0)).setCell ⟨gb487,1,none⟩ (.slice Ao36 t484.length co36)).setCell ⟨gb487,2,none⟩ (.bool t466)).setCell ⟨gb487,3,none⟩ (.string t482))):=⟨(zz201 HB GE462 GE463 GE487)⟩;(try clear HO_8)
     (try clear HO_9)
     (try clear HO486)
     (try clear BK462)
     (try clear BK463)
     (try clear BK487)
     (try clear HB)
     generalize ((((w35.setCell ⟨gb487,0,none⟩ (.string a0_0)).setCell ⟨gb487,1,none⟩ (.slice Ao36 t484.length co36)).setCell ⟨gb487,2,none⟩ (.bool t466)).setCell ⟨gb487,3,none⟩ (.string t482))=w41 at n0_ n1_ n2_ n3_ n4_ n5_ n6_ ⊢;have HO_8:=n0_;have HO_9:=n1_;have HO486:=n2_;have BK462:=n3_;have BK463:=n4_;have BK487:=n5_;have HB:=n6_;clear n0_ n1_ n2_ n3_ n4_ n5_ n6_;go_wp2_with (first|((with_reducible refine atG ?_ ?_ fun K_ hK_=>?_);rfl;exact undecG)|((with_reducible refine atI ?_ fun K_ hK_=>?_);exact undecI))
     refine unG hK_ ?_;clear hK_ K_;obtain ⟨H⟩:=HF27;replace H:=iteB H;rcases H with ⟨rfl,H⟩|⟨rfl,H⟩
     ·(first|refine iteT ?_|refine iteF ?_|skip)
      replace H:=bindA H;obtain ⟨t488,A43,H⟩:=H;have HF44:=A_ H;clear H;have hnb45:=NB487_462.out;have hnc45:=NB462_487.out;have hnb46:=NB487_463.out;have hnc46:=NB463_487.out;obtain ⟨_,_,_,_,_,_,_,_⟩:=cf4 BK487;(try ((with_reducible refine upS ?_);go_simp))
      go_upto_if 67 with (first|(go_at_call 72;(with_reducible refine (spec_AddrOk.calls k1 a0_0 _ _ t484 t466 t482 t488 _ ?side1 ?side2 A43.out).mono ?_);(case side1=>exact (zz33 HO486));(case side2=>exact (Kd.R_reads' HO486.out).2.1);rintro e w48 ⟨rfl,hb⟩;replace HO_8:=A_ (rB (zz8 HO_8) hb);replace HO_9:=A_ (rB (zz8 HO_9) hb);replace HO486:=A_ (rB (zz8 HO486) hb);replace BK462:=A_ (bB (zz15 BK462) hb);replace BK463:=A_ (bB (zz15 BK463) hb);replace BK487:=A_ (bB (zz15 BK487) hb);replace HB:=A_ (bS (zz201 HB GE462 GE463 GE487) hb);(try clear hb)))
      obtain ⟨H⟩:=HF44;replace H:=iteB H;rcases H with ⟨rfl,H⟩|⟨rfl,H⟩
      ·simp only [Option.some.injEq,Prod.mk.injEq] at H
       obtain ⟨rfl,rfl,rfl,rfl,rfl⟩:=H;have hnb50:=NB487_462.out;have hnc50:=NB462_487.out;have hnb51:=NB487_463.out;have hnc51:=NB463_487.out;obtain ⟨_,_,_,_,_,_,_,_⟩:=cf4 BK487;have hnb53:=NB463_462.out;have hnc53:=NB462_463.out;obtain ⟨_,_,_,_,_,_,_,_⟩:=cf4 BK463;go_wp2
       refine pR (results_ct rfl _ _ gb463 39 #[.string a0_0,.slice Ao36 t484.length co36,.bool t466,.string t482] (0,0) _ rfl (zz32 BK463) Tryz.underlying39 rfl (by kernel_rfl)) rfl ?_;exact ⟨_,zz12,(zz47 (rt HO486 BK463)),(zz201 HB GE462 GE463 GE487)⟩
      ·simp only [Option.some.injEq,Prod.mk.injEq] at H
       obtain ⟨rfl,rfl,rfl,rfl,rfl⟩:=H;have hnb55:=NB463_462.out;have hnc55:=NB462_463.out;have hnb56:=NB463_487.out;have hnc56:=NB487_463.out;obtain ⟨_,_,_,_,_,_,_,_⟩:=cf4 BK463;go_wp2
       refine pR (results_ct rfl _ _ gb463 39 #[.string (⟨#[]⟩:ByteArray),.slice none 0 0,.bool false,.string (⟨#[]⟩:ByteArray)] (0,0) _ rfl (zz32 BK463) Tryz.underlying39 rfl (by kernel_rfl)) rfl ?_;exact ⟨_,zz12,zz4,(zz201 HB GE462 GE463 GE487)⟩
     ·(first|refine iteT ?_|refine iteF ?_|skip)
      simp only [Option.some.injEq,Prod.mk.injEq] at H
      obtain ⟨rfl,rfl,rfl,rfl,rfl⟩:=H;have hnb58:=NB463_462.out;have hnc58:=NB462_463.out;have hnb59:=NB463_487.out;have hnc59:=NB487_463.out;obtain ⟨_,_,_,_,_,_,_,_⟩:=cf4 BK463;(try ((with_reducible refine upS ?_);go_simp))
      go_wp2
      refine pR (results_ct rfl _ _ gb463 39 #[.string (⟨#[]⟩:ByteArray),.slice none 0 0,.bool false,.string (⟨#[]⟩:ByteArray)] (0,0) _ rfl (zz32 BK463) Tryz.underlying39 rfl (by kernel_rfl)) rfl ?_;exact ⟨_,zz12,zz4,(zz201 HB GE462 GE463 GE487)⟩
 ·exact absurd H (by simp)
end Go.Proofs.YtpomhjkbgbociaaGreatDoor.P
end
section
namespace Go.Proofs.YtpomhjkbgbociaaGreatDoor.P
open Go.RowKit Go.Proofs.YtpomhjkbgbociaaGreatDoorW.PrintWords Go.Proofs.YtpomhjkbgbociaaGreatDoorW.PrintLast Go.Proofs.YtpomhjkbgbociaaGreatDoorW.PrintMore Go.Proofs.YtpomhjkbgbociaaGreatDoor.B Go.Proofs.YtpomhjkbgbociaaGreatDoor.Ad
set_option linter.unusedVariables false
set_option linter.unusedSimpArgs false
set_option maxHeartbeats 8000000
set_option maxRecDepth 100000
def impl_smallLetters.f (a0:ByteArray):Option (ByteArray):=if a0.size≤140737488351232 then some (smallB a0) else none
theorem impl_smallLetters.calls (a0 r:ByteArray) (w:World) (h:impl_smallLetters.f a0=some r) :
  Calls Tryz.prog 56 #[.string a0] w fun e w'=>e=.returned (.string r)∧Below w.heap.size w w':=by
 unfold impl_smallLetters.f at h
 by_cases hs:a0.size≤140737488351232
 ·rw [if_pos hs] at h
  obtain rfl:=sI h;clear h;have hcv:=Lib.run_convert_string_bytes (P:=Tryz.prog) w 9 22 5 a0 Tryz.underlying9 Tryz.underlying22 Tryz.underlying5;go_enter Tryz.func56,Tryz.ntmps56;go_wp2_with fail
  clear hcv;go_loopw [10] (fun i wr=>∃ k:Nat,k≤a0.size∧i=.int .i64 k∧Aside0 (SmRow w.heap.size a0 k wr)∧Aside0 (Below w.heap.size w wr))
   (fun i _=>a0.size - (intOf i).toNat)
  case atStart=>
   refine ⟨0,Nat.zero_le _,rfl,⟨sm_start w 5 a0⟩,⟨?_⟩⟩;exact sm_below w 5 a0
  case round=>
   obtain ⟨k,hk,rfl,hI,hB⟩:=hrel;by_cases hlt:k < a0.size
   ·have hc:=(hI.out.2 k hlt).1
    have hf:=(hI.out.2 k hlt).2;rw [if_neg (by omega)] at hc;have hset:=A_ (sm_set hI.out hlt);have hskip:=A_ (sm_skip hI.out hlt);clear hI;generalize (L a0).getD k 0=b at hc hset hskip;have hb:=b.toNat_lt;by_cases h1:65≤b.toNat
    ·by_cases h2:b.toNat≤90
     ·have e1:(sm b).toNat=b.toNat+32:=by
       unfold sm
       rw [if_pos ⟨h1,h2⟩,UInt8.toNat_add];have:(32:UInt8).toNat=32:=rfl;omega
      rw [e1,show ((b.toNat+32:Nat):Int)=(b.toNat:Int)+32 from by omega] at hset;clear hskip e1;go_wp2
      exact ⟨⟨k+1,by omega,by go_num,hset,⟨hB.out.setCell (Nat.le_refl _) _⟩⟩,zz202⟩
     ·have e1:sm b=b:=by unfold sm;rw [if_neg (by omega)]
      have hS:Aside0 (SmRow w.heap.size a0 (k+1) wr):=⟨hskip.out e1⟩;clear e1 hset hskip;go_wp2
      exact ⟨⟨k+1,by omega,by go_num,hS,hB⟩,zz202⟩
    ·have e1:sm b=b:=by unfold sm;rw [if_neg (by omega)]
     have hS:Aside0 (SmRow w.heap.size a0 (k+1) wr):=⟨hskip.out e1⟩;clear e1 hset hskip;go_wp2
     exact ⟨⟨k+1,by omega,by go_num,hS,hB⟩,zz202⟩
   ·have ek:k=a0.size:=by omega
    have hcells:∀ j (hj:j < (L (smallB a0)).length),wr.cell? ((⟨w.heap.size,0,none⟩:Addr).add j)=some (.int .u8 ((L (smallB a0))[j].toNat:Int)):=by
     intro j hj;have hj':j < a0.size:=by rw [L_size,smallB,ofL_size,List.length_map,L_size] at hj;exact hj
     rw [add_plain,(hI.out.2 j hj').1,if_pos (by omega)];simp [smallB,L_of,List.getD_eq_getElem?_getD,List.getElem?_eq_getElem (show j < (L a0).length by rw [L_size];exact hj')]
    have hcv:=run_convert_bytes_back (P:=Tryz.prog) wr 22 9 5 ⟨w.heap.size,0,none⟩ (grownCap w a0.size 0 5) (L (smallB a0)) Tryz.underlying22 Tryz.underlying5 Tryz.underlying9 hcells;have hl:(L (smallB a0)).length=a0.size:=by rw [L_size,smallB,ofL_size,List.length_map,L_size]
    rw [hl,show (⟨(L (smallB a0)).toArray⟩:ByteArray)=smallB a0 from of_L _] at hcv;have Hk:=A_ ek;clear ek hcells hl;go_wp2
    go_ret
    exact ⟨rfl,hB.out⟩
 ·rw [if_neg hs] at h;cases h
def spec_l1Small.f (a0:ByteArray):Option (ByteArray):=if a0.size≤140737488351232 then some (smallB a0) else none
theorem spec_l1Small.calls (a0 r:ByteArray) (w:World) (h:spec_l1Small.f a0=some r) :
  Calls Tryz.prog 97 #[.string a0] w fun e w'=>e=.returned (.string r)∧Below w.heap.size w w':=by
 unfold spec_l1Small.f at h
 by_cases hs:a0.size≤140737488351232
 ·rw [if_pos hs] at h
  obtain rfl:=sI h;clear h;have hcv:=Lib.run_convert_string_bytes (P:=Tryz.prog) w 9 22 5 a0 Tryz.underlying9 Tryz.underlying22 Tryz.underlying5;go_enter Tryz.func97,Tryz.ntmps97;go_wp2_with fail
  clear hcv;go_loopw [4] (fun i wr=>∃ k:Nat,k≤a0.size∧i=.int .i64 k∧Aside0 (SmRow w.heap.size a0 k wr)∧Aside0 (Below w.heap.size w wr))
   (fun i _=>a0.size - (intOf i).toNat)
  case atStart=>
   refine ⟨0,Nat.zero_le _,rfl,⟨sm_start w 5 a0⟩,⟨?_⟩⟩;exact sm_below w 5 a0
  case round=>
   obtain ⟨k,hk,rfl,hI,hB⟩:=hrel;by_cases hlt:k < a0.size
   ·have hc:=(hI.out.2 k hlt).1
    have hf:=(hI.out.2 k hlt).2;rw [if_neg (by omega)] at hc;have hset:=A_ (sm_set hI.out hlt);have hskip:=A_ (sm_skip hI.out hlt);clear hI;generalize (L a0).getD k 0=b at hc hset hskip;have hb:=b.toNat_lt;by_cases h1:65≤b.toNat
    ·by_cases h2:b.toNat≤90
     ·have e1:(sm b).toNat=b.toNat+32:=by
       unfold sm
       rw [if_pos ⟨h1,h2⟩,UInt8.toNat_add];have:(32:UInt8).toNat=32:=rfl;omega
      rw [e1,show ((b.toNat+32:Nat):Int)=(b.toNat:Int)+32 from by omega] at hset;clear hskip e1;go_wp2
      exact ⟨⟨k+1,by omega,by go_num,hset,⟨hB.out.setCell (Nat.le_refl _) _⟩⟩,zz202⟩
     ·have e1:sm b=b:=by unfold sm;rw [if_neg (by omega)]
      have hS:Aside0 (SmRow w.heap.size a0 (k+1) wr):=⟨hskip.out e1⟩;clear e1 hset hskip;go_wp2
      exact ⟨⟨k+1,by omega,by go_num,hS,hB⟩,zz202⟩
    ·have e1:sm b=b:=by unfold sm;rw [if_neg (by omega)]
     have hS:Aside0 (SmRow w.heap.size a0 (k+1) wr):=⟨hskip.out e1⟩;clear e1 hset hskip;go_wp2
     exact ⟨⟨k+1,by omega,by go_num,hS,hB⟩,zz202⟩
   ·have ek:k=a0.size:=by omega
    have hcells:∀ j (hj:j < (L (smallB a0)).length),wr.cell? ((⟨w.heap.size,0,none⟩:Addr).add j)=some (.int .u8 ((L (smallB a0))[j].toNat:Int)):=by
     intro j hj;have hj':j < a0.size:=by rw [L_size,smallB,ofL_size,List.length_map,L_size] at hj;exact hj
     rw [add_plain,(hI.out.2 j hj').1,if_pos (by omega)];simp [smallB,L_of,List.getD_eq_getElem?_getD,List.getElem?_eq_getElem (show j < (L a0).length by rw [L_size];exact hj')]
    have hcv:=run_convert_bytes_back (P:=Tryz.prog) wr 22 9 5 ⟨w.heap.size,0,none⟩ (grownCap w a0.size 0 5) (L (smallB a0)) Tryz.underlying22 Tryz.underlying5 Tryz.underlying9 hcells;have hl:(L (smallB a0)).length=a0.size:=by rw [L_size,smallB,ofL_size,List.length_map,L_size]
    rw [hl,show (⟨(L (smallB a0)).toArray⟩:ByteArray)=smallB a0 from of_L _] at hcv;have Hk:=A_ ek;clear ek hcells hl;go_wp2
    go_ret
    exact ⟨rfl,hB.out⟩
 ·rw [if_neg hs] at h;cases h
end Go.Proofs.YtpomhjkbgbociaaGreatDoor.P
end
section
namespace Go.Proofs.YtpomhjkbgbociaaGreatDoor.Ad
open Go.RowKit Go.Proofs.YtpomhjkbgbociaaGreatDoor.P Go.Proofs.YtpomhjkbgbociaaGreatDoorW.PrintWords Go.Proofs.YtpomhjkbgbociaaGreatDoorW.PrintLast Go.Proofs.YtpomhjkbgbociaaGreatDoorW.PrintMore Go.Proofs.YtpomhjkbgbociaaGreatDoor.B
set_option linter.unusedVariables false
set_option linter.unusedSimpArgs false
theorem hex_all:∀ n:Nat,n < 256→spec_l1Hex.f 2 (n:Int)=some (match hexN (UInt8.ofNat n) with|some x=>(x:Int)|none=>-1):=by decide +kernel
theorem plain_all:∀ n:Nat,n < 256→spec_l1Plain.f (n:Int)=some (plainB (UInt8.ofNat n)):=by decide +kernel
theorem sign_all:∀ n:Nat,n < 256→(spec_l1Sign.f (n:Int)).map L=some [37,fig (n / 16),fig (n % 16)]:=by decide +kernel
theorem of_toNat (c:UInt8):UInt8.ofNat c.toNat=c:=UInt8.ofNat_toNat
theorem hex_ev (c:UInt8):Ev (fun k=>spec_l1Hex.f k (c.toNat:Int)) (match hexN c with|some x=>(x:Int)|none=>-1):=by
 refine Ev.of (fun k=>spec_l1Hex.mono _ k) (k:=2) ?_
 have:=hex_all c.toNat c.toNat_lt
 rwa [of_toNat] at this
theorem sign_f (n:Nat) (h:n < 256):spec_l1Sign.f (n:Int)=some (ofL [37,fig (n / 16),fig (n % 16)]):=by
 have:=sign_all n h
 obtain ⟨s,hs,e⟩:=Option.map_eq_some_iff.1 this
 rw [hs,← e,of_L]
theorem nums_one (n:Nat) (h:n < 256):strOfNums [(n:Int) % 256]=ofL [UInt8.ofNat n]:=by
 unfold strOfNums ofL
 simp only [List.map_cons,List.map_nil,ByteArray.mk.injEq]
 congr 2
 rw [show ((n:Int) % 256)=(n:Int) from by omega]
 simp
theorem enc_ev (s acc:ByteArray) (i n:Nat) (h:n < 256) (hi:i < 1000000) (ha:acc.size≤1000000) {r:ByteArray×Bool}
  (H:Ev (fun k=>spec_EscNorm.l0 k s (acc++ofL (encN n)) (i+1:Nat)) r):Ev (fun k=>spec_EscNorm.j2 k s acc (i:Int) (n:Int)) r:=by
 refine Ev.step (fun k=>?_) H
 have hw:wrap64 ((i:Int)+1)=((i+1:Nat):Int):=by rw [w64 (by omega) (by omega)];omega
 simp only [spec_EscNorm.j2]
 rw [show ((n:Int) % 256)=(n:Int) from by omega,plain_all n h]
 simp only [Option.bind_some]
 by_cases hp:plainB (UInt8.ofNat n)=true
 ·have e:=nums_one n h
  rw [show ((n:Int) % 256)=(n:Int) from by omega] at e
  have he:encN n=[UInt8.ofNat n]:=by unfold encN;rw [if_pos hp]
  have hz:=ofL_size [UInt8.ofNat n]
  rw [if_pos hp,e,if_pos (by simp at hz;omega),hw,he]
 ·have he:encN n=[37,fig (n / 16),fig (n % 16)]:=by unfold encN;rw [if_neg hp]
  rw [if_neg hp,sign_f n h]
  simp only [Option.bind_some]
  have hz:=ofL_size [37,fig (n / 16),fig (n % 16)]
  rw [if_pos (by simp at hz;omega),hw,he]
theorem drop_at {l:List UInt8} {i:Nat} (h:i < l.length):l.drop i=l[i] :: l.drop (i+1):=List.drop_eq_getElem_cons h
theorem bt_get (s:ByteArray) (i:Nat) (h:i < (L s).length):bt s i=(((L s)[i]).toNat:Int):=by
 rw [bt_L,List.getD_eq_getElem?_getD,List.getElem?_eq_getElem h];rfl
theorem app_nil (a:ByteArray):a++ofL []=a:=by apply L_inj;rw [L_app,L_of,List.append_nil]
def escR (acc:ByteArray) (o:Option (List UInt8)):ByteArray×Bool:=match o with
 | some r=>(acc++ofL r,true)
 | none=>(⟨#[]⟩,false)
theorem escR_map (acc:ByteArray) (x:List UInt8) (o:Option (List UInt8)):escR acc (o.map (x++·))=escR (acc++ofL x) o:=by
 cases o with
 | none=>rfl
 | some r=>simp only [escR,Option.map_some,ofL_app,ByteArray.append_assoc]
theorem esc_l (s:ByteArray) (hs:s.size≤60) (n:Nat):∀ (i:Nat) (acc:ByteArray),i≤s.size→s.size - i≤n→acc.size≤3 * i →
  Ev (fun k=>spec_EscNorm.l0 k s acc (i:Int)) (escR acc (esc ((L s).drop i))):=by
 have hL:=L_size s
 induction n with
 | zero=>
  intro i acc hi hn ha
  refine Ev.of (fun k=>spec_EscNorm.mono_l k |>.1 _ _ _) (k:=1) ?_
  simp only [spec_EscNorm.l0]
  rw [if_neg (by omega),List.drop_eq_nil_of_le (by omega)]
  simp only [esc,escR]
  rw [app_nil]
 | succ n ih=>
  intro i acc hi hn ha
  by_cases hlt:i < s.size
  ·have hlt':i < (L s).length:=by omega
   rw [drop_at hlt']
   have hb:=bt_get s i hlt'
   by_cases hc:(L s)[i]=37
   ·have hb37:bt s i=37:=by rw [hb,hc];rfl
    have w2:wrap64 ((i:Int)+2)=((i+2:Nat):Int):=by rw [w64 (by omega) (by omega)];omega
    have w1:wrap64 ((i:Int)+1)=((i+1:Nat):Int):=by rw [w64 (by omega) (by omega)];omega
    rw [hc]
    by_cases h2:i+2 < s.size
    ·have g1:i+1 < (L s).length:=by omega
     have g2:i+2 < (L s).length:=by omega
     rw [drop_at g1,drop_at g2]
     have b1:=bt_get s (i+1) g1
     have b2:=bt_get s (i+2) g2
     have q1:=hex_ev (L s)[i+1]
     have q2:=hex_ev (L s)[i+2]
     have l1:=@hexN_lt (L s)[i+1]
     have l2:=@hexN_lt (L s)[i+2]
     generalize (L s)[i+1]=ca at b1 q1 l1 ⊢
     generalize (L s)[i+2]=cb at b2 q2 l2 ⊢
     have e3:i+2+1=i+3:=rfl
     have bad:Ev (fun k=>spec_EscNorm.j1 k s acc (i:Int) true) ((⟨#[]⟩:ByteArray),false):=
      Ev.of (fun k=>spec_EscNorm.mono_l k |>.2.2 _ _ _ _) (k:=1) (by simp [spec_EscNorm.j1])
     refine Ev.step (f:=fun k=>(spec_l1Hex.f k (ca.toNat:Int)).bind fun t=>if t < 0 then spec_EscNorm.j1 k s acc (i:Int) true else (spec_l1Hex.f k (cb.toNat:Int)).bind fun t2=>spec_EscNorm.j1 k s acc (i:Int) (decide (t2 < 0))) (fun k=>?_) ?_
     ·simp only [spec_EscNorm.l0]
      rw [if_pos (by omega),if_pos (by omega),if_pos hb37,w2,w1,if_neg (by omega),if_pos (by omega),if_pos (by omega),b1]
      congr 1
      funext t
      by_cases ht:t < 0
      ·rw [if_pos ht,if_pos ht]
      ·rw [if_neg ht,if_neg ht,if_pos (by omega),if_pos (by omega),b2]
     ·refine Ev.bind q1 ?_
      cases ha':hexN ca with
      | none=>
       rw [esc_bad1 _ _ ha']
       simp only [show ((-1:Int) < 0) from by omega,if_true]
       exact bad
      | some x=>
       have hx:=l1 ha'
       simp only [show ¬ ((x:Int) < 0) from by omega,if_false]
       refine Ev.bind q2 ?_
       cases hb':hexN cb with
       | none=>
        rw [esc_bad2 _ _ hb']
        simp only [show decide ((-1:Int) < 0)=true from by decide]
        exact bad
       | some y=>
        have hy:=l2 hb'
        simp only [show decide ((y:Int) < 0)=false from by simp]
        rw [ha'] at q1
        rw [hb'] at q2
        refine Ev.step (f:=fun k=>(spec_l1Hex.f k (ca.toNat:Int)).bind fun t=>(spec_l1Hex.f k (cb.toNat:Int)).bind fun t2=>spec_EscNorm.j2 k s acc ((i+2:Nat):Int) (wrap64 (wrap64 (t * 16)+t2))) (fun k=>?_) ?_
        ·simp only [spec_EscNorm.j1]
         rw [if_neg (by simp),w1,w2,if_pos (by omega),if_pos (by omega),b1]
         congr 1
         funext t
         rw [if_pos (by omega),if_pos (by omega),b2]
        ·refine Ev.bind q1 (Ev.bind q2 ?_)
         rw [esc_sign _ ha' hb']
         rw [show wrap64 (wrap64 ((x:Int) * 16)+(y:Int))=((x * 16+y:Nat):Int) from by rw [w64 (n:=(x:Int) * 16) (by omega) (by omega),w64 (by omega) (by omega)];omega]
         refine enc_ev s acc (i+2) (x * 16+y) (by omega) (by omega) (by omega) ?_
         rw [escR_map]
         exact ih (i+2+1) _ (by omega) (by omega) (by have z:=ofL_size (encN (x * 16+y));have:=encN_len (x * 16+y);rw [ByteArray.size_append];omega)
    ·rw [esc_short (by rw [List.length_drop];omega)]
     refine Ev.of (fun k=>spec_EscNorm.mono_l k |>.1 _ _ _) (k:=2) ?_
     simp only [spec_EscNorm.l0,spec_EscNorm.j1]
     rw [if_pos (by omega),if_pos (by omega),if_pos hb37,w2,if_pos (by omega)]
     rfl
   ·have hb37:¬ bt s i=37:=by
     rw [hb]
     intro e
     exact hc (UInt8.toNat_inj.1 (by have:(37:UInt8).toNat=37:=rfl;omega))
    rw [esc_plain _ hc]
    have hlt8:=(L s)[i].toNat_lt
    refine Ev.step (f:=fun k=>spec_EscNorm.j2 k s acc (i:Int) (((L s)[i].toNat:Nat):Int)) (fun k=>?_) ?_
    ·simp only [spec_EscNorm.l0]
     rw [if_pos (by omega),if_pos (by omega),if_neg hb37,hb,w64 (by omega) (by omega)]
    ·refine enc_ev s acc i _ (by omega) (by omega) (by omega) ?_
     rw [escR_map]
     exact ih (i+1) _ (by omega) (by omega) (by have z:=ofL_size (encN (L s)[i].toNat);have:=encN_len (L s)[i].toNat;rw [ByteArray.size_append];omega)
  ·refine Ev.of (fun k=>spec_EscNorm.mono_l k |>.1 _ _ _) (k:=1) ?_
   simp only [spec_EscNorm.l0]
   rw [if_neg (by omega),List.drop_eq_nil_of_le (by omega)]
   simp only [esc,escR]
   rw [app_nil]
theorem escNorm_ev (s:ByteArray):Ev (fun k=>spec_EscNorm.f k s) (escNorm s):=by
 unfold spec_EscNorm.f escNorm
 by_cases h:s.size > 60
 ·simp only [show ((s.size:Int) > 60) from by omega,if_true,h]
  exact Ev.now _
 ·simp only [show ¬ ((s.size:Int) > 60) from by omega,if_false,h]
  have:=esc_l s (by omega) s.size 0 ⟨#[]⟩ (by omega) (by omega) (Nat.le_refl 0)
  simp only [List.drop_zero] at this
  have e:escR (⟨#[]⟩:ByteArray) (esc (L s))=escO (esc (L s)):=by
   unfold escR escO
   cases esc (L s) with
   | none=>rfl
   | some r=>simp only [Prod.mk.injEq,and_true];apply L_inj;rw [L_app];rfl
  rw [← e]
  exact this
theorem norm_ev (s:ByteArray):Ev (fun k=>spec_l1Norm.f k s) (isNorm s):=by
 unfold spec_l1Norm.f isNorm
 refine Ev.bind (escNorm_ev s) ?_
 by_cases h:(escNorm s).2=true
 ·simp only [h,if_true,Bool.true_and]
  exact Ev.now _
 ·simp only [h,if_false,Bool.false_and]
  exact Ev.now _
theorem spec_house_l (s:ByteArray) (hs:s.size≤140737488351232) (d:Nat):∀ (k:Nat) (i:Nat),i+d=s.size→d < k →
  spec_l1House.l0 k s (i:Int)=some (smallFrom s d i && (decide (1≤s.size) && decide (s.size≤5))):=by
 induction d with
 | zero=>
  intro k i h hk
  obtain ⟨k,rfl⟩:∃ m,k=m+1:=⟨k - 1,by omega⟩
  simp only [spec_l1House.l0,smallFrom,spec_l6In.f]
  rw [if_neg (by omega)]
  by_cases h1:1≤s.size
  ·rw [if_pos (by omega)];simp [h1];omega
  ·rw [if_neg (by omega)];simp [h1]
 | succ d ih=>
  intro k i h hk
  obtain ⟨k,rfl⟩:∃ m,k=m+1:=⟨k - 1,by omega⟩
  simp only [spec_l1House.l0,smallFrom]
  rw [if_pos (by omega),if_pos (by omega)]
  by_cases h1:bt s i < 97
  ·rw [if_pos h1,if_pos h1];rfl
  ·rw [if_neg h1,if_neg h1]
   by_cases h2:bt s i > 122
   ·rw [if_pos h2,if_pos h2];rfl
   ·rw [if_neg h2,if_neg h2,w64 (by omega) (by omega)]
    exact ih k (i+1) (by omega) (by omega)
theorem house_ev (s:ByteArray) (hs:s.size≤140737488351232):Ev (fun k=>spec_l1House.f k s) (isHouse s):=by
 refine Ev.of (fun k=>spec_l1House.mono _ k) (k:=s.size+1) ?_
 unfold spec_l1House.f
 have:=spec_house_l s hs s.size (s.size+1) 0 (by omega) (by omega)
 rw [show ((0:Nat):Int)=0 from rfl] at this
 rw [this]
 unfold isHouse isSmall
 cases smallFrom s s.size 0 <;> simp
theorem rd_at {l:List ByteArray} {i:Nat} (h:i < l.length):rdOf ByteArray.empty l (i:Int)=l[i]:=by
 unfold rdOf
 rw [List.getD_eq_getElem?_getD,Int.toNat_natCast,List.getElem?_eq_getElem h]
 rfl
structure Parts (ps:List ByteArray):Prop where
 few:ps.length≤1000
 short:∀ p ∈ ps,p.size≤1048576
def fin (asks:Bool) (ask b:ByteArray):ByteArray:=if asks=true then (b++⟨#[63]⟩)++ask else b
theorem path_end (acc house:ByteArray) (parts:List ByteArray) (asks:Bool) (ask:ByteArray) (i:Nat) (hi:i=parts.length) (ha:acc.size≤2000000000) (hq:ask.size≤1048576) :
  Ev (fun k=>spec_l1Path.l0 k acc (i:Int) house parts asks ask) (fin asks ask acc):=by
 refine Ev.of (fun k=>spec_l1Path.mono_l k _ _ _ _ _ _) (k:=1) ?_
 simp only [spec_l1Path.l0,fin]
 rw [if_neg (by omega)]
 by_cases h:asks=true
 ·rw [if_pos h,if_pos h,if_pos (by omega),if_pos (by omega)]
 ·rw [if_neg h,if_neg h]
theorem path_l (house:ByteArray) (parts:List ByteArray) (asks:Bool) (ask:ByteArray) (hP:Parts parts) (hq:ask.size≤1048576) (d:Nat):∀ (i:Nat) (acc:ByteArray),i+d=parts.length→1≤i→(acc.size:Int)≤1+(i:Int) * 1048577 →
  Ev (fun k=>spec_l1Path.l0 k acc (i:Int) house parts asks ask) (fin asks ask ((parts.drop i).foldl (fun a q=>(a++⟨#[47]⟩)++q) acc)):=by
 have hf:=hP.few
 induction d with
 | zero=>
  intro i acc hi _ ha
  rw [List.drop_eq_nil_of_le (by omega)]
  exact path_end acc house parts asks ask i (by omega) (by omega) hq
 | succ d ih=>
  intro i acc hi h1 ha
  have hlt:i < parts.length:=by omega
  have hz:=hP.short parts[i] (List.getElem_mem hlt)
  rw [List.drop_eq_getElem_cons hlt,List.foldl_cons]
  have h47:(⟨#[47]⟩:ByteArray).size=1:=rfl
  have hsz:((acc++(⟨#[47]⟩:ByteArray))++parts[i]).size=acc.size+1+parts[i].size:=by rw [ByteArray.size_append,ByteArray.size_append,h47]
  have f1:(i:Int) < (parts.length:Int):=by omega
  have f2:(i:Int) > 0:=by omega
  have f3:acc.size+1≤9223372036854775807:=by omega
  have f4:0≤(i:Int):=by omega
  have f5:acc.size+1+parts[i].size≤9223372036854775807:=by omega
  have hw:wrap64 ((i:Int)+1)=((i+1:Nat):Int):=by rw [w64 (by omega) (by omega)];omega
  have h:=ih (i+1) ((acc++(⟨#[47]⟩:ByteArray))++parts[i]) (by omega) (by omega) (by rw [hsz];omega)
  refine Ev.step (fun k=>?_) h
  simp only [spec_l1Path.l0]
  rw [if_pos f1,if_pos f2,if_pos f3,if_pos f4,rd_at hlt,if_pos f5,hw]
theorem path_ev (house:ByteArray) (parts:List ByteArray) (asks:Bool) (ask:ByteArray) (hP:Parts parts) (hq:ask.size≤1048576) :
  Ev (fun k=>spec_l1Path.f k house parts asks ask) (pathB parts asks ask):=by
 unfold spec_l1Path.f
 match parts,hP with
 | [],hP=>
  have:=path_end ⟨#[47]⟩ house [] asks ask 0 rfl (by decide) hq
  exact this
 | p :: r,hP=>
  have hz:=hP.short p List.mem_cons_self
  have hs:((⟨#[47]⟩:ByteArray)++p).size=1+p.size:=by rw [ByteArray.size_append];rfl
  refine Ev.step (fun k=>?_) (path_l house (p :: r) asks ask hP hq r.length 1 ((⟨#[47]⟩:ByteArray)++p) (by simp;omega) (by omega) (by omega))
  have h47:(⟨#[47]⟩:ByteArray).size=1:=rfl
  have hr0:rdOf ByteArray.empty (p :: r) 0=p:=rfl
  simp only [spec_l1Path.l0]
  have f1:(0:Int) < ((p :: r).length:Int):=by simp only [List.length_cons];omega
  have f5:(⟨#[47]⟩:ByteArray).size+p.size≤9223372036854775807:=by omega
  rw [if_pos f1,if_neg (by omega),if_pos (by omega),hr0,if_pos f5,w64 (by omega) (by omega)]
  rfl
theorem path_size (parts:List ByteArray) (asks:Bool) (ask:ByteArray) (hP:Parts parts) (hq:ask.size≤1048576):(pathB parts asks ask).size≤2000000000:=by
 have hf:=hP.few
 have hb:((body parts).size:Int)≤1+(parts.length:Int) * 1048577:=by
  match parts,hP with
  | [],_=>simp [body];decide
  | p :: r,hP=>
   have key:∀ (r:List ByteArray) (acc:ByteArray),(∀ q ∈ r,q.size≤1048576)→((r.foldl (fun a q=>(a++⟨#[47]⟩)++q) acc).size:Int)≤(acc.size:Int)+(r.length:Int) * 1048577:=by
    intro r
    induction r with
    | nil=>intro acc _;simp
    | cons q r ih=>
     intro acc h
     have:=ih ((acc++⟨#[47]⟩)++q) (fun x hx=>h x (List.mem_cons_of_mem _ hx))
     have hq:=h q List.mem_cons_self
     have h47:(⟨#[47]⟩:ByteArray).size=1:=rfl
     rw [List.foldl_cons]
     rw [ByteArray.size_append,ByteArray.size_append] at this
     simp only [List.length_cons]
     omega
   have:=key r ((⟨#[47]⟩:ByteArray)++p) (fun x hx=>hP.short x (List.mem_cons_of_mem _ hx))
   have hz:=hP.short p List.mem_cons_self
   have hs:((⟨#[47]⟩:ByteArray)++p).size=1+p.size:=by rw [ByteArray.size_append];rfl
   simp only [body,List.length_cons]
   omega
 unfold pathB
 have h63:(⟨#[63]⟩:ByteArray).size=1:=rfl
 split
 ·rw [ByteArray.size_append,ByteArray.size_append];omega
 ·omega
theorem text_ev (house:ByteArray) (parts:List ByteArray) (asks:Bool) (ask:ByteArray) (hP:Parts parts) (hq:ask.size≤1048576) (hh:house.size≤1048576) :
  Ev (fun k=>spec_l1Text.f k house parts asks ask) (textB house parts asks ask):=by
 unfold spec_l1Text.f
 have hz:=path_size parts asks ask hP hq
 simp only [show 2+house.size≤9223372036854775807 from by omega,if_true]
 refine Ev.bind (path_ev house parts asks ask hP hq) ?_
 simp only [show 2+house.size+(pathB parts asks ask).size≤9223372036854775807 from by omega,if_true]
 exact Ev.now _
theorem ok_l (house:ByteArray) (parts:List ByteArray) (asks:Bool) (ask:ByteArray) (hP:Parts parts) (hq:ask.size≤1048576) (hh:house.size≤1048576) (d:Nat):∀ (i:Nat),i+d=parts.length →
  Ev (fun k=>spec_AddrOk.l0 k (i:Int) house parts asks ask) ((parts.drop i).all partOk && decide ((textB house parts asks ask).size≤60)):=by
 have hf:=hP.few
 induction d with
 | zero=>
  intro i hi
  rw [List.drop_eq_nil_of_le (by omega)]
  simp only [List.all_nil,Bool.true_and]
  refine Ev.step (f:=fun k=>(spec_l1Text.f k house parts asks ask).bind fun t=>some (decide ((t.size:Int)≤60))) (fun k=>?_) (Ev.bind (text_ev house parts asks ask hP hq hh) ?_)
  ·simp only [spec_AddrOk.l0]
   rw [if_neg (by omega)]
  ·have e:decide (((textB house parts asks ask).size:Int)≤60)=decide ((textB house parts asks ask).size≤60):=by rw [Bool.eq_iff_iff];simp;omega
   rw [e]
   exact Ev.now _
 | succ d ih=>
  intro i hi
  have hlt:i < parts.length:=by omega
  rw [List.drop_eq_getElem_cons hlt,List.all_cons]
  refine Ev.step (f:=fun k=>(spec_l1Norm.f k parts[i]).bind fun t=>if t=true then (if parts[i].toList=[] then some false else if parts[i].toList=[46] then some false else if parts[i].toList=[46,46] then some false else spec_AddrOk.l0 k ((i+1:Nat):Int) house parts asks ask) else some false) (fun k=>?_) (Ev.bind (norm_ev parts[i]) ?_)
  ·simp only [spec_AddrOk.l0]
   rw [if_pos (by omega),if_pos (by omega),rd_at hlt,w64 (by omega) (by omega)]
   rfl
  ·by_cases h1:isNorm parts[i]=true
   ·by_cases h2:parts[i].toList=[]
    ·simp only [h1,h2,if_true]
     rw [show partOk parts[i]=false from by simp [partOk,h2]]
     exact Ev.now _
    ·by_cases h3:parts[i].toList=[46]
     ·simp only [h1,h3,if_true]
      rw [show partOk parts[i]=false from by simp [partOk,h3]]
      exact Ev.now _
     ·by_cases h4:parts[i].toList=[46,46]
      ·simp only [h1,h4,if_true]
       rw [show partOk parts[i]=false from by simp [partOk,h4]]
       exact Ev.now _
      ·simp only [h1,h2,h3,h4,if_true,if_false]
       rw [show partOk parts[i]=true from by simp [partOk,h1,h2,h3,h4],Bool.true_and]
       exact ih (i+1) (by omega)
   ·simp only [h1,if_false]
    rw [show partOk parts[i]=false from by simp [partOk,h1]]
    exact Ev.now _
theorem addrOk_ev (house:ByteArray) (parts:List ByteArray) (asks:Bool) (ask:ByteArray) (hP:Parts parts) (hq:ask.size≤1048576) (hh:house.size≤1048576) :
  Ev (fun k=>spec_AddrOk.f k house parts asks ask) (addrOk house parts asks ask):=by
 have hf:=hP.few
 have bad:∀ r,r=false→Ev (fun k=>spec_AddrOk.j0 k true house parts asks ask) r:=fun r hr=>by
  subst hr
  exact Ev.of (fun k=>spec_AddrOk.mono_l k |>.1 _ _ _ _ _) (k:=1) (by simp [spec_AddrOk.j0])
 have good:Ev (fun k=>spec_AddrOk.j0 k false house parts asks ask) (parts.all partOk && decide ((textB house parts asks ask).size≤60)):=by
  refine Ev.step (fun k=>?_) (by simpa using ok_l house parts asks ask hP hq hh parts.length 0 (by omega))
  simp [spec_AddrOk.j0]
 unfold spec_AddrOk.f
 refine Ev.bind (house_ev house (by omega)) ?_
 by_cases h1:isHouse house=true
 ·simp only [h1,if_true]
  by_cases h2:parts.length≤5
  ·simp only [show ¬ ((parts.length:Int) > 5) from by omega,if_false]
   refine Ev.bind (norm_ev ask) ?_
   by_cases h3:isNorm ask=true
   ·simp only [h3,if_true]
    by_cases h4:asks=true
    ·simp only [h4,if_true]
     rw [h4] at good
     rw [show addrOk house parts true ask=(parts.all partOk && decide ((textB house parts true ask).size≤60)) from by simp [addrOk,h1,h2,h3]]
     exact good
    ·rw [show (fun k=>if asks=true then spec_AddrOk.j0 k false house parts asks ask else spec_AddrOk.j0 k (ask.toList != []) house parts asks ask)=(fun k=>spec_AddrOk.j0 k (ask.toList != []) house parts asks ask) from by funext k;rw [if_neg h4]]
     by_cases h5:ask.toList=[]
     ·obtain rfl:asks=false:=by simpa using h4
      simp only [h5,bne_self_eq_false,Bool.false_eq_true,if_false]
      rw [show addrOk house parts false ask=(parts.all partOk && decide ((textB house parts false ask).size≤60)) from by simp [addrOk,h1,h2,h3,h5]]
      exact good
     ·rw [show (ask.toList != ([]:List UInt8))=true from by simp [h5]]
      exact bad _ (by simp [addrOk,h4,h5])
   ·simp only [h3,if_false]
    exact bad _ (by simp [addrOk,h3])
  ·simp only [show (parts.length:Int) > 5 from by omega,if_true]
   exact bad _ (by simp [addrOk,h2])
 ·simp only [h1,if_false]
  exact bad _ (by simp [addrOk,h1])
theorem addrText_ev (house:ByteArray) (parts:List ByteArray) (asks:Bool) (ask:ByteArray) (hP:Parts parts) (hq:ask.size≤1048576) (hh:house.size≤1048576) :
  Ev (fun k=>spec_AddrText.f k house parts asks ask) (addrText house parts asks ask):=by
 unfold spec_AddrText.f addrText
 refine Ev.bind (addrOk_ev house parts asks ask hP hq hh) ?_
 by_cases h:addrOk house parts asks ask=true
 ·simp only [h,if_true]
  exact Ev.bind (text_ev house parts asks ask hP hq hh) (Ev.now _)
 ·simp only [h,if_false]
  exact Ev.now _
def isName (s:ByteArray):Bool:=decide (1≤s.size) && decide (s.size≤8) && isSmall s
theorem spec_name_l (s:ByteArray) (hs:s.size≤140737488351232) (d:Nat):∀ (k:Nat) (i:Nat),i+d=s.size→d < k →
  spec_l2Name.l0 k s (i:Int)=some (smallFrom s d i && (decide (1≤s.size) && decide (s.size≤8))):=by
 induction d with
 | zero=>
  intro k i h hk
  obtain ⟨k,rfl⟩:∃ m,k=m+1:=⟨k - 1,by omega⟩
  simp only [spec_l2Name.l0,smallFrom,spec_l6In.f]
  rw [if_neg (by omega)]
  by_cases h1:1≤s.size
  ·rw [if_pos (by omega)];simp [h1];omega
  ·rw [if_neg (by omega)];simp [h1]
 | succ d ih=>
  intro k i h hk
  obtain ⟨k,rfl⟩:∃ m,k=m+1:=⟨k - 1,by omega⟩
  simp only [spec_l2Name.l0,smallFrom]
  rw [if_pos (by omega),if_pos (by omega)]
  by_cases h1:bt s i < 97
  ·rw [if_pos h1,if_pos h1];rfl
  ·rw [if_neg h1,if_neg h1]
   by_cases h2:bt s i > 122
   ·rw [if_pos h2,if_pos h2];rfl
   ·rw [if_neg h2,if_neg h2,w64 (by omega) (by omega)]
    exact ih k (i+1) (by omega) (by omega)
theorem name_ev (s:ByteArray) (hs:s.size≤140737488351232):Ev (fun k=>spec_l2Name.f k s) (isName s):=by
 refine Ev.of (fun k=>spec_l2Name.mono _ k) (k:=s.size+1) ?_
 unfold spec_l2Name.f
 have:=spec_name_l s hs s.size (s.size+1) 0 (by omega) (by omega)
 rw [show ((0:Nat):Int)=0 from rfl] at this
 rw [this]
 unfold isName isSmall
 cases smallFrom s s.size 0 <;> simp
def cutL (c:UInt8):List UInt8→List UInt8×List UInt8×Bool
 | []=>([],[],false)
 | x :: xs=>if x=c then ([],xs,true) else (x :: (cutL c xs).1,(cutL c xs).2)
theorem cutL_false {c:UInt8}:∀ {l:List UInt8},(cutL c l).2.2=false→(cutL c l).1=l∧(cutL c l).2.1=[]
 | [],_=>by simp [cutL]
 | x :: xs,h=>by
  unfold cutL at h ⊢
  by_cases e:x=c
  ·rw [if_pos e] at h;cases h
  ·rw [if_neg e] at h ⊢
   have:=cutL_false (l:=xs) h
   exact ⟨by rw [this.1],this.2⟩
theorem cutL_true {c:UInt8}:∀ {l:List UInt8},(cutL c l).2.2=true→l=(cutL c l).1++c :: (cutL c l).2.1
 | [],h=>by simp [cutL] at h
 | x :: xs,h=>by
  unfold cutL at h ⊢
  by_cases e:x=c
  ·rw [if_pos e,e];rfl
  ·rw [if_neg e] at h ⊢
   have:=cutL_true (l:=xs) h
   show x :: xs=x :: ((cutL c xs).1++c :: (cutL c xs).2.1)
   rw [← this]
theorem cutL_len {c:UInt8}:∀ (l:List UInt8),(cutL c l).1.length+(cutL c l).2.1.length≤l.length∧((cutL c l).2.2=true→(cutL c l).1.length+(cutL c l).2.1.length+1=l.length)
 | []=>by simp [cutL]
 | x :: xs=>by
  unfold cutL
  by_cases e:x=c
  ·rw [if_pos e];simp
  ·rw [if_neg e]
   have:=cutL_len (c:=c) xs
   simp only [List.length_cons]
   exact ⟨by omega,fun h=>by have:=this.2 h;omega⟩
theorem bt_at {s:ByteArray} {i:Nat} {c:UInt8} {l:List UInt8} (h:(L s).drop i=c :: l):i < s.size∧bt s i=(c.toNat:Int)∧(L s).drop (i+1)=l:=by
 have hl:i < (L s).length:=by
  rcases Nat.lt_or_ge i (L s).length with h'|h'
  ·exact h'
  ·rw [List.drop_eq_nil_of_le h'] at h;cases h
 have hd:(L s).drop i=(L s)[i] :: (L s).drop (i+1):=List.drop_eq_getElem_cons hl
 rw [h] at hd
 injection hd with h1 h2
 refine ⟨by rw [← L_size];exact hl,?_,h2.symm⟩
 rw [bt_L,List.getD_eq_getElem?_getD,List.getElem?_eq_getElem hl,← h1]
 rfl
theorem bt_end {s:ByteArray} {i:Nat} (h:(L s).drop i=[]):s.size≤i:=by
 rw [← L_size];exact List.drop_eq_nil_iff.1 h
theorem u8_eq {a b:UInt8}:((a.toNat:Int)=(b.toNat:Int))↔a=b:=by
 constructor
 ·intro h;exact UInt8.toNat_inj.1 (by omega)
 ·intro h;rw [h]
def cutB (c:UInt8) (s:ByteArray):ByteArray×ByteArray×Bool:=(ofL (cutL c (L s)).1,ofL (cutL c (L s)).2.1,(cutL c (L s)).2.2)
theorem cut_l (s:ByteArray) (c:UInt8) (hs:s.size≤140737488351232):∀ (l:List UInt8) (i:Nat),(L s).drop i=l →
  Ev (fun k=>spec_l1Cut.l0 k s (c.toNat:Int) (i:Int)) (ofL ((L s).take i++(cutL c l).1),ofL (cutL c l).2.1,(cutL c l).2.2)
 | [],i,h=>by
  have:=bt_end h
  have n1:¬ ((i:Int) < (s.size:Int)):=by omega
  refine Ev_succ ?_
  simp only [spec_l1Cut.l0,n1,if_false]
  have e:(L s).take i=L s:=List.take_of_length_le (by rw [L_size];omega)
  simp only [cutL,e,List.append_nil,of_L]
  exact Ev.now _
 | x :: xs,i,h=>by
  obtain ⟨hi,hb,hd⟩:=bt_at h
  refine Ev_succ ?_
  have e1:wrap64 ((i:Int)+1)=((i+1:Nat):Int):=by rw [w64 (by omega) (by omega)];rfl
  have f1:(i:Int) < (s.size:Int):=by omega
  have f2:(0:Int)≤(i:Int):=by omega
  have f3:(i:Int)≤(s.size:Int):=by omega
  have f4:(0:Int)≤((i+1:Nat):Int):=by omega
  have f5:((i+1:Nat):Int)≤(s.size:Int):=by omega
  simp only [spec_l1Cut.l0,e1,f1,f2,f3,f4,f5,if_true,hb,u8_eq]
  unfold cutL
  by_cases e:x=c
  ·simp only [e,if_true]
   have a1:s.extract 0 ((i:Int)).toNat=ofL ((L s).take i++[]):=by
    apply L_inj;rw [L_ext,L_of];simp
   have a2:s.extract ((((i+1:Nat):Int))).toNat s.size=ofL xs:=by
    apply L_inj;rw [L_ext,L_of,Int.toNat_natCast,hd,List.take_of_length_le]
    rw [← hd,List.length_drop,L_size];omega
   rw [a1,a2]
   exact Ev.now _
  ·simp only [e,if_false]
   have:=cut_l s c hs xs (i+1) hd
   have ht:(L s).take (i+1)++(cutL c xs).1=(L s).take i++(x :: (cutL c xs).1):=by
    have hl:i < (L s).length:=by rw [L_size];exact hi
    have:(L s)[i]=x:=by
     have hd2:(L s).drop i=(L s)[i] :: (L s).drop (i+1):=List.drop_eq_getElem_cons hl
     rw [h] at hd2
     injection hd2 with h1 h2
     exact h1.symm
    rw [List.take_succ_eq_append_getElem hl,this]
    simp
   rw [ht] at this
   exact this
theorem cut_ev (s:ByteArray) (c:UInt8) (hs:s.size≤140737488351232):Ev (fun k=>spec_l1Cut.f k s (c.toNat:Int)) (cutB c s):=by
 have:=cut_l s c hs (L s) 0 rfl
 simp only [List.take_zero,List.nil_append] at this
 exact this
def splitN (c:UInt8):Nat→List UInt8→List (List UInt8)
 | 0,l=>[l]
 | n+1,l=>(cutL c l).1 :: (if (cutL c l).2.2=true then splitN c n (cutL c l).2.1 else [])
def splitL (c:UInt8) (l:List UInt8):List (List UInt8):=splitN c (l.length+1) l
theorem splitN_eq (c:UInt8):∀ (n m:Nat) (l:List UInt8),l.length < n→l.length < m→splitN c n l=splitN c m l
 | 0,_,l,h,_=>absurd h (by omega)
 | _+1,0,l,_,h=>absurd h (by omega)
 | n+1,m+1,l,h1,h2=>by
  simp only [splitN]
  by_cases e:(cutL c l).2.2=true
  ·have:=(cutL_len (c:=c) l).2 e
   rw [if_pos e,if_pos e,splitN_eq c n m _ (by omega) (by omega)]
  ·rw [if_neg e,if_neg e]
theorem splitL_eq (c:UInt8) (l:List UInt8):splitL c l=(cutL c l).1 :: (if (cutL c l).2.2=true then splitL c (cutL c l).2.1 else []):=by
 unfold splitL
 rw [splitN]
 by_cases e:(cutL c l).2.2=true
 ·have:=(cutL_len (c:=c) l).2 e
  rw [if_pos e,if_pos e,splitN_eq c _ ((cutL c l).2.1.length+1) _ (by omega) (by omega)]
 ·rw [if_neg e,if_neg e]
theorem splitN_len (c:UInt8):∀ (n:Nat) (l:List UInt8),(splitN c n l).length≤l.length+1
 | 0,l=>by simp [splitN]
 | n+1,l=>by
  simp only [splitN]
  by_cases e:(cutL c l).2.2=true
  ·have:=(cutL_len (c:=c) l).2 e
   have ih:=splitN_len c n (cutL c l).2.1
   rw [if_pos e];simp only [List.length_cons];omega
  ·rw [if_neg e];simp
theorem splitL_len (c:UInt8) (l:List UInt8):(splitL c l).length≤l.length+1:=splitN_len c _ l
theorem split_l (c:UInt8) (n:Nat):∀ (s:ByteArray) (acc:List ByteArray),s.size < n→s.size≤1000000000→acc.length+s.size≤2000000000 →
  Ev (fun k=>spec_l1Split.l0 k (c.toNat:Int) acc s true) (acc++(splitL c (L s)).map ofL):=by
 induction n with
 | zero=>intro s acc h;exact absurd h (by omega)
 | succ n ih=>
  intro s acc h h1 h2
  refine Ev_succ ?_
  simp only [spec_l1Split.l0,if_true]
  refine Ev.bind (cut_ev s c (by omega)) ?_
  have g1:acc.length < 8796093022208:=by omega
  simp only [g1,if_true]
  rw [splitL_eq]
  have hl:=cutL_len (c:=c) (L s)
  rw [L_size] at hl
  by_cases e:(cutL c (L s)).2.2=true
  ·have e':(cutB c s).2.2=true:=e
   have hz:(ofL (cutL c (L s)).2.1).size=(cutL c (L s)).2.1.length:=ofL_size _
   have:=hl.2 e
   have ih':=ih (ofL (cutL c (L s)).2.1) (acc++[ofL (cutL c (L s)).1]) (by omega) (by omega) (by simp only [List.length_append,List.length_singleton];omega)
   rw [if_pos e]
   simp only [cutB,e]
   rw [L_of] at ih'
   simpa using ih'
  ·have e':(cutL c (L s)).2.2=false:=by simpa using e
   rw [if_neg e]
   simp only [cutB,e']
   refine Ev_succ ?_
   simp only [spec_l1Split.l0]
   simp
   exact Ev.now _
theorem split_ev (s:ByteArray) (c:UInt8) (hs:s.size≤1000000000):Ev (fun k=>spec_l1Split.f k s (c.toNat:Int)) ((splitL c (L s)).map ofL):=by
 have:=split_l c (s.size+1) s [] (by omega) hs (by simp;omega)
 rw [List.nil_append] at this
 exact this
def patB (c:UInt8):Bool:=plainB c || c == 47 || c == 42 || c == 63 || c == 37 || (decide (65≤c.toNat) && decide (c.toNat≤70))
def okL:List UInt8→Bool
 | []=>true
 | c :: r=>(patB c || (c == 36 && r.isEmpty)) && okL r
def ruleOk (p:ByteArray):Bool:=decide (1≤p.size) && decide (p.size≤16) && (bt p 0 == 47) && okL (L p)
theorem plain_f (c:UInt8):spec_l1Plain.f (c.toNat:Int)=some (plainB c):=by
 have:=plain_all c.toNat c.toNat_lt
 rwa [of_toNat] at this
theorem ok_spec_l (s:ByteArray) (hs:s.size≤1000000):∀ (l:List UInt8) (i:Nat),(L s).drop i=l→Ev (fun k=>spec_RuleOk.l0 k s (i:Int)) (okL l)
 | [],i,h=>by
  have:=bt_end h
  have n1:¬ ((i:Int) < (s.size:Int)):=by omega
  refine Ev_succ ?_
  simp only [spec_RuleOk.l0,n1,if_false]
  exact Ev.now _
 | x :: xs,i,h=>by
  obtain ⟨hi,hb,hd⟩:=bt_at h
  have e1:wrap64 ((i:Int)+1)=((i+1:Nat):Int):=by rw [w64 (by omega) (by omega)];rfl
  have e2:wrap64 ((s.size:Int) - 1)=(s.size:Int) - 1:=w64 (by omega) (by omega)
  have f1:(i:Int) < (s.size:Int):=by omega
  have f2:(0:Int)≤(i:Int):=by omega
  have hx:xs.length+(i+1)=s.size:=by rw [← L_size,← hd,List.length_drop];rw [L_size];omega
  have hE:xs.isEmpty=decide ((i:Int)=(s.size:Int) - 1):=by
   cases xs with
   | nil=>simp at hx ⊢;omega
   | cons y ys=>simp at hx ⊢;omega
  have ih:=ok_spec_l s hs xs (i+1) hd
  have c1:((x.toNat:Int)=47)↔(x == 47)=true:=by rw [beq_iff_eq];exact u8_eq (b:=47)
  have c2:((x.toNat:Int)=42)↔(x == 42)=true:=by rw [beq_iff_eq];exact u8_eq (b:=42)
  have c3:((x.toNat:Int)=63)↔(x == 63)=true:=by rw [beq_iff_eq];exact u8_eq (b:=63)
  have c4:((x.toNat:Int)=37)↔(x == 37)=true:=by rw [beq_iff_eq];exact u8_eq (b:=37)
  have c5:((x.toNat:Int)=36)↔(x == 36)=true:=by rw [beq_iff_eq];exact u8_eq (b:=36)
  have c6:((x.toNat:Int) ≥ 65)↔(decide (65≤x.toNat))=true:=by rw [decide_eq_true_eq];omega
  have c7:((x.toNat:Int)≤70)↔(decide (x.toNat≤70))=true:=by rw [decide_eq_true_eq];omega
  have c8:((i:Int)=(s.size:Int) - 1)↔xs.isEmpty=true:=by rw [hE,decide_eq_true_eq]
  refine Ev_succ ?_
  simp only [spec_RuleOk.l0,e1,e2,f1,f2,if_true,hb,plain_f,Option.bind_some,okL,patB,c1,c2,c3,c4,c5,c6,c7,c8]
  have yes:Ev (fun k=>spec_RuleOk.l0 k s ((i+1:Nat):Int)) (true && okL xs):=by rw [Bool.true_and];exact ih
  have no:Ev (fun k=>some false) (false && okL xs):=by rw [Bool.false_and];exact Ev.now _
  cases plainB x
  ·cases (x == 47)
   ·cases (x == 42)
    ·cases (x == 63)
     ·cases (x == 37)
      ·cases (x == 36) <;> cases xs.isEmpty <;> cases decide (65≤x.toNat) <;> cases decide (x.toNat≤70) <;> first|exact yes|exact no
      ·exact yes
     ·exact yes
    ·exact yes
   ·exact yes
  ·exact yes
theorem ruleOk_spec (p:ByteArray):Ev (fun k=>spec_RuleOk.f k p) (ruleOk p):=by
 unfold spec_RuleOk.f ruleOk
 by_cases h2:p.size≤16
 ·have n2:¬ (p.size:Int) > 16:=by omega
  by_cases h1:p.size=0
  ·have z:=toList_nil.2 h1
   have n1:¬ 1≤p.size:=by omega
   simp only [n2,if_false,z,if_true,n1,decide_false,Bool.false_and]
   refine Ev_succ ?_
   simp only [spec_RuleOk.j0,if_true]
   exact Ev.now _
  ·have z:¬ p.toList=[]:=fun e=>h1 (toList_nil.1 e)
   have n1:1≤p.size:=by omega
   have n3:(0:Int) < (p.size:Int):=by omega
   simp only [n2,n1,n3,z,h2,if_true,if_false,decide_true,Bool.true_and]
   refine Ev_succ ?_
   by_cases h3:bt p 0=47
   ·simp only [spec_RuleOk.j0,h3,bne_self_eq_false,Bool.false_eq_true,if_false,beq_self_eq_true,Bool.true_and]
    have:=ok_spec_l p (by omega) _ 0 rfl
    rw [List.drop_zero] at this
    exact this
   ·have h4:(bt p 0 != 47)=true:=by simpa using h3
    have h5:(bt p 0 == 47)=false:=by simpa using h3
    simp only [spec_RuleOk.j0,h4,h5,if_true,Bool.false_and]
    exact Ev.now _
 ·have n2:(p.size:Int) > 16:=by omega
  simp only [n2,h2,if_true,decide_false,Bool.and_false,Bool.false_and]
  refine Ev_succ ?_
  simp only [spec_RuleOk.j0,if_true]
  exact Ev.now _
end Go.Proofs.YtpomhjkbgbociaaGreatDoor.Ad
end
section
namespace Go.Proofs.YtpomhjkbgbociaaGreatDoor.P
open Go.RowKit Go.Proofs.YtpomhjkbgbociaaGreatDoorW.PrintWords Go.Proofs.YtpomhjkbgbociaaGreatDoorW.PrintLast Go.Proofs.YtpomhjkbgbociaaGreatDoorW.PrintMore
set_option linter.unusedVariables false
set_option linter.unusedSimpArgs false
set_option maxHeartbeats 8000000
set_option maxRecDepth 100000
def hexS:ByteArray:=⟨#[48,49,50,51,52,53,54,55,56,57,65,66,67,68,69,70]⟩
def figAt (k:Nat):Nat:=if k < 10 then 48+k else 55+k
def figI (b:Int):Int×Bool:=if 48≤b∧b≤57 then (b - 48,true) else if 65≤b∧b≤70 then (b - 55,true) else (0,false)
def impl_figureValue.f (a0:Int):Option (Int×Bool):=if 0≤a0∧a0 < 256 then some (figI (if 97≤a0∧a0≤102 then a0 - 32 else a0)) else none
theorem hex_at:∀ k:Nat,k < 16→hexS.size=16∧∃ h:k < hexS.size,(hexS[k]'h).toNat=figAt k:=by decide +kernel
theorem fig_hit {k:Nat} {b:Int} (hk:k < 16) (h:(figAt k:Int)=b):figI b=((k:Int),true):=by
 unfold figAt at h;unfold figI
 split at h
 ·rw [if_pos (by omega)];congr 1;omega
 ·rw [if_neg (by omega),if_pos (by omega)];congr 1;omega
theorem fig_miss {b:Int} (h:∀ j:Nat,j < 16→(figAt j:Int)≠b):figI b=(0,false):=by
 unfold figI
 split
 ·rename_i hh
  exact absurd (by unfold figAt;rw [if_pos (by omega)];omega) (h (b - 48).toNat (by omega))
 ·split
  ·rename_i hh
   exact absurd (by unfold figAt;rw [if_neg (by omega)];omega) (h (b - 55).toNat (by omega))
  ·rfl
theorem impl_figureValue.calls (a0:Int) (r0:Int) (r1:Bool) (w:World) (h:impl_figureValue.f a0=some (r0,r1)) :
  Calls Tryz.prog 124 #[.int .u8 a0] w fun e w'=>e=.returned (.tuple #[.int .i64 r0,.bool r1])∧Below w.heap.size w w':=by
 unfold impl_figureValue.f at h
 split at h
 case isFalse=>cases h
 rename_i hh
 have h:=sI h;obtain ⟨b,hb⟩:∃ b,b=(if 97≤a0∧a0≤102 then a0 - 32 else a0):=⟨_,rfl⟩;rw [← hb] at h;by_cases h1:97≤a0
 ·by_cases h2:a0≤102
  ·rw [if_pos ⟨h1,h2⟩] at hb
   go_enter Tryz.func124,Tryz.ntmps124;go_wp2
   go_loopw [4] (fun n w'=>∃ k:Nat,k≤16∧w'=w.iter hexS k∧∀ j:Nat,j < k→(figAt j:Int)≠(a0 - 32)) (fun _ w'=>16 - w'.iterPos w.heap.size)
   case atStart=>exact ⟨0,by omega,rfl,fun j hj=>absurd hj (by omega)⟩
   case round=>
    obtain ⟨k,hk,rfl,hne⟩:=hrel;have hbel:∀ p,Below w.heap.size w (w.iter hexS p):=fun p=>(Below.refl _ _).alloc (Nat.le_refl _) _
    by_cases hlt:k < 16
    ·obtain ⟨hsz,hx,hf⟩:=hex_at k hlt
     have hnx:∀ ty,(Instr.next (.pointer (some ⟨w.heap.size,0,none⟩)) true ty).run Tryz.prog (w.iter hexS k)=.ok (.tuple #[.bool true,.int .i64 k,.int .i32 (figAt k:Nat)]) (w.iter hexS (k+1)):=fun ty=>by
      have hfl:figAt k < 128:=by unfold figAt;split <;> omega
      rw [← hf];exact run_next_ascii w hexS k ty hx (by rw [hf];exact hfl)
     by_cases he:(figAt k:Int)=(a0 - 32)
     ·have hr:=fig_hit hlt he
      rw [← hb,h,Prod.mk.injEq] at hr;obtain ⟨rfl,rfl⟩:=hr;go_wp2
      go_ret2
      exact ⟨rfl,hbel _⟩
     ·go_wp2
      refine ⟨⟨k+1,by omega,rfl,fun j hj=>?_⟩,by simp;omega⟩;by_cases e:j=k
      ·subst e;exact he
      ·exact hne j (by omega)
    ·obtain rfl:k=16:=by omega
     have hr:=fig_miss hne;rw [← hb,h,Prod.mk.injEq] at hr;obtain ⟨rfl,rfl⟩:=hr;have hnx:∀ ty,(Instr.next (.pointer (some ⟨w.heap.size,0,none⟩)) true ty).run Tryz.prog (w.iter hexS 16)=_:=fun ty=>run_next_end w hexS 16 ty (by decide)
     go_wp2
     go_ret2
     exact ⟨rfl,hbel _⟩
  ·rw [if_neg (fun e=>h2 e.2)] at hb
   go_enter Tryz.func124,Tryz.ntmps124;go_wp2
   go_loopw [4] (fun n w'=>∃ k:Nat,k≤16∧w'=w.iter hexS k∧∀ j:Nat,j < k→(figAt j:Int)≠a0) (fun _ w'=>16 - w'.iterPos w.heap.size)
   case atStart=>exact ⟨0,by omega,rfl,fun j hj=>absurd hj (by omega)⟩
   case round=>
    obtain ⟨k,hk,rfl,hne⟩:=hrel;have hbel:∀ p,Below w.heap.size w (w.iter hexS p):=fun p=>(Below.refl _ _).alloc (Nat.le_refl _) _
    by_cases hlt:k < 16
    ·obtain ⟨hsz,hx,hf⟩:=hex_at k hlt
     have hnx:∀ ty,(Instr.next (.pointer (some ⟨w.heap.size,0,none⟩)) true ty).run Tryz.prog (w.iter hexS k)=.ok (.tuple #[.bool true,.int .i64 k,.int .i32 (figAt k:Nat)]) (w.iter hexS (k+1)):=fun ty=>by
      have hfl:figAt k < 128:=by unfold figAt;split <;> omega
      rw [← hf];exact run_next_ascii w hexS k ty hx (by rw [hf];exact hfl)
     by_cases he:(figAt k:Int)=a0
     ·have hr:=fig_hit hlt he
      rw [← hb,h,Prod.mk.injEq] at hr;obtain ⟨rfl,rfl⟩:=hr;go_wp2
      go_ret2
      exact ⟨rfl,hbel _⟩
     ·go_wp2
      refine ⟨⟨k+1,by omega,rfl,fun j hj=>?_⟩,by simp;omega⟩;by_cases e:j=k
      ·subst e;exact he
      ·exact hne j (by omega)
    ·obtain rfl:k=16:=by omega
     have hr:=fig_miss hne;rw [← hb,h,Prod.mk.injEq] at hr;obtain ⟨rfl,rfl⟩:=hr;have hnx:∀ ty,(Instr.next (.pointer (some ⟨w.heap.size,0,none⟩)) true ty).run Tryz.prog (w.iter hexS 16)=_:=fun ty=>run_next_end w hexS 16 ty (by decide)
     go_wp2
     go_ret2
     exact ⟨rfl,hbel _⟩
 ·rw [if_neg (fun e=>h1 e.1)] at hb
  go_enter Tryz.func124,Tryz.ntmps124;go_wp2
  go_loopw [4] (fun n w'=>∃ k:Nat,k≤16∧w'=w.iter hexS k∧∀ j:Nat,j < k→(figAt j:Int)≠a0) (fun _ w'=>16 - w'.iterPos w.heap.size)
  case atStart=>exact ⟨0,by omega,rfl,fun j hj=>absurd hj (by omega)⟩
  case round=>
   obtain ⟨k,hk,rfl,hne⟩:=hrel;have hbel:∀ p,Below w.heap.size w (w.iter hexS p):=fun p=>(Below.refl _ _).alloc (Nat.le_refl _) _
   by_cases hlt:k < 16
   ·obtain ⟨hsz,hx,hf⟩:=hex_at k hlt
    have hnx:∀ ty,(Instr.next (.pointer (some ⟨w.heap.size,0,none⟩)) true ty).run Tryz.prog (w.iter hexS k)=.ok (.tuple #[.bool true,.int .i64 k,.int .i32 (figAt k:Nat)]) (w.iter hexS (k+1)):=fun ty=>by
     have hfl:figAt k < 128:=by unfold figAt;split <;> omega
     rw [← hf];exact run_next_ascii w hexS k ty hx (by rw [hf];exact hfl)
    by_cases he:(figAt k:Int)=a0
    ·have hr:=fig_hit hlt he
     rw [← hb,h,Prod.mk.injEq] at hr;obtain ⟨rfl,rfl⟩:=hr;go_wp2
     go_ret2
     exact ⟨rfl,hbel _⟩
    ·go_wp2
     refine ⟨⟨k+1,by omega,rfl,fun j hj=>?_⟩,by simp;omega⟩;by_cases e:j=k
     ·subst e;exact he
     ·exact hne j (by omega)
   ·obtain rfl:k=16:=by omega
    have hr:=fig_miss hne;rw [← hb,h,Prod.mk.injEq] at hr;obtain ⟨rfl,rfl⟩:=hr;have hnx:∀ ty,(Instr.next (.pointer (some ⟨w.heap.size,0,none⟩)) true ty).run Tryz.prog (w.iter hexS 16)=_:=fun ty=>run_next_end w hexS 16 ty (by decide)
    go_wp2
    go_ret2
    exact ⟨rfl,hbel _⟩
end Go.Proofs.YtpomhjkbgbociaaGreatDoor.P
end
section
namespace Go.Proofs.YtpomhjkbgbociaaGreatDoor.P
open Go.RowKit Go.Proofs.YtpomhjkbgbociaaGreatDoorW.PrintWords Go.Proofs.YtpomhjkbgbociaaGreatDoorW.PrintLast Go.Proofs.YtpomhjkbgbociaaGreatDoorW.PrintMore
attribute [local go_sem] max2_int min2_int max_two min_two max_three min_three max_four min_four
set_option linter.unusedVariables false
set_option linter.unusedSimpArgs false
set_option maxHeartbeats 8000000
set_option maxRecDepth 100000
def impl_signByte.f (a0:ByteArray) (a1:Int):Option (Int×Bool):=if (wrap64 ((a0.size:Int) - a1)) < 3 then (some (0,false)) else (if 0≤(wrap64 (a1+1)) then (if (wrap64 (a1+1)) < (a0.size:Int) then ((impl_figureValue.f (bt a0 (wrap64 (a1+1)))).bind fun bt566=>(if 0≤(wrap64 (a1+2)) then (if (wrap64 (a1+2)) < (a0.size:Int) then ((impl_figureValue.f (bt a0 (wrap64 (a1+2)))).bind fun bt568=>(if bt566.2=true then (if bt568.2=true then (some ((wrap64 ((wrap64 (bt566.1 * 16))+bt568.1)) % 256,true)) else (some (0,false))) else (some (0,false)))) else (none)) else (none))) else (none)) else (none))
theorem impl_signByte.calls (a0:ByteArray) (a1:Int) (r1:Int) (r2:Bool) (w:World) (h:impl_signByte.f a0 a1=some (r1,r2)) :
  Calls Tryz.prog 110 #[.string a0,.int .i64 a1] w fun e w'=>e=.returned (.tuple #[.int .u8 r1,.bool r2])∧Below w.heap.size w w':=by
 have HB:=A_ (Below.refl w.heap.size w);unfold impl_signByte.f at h
 have H:=h;clear h;replace H:=iteEd H;rcases H with ⟨c3b0,H⟩|⟨c3b0,H⟩
 ·simp only [Option.some.injEq,Prod.mk.injEq] at H
  obtain ⟨rfl,rfl⟩:=H;go_enter Tryz.func110,Tryz.ntmps110;go_wp2
  go_ret2
  exact ⟨zz12,(zz5 HB)⟩
 ·obtain ⟨ji4,hji4⟩:∃ j_:Int,(wrap64 (a1+1))=j_:=⟨_,rfl⟩
  (first|rw [hji4] at H|simp only [hji4] at H)
  have hji4w:(IntKind.i64.wrap (a1+1))=ji4:=(i64_w _).trans hji4;replace H:=iteE H;rcases H with ⟨c5,H⟩|⟨c5,H⟩
  ·have c5b0:=dT c5
   clear c5;replace H:=iteNd H;obtain ⟨c6b0,H⟩:=H;replace H:=bindA H;obtain ⟨⟨t566,t567⟩,A8,H⟩:=H;try dsimp only at H
   obtain ⟨ji9,hji9⟩:∃ j_:Int,(wrap64 (a1+2))=j_:=⟨_,rfl⟩;(first|rw [hji9] at H|simp only [hji9] at H)
   (try rw [hji9] at A8)
   have hji9w:(IntKind.i64.wrap (a1+2))=ji9:=(i64_w _).trans hji9;replace H:=iteNd H;obtain ⟨c10b0,H⟩:=H;replace H:=iteNd H;obtain ⟨c11b0,H⟩:=H;replace H:=bindA H;obtain ⟨⟨t568,t569⟩,A13,H⟩:=H;try dsimp only at H
   have HF14:=A_ H;clear H;have p7:0≤((ji4):Int):=ofD;have q7:(ji4) < (a0.size:Int):=ofD;have hx7:=bt_at a0 (ji4);replace p7:=eq_true p7;replace q7:=eq_true q7;go_enter Tryz.func110,Tryz.ntmps110;go_wp2_with (first|((with_reducible refine gC (f:=124) rfl ?_);refine goesL_ (some 20) rfl rfl Tryz.func124 (by kernel_rfl) rfl #[.int .u8 (bt a0 (ji4))] rfl (by (try simp only [List.map_toArray,List.map_cons,List.map_nil]);first|done|(simp only [hji4];rfl)|rfl|(simp only [List.length_drop,List.length_take];rfl)) ?_;(with_reducible refine mR (impl_figureValue.calls (bt a0 (ji4)) t566 t567 _ A8.out) ?_);rintro w15 hb;replace HB:=A_ (bS (zz5 HB) hb);(try clear hb);have p12:0≤((ji9):Int):=ofD;have q12:(ji9) < (a0.size:Int):=ofD;have hx12:=bt_at a0 (ji9);replace p12:=eq_true p12;replace q12:=eq_true q12)|((with_reducible refine gC (f:=124) rfl ?_);refine goesL_ (some 28) rfl rfl Tryz.func124 (by kernel_rfl) rfl #[.int .u8 (bt a0 (ji9))] rfl (by (try simp only [List.map_toArray,List.map_cons,List.map_nil]);first|done|(simp only [hji9];rfl)|rfl|(simp only [List.length_drop,List.length_take];rfl)) ?_;(with_reducible refine mR (impl_figureValue.calls (bt a0 (ji9)) t568 t569 _ A13.out) ?_);rintro w16 hb;replace HB:=A_ (bS (zz5 HB) hb);(try clear hb))|((with_reducible refine atG ?_ ?_ fun K_ hK_=>?_);rfl;exact undecG)|((with_reducible refine atI ?_ fun K_ hK_=>?_);exact undecI))
   refine unG hK_ ?_;clear hK_ K_;obtain ⟨H⟩:=HF14;replace H:=iteB H;rcases H with ⟨rfl,H⟩|⟨rfl,H⟩
   ·(first|refine iteT ?_|refine iteF ?_|skip)
    replace H:=iteB H;rcases H with ⟨rfl,H⟩|⟨rfl,H⟩
    ·simp only [Option.some.injEq,Prod.mk.injEq] at H
     obtain ⟨rfl,rfl⟩:=H;go_wp2
     go_ret2
     exact ⟨zz208,(zz5 HB)⟩
    ·simp only [Option.some.injEq,Prod.mk.injEq] at H
     obtain ⟨rfl,rfl⟩:=H;go_wp2
     go_ret2
     exact ⟨zz208,(zz5 HB)⟩
   ·(first|refine iteT ?_|refine iteF ?_|skip)
    simp only [Option.some.injEq,Prod.mk.injEq] at H
    obtain ⟨rfl,rfl⟩:=H;(try ((with_reducible refine upS ?_);go_simp))
    go_wp2
    go_ret2
    exact ⟨zz208,(zz5 HB)⟩
  ·exact absurd H (by simp)
def impl_EscNorm.l0:Nat→ByteArray→List Int→Int→Option (ByteArray×Bool)
 | 0,_,_,_=>none
 | k+1,x0,x4,x5=>if x5 < (x0.size:Int) then (if 0≤x5 then (if (bt x0 x5)=37 then ((impl_signByte.f x0 x5).bind fun bt570=>(if bt570.2=true then ((impl_standsForItself.f bt570.1).bind fun t572=>(if t572=true then (if x4.length < 140737488355328 then (impl_EscNorm.l0 k x0 (x4++[bt570.1]) (wrap64 ((wrap64 (x5+2))+1))) else (none)) else (if 0≤(bt570.1 / 16) then (if (bt570.1 / 16) < 16 then (if 0≤(Go.bits .and .u8 bt570.1 15) then (if (Go.bits .and .u8 bt570.1 15) < 16 then ((some (([37,bt (⟨#[48,49,50,51,52,53,54,55,56,57,65,66,67,68,69,70]⟩:ByteArray) (bt570.1 / 16),bt (⟨#[48,49,50,51,52,53,54,55,56,57,65,66,67,68,69,70]⟩:ByteArray) (Go.bits .and .u8 bt570.1 15)]:List Int):List Int)).bind fun y576=>(if x4.length+y576.length < 140737488355328 then (impl_EscNorm.l0 k x0 (x4++y576) (wrap64 ((wrap64 (x5+2))+1))) else (none))) else (none)) else (none)) else (none)) else (none)))) else (some ((⟨#[]⟩:ByteArray),false)))) else ((impl_standsForItself.f (bt x0 x5)).bind fun t582=>(if t582=true then (if x4.length < 140737488355328 then (impl_EscNorm.l0 k x0 (x4++[bt x0 x5]) (wrap64 (x5+1))) else (none)) else (if 0≤((bt x0 x5) / 16) then (if ((bt x0 x5) / 16) < 16 then (if 0≤(Go.bits .and .u8 (bt x0 x5) 15) then (if (Go.bits .and .u8 (bt x0 x5) 15) < 16 then ((some (([37,bt (⟨#[48,49,50,51,52,53,54,55,56,57,65,66,67,68,69,70]⟩:ByteArray) ((bt x0 x5) / 16),bt (⟨#[48,49,50,51,52,53,54,55,56,57,65,66,67,68,69,70]⟩:ByteArray) (Go.bits .and .u8 (bt x0 x5) 15)]:List Int):List Int)).bind fun y586=>(if x4.length+y586.length < 140737488355328 then (impl_EscNorm.l0 k x0 (x4++y586) (wrap64 (x5+1))) else (none))) else (none)) else (none)) else (none)) else (none))))) else (none)) else (some (strOfNums x4,true))
def impl_EscNorm.f (k:Nat) (a0:ByteArray):Option (ByteArray×Bool):=if (a0.size:Int) > 60 then (some ((⟨#[]⟩:ByteArray),false)) else (impl_EscNorm.l0 k a0 ([]:List Int) 0)
theorem impl_EscNorm.mono_l:∀ k,(∀ y0 y1 y2,LeO (impl_EscNorm.l0 k y0 y1 y2) (impl_EscNorm.l0 (k+1) y0 y1 y2))
 | 0=>by intros;intro r h;simp [impl_EscNorm.l0] at h
 | k+1=>by
  have ih0:=impl_EscNorm.mono_l k;intros;unfold impl_EscNorm.l0;repeat' first|(with_reducible first|exact ih0 _ _ _|exact LeO.refl _|exact LeO.none _|refine LeO.ite ?_ ?_|refine LeO.bind ?_ (fun _=>?_))|exact LeO.none _|refine LeO.ite ?_ ?_|refine LeO.bind ?_ (fun _=>?_)
theorem impl_EscNorm.mono:∀ a0 k,LeO (impl_EscNorm.f k a0) (impl_EscNorm.f (k+1) a0):=by
 intro a0 k;have ih0:=impl_EscNorm.mono_l k;unfold impl_EscNorm.f
 repeat' first|(with_reducible first|exact ih0 _ _ _|exact LeO.refl _|exact LeO.none _|refine LeO.ite ?_ ?_|refine LeO.bind ?_ (fun _=>?_))|exact LeO.none _|refine LeO.ite ?_ ?_|refine LeO.bind ?_ (fun _=>?_)
def impl_EscNorm.T16:Bool×List (List Nat×List Nat):=(true,[([],[]),([],[]),([1],[1]),([2],[2]),([],[]),([4],[4]),([5],[5]),([3,6],[3,6]),([0,7],[0,7]),([8,8,0,1,2,3,4,5,6,7,8],[0,8])])
def impl_EscNorm.B16:List Nat:=[0,0,2,6,0,16,48,126,255,511]
theorem impl_EscNorm.tab16:rtab .any (opsOf Tryz.f84 16)=impl_EscNorm.T16:=by kernel_rfl
theorem impl_EscNorm.bits16:waitsOk impl_EscNorm.T16.2 impl_EscNorm.B16=true:=by kernel_rfl
theorem impl_EscNorm.calls (k:Nat) (a0:ByteArray) (r1:ByteArray) (r2:Bool) (w:World) (h:impl_EscNorm.f k a0=some (r1,r2)) :
  Calls Tryz.prog 84 #[.string a0] w fun e w'=>e=.returned (.tuple #[.string r1,.bool r2])∧Below w.heap.size w w':=by
 have HB:=A_ (Below.refl w.heap.size w);unfold impl_EscNorm.f at h
 have H:=h;clear h;replace H:=iteE H;rcases H with ⟨c2,H⟩|⟨c2,H⟩
 ·have c2b0:=gtT c2
  have c2b1:decide (60 < a0.size)=true:=dT (by omega);clear c2;simp only [Option.some.injEq,Prod.mk.injEq] at H
  obtain ⟨rfl,rfl⟩:=H;go_enter Tryz.func84,Tryz.ntmps84;go_wp2
  go_ret2
  exact ⟨zz12,(zz5 HB)⟩
 ·have c2b0:=gtF c2
  have c2b1:decide (60 < a0.size)=false:=dF (by omega);clear c2;have H':=A_ H;clear H;go_enter Tryz.func84,Tryz.ntmps84;go_wp2
  go_loopg [4,5] k (fun kq v4 v5 w'=>∃ (x4_1:List Int) (x5_1:Int),v5=.int .i64 x5_1∧Aside0 (impl_EscNorm.l0 kq a0 x4_1 x5_1=some (r1,r2))∧Aside0 (kq≤k)∧Aside0 (Kd.R (Kd.int .u8) 5 w' w.heap.size (fun _=>True) v4 x4_1)∧Aside0 (Below w.heap.size w w'))
  case atStart=>exact ⟨(([]:List Int)),(0),zz0,H',⟨Nat.le_refl _⟩,⟨zz4⟩,⟨(zz5 HB)⟩⟩
  case round=>
   clear H';obtain ⟨x4_1,x5_1,rfl,HA,HK1,HO_4,HB⟩:=hrel;cases gk with
   | zero=>exact absurd HA.out (by simp [impl_EscNorm.l0])
   | succ k1=>
    obtain ⟨H⟩:=HA;simp only [impl_EscNorm.l0] at H
    replace H:=iteEd H;rcases H with ⟨c3b0,H⟩|⟨c3b0,H⟩
    ·replace H:=iteNd H
     obtain ⟨c4b0,H⟩:=H;replace H:=iteEq H;rcases H with ⟨c6b0,c6b1,H⟩|⟨c6b0,c6b1,c6,H⟩
     ·replace H:=bindA H
      obtain ⟨⟨t570,t571⟩,A7,H⟩:=H;try dsimp only at H
      replace H:=iteB H;rcases H with ⟨rfl,H⟩|⟨rfl,H⟩
      ·replace H:=bindA H
       obtain ⟨t572,A9,H⟩:=H;replace H:=iteB H;rcases H with ⟨rfl,H⟩|⟨rfl,H⟩
       ·replace H:=iteN H
        obtain ⟨c11,H⟩:=H;have LMc11:=A_ c11;clear c11;obtain ⟨y573,Ny573⟩:=toY (x4_1++[t570]);(first|with_reducible replace H:=bindZ Ny573 H|rw [← Ny573.out] at H|skip)
        have H':=A_ H;clear H;have p5:0≤(x5_1:Int):=ofD;have q5:x5_1 < (a0.size:Int):=ofD;have hx5:=bt_at a0 x5_1;replace p5:=eq_true p5;replace q5:=eq_true q5;go_wp2_with (first|(refine gR 110 (some 26) Tryz.func110 (impl_signByte.calls a0 x5_1 t570 true _ A7.out) ?_;rintro w12 hb;replace HO_4:=A_ (rB (zz8 HO_4) hb);replace HB:=A_ (bS (zz5 HB) hb);(try clear hb))|(refine gR 111 (some 35) Tryz.func111 (impl_standsForItself.calls t570 true _ A9.out) ?_;rintro w' ⟨nd,rfl⟩)|((with_reducible refine gate_builtin (b:=.append) (xs:=#[.tmp 36,.tmp 38]) rfl ?_);at_builtin;refine Kd.R_append (Kd.int .u8) (w0:=w) w.heap.size rfl (.tmp 36) (.tmp 38) 22 5 (.int .u8 0) 1 rfl Tryz.underlying22 info5 rfl (by decide) (by omega) u4 x4_1 t570 [.int .u8 t570] (fun _=>True) (fun _=>False) rfl rfl ?aP (fun _ hk=>hk.elim) ?aF ?aO ?aB ?aS ?aL ?_;(case aP=>exact rfl);(case aB=>exact (zz5 HB));(case aF=>exact (fun _ _=>trivial));(case aO=>exact (zz8 HO_4));(case aS=>exact (below_size (zz5 HB)));(case aL=>exact (zz3 LMc11));intro v574 w13 ho hb hg hat;rw [← Ny573.out] at ho;replace HB:=A_ (hb);have HO575:=A_ (ho);clear HO_4;clear ho hb hg hat))
        go_roundg k1
        case measure=>have:=HK1.out;omega
        case rel=>exact ⟨(y573),(wrap64 ((wrap64 (x5_1+2))+1)),zz0,H',⟨(zz3 HK1)⟩,⟨(zz8 HO575)⟩,⟨(zz5 HB)⟩⟩
       ·obtain ⟨ji14,hji14⟩:∃ j_:Int,(t570 / 16)=j_:=⟨_,rfl⟩
        (first|rw [hji14] at H|simp only [hji14] at H)
        (try rw [hji14] at A7)
        (try rw [hji14] at A9)
        replace H:=iteNd H;obtain ⟨c15b0,H⟩:=H;replace H:=iteNd H;obtain ⟨c16b0,H⟩:=H;replace H:=iteNd H;obtain ⟨c18b0,H⟩:=H;replace H:=iteNd H;obtain ⟨c19b0,H⟩:=H;obtain ⟨y576,Ny576⟩:=toY (([37,bt (⟨#[48,49,50,51,52,53,54,55,56,57,65,66,67,68,69,70]⟩:ByteArray) (ji14),bt (⟨#[48,49,50,51,52,53,54,55,56,57,65,66,67,68,69,70]⟩:ByteArray) (Go.bits .and .u8 t570 15)]:List Int));(first|with_reducible replace H:=bindZ Ny576 H|rw [← Ny576.out] at H|skip)
        replace H:=iteN H;obtain ⟨c21,H⟩:=H;have LMc21:=A_ c21;clear c21;obtain ⟨y579,Ny579⟩:=toY (x4_1++y576);(first|with_reducible replace H:=bindZ Ny579 H|rw [← Ny579.out] at H|skip)
        have H':=A_ H;clear H;have p5:0≤(x5_1:Int):=ofD;have q5:x5_1 < (a0.size:Int):=ofD;have hx5:=bt_at a0 x5_1;replace p5:=eq_true p5;replace q5:=eq_true q5;try go_wp2_with (first|(refine gR 110 (some 26) Tryz.func110 (impl_signByte.calls a0 x5_1 t570 true _ A7.out) ?_;rintro w22 hb;replace HO_4:=A_ (rB (zz8 HO_4) hb);replace HB:=A_ (bS (zz5 HB) hb);(try clear hb))|(refine gR 111 (some 35) Tryz.func111 (impl_standsForItself.calls t570 false _ A9.out) ?_;rintro w' ⟨nd,rfl⟩))
        (try (rw [drewN_self w22];generalize hq_:World.drewN w22 _=w22;have n0_:Aside0 (Kd.R (Kd.int .u8) 5 w22 w.heap.size (fun _=>True) u4 x4_1):=⟨(by rw [← hq_];exact (zz8 HO_4))⟩;have n1_:Aside0 (Below w.heap.size w w22):=⟨(by rw [← hq_];exact (zz5 HB))⟩;clear HO_4 HB hq_;have HO_4:=n0_;have HB:=n1_;clear n0_ n1_))
        replace HO_4:=A_ (Kd.R_drew HO_4.out);replace HB:=A_ (below_drew1 HB.out);have p17:0≤((ji14):Int):=ofD;have q17:(ji14) < (16:Int):=ofD;have hx17:=bt_at (⟨#[48,49,50,51,52,53,54,55,56,57,65,66,67,68,69,70]⟩:ByteArray) (ji14);replace p17:=eq_true p17;replace q17:=eq_true q17;have p20:0≤((Go.bits .and .u8 t570 15):Int):=ofD;have q20:(Go.bits .and .u8 t570 15) < (16:Int):=ofD;have hx20:=bt_at (⟨#[48,49,50,51,52,53,54,55,56,57,65,66,67,68,69,70]⟩:ByteArray) (Go.bits .and .u8 t570 15);replace p20:=eq_true p20;replace q20:=eq_true q20;refine start_ (n:=10) (S:=fun w'=>True) (ds:=[]) #[yF,yF,yF,yF,yF,yF,yF,yF,yF,yF] (by kernel_rfl) rfl rfl trivial (fun hHeld=>?_);refine with_tabW impl_EscNorm.tab16 impl_EscNorm.bits16 (fun HT_ HW_=>?_);generalize w22.drew=w23 at HO_4 HB hHeld ⊢;refine pureZ 0 (some 40) #[yT,yF,yF,yF,yF,yF,yF,yF,yF,yF] ?_;refine pureZ 1 (some 41) #[yT,yT,yF,yF,yF,yF,yF,yF,yF,yF] ?_;refine pureZ 2 (some 42) #[yT,yT,yT,yF,yF,yF,yF,yF,yF,yF] ?_;refine pureZ 4 (some 44) #[yT,yT,yT,yF,yT,yF,yF,yF,yF,yF] ?_;refine pureZ 5 (some 45) #[yT,yT,yT,yF,yT,yT,yF,yF,yF,yF] ?_;refine take_ (i:=3) (N:=some 43) (v:=?_) (a':=?_) #[yT,yT,yT,yT,yT,yT,yF,yF,yF,yF] rfl rfl (take_ofW HT_.out HW_.out (by kernel_rfl)) (fun _ _ _ h=>h) (Or.inl ⟨by rfl,?_⟩) hHeld ?_ ?_;rotate_left
        ·intro w' _
         go_simp
         with_reducible rfl
        rotate_left
        ·simp only [Act.put,List.setIfInBounds_toArray,List.set_cons_zero,List.set_cons_succ,i64_w,i32_w]
         rfl
        refine take_ (i:=6) (N:=some 46) (v:=?_) (a':=?_) #[yT,yT,yT,yT,yT,yT,yT,yF,yF,yF] rfl rfl (take_ofW HT_.out HW_.out (by kernel_rfl)) (fun _ _ _ h=>h) (Or.inl ⟨by rfl,?_⟩) hHeld ?_ ?_;rotate_left
        ·intro w' _
         go_simp
         with_reducible rfl
        rotate_left
        ·simp only [Act.put,List.setIfInBounds_toArray,List.set_cons_zero,List.set_cons_succ,i64_w,i32_w]
         rfl
        refine oneZ 7 (some 47) #[yT,yT,yT,yT,yT,yT,yT,yT,yF,yF] (fun K hK=>?_);refine Kd.R_lit_step (Kd.int .u8) _ 5 ?hg (N:=47) ?hd (xs:=([37,bt (⟨#[48,49,50,51,52,53,54,55,56,57,65,66,67,68,69,70]⟩:ByteArray) (ji14),bt (⟨#[48,49,50,51,52,53,54,55,56,57,65,66,67,68,69,70]⟩:ByteArray) (Go.bits .and .u8 t570 15)]:List Int)) (inner:=[.int .u8 37,.int .u8 (bt (⟨#[48,49,50,51,52,53,54,55,56,57,65,66,67,68,69,70]⟩:ByteArray) (ji14)),.int .u8 (bt (⟨#[48,49,50,51,52,53,54,55,56,57,65,66,67,68,69,70]⟩:ByteArray) (Go.bits .and .u8 t570 15))]) (ok:=fun _=>True) (okp:=fun _=>True) ?hr ?hp (fun _ hk=>hk) trivial (Below.refl _ _) (Nat.le_refl _) (by simp) ?_;(case hd=>rfl);(case hg=>rfl);(case hr=>exact zz26);(case hp=>exact (Reps.one (show Kd.M (Kd.int .u8) _ _ _ 37 [.int .u8 37] from rfl) (Reps.one (show Kd.M (Kd.int .u8) _ _ _ (bt (⟨#[48,49,50,51,52,53,54,55,56,57,65,66,67,68,69,70]⟩:ByteArray) (ji14)) [.int .u8 (bt (⟨#[48,49,50,51,52,53,54,55,56,57,65,66,67,68,69,70]⟩:ByteArray) (ji14))] from rfl) (Reps.one (show Kd.M (Kd.int .u8) _ _ _ (bt (⟨#[48,49,50,51,52,53,54,55,56,57,65,66,67,68,69,70]⟩:ByteArray) (Go.bits .and .u8 t570 15)) [.int .u8 (bt (⟨#[48,49,50,51,52,53,54,55,56,57,65,66,67,68,69,70]⟩:ByteArray) (Go.bits .and .u8 t570 15))] from rfl) (Reps.none _ _)))));intro v577 w24 ho25 hb hg_ hnew_;clear hg_ hnew_;(first|rw [← Ny576.out] at ho25|(simp only [Int.reduceToNat] at ho25;rw [← Ny576.out] at ho25))
        have HO578:=A_ (Kd.R_lower (Kd.R_new' ho25 (Kd.R_lt (zz8 HO_4))) (below_size (zz5 HB)));replace HO_4:=A_ (Kd.R_elder' (zz8 HO_4) (Kd.R_base ho25) hb);replace HB:=A_ (bS (zz5 HB) hb);clear hb ho25;obtain ⟨Ao27,co27,eo27⟩:=Kd.R_slice HO578.out;(first|subst eo27|(injection eo27 with f1_ f2_ f3_;have f4_:=f1_.symm;have f5_:=f3_.symm;clear f1_ f2_ f3_;subst f4_;subst f5_))
        refine hK.out _ _ trivial (fun hHeld=>?_);clear hK K;refine nZ 47 ?_;refine oneZ 8 (some 48) #[yT,yT,yT,yT,yT,yT,yT,yT,yT,yF] (fun K hK=>?_);refine Kd.R_append_rows_step (Kd.int .u8) (w0:=w) w.heap.size (by rfl) (.tmp 40) (.tmp 47) 22 5 (.int .u8 0) 1 rfl Tryz.underlying22 info5 rfl (by decide) (by omega) u4 x4_1 y576 _ _ _ (fun k_=>some k_≠(.slice Ao27 y576.length co27:Value).ownBlock) (fun _=>False) rfl rfl ?aO ?aR (fun _ _ h=>h) (fun _ h=>h.elim) ?aF ?aB ?aS ?aL ?_;(case aR=>exact (zz33 HO578))
        (case aB=>exact (zz5 HB))
        (case aF=>exact (fun k_ hk=>Kd.fresh' (Kd.R_lt (zz8 HO578)) k_ hk))
        (case aO=>exact (zz94 HO_4))
        (case aS=>exact (below_size (zz5 HB)))
        (case aL=>exact (zz3 LMc21))
        intro v580 w26 ho hb hg hat;rw [← Ny579.out] at ho;replace HO578:=A_ (Kd.R_after (ok:=(fun _=>True)) (zz8 HO578) hg hat);replace HB:=A_ (hb);have HO581:=A_ (ho);clear HO_4;clear ho hb hg hat;refine hK.out _ _ trivial (fun hHeld=>?_);clear hK K;refine nZ 48 ?_;refine pureZ 9 (some 4) #[yT,yT,yT,yT,yT,yT,yT,yT,yT,yT] ?_;refine done_ (done_of HT_.out (by kernel_rfl)) ?_;try go_wp2
        go_roundg k1
        case measure=>have:=HK1.out;omega
        case rel=>exact ⟨(y579),(wrap64 ((wrap64 (x5_1+2))+1)),zz0,H',⟨(zz3 HK1)⟩,⟨(zz97 HO581)⟩,⟨(zz5 HB)⟩⟩
      ·simp only [Option.some.injEq,Prod.mk.injEq] at H
       obtain ⟨rfl,rfl⟩:=H;have p5:0≤(x5_1:Int):=ofD;have q5:x5_1 < (a0.size:Int):=ofD;have hx5:=bt_at a0 x5_1;replace p5:=eq_true p5;replace q5:=eq_true q5;go_wp2_with (first|(refine gR 110 (some 26) Tryz.func110 (impl_signByte.calls a0 x5_1 t570 false _ A7.out) ?_;rintro w28 hb;replace HO_4:=A_ (rB (zz8 HO_4) hb);replace HB:=A_ (bS (zz5 HB) hb);(try clear hb)))
       go_ret2
       exact ⟨zz12,(zz5 HB)⟩
     ·replace H:=bindA H
      obtain ⟨t582,A29,H⟩:=H;replace H:=iteB H;rcases H with ⟨rfl,H⟩|⟨rfl,H⟩
      ·replace H:=iteN H
       obtain ⟨c31,H⟩:=H;have LMc31:=A_ c31;clear c31;obtain ⟨y583,Ny583⟩:=toY (x4_1++[bt a0 x5_1]);(first|with_reducible replace H:=bindZ Ny583 H|rw [← Ny583.out] at H|skip)
       have H':=A_ H;clear H;have p5:0≤(x5_1:Int):=ofD;have q5:x5_1 < (a0.size:Int):=ofD;have hx5:=bt_at a0 x5_1;replace p5:=eq_true p5;replace q5:=eq_true q5;go_wp2_with (first|(refine gR 111 (some 35) Tryz.func111 (impl_standsForItself.calls (bt a0 x5_1) true _ A29.out) ?_;rintro w' ⟨nd,rfl⟩)|((with_reducible refine gate_builtin (b:=.append) (xs:=#[.tmp 36,.tmp 38]) rfl ?_);at_builtin;refine Kd.R_append (Kd.int .u8) (w0:=w) w.heap.size rfl (.tmp 36) (.tmp 38) 22 5 (.int .u8 0) 1 rfl Tryz.underlying22 info5 rfl (by decide) (by omega) u4 x4_1 (bt a0 x5_1) [.int .u8 (bt a0 x5_1)] (fun _=>True) (fun _=>False) rfl rfl ?aP (fun _ hk=>hk.elim) ?aF ?aO ?aB ?aS ?aL ?_;(case aP=>exact rfl);(case aB=>exact (zz5 HB));(case aF=>exact (fun _ _=>trivial));(case aO=>exact (zz8 HO_4));(case aS=>exact (below_size (zz5 HB)));(case aL=>exact (zz3 LMc31));intro v584 w32 ho hb hg hat;rw [← Ny583.out] at ho;replace HB:=A_ (hb);have HO585:=A_ (ho);clear HO_4;clear ho hb hg hat))
       go_roundg k1
       case measure=>have:=HK1.out;omega
       case rel=>exact ⟨(y583),(wrap64 (x5_1+1)),zz0,H',⟨(zz3 HK1)⟩,⟨(zz8 HO585)⟩,⟨(zz5 HB)⟩⟩
      ·obtain ⟨ji33,hji33⟩:∃ j_:Int,((bt a0 x5_1) / 16)=j_:=⟨_,rfl⟩
       (first|rw [hji33] at H|simp only [hji33] at H)
       (try rw [hji33] at A29)
       replace H:=iteNd H;obtain ⟨c34b0,H⟩:=H;replace H:=iteNd H;obtain ⟨c35b0,H⟩:=H;replace H:=iteNd H;obtain ⟨c37b0,H⟩:=H;replace H:=iteNd H;obtain ⟨c38b0,H⟩:=H;obtain ⟨y586,Ny586⟩:=toY (([37,bt (⟨#[48,49,50,51,52,53,54,55,56,57,65,66,67,68,69,70]⟩:ByteArray) (ji33),bt (⟨#[48,49,50,51,52,53,54,55,56,57,65,66,67,68,69,70]⟩:ByteArray) (Go.bits .and .u8 (bt a0 x5_1) 15)]:List Int));(first|with_reducible replace H:=bindZ Ny586 H|rw [← Ny586.out] at H|skip)
       replace H:=iteN H;obtain ⟨c40,H⟩:=H;have LMc40:=A_ c40;clear c40;obtain ⟨y589,Ny589⟩:=toY (x4_1++y586);(first|with_reducible replace H:=bindZ Ny589 H|rw [← Ny589.out] at H|skip)
       have H':=A_ H;clear H;have p5:0≤(x5_1:Int):=ofD;have q5:x5_1 < (a0.size:Int):=ofD;have hx5:=bt_at a0 x5_1;replace p5:=eq_true p5;replace q5:=eq_true q5;try go_wp2_with (first|(refine gR 111 (some 35) Tryz.func111 (impl_standsForItself.calls (bt a0 x5_1) false _ A29.out) ?_;rintro w' ⟨nd,rfl⟩))
       (try (rw [drewN_self wr];generalize hq_:World.drewN wr _=wr;have n0_:Aside0 (Kd.R (Kd.int .u8) 5 wr w.heap.size (fun _=>True) u4 x4_1):=⟨(by rw [← hq_];exact (zz8 HO_4))⟩;have n1_:Aside0 (Below w.heap.size w wr):=⟨(by rw [← hq_];exact (zz5 HB))⟩;clear HO_4 HB hq_;have HO_4:=n0_;have HB:=n1_;clear n0_ n1_))
       replace HO_4:=A_ (Kd.R_drew HO_4.out);replace HB:=A_ (below_drew1 HB.out);have p36:0≤((ji33):Int):=ofD;have q36:(ji33) < (16:Int):=ofD;have hx36:=bt_at (⟨#[48,49,50,51,52,53,54,55,56,57,65,66,67,68,69,70]⟩:ByteArray) (ji33);replace p36:=eq_true p36;replace q36:=eq_true q36;have p39:0≤((Go.bits .and .u8 (bt a0 x5_1) 15):Int):=ofD;have q39:(Go.bits .and .u8 (bt a0 x5_1) 15) < (16:Int):=ofD;have hx39:=bt_at (⟨#[48,49,50,51,52,53,54,55,56,57,65,66,67,68,69,70]⟩:ByteArray) (Go.bits .and .u8 (bt a0 x5_1) 15);replace p39:=eq_true p39;replace q39:=eq_true q39;refine start_ (n:=10) (S:=fun w'=>True) (ds:=[]) #[yF,yF,yF,yF,yF,yF,yF,yF,yF,yF] (by kernel_rfl) rfl rfl trivial (fun hHeld=>?_);refine with_tabW impl_EscNorm.tab16 impl_EscNorm.bits16 (fun HT_ HW_=>?_);generalize wr.drew=w41 at HO_4 HB hHeld ⊢;refine pureZ 0 (some 40) #[yT,yF,yF,yF,yF,yF,yF,yF,yF,yF] ?_;refine pureZ 1 (some 41) #[yT,yT,yF,yF,yF,yF,yF,yF,yF,yF] ?_;refine pureZ 2 (some 42) #[yT,yT,yT,yF,yF,yF,yF,yF,yF,yF] ?_;refine pureZ 4 (some 44) #[yT,yT,yT,yF,yT,yF,yF,yF,yF,yF] ?_;refine pureZ 5 (some 45) #[yT,yT,yT,yF,yT,yT,yF,yF,yF,yF] ?_;refine take_ (i:=3) (N:=some 43) (v:=?_) (a':=?_) #[yT,yT,yT,yT,yT,yT,yF,yF,yF,yF] rfl rfl (take_ofW HT_.out HW_.out (by kernel_rfl)) (fun _ _ _ h=>h) (Or.inl ⟨by rfl,?_⟩) hHeld ?_ ?_;rotate_left
       ·intro w' _
        go_simp
        with_reducible rfl
       rotate_left
       ·simp only [Act.put,List.setIfInBounds_toArray,List.set_cons_zero,List.set_cons_succ,i64_w,i32_w]
        rfl
       refine take_ (i:=6) (N:=some 46) (v:=?_) (a':=?_) #[yT,yT,yT,yT,yT,yT,yT,yF,yF,yF] rfl rfl (take_ofW HT_.out HW_.out (by kernel_rfl)) (fun _ _ _ h=>h) (Or.inl ⟨by rfl,?_⟩) hHeld ?_ ?_;rotate_left
       ·intro w' _
        go_simp
        with_reducible rfl
       rotate_left
       ·simp only [Act.put,List.setIfInBounds_toArray,List.set_cons_zero,List.set_cons_succ,i64_w,i32_w]
        rfl
       refine oneZ 7 (some 47) #[yT,yT,yT,yT,yT,yT,yT,yT,yF,yF] (fun K hK=>?_);refine Kd.R_lit_step (Kd.int .u8) _ 5 ?hg (N:=47) ?hd (xs:=([37,bt (⟨#[48,49,50,51,52,53,54,55,56,57,65,66,67,68,69,70]⟩:ByteArray) (ji33),bt (⟨#[48,49,50,51,52,53,54,55,56,57,65,66,67,68,69,70]⟩:ByteArray) (Go.bits .and .u8 (bt a0 x5_1) 15)]:List Int)) (inner:=[.int .u8 37,.int .u8 (bt (⟨#[48,49,50,51,52,53,54,55,56,57,65,66,67,68,69,70]⟩:ByteArray) (ji33)),.int .u8 (bt (⟨#[48,49,50,51,52,53,54,55,56,57,65,66,67,68,69,70]⟩:ByteArray) (Go.bits .and .u8 (bt a0 x5_1) 15))]) (ok:=fun _=>True) (okp:=fun _=>True) ?hr ?hp (fun _ hk=>hk) trivial (Below.refl _ _) (Nat.le_refl _) (by simp) ?_;(case hd=>rfl);(case hg=>rfl);(case hr=>exact zz26);(case hp=>exact (Reps.one (show Kd.M (Kd.int .u8) _ _ _ 37 [.int .u8 37] from rfl) (Reps.one (show Kd.M (Kd.int .u8) _ _ _ (bt (⟨#[48,49,50,51,52,53,54,55,56,57,65,66,67,68,69,70]⟩:ByteArray) (ji33)) [.int .u8 (bt (⟨#[48,49,50,51,52,53,54,55,56,57,65,66,67,68,69,70]⟩:ByteArray) (ji33))] from rfl) (Reps.one (show Kd.M (Kd.int .u8) _ _ _ (bt (⟨#[48,49,50,51,52,53,54,55,56,57,65,66,67,68,69,70]⟩:ByteArray) (Go.bits .and .u8 (bt a0 x5_1) 15)) [.int .u8 (bt (⟨#[48,49,50,51,52,53,54,55,56,57,65,66,67,68,69,70]⟩:ByteArray) (Go.bits .and .u8 (bt a0 x5_1) 15))] from rfl) (Reps.none _ _)))));intro v587 w42 ho43 hb hg_ hnew_;clear hg_ hnew_;(first|rw [← Ny586.out] at ho43|(simp only [Int.reduceToNat] at ho43;rw [← Ny586.out] at ho43))
       have HO588:=A_ (Kd.R_lower (Kd.R_new' ho43 (Kd.R_lt (zz8 HO_4))) (below_size (zz5 HB)));replace HO_4:=A_ (Kd.R_elder' (zz8 HO_4) (Kd.R_base ho43) hb);replace HB:=A_ (bS (zz5 HB) hb);clear hb ho43;obtain ⟨Ao45,co45,eo45⟩:=Kd.R_slice HO588.out;(first|subst eo45|(injection eo45 with f1_ f2_ f3_;have f4_:=f1_.symm;have f5_:=f3_.symm;clear f1_ f2_ f3_;subst f4_;subst f5_))
       refine hK.out _ _ trivial (fun hHeld=>?_);clear hK K;refine nZ 47 ?_;refine oneZ 8 (some 48) #[yT,yT,yT,yT,yT,yT,yT,yT,yT,yF] (fun K hK=>?_);refine Kd.R_append_rows_step (Kd.int .u8) (w0:=w) w.heap.size (by rfl) (.tmp 40) (.tmp 47) 22 5 (.int .u8 0) 1 rfl Tryz.underlying22 info5 rfl (by decide) (by omega) u4 x4_1 y586 _ _ _ (fun k_=>some k_≠(.slice Ao45 y586.length co45:Value).ownBlock) (fun _=>False) rfl rfl ?aO ?aR (fun _ _ h=>h) (fun _ h=>h.elim) ?aF ?aB ?aS ?aL ?_;(case aR=>exact (zz33 HO588))
       (case aB=>exact (zz5 HB))
       (case aF=>exact (fun k_ hk=>Kd.fresh' (Kd.R_lt (zz8 HO588)) k_ hk))
       (case aO=>exact (zz94 HO_4))
       (case aS=>exact (below_size (zz5 HB)))
       (case aL=>exact (zz3 LMc40))
       intro v590 w44 ho hb hg hat;rw [← Ny589.out] at ho;replace HO588:=A_ (Kd.R_after (ok:=(fun _=>True)) (zz8 HO588) hg hat);replace HB:=A_ (hb);have HO591:=A_ (ho);clear HO_4;clear ho hb hg hat;refine hK.out _ _ trivial (fun hHeld=>?_);clear hK K;refine nZ 48 ?_;refine pureZ 9 (some 4) #[yT,yT,yT,yT,yT,yT,yT,yT,yT,yT] ?_;refine done_ (done_of HT_.out (by kernel_rfl)) ?_;try go_wp2
       go_roundg k1
       case measure=>have:=HK1.out;omega
       case rel=>exact ⟨(y589),(wrap64 (x5_1+1)),zz0,H',⟨(zz3 HK1)⟩,⟨(zz97 HO591)⟩,⟨(zz5 HB)⟩⟩
    ·simp only [Option.some.injEq,Prod.mk.injEq] at H
     obtain ⟨rfl,rfl⟩:=H;have hcv46:=own_string (P:=Tryz.prog) Tryz.underlying22 Tryz.underlying5 Tryz.underlying9 (Kd.own_of_R HO_4.out);go_wp2
     go_ret2
     exact ⟨zz12,(zz5 HB)⟩
end Go.Proofs.YtpomhjkbgbociaaGreatDoor.P
end
