/- FnExactNoticeRead holds of the given program at every input: the program's NoticeRead returns what the reference's returns. No condition. -/
import Derived.Test.YthojbccgnlcblaaDoorZFnExactNoticeReadb
import Derived.Lib.IndexAny
import Derived.SizedLaws
import Derived.ChangeSlices
import Derived.Test.YthojbccgnlcblaaDoorRows
import Derived.Test.YthojbccgnlcblaaDoorCards
import Derived.Test.YthojbccgnlcblaaDoorTie
import Derived.LaidMore
import Derived.Lay
import Derived.SevenTiedAt
import Derived.Stop.Joined
import Derived.Lib.SmallJoins
import Derived.WalkKit
import Derived.ProofKit
import Derived.OpenShut
import Derived.ShutString
import Derived.ChangeOld
import Derived.Below

section
namespace Go.Proofs.YthojbccgnlcblaaDoor.P
open Go.RowKit Go.Proofs.YthojbccgnlcblaaDoorW.PrintWords Go.Proofs.YthojbccgnlcblaaDoorW.PrintLast Go.Proofs.YthojbccgnlcblaaDoorW.PrintMore
set_option linter.unusedVariables false
def iLoop (k:Nat):List ByteArray→List Gp→Bool→Option (List Gp)
  | [],gs,_=>some gs
  | s :: r,gs,b=>(impl_readLine.f k s).bind fun o=>match o with
    | none=>iLoop k r gs b
    | some x=>if gs.length < 1000000∧(lastG gs).f0.length < 1000000 then iLoop k r (takeF gs b x).1 (takeF gs b x).2 else none
def impl_NoticeRead.f (k:Nat) (a0:ByteArray):Option (List Gp):=(strings_Split.f k a0 (⟨#[10]⟩:ByteArray)).bind fun ls=>if ls.length≤1000000000 then iLoop k (ls.take 40) [] false else none
set_option maxHeartbeats 8000000 in
set_option maxRecDepth 100000 in
theorem impl_NoticeRead.calls (k:Nat) (a0:ByteArray) (r:List Gp) (w:World) (h:impl_NoticeRead.f k a0=some r) :
    Calls Tryd.prog 7 #[.string a0] w fun e w'=>∃ v0_:Value,e=.returned (v0_)∧Kd.S kGp 32 w' w.heap.size (fun _=>True) v0_ r∧Below w.heap.size w w':=by
  unfold impl_NoticeRead.f at h
  obtain ⟨ls,hls,h2⟩:=Option.bind_eq_some_iff.mp h
  split at h2
  case isFalse=>cases h2
  rename_i hbig
  have HS:=Aside0.mk hls
  have H0:=Aside0.mk h2
  clear h hls h2
  go_enter Tryd.func7,Tryd.ntmps7
  go_wp2_with (first
    | ((with_reducible refine gate_dst (N:=3) rfl ?_);refine box_event ?hg (N:=3) ?hd (cs:=#[.slice none 0 0,.bool false]) (t:=42) ?hr ?_;(case hd=>rfl);(case hg=>rfl);(case hr=>first|(go_simp;done)|(go_simp;rfl));rintro gr eg w3 hk3 hb3;have EG:=Aside0.mk eg;have BK3:=Aside0.mk hk3;have HB3:=Aside0.mk hb3;clear eg hk3 hb3)
    | (go_at_call 17;(with_reducible refine (strings_Split.calls k a0 (⟨#[10]⟩:ByteArray) ls _ HS.out).mono ?_);rintro e w12 ⟨v12,rfl,ho12,hb12⟩;obtain ⟨A12,c12,rfl⟩:=Kd.R_slice ho12;have HO:=Aside0.mk ho12;have HB12:=Aside0.mk hb12;clear ho12 hb12))
  have e40:(ls.take 40).length=min 40 ls.length:=List.length_take
  have HO1:=Aside0.mk (Kd.R_tight rfl HO.out)
  have GL:=Aside0.mk (blk_lt BK3.out)
  have HR3:=Aside0.mk (show Rd w w w12 w.heap.size gr (fun k=>some k≠(Value.slice A12 ls.length c12).ownBlock∧k≠gr) (.slice none 0 0) false [] from
    Rd.below ⟨Kd.S_nil _ _ _ _ _,HB3.out,Kept.of_below HB3.out _,by rw [EG.out];exact Nat.le_refl _,fun _ h=>h.2,BK3.out⟩ HB12.out)
  clear HO HB12 HB3 BK3 HS
  go_loopg [11] (ls.take 40).length (fun g v11 wx=>∃ (i:Nat) (gs:List Gp) (b:Bool) (v:Value),v11=.int .i64 i∧i+g=(ls.take 40).length∧Aside0 (iLoop k ((ls.take 40).drop i) gs b=some r)∧Aside0 (Rd w w wx w.heap.size gr (fun k=>some k≠(Value.slice A12 ls.length c12).ownBlock∧k≠gr) v b gs)∧Aside0 (Kd.string.R 9 wx w3.heap.size (fun k=>some k=(Value.slice A12 ls.length c12).ownBlock) (.slice A12 ls.length c12) ls))
  case atStart=>exact ⟨0,[],false,_,rfl,by omega,⟨by simpa using H0.out⟩,HR3,HO1⟩
  case round=>
    clear H0 HR3 HO1
    obtain ⟨i,gs,b,v,rfl,hig,H,HR,HO⟩:=hrel
    obtain ⟨A3,c3,e3⟩:=Kd.S_slice HR.out.S
    subst e3
    have hx0:=HR.out.cell0
    cases gk with
    | zero=>
      have hr:gs=r:=by
        have:=H.out
        rw [List.drop_of_length_le (by omega)] at this
        exact Option.some.inj this
      subst hr
      by_cases c1:i < ls.length
      · have c1b:decide ((i:Int) < (ls.length:Int))=true:=decide_eq_true (by omega)
        have c1n:decide (i < ls.length)=true:=decide_eq_true (by omega)
        have c2b:((i:Int) == 40)=true:=beq_iff_eq.mpr (by omega)
        obtain ⟨gl,cl,eu,hb0,hb1,hx1⟩:=string_at HO.out c1
        injection eu with eu1 eu2 eu3
        subst eu1
        subst eu3
        have p0:(0≤(i:Int))=True:=eq_true (by omega)
        have q0:((i:Int) < (ls.length:Int))=True:=eq_true (by omega)
        have q1:(i < ls.length)=True:=eq_true (by omega)
        generalize ls[i]=s at hx1
        clear c1
        go_wp2
        go_ret
        exact ⟨_,rfl,Kd.S_mono HR.out.S (fun _ _=>trivial),HR.out.B⟩
      · have c1b:decide ((i:Int) < (ls.length:Int))=false:=decide_eq_false (by omega)
        have c1n:decide (i < ls.length)=false:=decide_eq_false (by omega)
        clear c1
        go_wp2
        go_ret
        exact ⟨_,rfl,Kd.S_mono HR.out.S (fun _ _=>trivial),HR.out.B⟩
    | succ g1=>
      have hi:i < ls.length:=by omega
      have c1b:decide ((i:Int) < (ls.length:Int))=true:=decide_eq_true (by omega)
      have c1n:decide (i < ls.length)=true:=decide_eq_true (by omega)
      have c2b:((i:Int) == 40)=false:=beq_eq_false_iff_ne.mpr (by omega)
      obtain ⟨gl,cl,eu,hb0,hb1,hx1⟩:=string_at HO.out hi
      injection eu with eu1 eu2 eu3
      subst eu1
      subst eu3
      have p0:(0≤(i:Int))=True:=eq_true (by omega)
      have q0:((i:Int) < (ls.length:Int))=True:=eq_true (by omega)
      have q1:(i < ls.length)=True:=eq_true (by omega)
      have h1:=H.out
      rw [List.drop_eq_getElem_cons (by omega:i < (ls.take 40).length),List.getElem_take] at h1
      unfold iLoop at h1
      obtain ⟨o,A1,h2⟩:=Option.bind_eq_some_iff.mp h1
      have HA1:=Aside0.mk A1
      generalize ls[i]=s at hx1 HA1
      clear H h1 A1
      cases o with
      | none=>
        have H':=Aside0.mk h2
        clear h2
        go_wp2_with (first
          | (go_at_call 18;(with_reducible refine (impl_readLine.calls k s none _ HA1.out).mono ?_);rintro e w5 ⟨iv,rfl,_,hb5⟩;simp only [Option.isSome_none];have HB5:=Aside0.mk hb5;clear hb5))
        go_roundg g1
        case measure=>omega
        case rel=>exact ⟨i+1,gs,b,_,by first|rw [nxt i (by omega)]|simp,by omega,H',⟨HR.out.below HB5.out⟩,⟨Kd.R_below HO.out HB5.out⟩⟩
      | some x=>
        simp only at h2
        split at h2
        case isFalse=>cases h2
        rename_i hsm
        have H':=Aside0.mk h2
        clear h2
        go_wp2_with (first
          | (go_at_call 18;(with_reducible refine (impl_readLine.calls k s (some x) _ HA1.out).mono ?_);rintro e w5 ⟨iv,rfl,hiv,hb5⟩;simp only [Option.isSome_some];obtain rfl:=hiv x rfl;have HB5:=Aside0.mk hb5;clear hb5 hiv)
          | (go_at_call 19
             have HQ:=Aside0.mk (HR.out.below HB5.out)
             have HP:=Aside0.mk (Kd.R_below HO.out HB5.out)
             (with_reducible refine (impl_take.calls w.heap.size gr (fun k=>some k≠(Value.slice (some ⟨gl,0,none⟩) ls.length c12).ownBlock∧k≠gr) (.slice A3 gs.length c3) b gs x w _ ⟨HQ.out.S,HQ.out.B,Kept.refl _ _,HQ.out.le,HQ.out.ng,HQ.out.box⟩ (fun k hk=>⟨fun he=>by have:=Kd.R_lt HP.out k he.symm;omega,fun he=>by have:=HQ.out.lt;omega⟩) hsm.1 hsm.2).mono ?_)
             rintro e w6 ⟨rfl,v6,h6⟩
             have H6:=Aside0.mk (show Rd w w w6 w.heap.size gr (fun k=>some k≠(Value.slice (some ⟨gl,0,none⟩) ls.length c12).ownBlock∧k≠gr) v6 (takeF gs b x).2 (takeF gs b x).1 from ⟨h6.S,h6.B,HQ.out.K.then_ h6.K (fun k hk=>.inl hk),h6.le,h6.ng,h6.box⟩)
             have HO6:=Aside0.mk (Kd.R_step HP.out (fun k hk hlt=>h6.K.2 k hlt (fun h=>h.elim (fun h=>h.1 hk) (fun h=>by have hb:=Kd.R_base HP.out k hk.symm;have:=GL.out;omega))))
             clear h6))
        go_roundg g1
        case measure=>omega
        case rel=>exact ⟨i+1,(takeF gs b x).1,(takeF gs b x).2,_,by first|rw [nxt i (by omega)]|simp,by omega,H',H6,HO6⟩
def laws_FnExactNoticeRead.f (k:Nat) (t:ByteArray):Option Bool:=
 if (t.size:Int) > 1048576 then some true else
  (spec_NoticeRead.f k t).bind fun a=>(impl_NoticeRead.f k t).bind fun g=>(laws_eqGroupS.f k g a).bind fun e=>(laws_markGroupS.f k g 1).bind fun mg=>(laws_heldGroupS.f k mg.2 1).bind fun q=>if e=true∧0≤q∧q=mg.1 then some true else none
theorem S_rd {w:World} {base:Nat} {ok:Nat→Prop} {A:Option Addr} {c:Nat} {xs:List Gp} {n:Nat} (h:Kd.S kGp 32 w base ok (.slice A n c) xs):n=xs.length∧Kd.C kGp w A xs.length xs∧xs.length≤c:=by
 obtain ⟨h1,h2,h3⟩:=Kd.S_reads' h
 exact ⟨h1,h3,by omega⟩
set_option maxHeartbeats 8000000 in
set_option maxRecDepth 100000 in
theorem laws_FnExactNoticeRead.calls (k:Nat) (t:ByteArray) (w:World) (h:laws_FnExactNoticeRead.f k t=some true) :
  Calls Tryd.prog 3 #[.string t] w fun e w'=>e=.returned (.bool true)∧Below w.heap.size w w':=by
 unfold laws_FnExactNoticeRead.f at h
 by_cases c1:(t.size:Int) > 1048576
 ·have c1b:decide (1048576 < (t.size:Int))=true:=decide_eq_true c1
  have c1n:decide (1048576 < t.size)=true:=decide_eq_true (by omega)
  clear c1 h
  go_enter Tryd.func3,Tryd.ntmps3
  go_wp2
  go_ret
  exact ⟨rfl,Below.refl _ _⟩
 ·rw [if_neg c1] at h
  have c1b:decide (1048576 < (t.size:Int))=false:=decide_eq_false c1
  have c1n:decide (1048576 < t.size)=false:=decide_eq_false (by omega)
  clear c1
  replace h:=Option.bind_eq_some_iff.mp h
  obtain ⟨a,ha,h⟩:=h
  replace h:=Option.bind_eq_some_iff.mp h
  obtain ⟨g,hg,h⟩:=h
  replace h:=Option.bind_eq_some_iff.mp h
  obtain ⟨e1,he,h⟩:=h
  replace h:=Option.bind_eq_some_iff.mp h
  obtain ⟨⟨m,g1⟩,hm,h⟩:=h
  replace h:=Option.bind_eq_some_iff.mp h
  obtain ⟨q,hq,h⟩:=h
  have hc:e1=true∧0≤q∧q=m:=by
   split at h
   ·assumption
   ·cases h
  clear h
  obtain ⟨rfl,q0,rfl⟩:=hc
  have HA:=Aside0.mk ha
  have HG:=Aside0.mk hg
  have HE:=Aside0.mk he
  have HM:=Aside0.mk hm
  have HQ:=Aside0.mk hq
  have n0:decide (q < 0)=false:=decide_eq_false (by omega)
  clear ha hg he hm hq q0
  go_enter Tryd.func3,Tryd.ntmps3
  go_upto_region 15 with (first
   | (go_at_call 6;(with_reducible refine (spec_NoticeRead.calls k t a _ HA.out).mono ?_);rintro e w3 ⟨v3,rfl,hs3,hb3⟩;obtain ⟨A3,c3,rfl⟩:=Kd.S_slice hs3;have S3:=Aside0.mk hs3;have B3:=Aside0.mk hb3;clear hs3 hb3)
   | (go_at_call 7;(with_reducible refine (impl_NoticeRead.calls k t g _ HG.out).mono ?_);rintro e w4 ⟨v4,rfl,hs4,hb4⟩;obtain ⟨A4,c4,rfl⟩:=Kd.S_slice hs4;have S4:=Aside0.mk (Kd.S_mono (Kd.S_bound hs4) (fun k hk=>hk.2.1):Kd.S kGp 32 w4 w3.heap.size (fun k=>w3.heap.size≤k) (.slice A4 g.length c4) g);have B4:=Aside0.mk hb4;clear hs4 hb4)
   | (go_at_call 8;(with_reducible refine (laws_eqGroupS.calls k A4 c4 g A3 c3 a true _ (S_rd S4.out).2.1 (S_rd S4.out).2.2 (S_rd (Kd.S_below S3.out B4.out)).2.1 (S_rd (Kd.S_below S3.out B4.out)).2.2 HE.out).mono ?_);rintro e w5 ⟨rfl,hb5⟩;have B5:=Aside0.mk (below_step B4.out hb5);have S5:=Aside0.mk (Kd.S_below S4.out hb5);clear hb5)
   | (go_at_call 9;(with_reducible refine (laws_markGroupS.calls k (fun k=>w3.heap.size≤k) (.slice A4 g.length c4) g 1 q g1 w3 _ ⟨S5.out,B5.out,Kept.refl _ _,B5.out.size⟩ HM.out).mono ?_);rintro e w6 ⟨rfl,hl6⟩;have HL:=Aside0.mk hl6;clear hl6)
   | (go_at_call 10;have en:=(S_rd HL.out.S).1;(with_reducible refine calls_of_args (by rw [en]) (laws_heldGroupS.calls k A4 c4 g1 1 q _ (S_rd HL.out.S).2.1 (S_rd HL.out.S).2.2 HQ.out) |>.mono ?_);rintro e w7 ⟨rfl,hb7⟩;have HL7:=Aside0.mk (HL.out.below hb7);clear hb7 en))
  go_wp2_with (first
   | (go_at_call 7;(with_reducible refine (impl_NoticeRead.calls k t g _ HG.out).mono ?_);rintro e w8 ⟨v8,rfl,hs8,hb8⟩;obtain ⟨A8,c8,rfl⟩:=Kd.S_slice hs8;have S8:=Aside0.mk hs8;have HL8:=Aside0.mk (HL7.out.below hb8);clear hs8 hb8)
   | (go_at_call 8;(with_reducible refine (laws_eqGroupS.calls k A8 c8 g A3 c3 a true _ (S_rd S8.out).2.1 (S_rd S8.out).2.2 (S_rd (Kd.S_below S3.out HL8.out.B)).2.1 (S_rd (Kd.S_below S3.out HL8.out.B)).2.2 HE.out).mono ?_);rintro e w9 ⟨rfl,hb9⟩;have HL9:=Aside0.mk (HL8.out.below hb9);clear hb9)
   | (go_at_call 10;have en:=(S_rd HL9.out.S).1;(with_reducible refine calls_of_args (by rw [en]) (laws_heldGroupS.calls k A4 c4 g1 1 q _ (S_rd HL9.out.S).2.1 (S_rd HL9.out.S).2.2 HQ.out) |>.mono ?_);rintro e w10 ⟨rfl,hb10⟩;have HL10:=Aside0.mk (HL9.out.below hb10);clear hb10 en))
  go_ret
  exact ⟨rfl,below_step B3.out HL10.out.B⟩
end Go.Proofs.YthojbccgnlcblaaDoor.P
end
section
namespace Go.Proofs.YthojbccgnlcblaaDoor.Ad
open Go.RowKit Go.Proofs.YthojbccgnlcblaaDoor.P Go.Proofs.YthojbccgnlcblaaDoorW.PrintWords Go.Proofs.YthojbccgnlcblaaDoorW.PrintLast Go.Proofs.YthojbccgnlcblaaDoorW.PrintMore Go.Proofs.YthojbccgnlcblaaDoor.B
set_option linter.unusedVariables false
set_option linter.unusedSimpArgs false
theorem plain_all:∀ n:Nat,n < 256→spec_l1Plain.f (n:Int)=some (plainB (UInt8.ofNat n)):=by decide +kernel
theorem of_toNat (c:UInt8):UInt8.ofNat c.toNat=c:=UInt8.ofNat_toNat
theorem bt_at {s:ByteArray} {i:Nat} {c:UInt8} {l:List UInt8} (h:(L s).drop i=c :: l):i < s.size∧bt s i=(c.toNat:Int)∧(L s).drop (i+1)=l:=by
 have hl:i < (L s).length:=by
  rcases Nat.lt_or_ge i (L s).length with h'|h'
  ·exact h'
  ·rw [List.drop_eq_nil_of_le h'] at h;cases h
 have hd:(L s).drop i=(L s)[i] :: (L s).drop (i+1):=List.drop_eq_getElem_cons hl
 rw [h] at hd
 injection hd with h1 h2
 refine ⟨by rw [← L_size];exact hl,?_,h2.symm⟩
 rw [bt_L,List.getD_eq_getElem?_getD,List.getElem?_eq_getElem hl,← h1]
 rfl
theorem bt_end {s:ByteArray} {i:Nat} (h:(L s).drop i=[]):s.size≤i:=by
 rw [← L_size];exact List.drop_eq_nil_iff.1 h
theorem u8_eq {a b:UInt8}:((a.toNat:Int)=(b.toNat:Int))↔a=b:=by
 constructor
 ·intro h;exact UInt8.toNat_inj.1 (by omega)
 ·intro h;rw [h]
def cutL (c:UInt8):List UInt8→List UInt8×List UInt8×Bool
 | []=>([],[],false)
 | x :: xs=>if x=c then ([],xs,true) else (x :: (cutL c xs).1,(cutL c xs).2)
theorem cutL_false {c:UInt8}:∀ {l:List UInt8},(cutL c l).2.2=false→(cutL c l).1=l∧(cutL c l).2.1=[]
 | [],_=>by simp [cutL]
 | x :: xs,h=>by
  unfold cutL at h ⊢
  by_cases e:x=c
  ·rw [if_pos e] at h;cases h
  ·rw [if_neg e] at h ⊢
   have:=cutL_false (l:=xs) h
   exact ⟨by rw [this.1],this.2⟩
theorem cutL_true {c:UInt8}:∀ {l:List UInt8},(cutL c l).2.2=true→l=(cutL c l).1++c :: (cutL c l).2.1
 | [],h=>by simp [cutL] at h
 | x :: xs,h=>by
  unfold cutL at h ⊢
  by_cases e:x=c
  ·rw [if_pos e,e];rfl
  ·rw [if_neg e] at h ⊢
   have:=cutL_true (l:=xs) h
   show x :: xs=x :: ((cutL c xs).1++c :: (cutL c xs).2.1)
   rw [← this]
theorem cutL_len {c:UInt8}:∀ (l:List UInt8),(cutL c l).1.length+(cutL c l).2.1.length≤l.length∧((cutL c l).2.2=true→(cutL c l).1.length+(cutL c l).2.1.length+1=l.length)
 | []=>by simp [cutL]
 | x :: xs=>by
  unfold cutL
  by_cases e:x=c
  ·rw [if_pos e];simp
  ·rw [if_neg e]
   have:=cutL_len (c:=c) xs
   simp only [List.length_cons]
   exact ⟨by omega,fun h=>by have:=this.2 h;omega⟩
def cutB (c:UInt8) (s:ByteArray):ByteArray×ByteArray×Bool:=(ofL (cutL c (L s)).1,ofL (cutL c (L s)).2.1,(cutL c (L s)).2.2)
theorem cut_l (s:ByteArray) (c:UInt8) (hs:s.size≤140737488351232):∀ (l:List UInt8) (i:Nat),(L s).drop i=l →
  Ev (fun k=>spec_l1Cut.l0 k s (c.toNat:Int) (i:Int)) (ofL ((L s).take i++(cutL c l).1),ofL (cutL c l).2.1,(cutL c l).2.2)
 | [],i,h=>by
  have:=bt_end h
  have n1:¬ ((i:Int) < (s.size:Int)):=by omega
  refine Ev_succ ?_
  simp only [spec_l1Cut.l0,n1,if_false]
  have e:(L s).take i=L s:=List.take_of_length_le (by rw [L_size];omega)
  simp only [cutL,e,List.append_nil,of_L]
  exact Ev.now _
 | x :: xs,i,h=>by
  obtain ⟨hi,hb,hd⟩:=bt_at h
  refine Ev_succ ?_
  have e1:wrap64 ((i:Int)+1)=((i+1:Nat):Int):=by rw [w64 (by omega) (by omega)];rfl
  have f1:(i:Int) < (s.size:Int):=by omega
  have f2:(0:Int)≤(i:Int):=by omega
  have f3:(i:Int)≤(s.size:Int):=by omega
  have f4:(0:Int)≤((i+1:Nat):Int):=by omega
  have f5:((i+1:Nat):Int)≤(s.size:Int):=by omega
  simp only [spec_l1Cut.l0,e1,f1,f2,f3,f4,f5,if_true,hb,u8_eq]
  unfold cutL
  by_cases e:x=c
  ·simp only [e,if_true]
   have a1:s.extract 0 ((i:Int)).toNat=ofL ((L s).take i++[]):=by
    apply L_inj;rw [L_ext,L_of];simp
   have a2:s.extract ((((i+1:Nat):Int))).toNat s.size=ofL xs:=by
    apply L_inj;rw [L_ext,L_of,Int.toNat_natCast,hd,List.take_of_length_le]
    rw [← hd,List.length_drop,L_size];omega
   rw [a1,a2]
   exact Ev.now _
  ·simp only [e,if_false]
   have:=cut_l s c hs xs (i+1) hd
   have ht:(L s).take (i+1)++(cutL c xs).1=(L s).take i++(x :: (cutL c xs).1):=by
    have hl:i < (L s).length:=by rw [L_size];exact hi
    have:(L s)[i]=x:=by
     have hd2:(L s).drop i=(L s)[i] :: (L s).drop (i+1):=List.drop_eq_getElem_cons hl
     rw [h] at hd2
     injection hd2 with h1 h2
     exact h1.symm
    rw [List.take_succ_eq_append_getElem hl,this]
    simp
   rw [ht] at this
   exact this
theorem cut_ev (s:ByteArray) (c:UInt8) (hs:s.size≤140737488351232):Ev (fun k=>spec_l1Cut.f k s (c.toNat:Int)) (cutB c s):=by
 have:=cut_l s c hs (L s) 0 rfl
 simp only [List.take_zero,List.nil_append] at this
 exact this
def splitN (c:UInt8):Nat→List UInt8→List (List UInt8)
 | 0,l=>[l]
 | n+1,l=>(cutL c l).1 :: (if (cutL c l).2.2=true then splitN c n (cutL c l).2.1 else [])
def splitL (c:UInt8) (l:List UInt8):List (List UInt8):=splitN c (l.length+1) l
theorem splitN_eq (c:UInt8):∀ (n m:Nat) (l:List UInt8),l.length < n→l.length < m→splitN c n l=splitN c m l
 | 0,_,l,h,_=>absurd h (by omega)
 | _+1,0,l,_,h=>absurd h (by omega)
 | n+1,m+1,l,h1,h2=>by
  simp only [splitN]
  by_cases e:(cutL c l).2.2=true
  ·have:=(cutL_len (c:=c) l).2 e
   rw [if_pos e,if_pos e,splitN_eq c n m _ (by omega) (by omega)]
  ·rw [if_neg e,if_neg e]
theorem splitL_eq (c:UInt8) (l:List UInt8):splitL c l=(cutL c l).1 :: (if (cutL c l).2.2=true then splitL c (cutL c l).2.1 else []):=by
 unfold splitL
 rw [splitN]
 by_cases e:(cutL c l).2.2=true
 ·have:=(cutL_len (c:=c) l).2 e
  rw [if_pos e,if_pos e,splitN_eq c _ ((cutL c l).2.1.length+1) _ (by omega) (by omega)]
 ·rw [if_neg e,if_neg e]
theorem splitN_len (c:UInt8):∀ (n:Nat) (l:List UInt8),(splitN c n l).length≤l.length+1
 | 0,l=>by simp [splitN]
 | n+1,l=>by
  simp only [splitN]
  by_cases e:(cutL c l).2.2=true
  ·have:=(cutL_len (c:=c) l).2 e
   have ih:=splitN_len c n (cutL c l).2.1
   rw [if_pos e];simp only [List.length_cons];omega
  ·rw [if_neg e];simp
theorem splitL_len (c:UInt8) (l:List UInt8):(splitL c l).length≤l.length+1:=splitN_len c _ l
theorem splitN_mem (c:UInt8):∀ (n:Nat) (l p:List UInt8),p ∈ splitN c n l→p.length≤l.length
 | 0,l,p,h=>by simp [splitN] at h;rw [h];exact Nat.le_refl _
 | n+1,l,p,h=>by
  simp only [splitN,List.mem_cons] at h
  have hc:=(cutL_len (c:=c) l).1
  rcases h with h|h
  ·rw [h];omega
  ·by_cases e:(cutL c l).2.2=true
   ·rw [if_pos e] at h
    have:=splitN_mem c n _ p h
    omega
   ·rw [if_neg e] at h;cases h
theorem splitL_mem (c:UInt8) (l p:List UInt8) (h:p ∈ splitL c l):p.length≤l.length:=splitN_mem c _ l p h
theorem split_l (c:UInt8) (n:Nat):∀ (s:ByteArray) (acc:List ByteArray),s.size < n→s.size≤1000000000→acc.length+s.size≤2000000000 →
  Ev (fun k=>spec_l1Split.l0 k (c.toNat:Int) acc s true) (acc++(splitL c (L s)).map ofL):=by
 induction n with
 | zero=>intro s acc h;exact absurd h (by omega)
 | succ n ih=>
  intro s acc h h1 h2
  refine Ev_succ ?_
  simp only [spec_l1Split.l0,if_true]
  refine Ev.bind (cut_ev s c (by omega)) ?_
  have g1:acc.length < 8796093022208:=by omega
  simp only [g1,if_true]
  rw [splitL_eq]
  have hl:=cutL_len (c:=c) (L s)
  rw [L_size] at hl
  by_cases e:(cutL c (L s)).2.2=true
  ·have e':(cutB c s).2.2=true:=e
   have hz:(ofL (cutL c (L s)).2.1).size=(cutL c (L s)).2.1.length:=ofL_size _
   have:=hl.2 e
   have ih':=ih (ofL (cutL c (L s)).2.1) (acc++[ofL (cutL c (L s)).1]) (by omega) (by omega) (by simp only [List.length_append,List.length_singleton];omega)
   rw [if_pos e]
   simp only [cutB,e]
   rw [L_of] at ih'
   simpa using ih'
  ·have e':(cutL c (L s)).2.2=false:=by simpa using e
   rw [if_neg e]
   simp only [cutB,e']
   refine Ev_succ ?_
   simp only [spec_l1Split.l0]
   simp
   exact Ev.now _
theorem split_ev (s:ByteArray) (c:UInt8) (hs:s.size≤1000000000):Ev (fun k=>spec_l1Split.f k s (c.toNat:Int)) ((splitL c (L s)).map ofL):=by
 have:=split_l c (s.size+1) s [] (by omega) hs (by simp;omega)
 rw [List.nil_append] at this
 exact this
theorem index_cut (c:UInt8):∀ l:List UInt8,Lib.indexByte l c=if (cutL c l).2.2=true then (((cutL c l).1.length:Nat):Int) else -1
 | []=>rfl
 | x :: xs=>by
  unfold Lib.indexByte cutL
  by_cases h:x=c
  ·subst h;simp
  ·have hb:(x == c)=false:=by simp [h]
   simp only [hb,h,if_false,Bool.false_eq_true,index_cut c xs]
   by_cases h2:(cutL c xs).2.2=true
   ·simp only [h2,if_true]
    have:((((cutL c xs).1.length:Nat):Int) == -1)=false:=by simp
    rw [this]
    simp
   ·simp only [h2,if_false,Bool.false_eq_true]
    rfl
theorem cut_parts {c:UInt8} {s:ByteArray} (h:(cutL c (L s)).2.2=true) :
  s.extract 0 (cutL c (L s)).1.length=ofL (cutL c (L s)).1∧s.extract ((cutL c (L s)).1.length+1) s.size=ofL (cutL c (L s)).2.1∧(cutL c (L s)).1.length+1≤s.size:=by
 have e:=cutL_true h
 have hn:=(cutL_len (c:=c) (L s)).2 h
 rw [L_size] at hn
 generalize (cutL c (L s)).1=a at *
 generalize (cutL c (L s)).2.1=b at *
 have e':s.data.toList=a++c :: b:=e
 refine ⟨?_,?_,by omega⟩
 ·apply L_inj
  rw [L_ext,L_of,e']
  simp
 ·apply L_inj
  have:(a++c :: b).drop (a.length+1)=b:=by rw [List.drop_append];simp
  rw [L_ext,L_of,e',this,List.take_of_length_le (by omega)]
theorem cut_i (s:ByteArray) (c:UInt8) (hs:s.size≤140737488351232):strings_Cut.f s ⟨#[c]⟩=some (cutB c s):=by
 have e1:L (⟨#[c]⟩:ByteArray)=[c]:=rfl
 have e2:(⟨#[c]⟩:ByteArray).size=1:=rfl
 unfold strings_Cut.f stringslite_Cut.f stringslite_Index.f cutB
 rw [e1]
 simp only [Option.bind_some,index_cut,e2]
 by_cases h:(cutL c (L s)).2.2=true
 ·obtain ⟨h1,h2,h3⟩:=cut_parts h
  simp only [h,if_true]
  rw [if_pos (by omega),if_pos (by omega),if_pos (by omega),w64 (by omega) (by omega),if_pos (by omega),if_pos (by omega)]
  simp only [Option.bind_some,Int.toNat_natCast]
  rw [h1,show (((cutL c (L s)).1.length:Int)+((1:Nat):Int)).toNat=(cutL c (L s)).1.length+1 from by omega,h2]
 ·simp only [h,if_false,Bool.false_eq_true]
  rw [if_neg (by decide)]
  obtain ⟨g1,g2⟩:=cutL_false (c:=c) (l:=L s) (by simpa using h)
  simp only [Option.bind_some,g1,g2,of_L]
  first|done|rfl
theorem count_cut_false {c:UInt8}:∀ {l:List UInt8},Lib.countByte l c=0→(cutL c l).2.2=false
 | [],_=>rfl
 | x :: xs,h=>by
  unfold Lib.countByte at h
  unfold cutL
  by_cases e:x=c
  ·subst e;simp at h
  ·rw [if_neg e]
   have h':Lib.countByte xs c=0:=by unfold Lib.countByte;rw [List.count_cons] at h;omega
   exact count_cut_false h'
theorem count_cut_true {c:UInt8} {m:Nat}:∀ {l:List UInt8},Lib.countByte l c=m+1→(cutL c l).2.2=true∧Lib.countByte (cutL c l).2.1 c=m
 | [],h=>by simp [Lib.countByte] at h
 | x :: xs,h=>by
  unfold Lib.countByte at h
  unfold cutL
  by_cases e:x=c
  ·subst e
   rw [if_pos rfl]
   refine ⟨rfl,?_⟩
   unfold Lib.countByte
   rw [List.count_cons_self] at h
   exact Nat.succ.inj h
  ·rw [if_neg e]
   have h':Lib.countByte xs c=m+1:=by
    unfold Lib.countByte
    rw [List.count_cons_of_ne e] at h
    exact h
   exact count_cut_true h'
theorem w64n0 (a:Nat) (h:a < 4611686018427387904):wrap64 ((a:Int)+0)=(a:Int):=by rw [w64 (by omega) (by omega)];omega
theorem w64n1 (a:Nat) (h:a < 4611686018427387904):wrap64 ((a:Int)+1)=((a+1:Nat):Int):=by rw [w64 (by omega) (by omega)];omega
theorem w64n2 (a:Nat) (h:a < 4611686018427387904):wrap64 ((a:Int)+((1:Nat):Int))=((a+1:Nat):Int):=by rw [w64 (by omega) (by omega)];omega
theorem w64b {n m:Nat} (h:n+1≤m) (hm:m≤1000000000):n < 4611686018427387904:=by omega
theorem w64d {n m:Nat} (h:n+m≤2000000000):n < 4611686018427387904:=by omega
theorem ci_lt (a m:Nat):(a:Int) < ((a+(m+1):Nat):Int):=by omega
theorem ci_neg (n:Nat):¬ ((n:Int) < 0):=by omega
theorem ci_nn (n:Nat):(0:Int)≤(n:Int):=by omega
theorem ci_le {n s:Nat} (h:n+1≤s):(n:Int)≤(s:Int):=by omega
theorem ci_le1 {n s:Nat} (h:n+1≤s):((n+1:Nat):Int)≤(s:Int):=by omega
theorem ci_l6 {a m l:Nat} (h:l=a+(m+2)):(a:Int) < (l:Int):=by omega
theorem set_mid (a:List ByteArray) (m:Nat) (p e:ByteArray):(a++List.replicate (m+1) e).set a.length p=(a++[p])++List.replicate m e:=by
 rw [List.set_append_right _ _ (Nat.le_refl _),Nat.sub_self,List.replicate_succ,List.set_cons_zero,List.append_assoc]
 rfl
theorem take_mid (a b:List ByteArray) (p:ByteArray):((a++[p])++b).take (a.length+1)=a++[p]:=by
 rw [List.take_append_of_le_length (by simp)]
 exact List.take_of_length_le (by simp)
theorem split_li (c:UInt8):∀ (m:Nat) (s:ByteArray) (a:List ByteArray),Lib.countByte (L s) c=m→s.size≤1000000000→a.length+m≤2000000000 →
  Ev (fun k=>strings_genSplit.l0 k s ⟨#[c]⟩ 0 ((a.length+m:Nat):Int) (a++List.replicate (m+1) (⟨#[]⟩:ByteArray)) (a.length:Int)) (a++(splitL c (L s)).map ofL):=by
 intro m
 have e1:L (⟨#[c]⟩:ByteArray)=[c]:=rfl
 have e2:(⟨#[c]⟩:ByteArray).size=1:=rfl
 induction m with
 | zero=>
  intro s a hc hs ha
  have hf:=count_cut_false hc
  obtain ⟨g1,g2⟩:=cutL_false hf
  rw [splitL_eq,hf]
  refine Ev_succ ?_
  simp only [strings_genSplit.l0]
  have hl:(a++List.replicate (0+1) (⟨#[]⟩:ByteArray)).length=a.length+1:=by simp
  have hw:wrap64 ((a.length:Int)+1)=((a.length+1:Nat):Int):=by rw [w64 (by omega) (by omega)];omega
  simp only [show ¬ ((a.length:Int) < ((a.length+0:Nat):Int)) from by omega,if_false,hl,show ((0:Int)≤(a.length:Int)) from by omega,show ((a.length:Int) < ((a.length+1:Nat):Int)) from by omega,if_true,hw,
   show ((0:Int)≤((a.length+1:Nat):Int)) from by omega,Int.toNat_natCast,Int.le_refl]
  rw [set_mid,take_mid]
  simp only [Bool.false_eq_true,if_false,List.map_cons,List.map_nil,g1,of_L]
  exact Ev.now _
 | succ m ih=>
  intro s a hc hs ha
  obtain ⟨ht,hc'⟩:=count_cut_true hc
  obtain ⟨h1,h2,h3⟩:=cut_parts ht
  have hix:Lib.indexByte (L s) c=(((cutL c (L s)).1.length:Nat):Int):=by rw [index_cut,if_pos ht]
  rw [splitL_eq,if_pos ht]
  have hz:(ofL (cutL c (L s)).2.1).size≤1000000000:=by
   have:=(cutL_len (c:=c) (L s)).1
   rw [L_size] at this
   rw [ofL_size];omega
  have key:=ih (ofL (cutL c (L s)).2.1) (a++[ofL (cutL c (L s)).1]) (by rw [L_of];exact hc') hz (by simp;omega)
  rw [L_of] at key
  rw [List.map_cons,show a++ofL (cutL c (L s)).1 :: List.map ofL (splitL c (cutL c (L s)).2.1)=a++[ofL (cutL c (L s)).1]++List.map ofL (splitL c (cutL c (L s)).2.1) from by simp]
  generalize (cutL c (L s)).1.length=n at h1 h2 h3 hix
  rw [show (cutL c (L s)).2.1=L (s.extract (n+1) s.size) from by rw [h2,L_of]]
  rw [← h1] at key ⊢
  rw [← h2] at key
  clear hz h1 h2 hc' ht hc
  have hl:(a++List.replicate (m+1+1) (⟨#[]⟩:ByteArray)).length=a.length+(m+2):=by simp
  have hl2:(a++[s.extract 0 n]).length=a.length+1:=by simp
  rw [hl2] at key
  refine Ev.step (fun k=>?_) key
  have c1:=ci_lt a.length m
  have c2:=ci_neg n
  have c3:=ci_nn n
  have c4:=ci_le h3
  have c5:=ci_nn a.length
  have c6:=ci_l6 hl
  have c7:=ci_nn (n+1)
  have c8:=ci_le1 h3
  have hw:wrap64 ((a.length:Int)+1)=((a.length+1:Nat):Int):=w64n1 a.length (w64d ha)
  have hw0:wrap64 ((n:Int)+0)=(n:Int):=w64n0 n (w64b h3 hs)
  have hw1:wrap64 ((n:Int)+((1:Nat):Int))=((n+1:Nat):Int):=w64n2 n (w64b h3 hs)
  simp only [strings_genSplit.l0,strings_Index.f,stringslite_Index.f]
  rw [if_pos c1,hix,Option.bind_some,Option.bind_some]
  rw [if_neg c2,hw0,if_pos c3,if_pos c4,if_pos c5,if_pos c6,e2,hw1,if_pos c7,if_pos c8,hw]
  simp only [Int.toNat_natCast]
  rw [set_mid,show a.length+1+m=a.length+(m+1) from by rw [Nat.add_assoc,Nat.add_comm 1 m]]
theorem split_i (s:ByteArray) (c:UInt8) (hs:s.size≤1000000000):Ev (fun k=>strings_Split.f k s ⟨#[c]⟩) ((splitL c (L s)).map ofL):=by
 have e1:L (⟨#[c]⟩:ByteArray)=[c]:=rfl
 have hcnt:Lib.countByte (L s) c≤s.size:=by rw [← L_size];exact List.count_le_length
 unfold strings_Split.f strings_genSplit.f strings_Count.f
 have en:¬ ((⟨#[c]⟩:ByteArray).toList=([]:List UInt8)):=by rw [toList_nil];show ¬ (1=0);omega
 rw [e1]
 simp only [show ¬ ((-1:Int)=0) from by omega,if_false,en,show ((-1:Int) < 0) from by omega,if_true,Option.bind_some]
 refine Ev.bind (a:=(splitL c (L s)).map ofL) ?_ (Ev.now _)
 refine Ev_succ ?_
 have hw:wrap64 (((Lib.countByte (L s) c:Nat):Int)+1)=((Lib.countByte (L s) c+1:Nat):Int):=by rw [w64 (by omega) (by omega)];omega
 have hw2:wrap64 ((s.size:Int)+1)=((s.size+1:Nat):Int):=by rw [w64 (by omega) (by omega)];omega
 have hm:mn ((Lib.countByte (L s) c+1:Nat):Int) ((s.size+1:Nat):Int)=((Lib.countByte (L s) c+1:Nat):Int):=by unfold mn;split <;> omega
 have hw3:wrap64 (((Lib.countByte (L s) c+1:Nat):Int) - 1)=((0+Lib.countByte (L s) c:Nat):Int):=by rw [w64 (by omega) (by omega)];omega
 simp only [strings_genSplit.j0,hw,hw2,hm,show ((0:Int)≤((Lib.countByte (L s) c+1:Nat):Int)) from by omega,if_true,Int.toNat_natCast,show Lib.countByte (L s) c+1≤17592186044416 from by omega,hw3]
 have:=split_li c (Lib.countByte (L s) c) s [] rfl hs (by simp;omega)
 simpa using this
def isName (s:ByteArray):Bool:=decide (1≤s.size) && decide (s.size≤8) && isSmall s
theorem spec_name_l (s:ByteArray) (hs:s.size≤140737488351232) (d:Nat):∀ (k:Nat) (i:Nat),i+d=s.size→d < k →
  spec_l2Name.l0 k s (i:Int)=some (smallFrom s d i && (decide (1≤s.size) && decide (s.size≤8))):=by
 induction d with
 | zero=>
  intro k i h hk
  obtain ⟨k,rfl⟩:∃ m,k=m+1:=⟨k - 1,by omega⟩
  simp only [spec_l2Name.l0,smallFrom,spec_l6In.f]
  rw [if_neg (by omega)]
  by_cases h1:1≤s.size
  ·rw [if_pos (by omega)];simp [h1];omega
  ·rw [if_neg (by omega)];simp [h1]
 | succ d ih=>
  intro k i h hk
  obtain ⟨k,rfl⟩:∃ m,k=m+1:=⟨k - 1,by omega⟩
  simp only [spec_l2Name.l0,smallFrom]
  rw [if_pos (by omega),if_pos (by omega)]
  by_cases h1:bt s i < 97
  ·rw [if_pos h1,if_pos h1];rfl
  ·rw [if_neg h1,if_neg h1]
   by_cases h2:bt s i > 122
   ·rw [if_pos h2,if_pos h2];rfl
   ·rw [if_neg h2,if_neg h2,w64 (by omega) (by omega)]
    exact ih k (i+1) (by omega) (by omega)
theorem name_ev (s:ByteArray) (hs:s.size≤140737488351232):Ev (fun k=>spec_l2Name.f k s) (isName s):=by
 refine Ev.of (fun k=>spec_l2Name.mono _ k) (k:=s.size+1) ?_
 unfold spec_l2Name.f
 have:=spec_name_l s hs s.size (s.size+1) 0 (by omega) (by omega)
 rw [show ((0:Nat):Int)=0 from rfl] at this
 rw [this]
 unfold isName isSmall
 cases smallFrom s s.size 0 <;> simp
def patB (c:UInt8):Bool:=plainB c || c == 47 || c == 42 || c == 63 || c == 37 || (decide (65≤c.toNat) && decide (c.toNat≤70))
def okL:List UInt8→Bool
 | []=>true
 | c :: r=>(patB c || (c == 36 && r.isEmpty)) && okL r
def ruleOk (p:ByteArray):Bool:=decide (1≤p.size) && decide (p.size≤16) && (bt p 0 == 47) && okL (L p)
theorem plain_f (c:UInt8):spec_l1Plain.f (c.toNat:Int)=some (plainB c):=by
 have:=plain_all c.toNat c.toNat_lt
 rwa [of_toNat] at this
theorem ok_spec_l (s:ByteArray) (hs:s.size≤1000000):∀ (l:List UInt8) (i:Nat),(L s).drop i=l→Ev (fun k=>spec_RuleOk.l0 k s (i:Int)) (okL l)
 | [],i,h=>by
  have:=bt_end h
  have n1:¬ ((i:Int) < (s.size:Int)):=by omega
  refine Ev_succ ?_
  simp only [spec_RuleOk.l0,n1,if_false]
  exact Ev.now _
 | x :: xs,i,h=>by
  obtain ⟨hi,hb,hd⟩:=bt_at h
  have e1:wrap64 ((i:Int)+1)=((i+1:Nat):Int):=by rw [w64 (by omega) (by omega)];rfl
  have e2:wrap64 ((s.size:Int) - 1)=(s.size:Int) - 1:=w64 (by omega) (by omega)
  have f1:(i:Int) < (s.size:Int):=by omega
  have f2:(0:Int)≤(i:Int):=by omega
  have hx:xs.length+(i+1)=s.size:=by rw [← L_size,← hd,List.length_drop];rw [L_size];omega
  have hE:xs.isEmpty=decide ((i:Int)=(s.size:Int) - 1):=by
   cases xs with
   | nil=>simp at hx ⊢;omega
   | cons y ys=>simp at hx ⊢;omega
  have ih:=ok_spec_l s hs xs (i+1) hd
  have c1:((x.toNat:Int)=47)↔(x == 47)=true:=by rw [beq_iff_eq];exact u8_eq (b:=47)
  have c2:((x.toNat:Int)=42)↔(x == 42)=true:=by rw [beq_iff_eq];exact u8_eq (b:=42)
  have c3:((x.toNat:Int)=63)↔(x == 63)=true:=by rw [beq_iff_eq];exact u8_eq (b:=63)
  have c4:((x.toNat:Int)=37)↔(x == 37)=true:=by rw [beq_iff_eq];exact u8_eq (b:=37)
  have c5:((x.toNat:Int)=36)↔(x == 36)=true:=by rw [beq_iff_eq];exact u8_eq (b:=36)
  have c6:((x.toNat:Int) ≥ 65)↔(decide (65≤x.toNat))=true:=by rw [decide_eq_true_eq];omega
  have c7:((x.toNat:Int)≤70)↔(decide (x.toNat≤70))=true:=by rw [decide_eq_true_eq];omega
  have c8:((i:Int)=(s.size:Int) - 1)↔xs.isEmpty=true:=by rw [hE,decide_eq_true_eq]
  refine Ev_succ ?_
  simp only [spec_RuleOk.l0,e1,e2,f1,f2,if_true,hb,plain_f,Option.bind_some,okL,patB,c1,c2,c3,c4,c5,c6,c7,c8]
  have yes:Ev (fun k=>spec_RuleOk.l0 k s ((i+1:Nat):Int)) (true && okL xs):=by rw [Bool.true_and];exact ih
  have no:Ev (fun k=>some false) (false && okL xs):=by rw [Bool.false_and];exact Ev.now _
  cases plainB x
  ·cases (x == 47)
   ·cases (x == 42)
    ·cases (x == 63)
     ·cases (x == 37)
      ·cases (x == 36) <;> cases xs.isEmpty <;> cases decide (65≤x.toNat) <;> cases decide (x.toNat≤70) <;> first|exact yes|exact no
      ·exact yes
     ·exact yes
    ·exact yes
   ·exact yes
  ·exact yes
theorem ruleOk_spec (p:ByteArray):Ev (fun k=>spec_RuleOk.f k p) (ruleOk p):=by
 unfold spec_RuleOk.f ruleOk
 by_cases h2:p.size≤16
 ·have n2:¬ (p.size:Int) > 16:=by omega
  by_cases h1:p.size=0
  ·have z:=toList_nil.2 h1
   have n1:¬ 1≤p.size:=by omega
   simp only [n2,if_false,z,if_true,n1,decide_false,Bool.false_and]
   refine Ev_succ ?_
   simp only [spec_RuleOk.j0,if_true]
   exact Ev.now _
  ·have z:¬ p.toList=[]:=fun e=>h1 (toList_nil.1 e)
   have n1:1≤p.size:=by omega
   have n3:(0:Int) < (p.size:Int):=by omega
   simp only [n2,n1,n3,z,h2,if_true,if_false,decide_true,Bool.true_and]
   refine Ev_succ ?_
   by_cases h3:bt p 0=47
   ·simp only [spec_RuleOk.j0,h3,bne_self_eq_false,Bool.false_eq_true,if_false,beq_self_eq_true,Bool.true_and]
    have:=ok_spec_l p (by omega) _ 0 rfl
    rw [List.drop_zero] at this
    exact this
   ·have h4:(bt p 0 != 47)=true:=by simpa using h3
    have h5:(bt p 0 == 47)=false:=by simpa using h3
    simp only [spec_RuleOk.j0,h4,h5,if_true,Bool.false_and]
    exact Ev.now _
 ·have n2:(p.size:Int) > 16:=by omega
  simp only [n2,h2,if_true,decide_false,Bool.and_false,Bool.false_and]
  refine Ev_succ ?_
  simp only [spec_RuleOk.j0,if_true]
  exact Ev.now _
def endsD (p:ByteArray):Bool:=(L p).getLast? == some 36
def bodyD (p:ByteArray):ByteArray:=if endsD p=true then p.extract 0 (p.size - 1) else p
theorem L_last {p:ByteArray} (h:1≤p.size):∃ l c,L p=l++[c]∧l.length+1=p.size:=by
 have hl:=L_size p
 have hn:L p≠[]:=fun e=>by rw [e] at hl;simp at hl;omega
 refine ⟨(L p).dropLast,(L p).getLast hn,(List.dropLast_concat_getLast hn).symm,?_⟩
 rw [List.length_dropLast];omega
theorem sz36:(⟨#[36]⟩:ByteArray).size=1:=rfl
theorem suf_f (p:ByteArray) (hp:p.size≤140737488351232):stringslite_HasSuffix.f p (⟨#[36]⟩:ByteArray)=some (endsD p):=by
 unfold stringslite_HasSuffix.f endsD
 rw [sz36]
 by_cases h:1≤p.size
 ·obtain ⟨l,c,e,hl⟩:=L_last h
  have w:wrap64 ((p.size:Int) - ((1:Nat):Int))=((p.size - 1:Nat):Int):=by rw [w64 (by omega) (by omega)];omega
  rw [w,if_pos (by omega),if_pos (by omega),if_pos (by omega),Int.toNat_natCast,Lib.toList_data]
  have x:L (p.extract (p.size - 1) p.size)=[c]:=by
   have hz:p.size - l.length=1:=by omega
   rw [L_ext,e,List.drop_append,show p.size - 1=l.length from by omega,hz]
   simp
  show some ((p.extract (p.size - 1) p.size).data.toList == _)=_
  rw [show (p.extract (p.size - 1) p.size).data.toList=[c] from x,e]
  simp [Lib.toList_data]
 ·rw [if_neg (by omega)]
  have:L p=[]:=List.length_eq_zero_iff.1 (by rw [L_size];omega)
  rw [this];rfl
theorem ends_size {p:ByteArray} (h:endsD p=true):1≤p.size:=by
 rcases Nat.lt_or_ge p.size 1 with h'|h'
 ·have:L p=[]:=List.length_eq_zero_iff.1 (by rw [L_size];omega)
  unfold endsD at h;rw [this] at h;cases h
 ·exact h'
theorem trim_f (p:ByteArray) (hp:p.size≤140737488351232):strings_TrimSuffix.f p (⟨#[36]⟩:ByteArray)=some (bodyD p):=by
 simp only [strings_TrimSuffix.f,stringslite_TrimSuffix.f,suf_f p hp,Option.bind_some,bodyD,sz36]
 by_cases h:endsD p=true
 ·have:=ends_size h
  have w:wrap64 ((p.size:Int) - ((1:Nat):Int))=((p.size - 1:Nat):Int):=by rw [w64 (by omega) (by omega)];omega
  rw [if_pos h,if_pos h,w,if_pos (by omega),if_pos (by omega),Int.toNat_natCast];rfl
 ·rw [if_neg h,if_neg h];rfl
theorem body_size (p:ByteArray):(bodyD p).size≤p.size:=by
 unfold bodyD
 split
 ·rw [ByteArray.size_extract];omega
 ·exact Nat.le_refl _
theorem pat_all:∀ n:Nat,n < 256→impl_isPatternByte.f (n:Int)=some (patB (UInt8.ofNat n)):=by decide +kernel
theorem pat_f (c:UInt8):impl_isPatternByte.f (c.toNat:Int)=some (patB c):=by
 have:=pat_all c.toNat c.toNat_lt
 rwa [of_toNat] at this
theorem okL_app (c:UInt8):∀ l:List UInt8,okL (l++[c])=(l.all patB && (patB c || c == 36))
 | []=>by simp [okL]
 | x :: l=>by
  simp only [List.cons_append,okL,okL_app c l,List.all_cons]
  cases l <;> simp [Bool.and_assoc]
theorem body_ok (p:ByteArray):(L (bodyD p)).all patB=okL (L p):=by
 by_cases h0:1≤p.size
 ·obtain ⟨l,c,e,hl⟩:=L_last h0
  have he:endsD p=(c == 36):=by unfold endsD;rw [e];simp
  rw [e,okL_app]
  unfold bodyD
  rw [he]
  by_cases h:c=36
  ·subst h
   rw [if_pos (by simp),L_ext,e,show p.size - 1 - 0=l.length from by omega]
   simp
  ·have h':(c == 36)=false:=by simpa using h
   rw [h',if_neg (by simp),e,Bool.or_false]
   simp
 ·have:L p=[]:=List.length_eq_zero_iff.1 (by rw [L_size];omega)
  have h1:endsD p=false:=by unfold endsD;rw [this];rfl
  unfold bodyD
  rw [h1,if_neg (by simp),this];rfl
theorem ok_impl_l (s:ByteArray) (hs:s.size≤1000000):∀ (l:List UInt8) (i:Nat),(L s).drop i=l→Ev (fun k=>impl_RuleOk.l0 k s (i:Int)) (l.all patB)
 | [],i,h=>by
  have:=bt_end h
  have n1:¬ ((i:Int) < (s.size:Int)):=by omega
  refine Ev_succ ?_
  simp only [impl_RuleOk.l0,n1,if_false]
  exact Ev.now _
 | x :: xs,i,h=>by
  obtain ⟨hi,hb,hd⟩:=bt_at h
  have e1:wrap64 ((i:Int)+1)=((i+1:Nat):Int):=by rw [w64 (by omega) (by omega)];rfl
  have f1:(i:Int) < (s.size:Int):=by omega
  have f2:(0:Int)≤(i:Int):=by omega
  refine Ev_succ ?_
  simp only [impl_RuleOk.l0,e1,f1,f2,if_true,hb,pat_f,Option.bind_some,List.all_cons]
  by_cases e:patB x=true
  ·simp only [e,if_true,Bool.true_and]
   exact ok_impl_l s hs xs (i+1) hd
  ·simp only [e,if_false,Bool.not_eq_true] at e ⊢
   simp only [e,Bool.false_and,Bool.false_eq_true,if_false]
   exact Ev.now _
theorem ruleOk_impl (p:ByteArray) (hp:p.size≤140737488351232):Ev (fun k=>impl_RuleOk.f k p) (ruleOk p):=by
 unfold impl_RuleOk.f ruleOk
 by_cases h1:p.size < 1
 ·have n1:(p.size:Int) < 1:=by omega
  have n2:¬ 1≤p.size:=by omega
  simp only [n1,if_true,n2,decide_false,Bool.false_and]
  refine Ev_succ ?_
  simp only [impl_RuleOk.j0,if_true]
  exact Ev.now _
 ·have n1:¬ (p.size:Int) < 1:=by omega
  have n1':1≤p.size:=by omega
  by_cases h2:p.size≤16
  ·have n2:¬ (p.size:Int) > 16:=by omega
   have n3:(0:Int) < (p.size:Int):=by omega
   simp only [n1,n2,n3,n1',h2,if_true,if_false,decide_true,Bool.true_and]
   refine Ev_succ ?_
   by_cases h3:bt p 0=47
   ·simp only [impl_RuleOk.j0,h3,bne_self_eq_false,Bool.false_eq_true,if_false,beq_self_eq_true,Bool.true_and,trim_f p hp,Option.bind_some]
    have:=ok_impl_l (bodyD p) (by have:=body_size p;omega) _ 0 rfl
    rw [List.drop_zero,body_ok] at this
    exact this
   ·have h4:(bt p 0 != 47)=true:=by simpa using h3
    have h5:(bt p 0 == 47)=false:=by simpa using h3
    simp only [impl_RuleOk.j0,h4,h5,if_true,Bool.false_and]
    exact Ev.now _
  ·have n2:(p.size:Int) > 16:=by omega
   simp only [n1,n2,n1',h2,if_true,if_false,decide_true,decide_false,Bool.true_and,Bool.false_and]
   refine Ev_succ ?_
   simp only [impl_RuleOk.j0,if_true]
   exact Ev.now _
end Go.Proofs.YthojbccgnlcblaaDoor.Ad
end
section
namespace Go.Proofs.YthojbccgnlcblaaDoor.Nt
open Go.RowKit Go.Proofs.YthojbccgnlcblaaDoor.P Go.Proofs.YthojbccgnlcblaaDoorW.PrintWords Go.Proofs.YthojbccgnlcblaaDoorW.PrintLast Go.Proofs.YthojbccgnlcblaaDoorW.PrintMore Go.Proofs.YthojbccgnlcblaaDoor.B Go.Proofs.YthojbccgnlcblaaDoor.Ad
set_option linter.unusedVariables false
set_option linter.unusedSimpArgs false
def gname (s:ByteArray):Bool:=s.toList == [42] || isName s
theorem impl_small_l (s:ByteArray) (hs:s.size≤140737488351232) (d:Nat):∀ (k:Nat) (i:Nat),i+d=s.size→d < k →
  impl_allSmallLetters.l0 k s (i:Int)=some (smallFrom s d i):=by
 induction d with
 | zero=>
  intro k i h hk
  obtain ⟨k,rfl⟩:∃ m,k=m+1:=⟨k - 1,by omega⟩
  simp only [impl_allSmallLetters.l0,smallFrom]
  rw [if_neg (by omega)]
 | succ d ih=>
  intro k i h hk
  obtain ⟨k,rfl⟩:∃ m,k=m+1:=⟨k - 1,by omega⟩
  simp only [impl_allSmallLetters.l0,smallFrom]
  rw [if_pos (by omega),if_pos (by omega)]
  by_cases h1:bt s i < 97
  ·rw [if_pos h1,if_pos h1]
  ·rw [if_neg h1,if_neg h1]
   by_cases h2:bt s i > 122
   ·rw [if_pos h2,if_pos h2]
   ·rw [if_neg h2,if_neg h2,w64 (by omega) (by omega)]
    exact ih k (i+1) (by omega) (by omega)
theorem impl_name (s:ByteArray) (hs:s.size≤140737488351232):Ev (fun k=>impl_isName.f k s) (isName s):=by
 unfold impl_isName.f isName isSmall
 by_cases h1:1≤s.size
 ·by_cases h2:s.size≤8
  ·simp only [show (s.size:Int) ≥ 1 from by omega,show (s.size:Int)≤8 from by omega,if_true,h1,h2,decide_true,Bool.true_and]
   refine Ev.bind (a:=smallFrom s s.size 0) ?_ (Ev.now _)
   refine Ev.of (fun k=>impl_allSmallLetters.mono _ k) (k:=s.size+1) ?_
   exact impl_small_l s hs s.size (s.size+1) 0 (by omega) (by omega)
  ·simp only [show (s.size:Int) ≥ 1 from by omega,show ¬ (s.size:Int)≤8 from by omega,if_true,if_false,h2,decide_false,Bool.and_false,Bool.false_and]
   exact Ev.now _
 ·simp only [show ¬ (s.size:Int) ≥ 1 from by omega,if_false,h1,decide_false,Bool.false_and]
  exact Ev.now _
theorem impl_gname (s:ByteArray) (hs:s.size≤140737488351232):Ev (fun k=>impl_isGroupName.f k s) (gname s):=by
 unfold impl_isGroupName.f gname
 by_cases h:s.toList=([42]:List UInt8)
 ·simp only [h,if_true,beq_self_eq_true,Bool.true_or]
  exact Ev.now _
 ·simp only [h,if_false,beq_eq_false_iff_ne.mpr h,Bool.false_or]
  exact Ev.bind (impl_name s hs) (Ev.now _)
end Go.Proofs.YthojbccgnlcblaaDoor.Nt
end
section
namespace Go.Proofs.YthojbccgnlcblaaDoor.Rn
open Go.RowKit Go.Proofs.YthojbccgnlcblaaDoor.P Go.Proofs.YthojbccgnlcblaaDoorW.PrintWords Go.Proofs.YthojbccgnlcblaaDoorW.PrintLast Go.Proofs.YthojbccgnlcblaaDoorW.PrintMore Go.Proofs.YthojbccgnlcblaaDoor.B Go.Proofs.YthojbccgnlcblaaDoor.Ad Go.Proofs.YthojbccgnlcblaaDoor.Nt
set_option linter.unusedVariables false
set_option linter.unusedSimpArgs false
def numFrom (s:ByteArray):Nat→Nat→Int→Int
 | 0,_,n=>n
 | d+1,i,n=>if bt s i < 48 then 0 else if bt s i > 57 then 0 else numFrom s d (i+1) (mn (wrap64 ((wrap64 (n * 10))+(((bt s i) - 48) % 256))) 20)
def numP (s:ByteArray):Int:=numFrom s s.size 0 0
theorem mn_le (a b:Int):mn a b≤b:=by unfold mn;split <;> omega
theorem num_bound (s:ByteArray):∀ (d i:Nat) (n:Int),0≤n→n≤20→0≤numFrom s d i n∧numFrom s d i n≤20
 | 0,_,n,h0,h1=>⟨h0,h1⟩
 | d+1,i,n,h0,h1=>by
  unfold numFrom
  by_cases c1:bt s i < 48
  ·rw [if_pos c1];omega
  ·rw [if_neg c1]
   by_cases c2:bt s i > 57
   ·rw [if_pos c2];omega
   ·rw [if_neg c2]
    have e1:wrap64 (n * 10)=n * 10:=w64 (by omega) (by omega)
    have e2:wrap64 (n * 10+((bt s i - 48) % 256))=n * 10+((bt s i - 48) % 256):=w64 (by omega) (by omega)
    refine num_bound s d (i+1) _ ?_ (mn_le _ _)
    rw [e1,e2]
    unfold mn
    split <;> omega
theorem numP_bound (s:ByteArray):0≤numP s∧numP s≤20:=num_bound s _ _ 0 (by omega) (by omega)
theorem num_s (s:ByteArray) (hs:s.size≤140737488351232) (d:Nat):∀ (k i:Nat) (n:Int),i+d=s.size→d < k→spec_l2Num.l0 k s 20 n (i:Int)=some (numFrom s d i n):=by
 induction d with
 | zero=>
  intro k i n h hk
  obtain ⟨k,rfl⟩:∃ m,k=m+1:=⟨k - 1,by omega⟩
  simp only [spec_l2Num.l0,numFrom]
  rw [if_neg (by omega)]
 | succ d ih=>
  intro k i n h hk
  obtain ⟨k,rfl⟩:∃ m,k=m+1:=⟨k - 1,by omega⟩
  simp only [spec_l2Num.l0,numFrom]
  rw [if_pos (by omega),if_pos (by omega)]
  by_cases h1:bt s i < 48
  ·rw [if_pos h1,if_pos h1]
  ·rw [if_neg h1,if_neg h1]
   by_cases h2:bt s i > 57
   ·rw [if_pos h2,if_pos h2]
   ·rw [if_neg h2,if_neg h2,w64 (n:=(i:Int)+1) (by omega) (by omega)]
    exact ih k (i+1) _ (by omega) (by omega)
theorem num_i (s:ByteArray) (hs:s.size≤140737488351232) (d:Nat):∀ (k i:Nat) (n:Int),i+d=s.size→d < k→impl_readWait.l0 k s n (i:Int)=some (numFrom s d i n):=by
 induction d with
 | zero=>
  intro k i n h hk
  obtain ⟨k,rfl⟩:∃ m,k=m+1:=⟨k - 1,by omega⟩
  simp only [impl_readWait.l0,numFrom]
  rw [if_neg (by omega)]
 | succ d ih=>
  intro k i n h hk
  obtain ⟨k,rfl⟩:∃ m,k=m+1:=⟨k - 1,by omega⟩
  simp only [impl_readWait.l0,numFrom]
  rw [if_pos (by omega),if_pos (by omega)]
  by_cases h1:bt s i < 48
  ·rw [if_pos h1,if_pos h1]
  ·rw [if_neg h1,if_neg h1]
   by_cases h2:bt s i > 57
   ·rw [if_pos h2,if_pos h2]
   ·rw [if_neg h2,if_neg h2,w64 (n:=(i:Int)+1) (by omega) (by omega)]
    exact ih k (i+1) _ (by omega) (by omega)
theorem num_spec (s:ByteArray) (hs:s.size≤140737488351232):Ev (fun k=>spec_l2Num.f k s 20) (numP s):=
 Ev.of (fun k=>spec_l2Num.mono _ _ k) (k:=s.size+1) (num_s s hs s.size (s.size+1) 0 0 (by omega) (by omega))
theorem num_impl (s:ByteArray) (hs:s.size≤140737488351232):Ev (fun k=>impl_readWait.f k s) (numP s):=
 Ev.of (fun k=>impl_readWait.mono _ k) (k:=s.size+1) (num_i s hs s.size (s.size+1) 0 0 (by omega) (by omega))
def wordRL (x1 x2:ByteArray):Option RL:=
 if x1.toList=([99,97,108,108,101,114]:List UInt8) then (if gname x2=true then some (.caller x2) else none)
 else if x1.toList=([108,101,116]:List UInt8) then (if ruleOk x2=true then some (.rule true x2) else none)
 else if x1.toList=([98,97,114]:List UInt8) then (if ruleOk x2=true then some (.rule false x2) else none)
 else if x1.toList=([119,97,105,116]:List UInt8) then some (.wait (numP x2))
 else none
def lineRL (s:ByteArray):Option RL:=wordRL (cutB 32 s).1 (cutB 32 s).2.1
theorem cut_size (s:ByteArray):(cutB 32 s).2.1.size≤s.size:=by
 have:=(cutL_len (c:=32) (L s)).1
 rw [L_size] at this
 show (ofL (cutL 32 (L s)).2.1).size≤_
 rw [← L_size,L_of]
 omega
theorem word_impl (x1 x2:ByteArray) (hs:x2.size≤140737488351232):Ev (fun k=>impl_readLine.g k x1 x2) (wordRL x1 x2):=by
 unfold impl_readLine.g wordRL
 by_cases c1:x1.toList=([99,97,108,108,101,114]:List UInt8)
 ·simp only [c1,if_true];exact Ev.bind (impl_gname x2 hs) (Ev.now _)
 simp only [c1,if_false]
 by_cases c2:x1.toList=([108,101,116]:List UInt8)
 ·simp only [c2,if_true];exact Ev.bind (ruleOk_impl x2 hs) (Ev.now _)
 simp only [c2,if_false]
 by_cases c3:x1.toList=([98,97,114]:List UInt8)
 ·simp only [c3,if_true];exact Ev.bind (ruleOk_impl x2 hs) (Ev.now _)
 simp only [c3,if_false]
 by_cases c4:x1.toList=([119,97,105,116]:List UInt8)
 ·simp only [c4,if_true];exact Ev.bind (num_impl x2 hs) (Ev.now _)
 simp only [c4,if_false]
 exact Ev.now _
theorem line_impl (s:ByteArray) (hs:s.size≤1000000000):Ev (fun k=>impl_readLine.f k s) (lineRL s):=by
 unfold impl_readLine.f
 rw [cut_i s 32 (by omega)]
 simp only [Option.bind_some]
 exact word_impl _ _ (by have:=cut_size s;omega)
structure Ok (gs:List Gp) (b:Bool) (n:Nat):Prop where
 few:gs.length≤n
 names:∀ g ∈ gs,g.f0.length≤n
 begun:gs.length≠0→(lastG gs).f1.length≠0→b=true
 form:∀ g ∈ gs,g.f0.length≠0∧g.f1.length≤6∧0≤g.f2∧g.f2≤20∧∀ r ∈ g.f1,ruleOk r.f1=true
theorem last_mem {gs:List Gp} (h:gs.length≠0):lastG gs ∈ gs:=by
 unfold lastG
 rw [List.getD_eq_getElem?_getD,List.getElem?_eq_getElem (by omega)]
 exact List.getElem_mem _
theorem last_set {gs:List Gp} (h:gs.length≠0) (x:Gp):lastG (gs.set (gs.length - 1) x)=x:=by
 unfold lastG
 rw [List.length_set,List.getD_eq_getElem?_getD,List.getElem?_set_self (by omega)]
 rfl
theorem last_app (gs:List Gp) (x:Gp):lastG (gs++[x])=x:=by
 unfold lastG
 rw [List.length_append,List.length_singleton,List.getD_eq_getElem?_getD,List.getElem?_append_right (by omega)]
 simp
theorem word_good {x1 x2:ByteArray} {x:RL} (h:wordRL x1 x2=some x):match x with|.caller _=>True|.rule _ p=>ruleOk p=true|.wait n=>0≤n∧n≤20:=by
 unfold wordRL at h
 split at h
 ·split at h
  ·obtain rfl:=Option.some.inj h;trivial
  ·cases h
 ·split at h
  ·split at h
   ·rename_i hr;obtain rfl:=Option.some.inj h;exact hr
   ·cases h
  ·split at h
   ·split at h
    ·rename_i hr;obtain rfl:=Option.some.inj h;exact hr
    ·cases h
   ·split at h
    ·obtain rfl:=Option.some.inj h;exact numP_bound x2
    ·cases h
theorem Ok.set {gs:List Gp} {b b':Bool} {n:Nat} (h:Ok gs b n) (h0:gs.length≠0) (x:Gp) (hx0:x.f0.length≤n+1) (hb:x.f1.length≠0→b'=true)
  (hf:x.f0.length≠0∧x.f1.length≤6∧0≤x.f2∧x.f2≤20∧∀ r ∈ x.f1,ruleOk r.f1=true):Ok (gs.set (gs.length - 1) x) b' (n+1):=by
 refine ⟨by rw [List.length_set];have:=h.few;omega,fun g hg=>?_,fun _=>by rw [last_set h0];exact hb,fun g hg=>?_⟩
 ·rcases List.mem_or_eq_of_mem_set hg with hg|rfl
  ·have:=h.names g hg;omega
  ·exact hx0
 ·rcases List.mem_or_eq_of_mem_set hg with hg|rfl
  ·exact h.form g hg
  ·exact hf
theorem Ok.up {gs:List Gp} {b:Bool} {n:Nat} (h:Ok gs b n):Ok gs b (n+1):=⟨by have:=h.few;omega,fun g hg=>by have:=h.names g hg;omega,h.begun,h.form⟩
theorem Ok.take {gs:List Gp} {b:Bool} {n:Nat} (h:Ok gs b n) {x1 x2:ByteArray} {x:RL} (hx:wordRL x1 x2=some x):Ok (takeF gs b x).1 (takeF gs b x).2 (n+1):=by
 have hg:=word_good hx
 have hf:=h.few
 cases x with
 | caller y=>
  simp only [takeF]
  by_cases c:b=true∨gs.length=0
  ·simp only [c,if_true]
   refine ⟨by rw [List.length_append,List.length_singleton];omega,fun g hg=>?_,fun _ hl=>by rw [last_app] at hl;simp at hl,fun g hg=>?_⟩
   ·rcases List.mem_append.1 hg with hg|hg
    ·have:=h.names g hg;omega
    ·rw [List.mem_singleton.1 hg];simp
   ·rcases List.mem_append.1 hg with hg|hg
    ·exact h.form g hg
    ·rw [List.mem_singleton.1 hg];simp
  ·simp only [c,if_false]
   have h0:gs.length≠0:=fun e=>c (.inr e)
   have hm:=last_mem h0
   have hn:=h.names _ hm
   obtain ⟨f1,f2,f3,f4,f5⟩:=h.form _ hm
   exact h.set h0 _ (by simp only [List.length_append,List.length_singleton];omega) (fun hl=>h.begun h0 hl) ⟨by simp,f2,f3,f4,f5⟩
 | rule l p=>
  simp only [takeF]
  by_cases h0:gs.length=0
  ·simp only [h0,if_true];exact h.up
  ·simp only [h0,if_false]
   have hm:=last_mem h0
   have hn:=h.names _ hm
   obtain ⟨f1,f2,f3,f4,f5⟩:=h.form _ hm
   by_cases h6:(lastG gs).f1.length < 6
   ·simp only [h6,if_true]
    refine h.set h0 _ (show (lastG gs).f0.length≤n+1 by omega) (fun _=>rfl) ⟨f1,by simp only [List.length_append,List.length_singleton];omega,f3,f4,fun r hr=>?_⟩
    rcases List.mem_append.1 hr with hr|hr
    ·exact f5 r hr
    ·rw [List.mem_singleton.1 hr];exact hg
   ·simp only [h6,if_false]
    exact ⟨by omega,fun g hg=>by have:=h.names g hg;omega,fun _ _=>rfl,h.form⟩
 | wait m=>
  simp only [takeF]
  by_cases h0:gs.length=0
  ·simp only [h0,if_true];exact h.up
  ·simp only [h0,if_false]
   have hm:=last_mem h0
   have hn:=h.names _ hm
   obtain ⟨f1,f2,f3,f4,f5⟩:=h.form _ hm
   exact h.set h0 _ (show (lastG gs).f0.length≤n+1 by omega) (fun _=>rfl) ⟨f1,f2,hg.1,hg.2,f5⟩
def stepRL (gs:List Gp) (b:Bool):Option RL→List Gp×Bool
 | none=>(gs,b)
 | some x=>takeF gs b x
theorem lineName_ev (x1 x2:ByteArray) (hs:x2.size≤140737488351232):Ev (fun k=>lineName k x1 x2) (decide (x1.toList=([99,97,108,108,101,114]:List UInt8)) && gname x2):=by
 unfold lineName gname
 by_cases c1:x1.toList=([99,97,108,108,101,114]:List UInt8)
 ·simp only [c1,if_true,decide_true,Bool.true_and]
  by_cases c2:x2.toList=([42]:List UInt8)
  ·simp only [c2,if_true,beq_self_eq_true,Bool.true_or];exact Ev.now _
  ·simp only [c2,if_false,beq_eq_false_iff_ne.mpr c2,Bool.false_or];exact name_ev x2 hs
 ·simp only [c1,if_false,decide_false,Bool.false_and];exact Ev.now _
theorem lineRule_ev (x1 x2:ByteArray) (m:Nat):Ev (fun k=>lineRule k x1 x2 m) (decide (x1.toList=([108,101,116]:List UInt8)∨x1.toList=([98,97,114]:List UInt8)) && (ruleOk x2 && decide (m < 6))):=by
 unfold lineRule
 by_cases c1:x1.toList=([108,101,116]:List UInt8)∨x1.toList=([98,97,114]:List UInt8)
 ·simp only [c1,if_true,decide_true,Bool.true_and];exact Ev.bind (ruleOk_spec x2) (Ev.now _)
 ·simp only [c1,if_false,decide_false,Bool.false_and];exact Ev.now _
theorem line_spec (x1 x2:ByteArray) (hs:x2.size≤140737488351232) (gs:List Gp) (b:Bool) (n:Nat) (h:Ok gs b n) (hn:n < 100000):Ev (fun k=>spec_l2Line.f k gs x1 x2 b) (stepRL gs b (wordRL x1 x2)):=by
 have hf:=h.few
 unfold spec_l2Line.f
 simp only [show gs.length < 1000000 from by omega,if_true]
 refine Ev.bind (lineName_ev x1 x2 hs) ?_
 unfold wordRL
 by_cases c1:x1.toList=([99,97,108,108,101,114]:List UInt8)
 ·have k2:¬ (x1.toList=([108,101,116]:List UInt8)∨x1.toList=([98,97,114]:List UInt8)):=by rw [c1];decide
  have k3:¬ x1.toList=([119,97,105,116]:List UInt8):=by rw [c1];decide
  simp only [c1,decide_true,Bool.true_and,if_true]
  cases hg:gname x2 with
  | true=>
   simp only [if_true,stepRL,takeF]
   by_cases c:b=true∨gs.length=0
   ·simp only [c,if_true];exact Ev.now _
   ·have h0:gs.length≠0:=fun e=>c (.inr e)
    have hb:b=false:=by cases b <;> simp_all
    have:=h.names _ (last_mem h0)
    subst hb
    simp only [c,if_false,show (lastG gs).f0.length < 1000000 from by omega,if_true]
    exact Ev.now _
  | false=>
   simp only [Bool.false_eq_true,if_false,stepRL]
   by_cases h0:gs.length=0
   ·simp only [h0,if_true];exact Ev.now _
   ·simp only [h0,if_false]
    have hr:=lineRule_ev x1 x2 (lastG gs).f1.length
    rw [decide_eq_false k2,Bool.false_and] at hr
    refine Ev.bind hr ?_
    rw [c1] at k3
    simp only [Bool.false_eq_true,if_false,k3]
    exact Ev.now _
 ·simp only [c1,decide_false,Bool.false_and,Bool.false_eq_true,if_false]
  by_cases c2:x1.toList=([108,101,116]:List UInt8)∨x1.toList=([98,97,114]:List UInt8)
  ·have k3:¬ x1.toList=([119,97,105,116]:List UInt8):=by rcases c2 with c2|c2 <;> (rw [c2];decide)
   have e:(if x1.toList=([108,101,116]:List UInt8) then (if ruleOk x2=true then some (RL.rule true x2) else none)
     else if x1.toList=([98,97,114]:List UInt8) then (if ruleOk x2=true then some (RL.rule false x2) else none)
     else if x1.toList=([119,97,105,116]:List UInt8) then some (RL.wait (numP x2)) else none)=(if ruleOk x2=true then some (RL.rule (x1.toList == ([108,101,116]:List UInt8)) x2) else none):=by
    by_cases c3:x1.toList=([108,101,116]:List UInt8)
    ·simp only [c3,if_true,beq_self_eq_true]
    ·have c4:x1.toList=([98,97,114]:List UInt8):=c2.resolve_left c3
     simp only [c4,if_true]
     rw [if_neg (by decide)]
     rfl
   rw [e]
   by_cases h0:gs.length=0
   ·simp only [h0,if_true]
    cases ruleOk x2 with
    | true=>simp only [if_true,stepRL,takeF,h0];exact Ev.now _
    | false=>simp only [Bool.false_eq_true,if_false,stepRL];exact Ev.now _
   ·simp only [h0,if_false]
    have hr:=lineRule_ev x1 x2 (lastG gs).f1.length
    rw [decide_eq_true c2,Bool.true_and] at hr
    refine Ev.bind hr ?_
    cases hk:ruleOk x2 with
    | true=>
     simp only [if_true,stepRL,takeF,h0,if_false,Bool.true_and]
     by_cases h6:(lastG gs).f1.length < 6
     ·simp only [h6,decide_true,if_true];exact Ev.now _
     ·have hb:=h.begun h0 (by omega)
      subst hb
      simp only [h6,decide_false,Bool.false_eq_true,if_false,k3]
      exact Ev.now _
    | false=>
     simp only [Bool.false_eq_true,if_false,stepRL,Bool.false_and,k3]
     exact Ev.now _
  ·have c3:¬ x1.toList=([108,101,116]:List UInt8):=fun e=>c2 (.inl e)
   have c4:¬ x1.toList=([98,97,114]:List UInt8):=fun e=>c2 (.inr e)
   simp only [c3,c4,if_false]
   by_cases h0:gs.length=0
   ·simp only [h0,if_true]
    by_cases c5:x1.toList=([119,97,105,116]:List UInt8)
    ·simp only [c5,if_true,stepRL,takeF,h0];exact Ev.now _
    ·simp only [c5,if_false,stepRL];exact Ev.now _
   ·simp only [h0,if_false]
    have hr:=lineRule_ev x1 x2 (lastG gs).f1.length
    rw [decide_eq_false c2,Bool.false_and] at hr
    refine Ev.bind hr ?_
    simp only [Bool.false_eq_true,if_false]
    by_cases c5:x1.toList=([119,97,105,116]:List UInt8)
    ·simp only [c5,if_true,stepRL,takeF,h0,if_false]
     exact Ev.bind (num_spec x2 hs) (Ev.now _)
    ·simp only [c5,if_false,stepRL];exact Ev.now _
def readRL:List ByteArray→List Gp→Bool→List Gp
 | [],gs,_=>gs
 | s :: r,gs,b=>readRL r (stepRL gs b (lineRL s)).1 (stepRL gs b (lineRL s)).2
theorem Ok.step {gs:List Gp} {b:Bool} {n:Nat} (h:Ok gs b n) (s:ByteArray):Ok (stepRL gs b (lineRL s)).1 (stepRL gs b (lineRL s)).2 (n+1):=by
 cases e:lineRL s with
 | none=>exact h.up
 | some x=>exact h.take e
theorem read_ok:∀ (ls:List ByteArray) (gs:List Gp) (b:Bool) (n:Nat),Ok gs b n→∃ b',Ok (readRL ls gs b) b' (n+ls.length)
 | [],gs,b,n,h=>⟨b,h⟩
 | s :: r,gs,b,n,h=>by
  obtain ⟨b',hb⟩:=read_ok r _ _ _ (h.step s)
  exact ⟨b',by rw [List.length_cons,show n+(r.length+1)=n+1+r.length from by omega];exact hb⟩
theorem read_spec:∀ (ls:List ByteArray) (gs:List Gp) (b:Bool) (n:Nat),Ok gs b n→n+ls.length < 100000→(∀ s ∈ ls,s.size≤1000000000)→Ev (fun k=>sLoop k ls gs b) (readRL ls gs b)
 | [],gs,b,n,h,hn,hs=>Ev.now _
 | s :: r,gs,b,n,h,hn,hs=>by
  rw [List.length_cons] at hn
  have hz:=hs s List.mem_cons_self
  have hc:=cut_size s
  simp only [sLoop]
  refine Ev.bind (cut_ev s 32 (by omega)) ?_
  refine Ev.bind (line_spec _ _ (by omega) gs b n h (by omega)) ?_
  exact read_spec r _ _ (n+1) (h.step s) (by omega) (fun x hx=>hs x (List.mem_cons_of_mem _ hx))
theorem read_impl:∀ (ls:List ByteArray) (gs:List Gp) (b:Bool) (n:Nat),Ok gs b n→n+ls.length < 100000→(∀ s ∈ ls,s.size≤1000000000)→Ev (fun k=>iLoop k ls gs b) (readRL ls gs b)
 | [],gs,b,n,h,hn,hs=>Ev.now _
 | s :: r,gs,b,n,h,hn,hs=>by
  rw [List.length_cons] at hn
  have hz:=hs s List.mem_cons_self
  have hf:=h.few
  have next:=read_impl r _ _ (n+1) (h.step s) (by omega) (fun x hx=>hs x (List.mem_cons_of_mem _ hx))
  simp only [iLoop,readRL]
  refine Ev.bind (line_impl s hz) ?_
  cases e:lineRL s with
  | none=>rw [e] at next;exact next
  | some x=>
   rw [e] at next
   have hl:(lastG gs).f0.length < 1000000:=by
    by_cases h0:gs.length=0
    ·have:gs=[]:=List.length_eq_zero_iff.1 h0
     subst this
     decide
    ·have:=h.names _ (last_mem h0);omega
   simp only [show gs.length < 1000000 from by omega,hl,and_self,if_true]
   exact next
theorem Ok.none:Ok [] false 0:=⟨Nat.le_refl _,(fun g hg=>by cases hg),fun h=>absurd rfl h,(fun g hg=>by cases hg)⟩
def linesOfT (t:ByteArray):List ByteArray:=((splitL 10 (L t)).map ofL).take 40
def noticeOf (t:ByteArray):List Gp:=readRL (linesOfT t) [] false
theorem lines_size (t:ByteArray):∀ s ∈ linesOfT t,s.size≤t.size:=by
 intro s hs
 obtain ⟨p,hp,rfl⟩:=List.mem_map.1 (List.mem_of_mem_take hs)
 have:=splitL_mem 10 (L t) p hp
 rw [L_size] at this
 rw [← L_size,L_of]
 exact this
theorem lines_few (t:ByteArray):(linesOfT t).length≤40:=by unfold linesOfT;rw [List.length_take];omega
theorem split_few (t:ByteArray):((splitL 10 (L t)).map ofL).length≤t.size+1:=by
 have:=splitL_len 10 (L t)
 rw [L_size] at this
 rw [List.length_map]
 exact this
theorem notice_spec (t:ByteArray) (ht:t.size≤100000000):Ev (fun k=>spec_NoticeRead.f k t) (noticeOf t):=by
 unfold spec_NoticeRead.f
 have:=split_few t
 have h40:=lines_few t
 refine Ev.bind (split_ev t 10 (by omega)) ?_
 simp only [show ((splitL 10 (L t)).map ofL).length≤1000000000 from by omega,if_true]
 exact read_spec (linesOfT t) [] false 0 Ok.none (by omega) (fun s hs=>by have:=lines_size t s hs;omega)
theorem notice_impl (t:ByteArray) (ht:t.size≤100000000):Ev (fun k=>impl_NoticeRead.f k t) (noticeOf t):=by
 unfold impl_NoticeRead.f
 have:=split_few t
 have h40:=lines_few t
 refine Ev.bind (split_i t 10 (by omega)) ?_
 simp only [show ((splitL 10 (L t)).map ofL).length≤1000000000 from by omega,if_true]
 exact read_impl (linesOfT t) [] false 0 Ok.none (by omega) (fun s hs=>by have:=lines_size t s hs;omega)
theorem notice_form (t:ByteArray):∃ b,Ok (noticeOf t) b 40:=by
 obtain ⟨b,hb⟩:=read_ok (linesOfT t) [] false 0 Ok.none
 have h40:=lines_few t
 exact ⟨b,by have:=hb.few;show (readRL (linesOfT t) [] false).length≤40;omega,(fun g hg=>by have:=hb.names g hg;omega),hb.begun,hb.form⟩
end Go.Proofs.YthojbccgnlcblaaDoor.Rn
end
section
namespace Go.Proofs.YthojbccgnlcblaaDoor.Tx
open Go.RowKit Go.Proofs.YthojbccgnlcblaaDoor.P Go.Proofs.YthojbccgnlcblaaDoorW.PrintWords Go.Proofs.YthojbccgnlcblaaDoorW.PrintLast Go.Proofs.YthojbccgnlcblaaDoorW.PrintMore Go.Proofs.YthojbccgnlcblaaDoor.B
set_option linter.unusedVariables false
set_option linter.unusedSimpArgs false
theorem size_one (n:Int):(strOfNums [n]).size=1:=by simp [strOfNums,ByteArray.size]
theorem mark_l (d:Nat):∀ (k:Nat) (x:Int) (t:ByteArray),0≤x→x < 2 ^ d→x < 4611686018427387904→d < k→t.size+d≤1000→∃ r,laws_markText.l0 k x t=some r:=by
 induction d with
 | zero=>
  intro k x t h0 h1 _ hk ht
  obtain ⟨k,rfl⟩:∃ m,k=m+1:=⟨k - 1,by omega⟩
  simp only [laws_markText.l0]
  rw [if_neg (by omega),if_pos (by omega)]
  exact ⟨_,rfl⟩
 | succ d ih=>
  intro k x t h0 h1 h2 hk ht
  obtain ⟨k,rfl⟩:∃ m,k=m+1:=⟨k - 1,by omega⟩
  simp only [laws_markText.l0]
  by_cases hx:x > 0
  ·rw [if_pos hx]
   simp only [Option.bind_some,size_one]
   rw [if_pos (by omega)]
   have e:Int.tdiv x 10=x / 10:=Int.tdiv_eq_ediv_of_nonneg h0
   have hp:(2:Int) ^ (d+1)=2 * 2 ^ d:=by rw [Int.pow_succ];omega
   rw [e,w64 (n:=x / 10) (by omega) (by omega)]
   refine ih k _ _ (by omega) (by omega) (by omega) (by omega) ?_
   rw [ByteArray.size_append,size_one];omega
  ·rw [if_neg hx,if_pos (by omega)]
   exact ⟨_,rfl⟩
theorem mark_ev (x:Int) (h0:0≤x) (h1:x < 4611686018427387904):∃ r,Ev (fun k=>laws_markText.f k x) r:=by
 by_cases h:x≤0
 ·exact ⟨_,by unfold laws_markText.f;simp only [h,if_true];exact Ev.now _⟩
 ·obtain ⟨r,hr⟩:=mark_l 62 63 x ⟨#[]⟩ h0 (by omega) h1 (by omega) (by decide)
  refine ⟨r,Ev.of (fun k=>laws_markText.mono _ k) (k:=63) ?_⟩
  unfold laws_markText.f
  rw [if_neg h]
  exact hr
noncomputable def mt (x:Int):ByteArray:=Classical.epsilon fun r=>Ev (fun k=>laws_markText.f k x) r
theorem mt_ev (x:Int) (h0:0≤x) (h1:x < 4611686018427387904):Ev (fun k=>laws_markText.f k x) (mt x):=Classical.epsilon_spec (mark_ev x h0 h1)
def Marked (l:List ByteArray) (x:Int):Prop:=∀ j,j < l.length→rdOf ByteArray.empty l j=mt (x+j)
theorem markS_l (n:Nat) (x:Int) (hn:n < 1152921504606846976) (h0:0≤x) (h1:x < 1152921504606846976) (d:Nat):∀ (i:Nat) (l:List ByteArray),l.length=n→i+d=n →
  (∀ j,j < i→rdOf ByteArray.empty l j=mt (x+j)) →
  ∃ l',Ev (fun k=>laws_markStringS.l0 k l (x+i) i) (x+n,l')∧l'.length=n∧Marked l' x:=by
 induction d with
 | zero=>
  intro i l hl hi hm
  obtain rfl:i=n:=by omega
  refine ⟨l,Ev.of (fun k=>laws_markStringS.mono_l k _ _ _) (k:=1) ?_,hl,fun j hj=>hm j (by omega)⟩
  simp only [laws_markStringS.l0]
  rw [if_neg (by omega)]
 | succ d ih=>
  intro i l hl hi hm
  have hlen:(l.set i (mt (x+i))).length=n:=by rw [List.length_set];exact hl
  obtain ⟨l',h,h2,h3⟩:=ih (i+1) (l.set i (mt (x+i))) hlen (by omega) (fun j hj=>by
   unfold rdOf
   rw [List.getD_eq_getElem?_getD]
   simp only [Int.toNat_natCast]
   rcases Nat.lt_or_ge j i with hji|hji
   ·rw [List.getElem?_set_ne (by omega)]
    have:=hm j hji
    unfold rdOf at this
    rw [List.getD_eq_getElem?_getD] at this
    simpa using this
   ·obtain rfl:j=i:=by omega
    rw [List.getElem?_set_self (by omega)]
    rfl)
  refine ⟨l',Ev.step (f:=fun k=>(laws_markText.f k (x+i)).bind fun t=>laws_markStringS.l0 k (l.set i t) (x+(i+1:Nat)) (i+1:Nat)) (fun k=>?_) (Ev.bind (mt_ev (x+i) (by omega) (by omega)) h),h2,h3⟩
  simp only [laws_markStringS.l0]
  rw [if_pos (by omega)]
  congr 1
  funext t
  rw [if_pos (by omega),w64 (n:=x+i+1) (by omega) (by omega),w64 (n:=(i:Int)+1) (by omega) (by omega)]
  simp only [Int.toNat_natCast]
  rw [show x+(i:Int)+1=x+((i+1:Nat):Int) from by omega,show (i:Int)+1=((i+1:Nat):Int) from by omega]
theorem markS_ev (l:List ByteArray) (x:Int) (hn:l.length < 1152921504606846976) (h0:0≤x) (h1:x < 1152921504606846976) :
  ∃ l',Ev (fun k=>laws_markStringS.f k l x) (x+l.length,l')∧l'.length=l.length∧Marked l' x:=by
 obtain ⟨l',h,h2,h3⟩:=markS_l l.length x hn h0 h1 l.length 0 l rfl (by omega) (fun j hj=>by omega)
 refine ⟨l',?_,h2,h3⟩
 unfold laws_markStringS.f
 simpa using h
theorem heldS_l (l:List ByteArray) (x:Int) (hn:l.length < 1152921504606846976) (h0:0≤x) (h1:x < 1152921504606846976) (hm:Marked l x) (d:Nat):∀ (i:Nat),i+d=l.length →
  Ev (fun k=>laws_heldStringS.l0 k l (x+i) i) (x+l.length):=by
 induction d with
 | zero=>
  intro i hi
  refine Ev.of (fun k=>laws_heldStringS.mono_l k _ _ _) (k:=1) ?_
  simp only [laws_heldStringS.l0]
  rw [if_neg (by omega),show (i:Nat)=l.length from by omega]
 | succ d ih=>
  intro i hi
  refine Ev.step (f:=fun k=>(laws_markText.f k (x+i)).bind fun t=>if (rdOf ByteArray.empty l (i:Int)).toList=t.toList then laws_heldStringS.l0 k l (x+(i+1:Nat)) (i+1:Nat) else some (-1)) (fun k=>?_) (Ev.bind (mt_ev (x+i) (by omega) (by omega)) ?_)
  ·simp only [laws_heldStringS.l0]
   rw [if_pos (by omega),if_pos (by omega),w64 (n:=x+i+1) (by omega) (by omega),w64 (n:=(i:Int)+1) (by omega) (by omega),show x+(i:Int)+1=x+((i+1:Nat):Int) from by omega,show (i:Int)+1=((i+1:Nat):Int) from by omega]
  ·have:=hm i (by omega)
   simp only [this,if_true]
   exact ih (i+1) (by omega)
theorem heldS_ev (l:List ByteArray) (x:Int) (hn:l.length < 1152921504606846976) (h0:0≤x) (h1:x < 1152921504606846976) (hm:Marked l x):Ev (fun k=>laws_heldStringS.f k l x) (x+l.length):=by
 unfold laws_heldStringS.f
 have:=heldS_l l x hn h0 h1 hm l.length 0 (by omega)
 simpa using this
theorem eqS_l (l:List ByteArray) (hn:l.length < 1152921504606846976) (d:Nat):∀ (i:Nat),i+d=l.length→Ev (fun k=>laws_eqStringS.l0 k l l i) true:=by
 induction d with
 | zero=>
  intro i hi
  refine Ev.of (fun k=>laws_eqStringS.mono_l k _ _ _) (k:=1) ?_
  simp only [laws_eqStringS.l0]
  rw [if_neg (by omega)]
 | succ d ih=>
  intro i hi
  refine Ev.step (f:=fun k=>laws_eqStringS.l0 k l l (i+1:Nat)) (fun k=>?_) (ih (i+1) (by omega))
  simp only [laws_eqStringS.l0]
  rw [if_pos (by omega),if_pos (by omega),if_pos (by omega),if_pos trivial,w64 (n:=(i:Int)+1) (by omega) (by omega),show (i:Int)+1=((i+1:Nat):Int) from by omega]
theorem eqS_ev (l:List ByteArray) (hn:l.length < 1152921504606846976):Ev (fun k=>laws_eqStringS.f k l l) true:=by
 unfold laws_eqStringS.f
 simp only [if_true]
 exact eqS_l l hn l.length 0 (by omega)
abbrev Rx:=S34
theorem rd_rx {l:List Rx} {i:Nat} (h:i < l.length):rd_T34 l (i:Int)=l[i]:=by
 simp [rd_T34,List.getD,List.getElem?_eq_getElem h]
theorem rd_gx {l:List Gp} {i:Nat} (h:i < l.length):rd_T32 l (i:Int)=l[i]:=by
 simp [rd_T32,List.getD,List.getElem?_eq_getElem h]
theorem nn (i:Nat):(0:Int)≤(i:Int):=by omega
noncomputable def mr (x:Int) (j:Nat):Rx:=⟨(Int.tmod (x+2 * j) 3) == 0,mt (x+2 * j+1)⟩
def MarkedR (l:List Rx) (x:Int):Prop:=∀ (j:Nat) (h:j < l.length),l[j]=mr x j
theorem markR_l (n:Nat) (x:Int) (hn:n≤1000) (h0:0≤x) (h1:x≤1000000000) (d:Nat):∀ (i:Nat) (l:List Rx),l.length=n→i+d=n →
  (∀ (j:Nat) (h:j < l.length),j < i→l[j]=mr x j) →
  ∃ l',Ev (fun k=>laws_markRuleS.l0 k l (x+2 * i) i) (x+2 * n,l')∧l'.length=n∧MarkedR l' x:=by
 induction d with
 | zero=>
  intro i l hl hi hm
  refine ⟨l,Ev_succ ?_,hl,fun j hj=>hm j hj (by omega)⟩
  simp only [laws_markRuleS.l0,show ¬ ((i:Int) < (l.length:Int)) from by omega,if_false]
  rw [show (i:Nat)=n from by omega]
  exact Ev.now _
 | succ d ih=>
  intro i l hl hi hm
  have hlt:i < l.length:=by omega
  obtain ⟨l',h,h2,h3⟩:=ih (i+1) (l.set i (mr x i)) (by rw [List.length_set];exact hl) (by omega) (fun j hj hji=>by
   rcases Nat.lt_or_ge j i with hji|hji
   ·rw [List.getElem_set_ne (by omega)]
    exact hm j (by rw [List.length_set] at hj;exact hj) hji
   ·obtain rfl:j=i:=by omega
    rw [List.getElem_set_self])
  refine ⟨l',Ev_succ ?_,h2,h3⟩
  have e1:wrap64 (x+2 * (i:Int)+1)=x+2 * (i:Int)+1:=w64 (by omega) (by omega)
  have e2:wrap64 (x+2 * (i:Int)+1+1)=x+2 * ((i+1:Nat):Int):=by rw [w64 (by omega) (by omega)];omega
  have e3:wrap64 ((i:Int)+1)=((i+1:Nat):Int):=by rw [w64 (by omega) (by omega)];rfl
  have hlt2:i < (l.set i (⟨(Int.tmod (x+2 * (i:Int)) 3) == 0,(rd_T34 l (i:Int)).f1⟩:Rx)).length:=by rw [List.length_set];exact hlt
  simp only [laws_markRuleS.l0,show ((i:Int) < (l.length:Int)) from by omega,nn i,if_true,Option.bind_some,Int.toNat_natCast,e1,e2,e3]
  refine Ev.bind (mt_ev (x+2 * i+1) (by omega) (by omega)) ?_
  rw [rd_rx hlt2,List.getElem_set_self,List.set_set]
  exact h
theorem markR_ev (l:List Rx) (x:Int) (hn:l.length≤1000) (h0:0≤x) (h1:x≤1000000000) :
  ∃ l',Ev (fun k=>laws_markRuleS.f k l x) (x+2 * l.length,l')∧l'.length=l.length∧MarkedR l' x:=by
 obtain ⟨l',h,h2,h3⟩:=markR_l l.length x hn h0 h1 l.length 0 l rfl (by omega) (fun j hj hj0=>by omega)
 refine ⟨l',?_,h2,h3⟩
 unfold laws_markRuleS.f
 simpa using h
theorem heldR_l (l:List Rx) (x:Int) (hn:l.length≤1000) (h0:0≤x) (h1:x≤1000000000) (hm:MarkedR l x) (d:Nat):∀ (i:Nat),i+d=l.length →
  Ev (fun k=>laws_heldRuleS.l0 k l (x+2 * i) i) (x+2 * l.length):=by
 induction d with
 | zero=>
  intro i hi
  refine Ev_succ ?_
  simp only [laws_heldRuleS.l0,show ¬ ((i:Int) < (l.length:Int)) from by omega,if_false]
  rw [show (i:Nat)=l.length from by omega]
  exact Ev.now _
 | succ d ih=>
  intro i hi
  have hlt:i < l.length:=by omega
  have e1:wrap64 (x+2 * (i:Int)+1)=x+2 * (i:Int)+1:=w64 (by omega) (by omega)
  have e2:wrap64 (x+2 * (i:Int)+1+1)=x+2 * ((i+1:Nat):Int):=by rw [w64 (by omega) (by omega)];omega
  have e3:wrap64 ((i:Int)+1)=((i+1:Nat):Int):=by rw [w64 (by omega) (by omega)];rfl
  have next:=ih (i+1) (by omega)
  refine Ev_succ ?_
  simp only [laws_heldRuleS.l0,show ((i:Int) < (l.length:Int)) from by omega,nn i,if_true,e1,e2,e3,rd_rx hlt,hm i hlt,mr,bne_self_eq_false,Bool.false_eq_true,if_false]
  refine Ev.bind (mt_ev (x+2 * i+1) (by omega) (by omega)) ?_
  simp only [if_true]
  exact next
theorem heldR_ev (l:List Rx) (x:Int) (hn:l.length≤1000) (h0:0≤x) (h1:x≤1000000000) (hm:MarkedR l x):Ev (fun k=>laws_heldRuleS.f k l x) (x+2 * l.length):=by
 unfold laws_heldRuleS.f
 have:=heldR_l l x hn h0 h1 hm l.length 0 (by omega)
 simpa using this
def HeldG:List Gp→Int→Int→Prop
 | [],x,y=>x=y
 | g :: r,x,y=>Marked g.f0 x∧MarkedR g.f1 (x+g.f0.length)∧g.f2=x+g.f0.length+2 * g.f1.length∧HeldG r (x+g.f0.length+2 * g.f1.length+1) y
def Few (l:List Gp):Prop:=∀ g ∈ l,g.f0.length≤1000∧g.f1.length≤1000
theorem grp_at {l:List Gp} {i:Nat} (h:i < l.length):grpAt l i=l[i]:=by
 unfold grpAt
 rw [List.getD_eq_getElem?_getD,List.getElem?_eq_getElem h]
 rfl
theorem markG_l (d:Nat):∀ (i:Nat) (gs:List Gp) (m:Int),i+d=gs.length→Few gs→0≤m→m+4000 * d≤1000000000 →
  ∃ y gs',Ev (fun k=>mgLoop k d i gs m) (y,gs')∧gs'.length=gs.length∧gs'.take i=gs.take i∧HeldG (gs'.drop i) m y∧Few gs'∧m≤y∧y≤m+4000 * d:=by
 induction d with
 | zero=>
  intro i gs m hi hf h0 h1
  refine ⟨m,gs,Ev.now _,rfl,rfl,?_,hf,by omega,by omega⟩
  rw [List.drop_of_length_le (by omega)]
  rfl
 | succ d ih=>
  intro i gs m hi hf h0 h1
  have hlt:i < gs.length:=by omega
  obtain ⟨f0,f1⟩:=hf _ (List.getElem_mem hlt)
  obtain ⟨ns,e1,l1,k1⟩:=markS_ev gs[i].f0 m (by omega) h0 (by omega)
  obtain ⟨rs,e2,l2,k2⟩:=markR_ev gs[i].f1 (m+gs[i].f0.length) f1 (by omega) (by omega)
  have hw:wrap64 (m+(gs[i].f0.length:Int)+2 * (gs[i].f1.length:Int)+1)=m+gs[i].f0.length+2 * gs[i].f1.length+1:=w64 (by omega) (by omega)
  obtain ⟨y,gs',h,h2,h3,h4,h5,h6,h7⟩:=ih (i+1) (gs.set i ⟨ns,rs,m+gs[i].f0.length+2 * gs[i].f1.length⟩) (m+gs[i].f0.length+2 * gs[i].f1.length+1) (by rw [List.length_set];omega) (fun g hg=>by
   rcases List.mem_or_eq_of_mem_set hg with hg|rfl
   ·exact hf g hg
   ·exact ⟨by simp only;omega,by simp only;omega⟩) (by omega) (by omega)
  have hlen:gs'.length=gs.length:=by rw [h2,List.length_set]
  have hlt':i < gs'.length:=by omega
  have hat:gs'[i]=⟨ns,rs,m+gs[i].f0.length+2 * gs[i].f1.length⟩:=by
   have e3:(gs'.take (i+1))[i]?=((gs.set i ⟨ns,rs,m+gs[i].f0.length+2 * gs[i].f1.length⟩).take (i+1))[i]?:=by rw [h3]
   rw [List.getElem?_take_of_lt (by omega),List.getElem?_take_of_lt (by omega),List.getElem?_eq_getElem hlt',List.getElem?_set_self hlt] at e3
   exact Option.some.inj e3
  refine ⟨y,gs',?_,hlen,?_,?_,h5,by omega,by omega⟩
  ·simp only [mgLoop]
   rw [grp_at hlt]
   refine Ev.bind e1 (Ev.bind e2 ?_)
   simp only [hw]
   exact h
  ·have e4:(gs'.take (i+1)).take i=((gs.set i ⟨ns,rs,m+gs[i].f0.length+2 * gs[i].f1.length⟩).take (i+1)).take i:=by rw [h3]
   rw [List.take_take,List.take_take,Nat.min_eq_left (by omega),List.take_set_of_le (by omega)] at e4
   exact e4
  ·rw [List.drop_eq_getElem_cons hlt',hat]
   refine ⟨k1,?_,?_,?_⟩
   ·rw [l1];exact k2
   ·rw [l1,l2]
   ·rw [l1,l2];exact h4
theorem markG_ev (gs:List Gp) (hl:gs.length≤1000) (hf:Few gs):∃ y gs',Ev (fun k=>laws_markGroupS.f k gs 1) (y,gs')∧gs'.length=gs.length∧HeldG gs' 1 y∧Few gs'∧1≤y:=by
 obtain ⟨y,gs',h,h2,h3,h4,h5,h6,h7⟩:=markG_l gs.length 0 gs 1 (by omega) hf (by omega) (by omega)
 refine ⟨y,gs',?_,h2,by simpa using h4,h5,h6⟩
 unfold laws_markGroupS.f
 simp only [show gs.length≤1000000000 from by omega,if_true]
 exact h
theorem heldG_l (gs:List Gp) (hf:Few gs) (hl:gs.length≤1000) (y:Int) (d:Nat):∀ (i:Nat) (x:Int),i+d=gs.length→0≤x→x+4000 * d≤1000000000→HeldG (gs.drop i) x y→Ev (fun k=>laws_heldGroupS.l0 k gs x (i:Int)) y:=by
 induction d with
 | zero=>
  intro i x hi h0 h1 hh
  rw [List.drop_of_length_le (by omega)] at hh
  obtain rfl:x=y:=hh
  refine Ev_succ ?_
  simp only [laws_heldGroupS.l0,show ¬ ((i:Int) < (gs.length:Int)) from by omega,if_false]
  exact Ev.now _
 | succ d ih=>
  intro i x hi h0 h1 hh
  have hlt:i < gs.length:=by omega
  obtain ⟨f0,f1⟩:=hf _ (List.getElem_mem hlt)
  rw [List.drop_eq_getElem_cons hlt] at hh
  obtain ⟨m0,m1,m2,m3⟩:=hh
  have e3:wrap64 ((i:Int)+1)=((i+1:Nat):Int):=by rw [w64 (by omega) (by omega)];rfl
  have hw:wrap64 (x+(gs[i].f0.length:Int)+2 * (gs[i].f1.length:Int)+1)=x+gs[i].f0.length+2 * gs[i].f1.length+1:=w64 (by omega) (by omega)
  have next:=ih (i+1) _ (by omega) (by omega) (by omega) m3
  refine Ev_succ ?_
  simp only [laws_heldGroupS.l0,show ((i:Int) < (gs.length:Int)) from by omega,nn i,if_true,rd_gx hlt]
  refine Ev.bind (heldS_ev gs[i].f0 x (by omega) h0 (by omega) m0) ?_
  simp only [show ¬ (x+(gs[i].f0.length:Int) < 0) from by omega,if_false]
  refine Ev.bind (heldR_ev gs[i].f1 (x+gs[i].f0.length) f1 (by omega) (by omega) m1) ?_
  simp only [show ¬ (x+(gs[i].f0.length:Int)+2 * (gs[i].f1.length:Int) < 0) from by omega,if_false,m2,if_true,hw,e3]
  exact next
theorem heldG_ev (gs:List Gp) (hf:Few gs) (hl:gs.length≤1000) (y:Int) (hh:HeldG gs 1 y):Ev (fun k=>laws_heldGroupS.f k gs 1) y:=by
 unfold laws_heldGroupS.f
 exact heldG_l gs hf hl y gs.length 0 1 (by omega) (by omega) (by omega) (by simpa using hh)
theorem eqRx_l (l:List Rx) (hl:l.length≤1048576) (d:Nat):∀ (i:Nat),i+d=l.length→Ev (fun k=>laws_eqRuleS.l0 k l l (i:Int)) true:=by
 induction d with
 | zero=>
  intro i hi
  refine Ev_succ ?_
  simp only [laws_eqRuleS.l0,show ¬ ((i:Int) < (l.length:Int)) from by omega,if_false]
  exact Ev.now _
 | succ d ih=>
  intro i hi
  have w1:wrap64 ((i:Int)+1)=((i+1:Nat):Int):=by rw [w64 (by omega) (by omega)];rfl
  refine Ev_succ ?_
  simp only [laws_eqRuleS.l0,laws_eqRule.f,show (i:Int) < (l.length:Int) from by omega,nn i,if_true,bne_self_eq_false,Bool.false_eq_true,if_false,Option.bind_some]
  rw [w1]
  exact ih (i+1) (by omega)
theorem eqRx_ev (l:List Rx) (hl:l.length≤1048576):Ev (fun k=>laws_eqRuleS.f k l l) true:=by
 unfold laws_eqRuleS.f
 simp only [if_true]
 exact eqRx_l l hl l.length 0 (by omega)
theorem eqGx_l (l:List Gp) (hl:l.length≤1000) (hs:Few l) (d:Nat):∀ (i:Nat),i+d=l.length→Ev (fun k=>laws_eqGroupS.l0 k l l (i:Int)) true:=by
 induction d with
 | zero=>
  intro i hi
  refine Ev_succ ?_
  simp only [laws_eqGroupS.l0,show ¬ ((i:Int) < (l.length:Int)) from by omega,if_false]
  exact Ev.now _
 | succ d ih=>
  intro i hi
  have hlt:i < l.length:=by omega
  obtain ⟨s0,s1⟩:=hs _ (List.getElem_mem hlt)
  have w1:wrap64 ((i:Int)+1)=((i+1:Nat):Int):=by rw [w64 (by omega) (by omega)];rfl
  have next:=ih (i+1) (by omega)
  refine Ev_succ ?_
  simp only [laws_eqGroupS.l0,show (i:Int) < (l.length:Int) from by omega,nn i,if_true,rd_gx hlt]
  rw [w1]
  refine Ev.bind (a:=true) ?_ ?_
  ·unfold laws_eqGroup.f
   refine Ev.bind (eqS_ev _ (by omega)) ?_
   simp only [if_true]
   refine Ev.bind (eqRx_ev _ (by omega)) ?_
   simp only [if_true]
   exact Ev.now _
  ·simp only [if_true]
   exact next
theorem eqGx_ev (l:List Gp) (hl:l.length≤1000) (hs:Few l):Ev (fun k=>laws_eqGroupS.f k l l) true:=by
 unfold laws_eqGroupS.f
 simp only [if_true]
 exact eqGx_l l hl hs l.length 0 (by omega)
end Go.Proofs.YthojbccgnlcblaaDoor.Tx
end
section
namespace Go.Proofs.YthojbccgnlcblaaDoor.Pure
open Go.RowKit Go.Proofs.YthojbccgnlcblaaDoor.P Go.Proofs.YthojbccgnlcblaaDoorW.PrintWords Go.Proofs.YthojbccgnlcblaaDoorW.PrintLast Go.Proofs.YthojbccgnlcblaaDoorW.PrintMore Go.Proofs.YthojbccgnlcblaaDoor.B
set_option linter.unusedSimpArgs false
set_option linter.unusedVariables false
theorem FnExactNoticeRead (t:ByteArray):∃ k,laws_FnExactNoticeRead.f k t=some true:=by
 suffices Ev (fun k=>laws_FnExactNoticeRead.f k t) true by
  obtain ⟨K,hK⟩:=this
  exact ⟨K,hK K (Nat.le_refl _)⟩
 unfold laws_FnExactNoticeRead.f
 by_cases hb:(t.size:Int) > 1048576
 ·simp only [hb,if_true];exact Ev.now _
 simp only [hb,if_false]
 obtain ⟨b,ho⟩:=Rn.notice_form t
 have hfew:=ho.few
 have hF:Tx.Few (Rn.noticeOf t):=fun g hg=>⟨by have:=ho.names g hg;omega,by have:=(ho.form g hg).2.1;omega⟩
 obtain ⟨y,gs',h1,h2,h3,h4,h5⟩:=Tx.markG_ev (Rn.noticeOf t) (by omega) hF
 refine Ev.bind (Rn.notice_spec t (by omega)) (Ev.bind (Rn.notice_impl t (by omega)) (Ev.bind (Tx.eqGx_ev _ (by omega) hF) (Ev.bind h1 (Ev.bind (Tx.heldG_ev gs' h4 (by omega) y h3) ?_))))
 simp only [show (0:Int)≤y from by omega,and_self,if_true]
 exact Ev.now _
end Go.Proofs.YthojbccgnlcblaaDoor.Pure
end
section
namespace Go.Proofs.YthojbccgnlcblaaDoorW.PrintWords
open Go.ChangeShapes Go.WideShapes

end Go.Proofs.YthojbccgnlcblaaDoorW.PrintWords
end
section
namespace Go.Proofs.YthojbccgnlcblaaDoor.fnExactNoticeRead
open Go.ChangeShapes Go.WideShapes Go.ChangeAt Go.RowKit
open Go.ChangeMaps (open_string shut_string)
set_option linter.unusedVariables false
theorem own : ownKnob Tryd.prog.godebug = none := by kernel_rfl
theorem laidOut : laidOutB Tryd.prog = true := by kernel_rfl
set_option maxRecDepth 100000 in
theorem lifted (os : Os) (started : os.Started) (H : Type) (enc : TypeId × Value → H) :
  ReturnsInHanded {} Tryd.checked os 3 .any (fun w args => (Rows.fnExactNoticeReadSpec.pre enc Tryd.prog Tryd.f3 Rows.fnExactNoticeReadRow.domain false w args ∧ laidMetH Tryd.prog Rows.fnExactNoticeReadRow.laid w) ∧ sizedMet enc Tryd.prog Tryd.f3 (OpenSpec.ofChange Rows.fnExactNoticeReadSpec) false w args)
   (Rows.fnExactNoticeReadSpec.post enc Tryd.prog Tryd.f3 false true false false) := by
 refine returnsInHanded_of_change_and (C := Tryd.checked) (X := fun w _ => laidMetH Tryd.prog Rows.fnExactNoticeReadRow.laid w) (fun _ _ _ hh h => h.of_heap hh) own started (by kernel_rfl) Tryd.func3
  (ChangeSpec.witness_shaped (enc := enc) (C := Tryd.checked) (os := os) (X := fun w _ => laidMetH Tryd.prog Rows.fnExactNoticeReadRow.laid w) false (World.laidAll Tryd.prog os Rows.fnExactNoticeReadRow.laid) #[.string ByteArray.empty] 8 (World.laidAll_os _ _ _)
   (World.shaped_of_ZipB (by kernel_rfl) (by kernel_rfl)) (by kernel_rfl) (by kernel_rfl) (by kernel_rfl)
   (by rw [MakeChecks.laidMetH_plain _ _ _ (by kernel_rfl)]; exact laidMet_laidAll _ (by kernel_rfl) (by kernel_rfl))) ?_
 intro W base args ds gs before hval0 hW hcnd hsz0 hL _
 have hsz : (DataW.weightsEach Tryd.prog (Tryd.f3.params.toList ++ Rows.fnExactNoticeReadSpec.plain.varTypes Tryd.prog) (ds ++ gs)).all (· ≤ reachBytes) = true := hsz0
 have hval : ∀ (j : Nat) t v, Tryd.f3.params[j]? = some t → args[j]? = some v → Value.okWide Tryd.prog W .any base t v := hval0
 have hW' := hW
 obtain ⟨p, q, hA0, hV, rfl, hfz, hnd⟩ := hW
 have hA : DataW.TrodAll enc Tryd.prog W 0 (fun _ => true) true Tryd.f3.params.toList args.toList ds p := hA0
 rw [Tryd.params3] at hA hval hsz
 obtain ⟨v0, vs0, d0, ds0, p0, q0, hargs, rfl, rfl, h0, r0⟩ := trodAll_cons hA
 obtain ⟨rfl, rfl, rfl⟩ := trodAll_nil r0
 obtain rfl : args = #[v0] := by cases args; simp_all
 obtain ⟨rfl, rfl⟩ := trodVars_none hV
 have k0 := h0
 have lt0 : ∀ x ∈ p0, x.block < W.heap.size := by obtain ⟨m, hm⟩ := k0; exact DataW.trod_lt m _ _ _ hm
 obtain ⟨s0, e0, rfl⟩ : ∃ s, v0 = .string s ∧ d0 = .lit (.string s.data.toList) := by
  obtain ⟨s, hs, hx, _⟩ := open_string Tryd.underlying9 (hval 0 9 v0 rfl rfl) k0
  exact ⟨s, hs, hx⟩
 subst e0
 obtain ⟨K, hK⟩ := Pure.FnExactNoticeRead s0
 clear hA0 hval0 hsz0 hsz
 refine (P.laws_FnExactNoticeRead.calls K s0 W hK).mono fun e W' ⟨he, bel⟩ => ?_
 subst he
 exact ⟨_, rfl, _, _, _, [], _, [], hW', trodAll_mk1 (shut_bool Tryd.underlying4 _), (trodAll_cons_mk (Below.trod laidOut (by kernel_rfl) (of_decide_eq_true (by kernel_rfl)) k0 bel lt0) trodAll_mk0), rfl, bel.frame _, fun h => by cases h⟩
set_option maxHeartbeats 4000000 in
theorem over : Rows.fnExactNoticeReadRow.holds Tryd.pinned (OpenSpec.ofChange Rows.fnExactNoticeReadSpec) :=
 OpenClaim.holds_of_wide 3 Tryd.f3 rfl rfl rfl rfl rfl rfl rfl ⟨rfl, rfl, rfl, rfl, rfl⟩ rfl rfl rfl rfl rfl (by as_aux_lemma => kernel_rfl) Tryd.func3 (by as_aux_lemma => kernel_rfl)
  (of_decide_eq_true (by as_aux_lemma => kernel_rfl)) (by unfold Func.isWrapper; first | (rw [if_pos (by decide +kernel)]; kernel_rfl) | (rw [if_neg (by decide +kernel)]; exact ⟨rfl, rfl⟩))
  (fun os started H enc _ => lifted os started H enc)
theorem card_holds : Rows.FnExactNoticeReadCardSaid :=
 Claim7.holds_tied_plain_at .later [] [.data, .pinned] true (true, "476b8eef2d18fed7edc964a1c5d96751ec7555347d0254f823417832fff28865") true over (fun _ h => by cases h) (by as_aux_lemma => kernel_rfl) (fun _ h => by cases h) fnExactNoticeRead_row_tie rfl ⟨rfl, rfl⟩ (by as_aux_lemma => kernel_rfl) rfl
  (fun f fn hf hfn => by
   obtain rfl : f = 3 := Option.some.inj ((show Tryd.prog.funcNamed "loop.example/pedlar/laws.FnExactNoticeRead" = some 3 by as_aux_lemma => kernel_rfl).symm.trans hf) |>.symm
   obtain rfl : fn = Tryd.f3 := (Option.some.inj (Tryd.func3.symm.trans hfn)).symm
   exact ⟨by as_aux_lemma => kernel_rfl, fun j t ht => by
    rw [Tryd.params3] at ht
    have hm : t ∈ [9] := by simpa using Array.mem_of_getElem? ht
    have hall : ([9].all fun u => !Tryd.prog.wantsStandIn u) = true := by as_aux_lemma => kernel_rfl
    exact (show Tryd.prog.wantsStandIn t = false by simpa using List.all_eq_true.1 hall t hm)⟩)
  (by as_aux_lemma => kernel_rfl)
#print axioms card_holds
end Go.Proofs.YthojbccgnlcblaaDoor.fnExactNoticeRead
namespace Go.Proofs.YthojbccgnlcblaaDoor
theorem fnExactNoticeRead_holds : Rows.FnExactNoticeReadCardSaid := fnExactNoticeRead.card_holds
end Go.Proofs.YthojbccgnlcblaaDoor
end
