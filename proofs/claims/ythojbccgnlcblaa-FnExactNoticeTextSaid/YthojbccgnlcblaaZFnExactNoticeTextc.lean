/- FnExactNoticeText holds of the given program at every input: the program's NoticeText returns what the reference's returns. No condition. -/
import Derived.Test.YthojbccgnlcblaaZFnExactNoticeTextb
import Derived.SizedLaws
import Derived.ChangeSlices
import Derived.Test.YthojbccgnlcblaaRows
import Derived.LaidMore
import Derived.Lay
import Derived.SevenTiedAt
import Derived.Stop.Joined
import Derived.Lib.SmallJoins
import Derived.WalkKit
import Derived.ProofKit
import Derived.OpenShut
import Derived.ShutString
import Derived.ChangeOld
import Derived.Below

section
namespace Go.Proofs.Ythojbccgnlcblaa.Ad
open Go.RowKit Go.Proofs.Ythojbccgnlcblaa.P Go.Proofs.YthojbccgnlcblaaW.PrintWords Go.Proofs.YthojbccgnlcblaaW.PrintLast Go.Proofs.YthojbccgnlcblaaW.PrintMore Go.Proofs.Ythojbccgnlcblaa.B
set_option linter.unusedVariables false
set_option linter.unusedSimpArgs false
def patB (c:UInt8):Bool:=plainB c || c == 47 || c == 42 || c == 63 || c == 37 || (decide (65≤c.toNat) && decide (c.toNat≤70))
def okL:List UInt8→Bool
 | []=>true
 | c :: r=>(patB c || (c == 36 && r.isEmpty)) && okL r
def ruleOk (p:ByteArray):Bool:=decide (1≤p.size) && decide (p.size≤16) && (bt p 0 == 47) && okL (L p)
theorem plain_f (c:UInt8):spec_l1Plain.f (c.toNat:Int)=some (plainB c):=by
 have:=plain_all c.toNat c.toNat_lt
 rwa [of_toNat] at this
theorem ok_spec_l (s:ByteArray) (hs:s.size≤1000000):∀ (l:List UInt8) (i:Nat),(L s).drop i=l→Ev (fun k=>spec_RuleOk.l0 k s (i:Int)) (okL l)
 | [],i,h=>by
  have:=bt_end h
  have n1:¬ ((i:Int) < (s.size:Int)):=by omega
  refine Ev_succ ?_
  simp only [spec_RuleOk.l0,n1,if_false]
  exact Ev.now _
 | x :: xs,i,h=>by
  obtain ⟨hi,hb,hd⟩:=bt_at h
  have e1:wrap64 ((i:Int)+1)=((i+1:Nat):Int):=by rw [w64 (by omega) (by omega)];rfl
  have e2:wrap64 ((s.size:Int) - 1)=(s.size:Int) - 1:=w64 (by omega) (by omega)
  have f1:(i:Int) < (s.size:Int):=by omega
  have f2:(0:Int)≤(i:Int):=by omega
  have hx:xs.length+(i+1)=s.size:=by rw [← L_size,← hd,List.length_drop];rw [L_size];omega
  have hE:xs.isEmpty=decide ((i:Int)=(s.size:Int) - 1):=by
   cases xs with
   | nil=>simp at hx ⊢;omega
   | cons y ys=>simp at hx ⊢;omega
  have ih:=ok_spec_l s hs xs (i+1) hd
  have c1:((x.toNat:Int)=47)↔(x == 47)=true:=by rw [beq_iff_eq];exact u8_eq (b:=47)
  have c2:((x.toNat:Int)=42)↔(x == 42)=true:=by rw [beq_iff_eq];exact u8_eq (b:=42)
  have c3:((x.toNat:Int)=63)↔(x == 63)=true:=by rw [beq_iff_eq];exact u8_eq (b:=63)
  have c4:((x.toNat:Int)=37)↔(x == 37)=true:=by rw [beq_iff_eq];exact u8_eq (b:=37)
  have c5:((x.toNat:Int)=36)↔(x == 36)=true:=by rw [beq_iff_eq];exact u8_eq (b:=36)
  have c6:((x.toNat:Int) ≥ 65)↔(decide (65≤x.toNat))=true:=by rw [decide_eq_true_eq];omega
  have c7:((x.toNat:Int)≤70)↔(decide (x.toNat≤70))=true:=by rw [decide_eq_true_eq];omega
  have c8:((i:Int)=(s.size:Int) - 1)↔xs.isEmpty=true:=by rw [hE,decide_eq_true_eq]
  refine Ev_succ ?_
  simp only [spec_RuleOk.l0,e1,e2,f1,f2,if_true,hb,plain_f,Option.bind_some,okL,patB,c1,c2,c3,c4,c5,c6,c7,c8]
  have yes:Ev (fun k=>spec_RuleOk.l0 k s ((i+1:Nat):Int)) (true && okL xs):=by rw [Bool.true_and];exact ih
  have no:Ev (fun k=>some false) (false && okL xs):=by rw [Bool.false_and];exact Ev.now _
  cases plainB x
  ·cases (x == 47)
   ·cases (x == 42)
    ·cases (x == 63)
     ·cases (x == 37)
      ·cases (x == 36) <;> cases xs.isEmpty <;> cases decide (65≤x.toNat) <;> cases decide (x.toNat≤70) <;> first|exact yes|exact no
      ·exact yes
     ·exact yes
    ·exact yes
   ·exact yes
  ·exact yes
theorem ruleOk_spec (p:ByteArray):Ev (fun k=>spec_RuleOk.f k p) (ruleOk p):=by
 unfold spec_RuleOk.f ruleOk
 by_cases h2:p.size≤16
 ·have n2:¬ (p.size:Int) > 16:=by omega
  by_cases h1:p.size=0
  ·have z:=toList_nil.2 h1
   have n1:¬ 1≤p.size:=by omega
   simp only [n2,if_false,z,if_true,n1,decide_false,Bool.false_and]
   refine Ev_succ ?_
   simp only [spec_RuleOk.j0,if_true]
   exact Ev.now _
  ·have z:¬ p.toList=[]:=fun e=>h1 (toList_nil.1 e)
   have n1:1≤p.size:=by omega
   have n3:(0:Int) < (p.size:Int):=by omega
   simp only [n2,n1,n3,z,h2,if_true,if_false,decide_true,Bool.true_and]
   refine Ev_succ ?_
   by_cases h3:bt p 0=47
   ·simp only [spec_RuleOk.j0,h3,bne_self_eq_false,Bool.false_eq_true,if_false,beq_self_eq_true,Bool.true_and]
    have:=ok_spec_l p (by omega) _ 0 rfl
    rw [List.drop_zero] at this
    exact this
   ·have h4:(bt p 0 != 47)=true:=by simpa using h3
    have h5:(bt p 0 == 47)=false:=by simpa using h3
    simp only [spec_RuleOk.j0,h4,h5,if_true,Bool.false_and]
    exact Ev.now _
 ·have n2:(p.size:Int) > 16:=by omega
  simp only [n2,h2,if_true,decide_false,Bool.and_false,Bool.false_and]
  refine Ev_succ ?_
  simp only [spec_RuleOk.j0,if_true]
  exact Ev.now _
def endsD (p:ByteArray):Bool:=(L p).getLast? == some 36
def bodyD (p:ByteArray):ByteArray:=if endsD p=true then p.extract 0 (p.size - 1) else p
theorem L_last {p:ByteArray} (h:1≤p.size):∃ l c,L p=l++[c]∧l.length+1=p.size:=by
 have hl:=L_size p
 have hn:L p≠[]:=fun e=>by rw [e] at hl;simp at hl;omega
 refine ⟨(L p).dropLast,(L p).getLast hn,(List.dropLast_concat_getLast hn).symm,?_⟩
 rw [List.length_dropLast];omega
theorem sz36:(⟨#[36]⟩:ByteArray).size=1:=rfl
theorem suf_f (p:ByteArray) (hp:p.size≤140737488351232):stringslite_HasSuffix.f p (⟨#[36]⟩:ByteArray)=some (endsD p):=by
 unfold stringslite_HasSuffix.f endsD
 rw [sz36]
 by_cases h:1≤p.size
 ·obtain ⟨l,c,e,hl⟩:=L_last h
  have w:wrap64 ((p.size:Int) - ((1:Nat):Int))=((p.size - 1:Nat):Int):=by rw [w64 (by omega) (by omega)];omega
  rw [w,if_pos (by omega),if_pos (by omega),if_pos (by omega),Int.toNat_natCast,Lib.toList_data]
  have x:L (p.extract (p.size - 1) p.size)=[c]:=by
   have hz:p.size - l.length=1:=by omega
   rw [L_ext,e,List.drop_append,show p.size - 1=l.length from by omega,hz]
   simp
  show some ((p.extract (p.size - 1) p.size).data.toList == _)=_
  rw [show (p.extract (p.size - 1) p.size).data.toList=[c] from x,e]
  simp [Lib.toList_data]
 ·rw [if_neg (by omega)]
  have:L p=[]:=List.length_eq_zero_iff.1 (by rw [L_size];omega)
  rw [this];rfl
theorem ends_size {p:ByteArray} (h:endsD p=true):1≤p.size:=by
 rcases Nat.lt_or_ge p.size 1 with h'|h'
 ·have:L p=[]:=List.length_eq_zero_iff.1 (by rw [L_size];omega)
  unfold endsD at h;rw [this] at h;cases h
 ·exact h'
theorem trim_f (p:ByteArray) (hp:p.size≤140737488351232):strings_TrimSuffix.f p (⟨#[36]⟩:ByteArray)=some (bodyD p):=by
 simp only [strings_TrimSuffix.f,stringslite_TrimSuffix.f,suf_f p hp,Option.bind_some,bodyD,sz36]
 by_cases h:endsD p=true
 ·have:=ends_size h
  have w:wrap64 ((p.size:Int) - ((1:Nat):Int))=((p.size - 1:Nat):Int):=by rw [w64 (by omega) (by omega)];omega
  rw [if_pos h,if_pos h,w,if_pos (by omega),if_pos (by omega),Int.toNat_natCast];rfl
 ·rw [if_neg h,if_neg h];rfl
theorem body_size (p:ByteArray):(bodyD p).size≤p.size:=by
 unfold bodyD
 split
 ·rw [ByteArray.size_extract];omega
 ·exact Nat.le_refl _
theorem pat_all:∀ n:Nat,n < 256→impl_isPatternByte.f (n:Int)=some (patB (UInt8.ofNat n)):=by decide +kernel
theorem pat_f (c:UInt8):impl_isPatternByte.f (c.toNat:Int)=some (patB c):=by
 have:=pat_all c.toNat c.toNat_lt
 rwa [of_toNat] at this
theorem okL_app (c:UInt8):∀ l:List UInt8,okL (l++[c])=(l.all patB && (patB c || c == 36))
 | []=>by simp [okL]
 | x :: l=>by
  simp only [List.cons_append,okL,okL_app c l,List.all_cons]
  cases l <;> simp [Bool.and_assoc]
theorem body_ok (p:ByteArray):(L (bodyD p)).all patB=okL (L p):=by
 by_cases h0:1≤p.size
 ·obtain ⟨l,c,e,hl⟩:=L_last h0
  have he:endsD p=(c == 36):=by unfold endsD;rw [e];simp
  rw [e,okL_app]
  unfold bodyD
  rw [he]
  by_cases h:c=36
  ·subst h
   rw [if_pos (by simp),L_ext,e,show p.size - 1 - 0=l.length from by omega]
   simp
  ·have h':(c == 36)=false:=by simpa using h
   rw [h',if_neg (by simp),e,Bool.or_false]
   simp
 ·have:L p=[]:=List.length_eq_zero_iff.1 (by rw [L_size];omega)
  have h1:endsD p=false:=by unfold endsD;rw [this];rfl
  unfold bodyD
  rw [h1,if_neg (by simp),this];rfl
theorem ok_impl_l (s:ByteArray) (hs:s.size≤1000000):∀ (l:List UInt8) (i:Nat),(L s).drop i=l→Ev (fun k=>impl_RuleOk.l0 k s (i:Int)) (l.all patB)
 | [],i,h=>by
  have:=bt_end h
  have n1:¬ ((i:Int) < (s.size:Int)):=by omega
  refine Ev_succ ?_
  simp only [impl_RuleOk.l0,n1,if_false]
  exact Ev.now _
 | x :: xs,i,h=>by
  obtain ⟨hi,hb,hd⟩:=bt_at h
  have e1:wrap64 ((i:Int)+1)=((i+1:Nat):Int):=by rw [w64 (by omega) (by omega)];rfl
  have f1:(i:Int) < (s.size:Int):=by omega
  have f2:(0:Int)≤(i:Int):=by omega
  refine Ev_succ ?_
  simp only [impl_RuleOk.l0,e1,f1,f2,if_true,hb,pat_f,Option.bind_some,List.all_cons]
  by_cases e:patB x=true
  ·simp only [e,if_true,Bool.true_and]
   exact ok_impl_l s hs xs (i+1) hd
  ·simp only [e,if_false,Bool.not_eq_true] at e ⊢
   simp only [e,Bool.false_and,Bool.false_eq_true,if_false]
   exact Ev.now _
theorem ruleOk_impl (p:ByteArray) (hp:p.size≤140737488351232):Ev (fun k=>impl_RuleOk.f k p) (ruleOk p):=by
 unfold impl_RuleOk.f ruleOk
 by_cases h1:p.size < 1
 ·have n1:(p.size:Int) < 1:=by omega
  have n2:¬ 1≤p.size:=by omega
  simp only [n1,if_true,n2,decide_false,Bool.false_and]
  refine Ev_succ ?_
  simp only [impl_RuleOk.j0,if_true]
  exact Ev.now _
 ·have n1:¬ (p.size:Int) < 1:=by omega
  have n1':1≤p.size:=by omega
  by_cases h2:p.size≤16
  ·have n2:¬ (p.size:Int) > 16:=by omega
   have n3:(0:Int) < (p.size:Int):=by omega
   simp only [n1,n2,n3,n1',h2,if_true,if_false,decide_true,Bool.true_and]
   refine Ev_succ ?_
   by_cases h3:bt p 0=47
   ·simp only [impl_RuleOk.j0,h3,bne_self_eq_false,Bool.false_eq_true,if_false,beq_self_eq_true,Bool.true_and,trim_f p hp,Option.bind_some]
    have:=ok_impl_l (bodyD p) (by have:=body_size p;omega) _ 0 rfl
    rw [List.drop_zero,body_ok] at this
    exact this
   ·have h4:(bt p 0 != 47)=true:=by simpa using h3
    have h5:(bt p 0 == 47)=false:=by simpa using h3
    simp only [impl_RuleOk.j0,h4,h5,if_true,Bool.false_and]
    exact Ev.now _
  ·have n2:(p.size:Int) > 16:=by omega
   simp only [n1,n2,n1',h2,if_true,if_false,decide_true,decide_false,Bool.true_and,Bool.false_and]
   refine Ev_succ ?_
   simp only [impl_RuleOk.j0,if_true]
   exact Ev.now _
end Go.Proofs.Ythojbccgnlcblaa.Ad
end
section
namespace Go.Proofs.Ythojbccgnlcblaa.Nt
open Go.RowKit Go.Proofs.Ythojbccgnlcblaa.P Go.Proofs.YthojbccgnlcblaaW.PrintWords Go.Proofs.YthojbccgnlcblaaW.PrintLast Go.Proofs.YthojbccgnlcblaaW.PrintMore Go.Proofs.Ythojbccgnlcblaa.B Go.Proofs.Ythojbccgnlcblaa.Ad
set_option linter.unusedVariables false
set_option linter.unusedSimpArgs false
abbrev Gp:=S37
abbrev Ru:=S39
structure Sm (n:List Gp):Prop where
 few:n.length≤1048576
 names:∀ g ∈ n,g.f0.length≤1048576∧∀ s ∈ g.f0,s.size≤1048576
 rules:∀ g ∈ n,g.f1.length≤1048576
def gname (s:ByteArray):Bool:=s.toList == [42] || isName s
def groupOk (g:Gp):Bool:=decide (g.f0.length≠0) && (decide (g.f1.length≠0) || decide (g.f2≠0)) && decide (g.f1.length≤6) && (decide (0≤g.f2) && decide (g.f2≤20)) && g.f0.all gname && g.f1.all fun r=>ruleOk r.f1
def linesOf (n:List Gp):Nat:=(n.map fun g=>g.f0.length+g.f1.length+1).sum
def noticeOk (n:List Gp):Bool:=n.all groupOk && decide (linesOf n≤40)
theorem rd_gp {l:List Gp} {i:Nat} (h:i < l.length):rd_T37 l (i:Int)=l[i]:=by
 simp [rd_T37,List.getD,List.getElem?_eq_getElem h]
theorem rd_ru {l:List Ru} {i:Nat} (h:i < l.length):rd_T39 l (i:Int)=l[i]:=by
 simp [rd_T39,List.getD,List.getElem?_eq_getElem h]
theorem Sm.get {n:List Gp} (h:Sm n) {i:Nat} (hi:i < n.length):n[i].f0.length≤1048576∧(∀ s ∈ n[i].f0,s.size≤1048576)∧n[i].f1.length≤1048576:=
 ⟨(h.names _ (List.getElem_mem hi)).1,(h.names _ (List.getElem_mem hi)).2,h.rules _ (List.getElem_mem hi)⟩
theorem ok_rules (n:List Gp) (ns:List ByteArray) (rs:List Ru) (wt:Int) (hn:ns.length≤1048576) (hr:rs.length≤1048576) (c i:Nat) (hc:c≤1000000000000000) (hi:i≤1048576) (R:Bool)
  (hR:Ev (fun k=>spec_NoticeOk.l0 k n ((c+(ns.length+rs.length+1):Nat):Int) ((i+1:Nat):Int)) R) (d:Nat):∀ j,j+d=rs.length →
  Ev (fun k=>spec_NoticeOk.l2 k n (c:Int) (i:Int) (j:Int) ns rs wt) (((rs.drop j).all fun r=>ruleOk r.f1) && R):=by
 induction d with
 | zero=>
  intro j hj
  have e1:wrap64 ((c:Int)+(ns.length:Int))=((c+ns.length:Nat):Int):=by rw [w64 (by omega) (by omega)];omega
  have e2:wrap64 (((c+ns.length:Nat):Int)+(rs.length:Int))=((c+ns.length+rs.length:Nat):Int):=by rw [w64 (by omega) (by omega)];omega
  have e3:wrap64 (((c+ns.length+rs.length:Nat):Int)+1)=((c+(ns.length+rs.length+1):Nat):Int):=by rw [w64 (by omega) (by omega)];omega
  have e4:wrap64 ((i:Int)+1)=((i+1:Nat):Int):=by rw [w64 (by omega) (by omega)];rfl
  refine Ev_succ ?_
  simp only [spec_NoticeOk.l2,show ¬ ((j:Int) < (rs.length:Int)) from by omega,if_false]
  rw [e1,e2,e3,e4,List.drop_of_length_le (by omega)]
  simpa using hR
 | succ d ih=>
  intro j hj
  have hlt:j < rs.length:=by omega
  have e4:wrap64 ((j:Int)+1)=((j+1:Nat):Int):=by rw [w64 (by omega) (by omega)];rfl
  refine Ev_succ ?_
  simp only [spec_NoticeOk.l2,show (j:Int) < (rs.length:Int) from by omega,show (0:Int)≤(j:Int) from by omega,if_true]
  rw [rd_ru hlt,e4,List.drop_eq_getElem_cons hlt,List.all_cons]
  refine Ev.bind (ruleOk_spec _) ?_
  cases ruleOk rs[j].f1 with
  | true=>simp only [if_true,Bool.true_and];exact ih (j+1) (by omega)
  | false=>simp only [Bool.false_eq_true,if_false,Bool.false_and];exact Ev.now _
theorem ok_names (n:List Gp) (ns:List ByteArray) (rs:List Ru) (wt:Int) (hn:ns.length≤1048576) (hs:∀ s ∈ ns,s.size≤1048576) (c i:Nat) (R:Bool)
  (hR:Ev (fun k=>spec_NoticeOk.l2 k n (c:Int) (i:Int) 0 ns rs wt) R) (d:Nat):∀ j,j+d=ns.length →
  Ev (fun k=>spec_NoticeOk.l1 k n (c:Int) (i:Int) (j:Int) ns rs wt) ((ns.drop j).all gname && R):=by
 induction d with
 | zero=>
  intro j hj
  refine Ev_succ ?_
  simp only [spec_NoticeOk.l1,show ¬ ((j:Int) < (ns.length:Int)) from by omega,if_false]
  rw [List.drop_of_length_le (by omega)]
  simpa using hR
 | succ d ih=>
  intro j hj
  have hlt:j < ns.length:=by omega
  have e4:wrap64 ((j:Int)+1)=((j+1:Nat):Int):=by rw [w64 (by omega) (by omega)];rfl
  refine Ev_succ ?_
  simp only [spec_NoticeOk.l1,show (j:Int) < (ns.length:Int) from by omega,show (0:Int)≤(j:Int) from by omega,if_true]
  rw [rd_at hlt,e4,List.drop_eq_getElem_cons hlt,List.all_cons]
  have next:=ih (j+1) (by omega)
  have hz:=hs _ (List.getElem_mem hlt)
  unfold gname at next ⊢
  by_cases h42:ns[j].toList=([42]:List UInt8)
  ·simp only [h42,if_true,beq_self_eq_true,Bool.true_or,Bool.true_and];exact next
  ·simp only [h42,if_false,beq_eq_false_iff_ne.mpr h42,Bool.false_or]
   refine Ev.bind (name_ev _ (by omega)) ?_
   cases isName ns[j] with
   | true=>simp only [if_true,Bool.true_and];exact next
   | false=>simp only [Bool.false_eq_true,if_false,Bool.false_and];exact Ev.now _
theorem l6In_some (x lo hi:Int):spec_l6In.f x lo hi=some (decide (lo≤x) && decide (x≤hi)):=by
 unfold spec_l6In.f
 by_cases h:x ≥ lo
 ·simp [h]
 ·simp [h]
theorem ok_outer (n:List Gp) (hn:Sm n) (d:Nat):∀ (i c:Nat),i+d=n.length→c≤2097153 * i →
  Ev (fun k=>spec_NoticeOk.l0 k n (c:Int) (i:Int)) ((n.drop i).all groupOk && decide (c+linesOf (n.drop i)≤40)):=by
 have hf:=hn.few
 induction d with
 | zero=>
  intro i c hi hc
  refine Ev_succ ?_
  simp only [spec_NoticeOk.l0,show ¬ ((i:Int) < (n.length:Int)) from by omega,if_false]
  rw [List.drop_of_length_le (by omega)]
  simp only [List.all_nil,Bool.true_and,linesOf,List.map_nil,List.sum_nil,Nat.add_zero]
  rw [show (decide (c≤40))=decide ((c:Int)≤40) from by simp;omega]
  exact Ev.now _
 | succ d ih=>
  intro i c hi hc
  have hlt:i < n.length:=by omega
  obtain ⟨s1,s2,s3⟩:=hn.get hlt
  have next:=ih (i+1) (c+(n[i].f0.length+n[i].f1.length+1)) (by omega) (by omega)
  rw [List.drop_eq_getElem_cons hlt,List.all_cons]
  have hL:linesOf (n[i] :: n.drop (i+1))=(n[i].f0.length+n[i].f1.length+1)+linesOf (n.drop (i+1)):=by unfold linesOf;rw [List.map_cons,List.sum_cons]
  rw [hL]
  rw [show c+(n[i].f0.length+n[i].f1.length+1)+linesOf (n.drop (i+1))=c+((n[i].f0.length+n[i].f1.length+1)+linesOf (n.drop (i+1))) from by omega] at next
  generalize decide (c+((n[i].f0.length+n[i].f1.length+1)+linesOf (n.drop (i+1)))≤40)=D at next ⊢
  generalize (n.drop (i+1)).all groupOk=E at next ⊢
  refine Ev_succ ?_
  simp only [spec_NoticeOk.l0,show (i:Int) < (n.length:Int) from by omega,show (0:Int)≤(i:Int) from by omega,if_true]
  rw [rd_gp hlt]
  generalize n[i]=g at *
  obtain ⟨ns,rs,wt⟩:=g
  simp only at s1 s2 s3 next ⊢
  have go:Ev (fun k=>spec_NoticeOk.j1 k n (c:Int) (i:Int) false ns rs wt) (ns.all gname && ((rs.all fun r=>ruleOk r.f1) && (E && D))):=by
   refine Ev_succ ?_
   simp only [spec_NoticeOk.j1,Bool.false_eq_true,if_false]
   have h2:=ok_rules n ns rs wt s1 s3 c i (by omega) (by omega) _ next rs.length 0 (by omega)
   rw [List.drop_zero] at h2
   have h1:=ok_names n ns rs wt s1 s2 c i _ h2 ns.length 0 (by omega)
   rw [List.drop_zero] at h1
   exact h1
  have stop:Ev (fun k=>spec_NoticeOk.j1 k n (c:Int) (i:Int) true ns rs wt) false:=Ev_succ (by simp only [spec_NoticeOk.j1,if_true];exact Ev.now _)
  unfold groupOk
  simp only
  by_cases h0:ns.length=0
  ·simp only [show ((ns.length:Int)=0) from by omega,if_true,h0,ne_eq,not_true,decide_false,Bool.false_and];exact stop
  ·simp only [show ¬ ((ns.length:Int)=0) from by omega,if_false,h0,ne_eq,not_false_iff,decide_true,Bool.true_and]
   have tail:Ev (fun k=>if (rs.length:Int) > 6 then (spec_NoticeOk.j1 k n (c:Int) (i:Int) true ns rs wt) else ((spec_l6In.f wt 0 20).bind fun t=>(spec_NoticeOk.j1 k n (c:Int) (i:Int) (!t) ns rs wt)))
     ((decide (rs.length≤6) && (decide (0≤wt) && decide (wt≤20)) && ns.all gname && rs.all fun r=>ruleOk r.f1) && E && D):=by
    by_cases h6:rs.length≤6
    ·simp only [show ¬ ((rs.length:Int) > 6) from by omega,if_false,h6,decide_true,Bool.true_and,l6In_some,Option.bind_some]
     cases (decide (0≤wt) && decide (wt≤20)) with
     | true=>simp only [Bool.not_true,Bool.true_and];simpa [Bool.and_assoc] using go
     | false=>simp only [Bool.not_false,Bool.false_and];exact stop
    ·simp only [show ((rs.length:Int) > 6) from by omega,if_true,h6,decide_false,Bool.false_and];exact stop
   by_cases h1:rs.length=0
   ·have b1:decide (rs.length≠0)=false:=by simp [h1]
    have i1:(rs.length:Int)=0:=by omega
    rw [show decide (¬ rs.length=0)=false from b1]
    by_cases hw:wt=0
    ·subst hw
     simp only [i1,if_true,not_true,decide_false,Bool.or_self,Bool.false_and]
     exact stop
    ·simp only [if_pos i1,if_neg hw,hw,not_false_iff,decide_true,Bool.or_true,Bool.true_and];exact tail
   ·have i1:¬ (rs.length:Int)=0:=by omega
    simp only [if_neg i1,h1,not_false_iff,decide_true,Bool.true_or,Bool.true_and];exact tail
theorem noticeOk_ev (n:List Gp) (hn:Sm n):Ev (fun k=>spec_NoticeOk.f k n) (noticeOk n):=by
 have h:=ok_outer n hn n.length 0 0 (by omega) (by omega)
 rw [List.drop_zero,Nat.zero_add] at h
 exact h
def decB (n:Nat):ByteArray:=if n < 10 then ofL [UInt8.ofNat (48+n)] else ofL [UInt8.ofNat (48+n / 10),UInt8.ofNat (48+n % 10)]
theorem dec_all:∀ n:Nat,n < 100→(spec_l6Dec.f 3 (n:Int)).map L=some (L (decB n)):=by decide +kernel
theorem dec_ev (n:Nat) (h:n < 100):Ev (fun k=>spec_l6Dec.f k (n:Int)) (decB n):=by
 have:=dec_all n h
 cases hq:spec_l6Dec.f 3 (n:Int) with
 | none=>rw [hq] at this;cases this
 | some v=>
  rw [hq] at this
  simp only [Option.map_some,Option.some.injEq] at this
  rw [L_inj this] at hq
  exact Ev.of (fun k=>spec_l6Dec.mono _ k) hq
theorem dec_size (n:Nat):(decB n).size≤2:=by
 unfold decB
 split
 ·exact Nat.le_succ 1
 ·exact Nat.le_refl 2
def nameT (a s:ByteArray):ByteArray:=((a++(⟨#[99,97,108,108,101,114,32]⟩:ByteArray))++s)++(⟨#[10]⟩:ByteArray)
def ruleT (a:ByteArray) (r:Ru):ByteArray:=((a++(if r.f0=true then (⟨#[108,101,116,32]⟩:ByteArray) else (⟨#[98,97,114,32]⟩:ByteArray)))++r.f1)++(⟨#[10]⟩:ByteArray)
def waitT (a:ByteArray) (w:Int):ByteArray:=if w > 0 then ((a++(⟨#[119,97,105,116,32]⟩:ByteArray))++decB w.toNat)++(⟨#[10]⟩:ByteArray) else a
def groupT (a:ByteArray) (g:Gp):ByteArray:=waitT (g.f1.foldl ruleT (g.f0.foldl nameT a)) g.f2
def noticeT (n:List Gp):ByteArray:=if noticeOk n=true then n.foldl groupT (⟨#[]⟩:ByteArray) else (⟨#[]⟩:ByteArray)
theorem sz10:(⟨#[10]⟩:ByteArray).size=1:=rfl
theorem nameT_size (a s:ByteArray):(nameT a s).size=a.size+7+s.size+1:=by
 have:(⟨#[99,97,108,108,101,114,32]⟩:ByteArray).size=7:=rfl
 unfold nameT;simp only [ByteArray.size_append,sz10];omega
theorem ruleT_size (a:ByteArray) (r:Ru):(ruleT a r).size=a.size+4+r.f1.size+1:=by
 have h1:(⟨#[108,101,116,32]⟩:ByteArray).size=4:=rfl
 have h2:(⟨#[98,97,114,32]⟩:ByteArray).size=4:=rfl
 unfold ruleT;split <;> (simp only [ByteArray.size_append,sz10];omega)
theorem gname_size {s:ByteArray} (h:gname s=true):s.size≤8:=by
 unfold gname at h
 rcases (Bool.or_eq_true _ _).mp h with h|h
 ·have:=(beq_iff_eq.1 h)
  rw [Lib.toList_data] at this
  have h2:=L_size s
  rw [show L s=[42] from this] at h2
  simp at h2;omega
 ·unfold isName at h
  simp only [Bool.and_eq_true,decide_eq_true_eq] at h
  omega
theorem ruleOk_size {s:ByteArray} (h:ruleOk s=true):s.size≤16:=by
 unfold ruleOk at h
 simp only [Bool.and_eq_true,decide_eq_true_eq] at h
 omega
theorem names_size:∀ (ns:List ByteArray) (a:ByteArray),ns.all gname=true→(ns.foldl nameT a).size≤a.size+24 * ns.length
 | [],a,_=>by simp
 | s :: r,a,h=>by
  rw [List.all_cons,Bool.and_eq_true] at h
  have:=names_size r (nameT a s) h.2
  have h1:=gname_size h.1
  rw [nameT_size] at this
  rw [List.foldl_cons,List.length_cons];omega
theorem rules_size:∀ (rs:List Ru) (a:ByteArray),(rs.all fun r=>ruleOk r.f1)=true→(rs.foldl ruleT a).size≤a.size+24 * rs.length
 | [],a,_=>by simp
 | s :: r,a,h=>by
  rw [List.all_cons,Bool.and_eq_true] at h
  have:=rules_size r (ruleT a s) h.2
  have h1:=ruleOk_size h.1
  rw [ruleT_size] at this
  rw [List.foldl_cons,List.length_cons];omega
theorem waitT_size (a:ByteArray) (w:Int):(waitT a w).size≤a.size+8:=by
 unfold waitT
 have h5:(⟨#[119,97,105,116,32]⟩:ByteArray).size=5:=rfl
 have:=dec_size w.toNat
 split
 ·simp only [ByteArray.size_append,sz10];omega
 ·omega
theorem groupOk_parts {g:Gp} (h:groupOk g=true):(g.f0.all gname=true)∧((g.f1.all fun r=>ruleOk r.f1)=true)∧0≤g.f2∧g.f2≤20∧g.f0.length≠0∧(g.f1.length≠0∨g.f2≠0)∧g.f1.length≤6:=by
 unfold groupOk at h
 simp only [Bool.and_eq_true,Bool.or_eq_true,decide_eq_true_eq] at h
 obtain ⟨⟨⟨⟨⟨h1,h2⟩,h3⟩,h4⟩,h5⟩,h6⟩:=h
 exact ⟨h5,h6,h4.1,h4.2,h1,h2,h3⟩
theorem group_size {g:Gp} (a:ByteArray) (h:groupOk g=true):(groupT a g).size≤a.size+24 * (g.f0.length+g.f1.length+1):=by
 obtain ⟨h1,h2,_⟩:=groupOk_parts h
 have e1:=names_size g.f0 a h1
 have e2:=rules_size g.f1 (g.f0.foldl nameT a) h2
 have e3:=waitT_size (g.f1.foldl ruleT (g.f0.foldl nameT a)) g.f2
 unfold groupT;omega
theorem text_names (n:List Gp) (i:Nat) (hi:i < n.length) (hok:n[i].f0.all gname=true) (hl:n[i].f0.length≤1048576) (R:ByteArray) (d:Nat):∀ (j:Nat) (a:ByteArray),j+d=n[i].f0.length→a.size+24 * d≤1000000000000000 →
  Ev (fun k=>spec_NoticeText.l2 k n ((n[i].f0.drop j).foldl nameT a) (i:Int) 0) R→Ev (fun k=>spec_NoticeText.l1 k n a (i:Int) (j:Int)) R:=by
 induction d with
 | zero=>
  intro j a hj ha hR
  rw [List.drop_of_length_le (by omega)] at hR
  refine Ev_succ ?_
  simp only [spec_NoticeText.l1,show (0:Int)≤(i:Int) from by omega,show (i:Int) < (n.length:Int) from by omega,if_true]
  rw [rd_gp hi]
  simp only [show ¬ ((j:Int) < (n[i].f0.length:Int)) from by omega,if_false]
  exact hR
 | succ d ih=>
  intro j a hj ha hR
  have hlt:j < n[i].f0.length:=by omega
  have e4:wrap64 ((j:Int)+1)=((j+1:Nat):Int):=by rw [w64 (by omega) (by omega)];rfl
  rw [List.drop_eq_getElem_cons hlt,List.foldl_cons] at hR
  have hz:=gname_size (List.all_eq_true.1 hok _ (List.getElem_mem hlt))
  refine Ev_succ ?_
  simp only [spec_NoticeText.l1,show (0:Int)≤(i:Int) from by omega,show (i:Int) < (n.length:Int) from by omega,if_true]
  rw [rd_gp hi]
  simp only [show ((j:Int) < (n[i].f0.length:Int)) from by omega,show (0:Int)≤(j:Int) from by omega,if_true]
  rw [rd_at hlt,e4]
  simp only [show a.size+7≤9223372036854775807 from by omega,show a.size+7+n[i].f0[j].size≤9223372036854775807 from by omega,show a.size+7+n[i].f0[j].size+1≤9223372036854775807 from by omega,if_true]
  exact ih (j+1) (nameT a n[i].f0[j]) (by omega) (by rw [nameT_size];omega) hR
theorem text_rules (n:List Gp) (i:Nat) (hi:i < n.length) (hok:groupOk n[i]=true) (hl:n[i].f1.length≤1048576) (hq:n.length≤1048576) (R:ByteArray) (d:Nat):∀ (j:Nat) (a:ByteArray),j+d=n[i].f1.length→a.size+24 * (d+1)≤1000000000000000 →
  Ev (fun k=>spec_NoticeText.l0 k n (waitT ((n[i].f1.drop j).foldl ruleT a) n[i].f2) ((i+1:Nat):Int)) R→Ev (fun k=>spec_NoticeText.l2 k n a (i:Int) (j:Int)) R:=by
 obtain ⟨_,hrs,w0,w1,_⟩:=groupOk_parts hok
 have ei:wrap64 ((i:Int)+1)=((i+1:Nat):Int):=by rw [w64 (by omega) (by omega)];rfl
 induction d with
 | zero=>
  intro j a hj ha hR
  rw [List.drop_of_length_le (by omega)] at hR
  refine Ev_succ ?_
  simp only [spec_NoticeText.l2,show (0:Int)≤(i:Int) from by omega,show (i:Int) < (n.length:Int) from by omega,if_true]
  rw [rd_gp hi]
  simp only [show ¬ ((j:Int) < (n[i].f1.length:Int)) from by omega,if_false]
  rw [ei]
  rw [List.foldl_nil] at hR
  unfold waitT at hR
  by_cases hw:n[i].f2 > 0
  ·simp only [hw,if_true] at hR ⊢
   obtain ⟨m,hm⟩:=Int.eq_ofNat_of_zero_le w0
   have hd:=dec_ev m (by omega)
   have hds:=dec_size m
   rw [hm,Int.toNat_natCast] at hR
   rw [hm]
   simp only [show a.size+5≤9223372036854775807 from by omega,if_true]
   refine Ev.bind hd ?_
   simp only [show a.size+5+(decB m).size≤9223372036854775807 from by omega,show a.size+5+(decB m).size+1≤9223372036854775807 from by omega,if_true]
   exact hR
  ·simp only [hw,if_false] at hR ⊢
   exact hR
 | succ d ih=>
  intro j a hj ha hR
  have hlt:j < n[i].f1.length:=by omega
  have e4:wrap64 ((j:Int)+1)=((j+1:Nat):Int):=by rw [w64 (by omega) (by omega)];rfl
  rw [List.drop_eq_getElem_cons hlt,List.foldl_cons] at hR
  have hz:=ruleOk_size (List.all_eq_true.1 hrs _ (List.getElem_mem hlt))
  have next:=ih (j+1) (ruleT a n[i].f1[j]) (by omega) (by rw [ruleT_size];omega) hR
  refine Ev_succ ?_
  simp only [spec_NoticeText.l2,show (0:Int)≤(i:Int) from by omega,show (i:Int) < (n.length:Int) from by omega,if_true]
  rw [rd_gp hi]
  simp only [show ((j:Int) < (n[i].f1.length:Int)) from by omega,show (0:Int)≤(j:Int) from by omega,if_true]
  rw [rd_ru hlt,e4]
  unfold ruleT at next
  simp only [show a.size+4≤9223372036854775807 from by omega,show a.size+4+n[i].f1[j].f1.size≤9223372036854775807 from by omega,show a.size+4+n[i].f1[j].f1.size+1≤9223372036854775807 from by omega,if_true]
  by_cases hb:n[i].f1[j].f0=true
  ·simp only [hb,if_true] at next ⊢;exact next
  ·simp only [hb,Bool.false_eq_true,if_false] at next ⊢;exact next
theorem text_outer (n:List Gp) (hn:Sm n) (d:Nat):∀ (i:Nat) (a:ByteArray),i+d=n.length→a.size≤24 * 2097153 * i→((n.drop i).all groupOk)=true →
  Ev (fun k=>spec_NoticeText.l0 k n a (i:Int)) ((n.drop i).foldl groupT a):=by
 have hf:=hn.few
 induction d with
 | zero=>
  intro i a hi ha hk
  refine Ev_succ ?_
  simp only [spec_NoticeText.l0,show ¬ ((i:Int) < (n.length:Int)) from by omega,if_false]
  rw [List.drop_of_length_le (by omega)]
  exact Ev.now _
 | succ d ih=>
  intro i a hi ha hk
  have hlt:i < n.length:=by omega
  obtain ⟨s1,s2,s3⟩:=hn.get hlt
  rw [List.drop_eq_getElem_cons hlt,List.all_cons,Bool.and_eq_true] at hk
  rw [List.drop_eq_getElem_cons hlt,List.foldl_cons]
  have hg:=group_size a hk.1
  have next:=ih (i+1) (groupT a n[i]) (by omega) (by omega) hk.2
  have e1:=names_size n[i].f0 a (groupOk_parts hk.1).1
  refine Ev_succ ?_
  simp only [spec_NoticeText.l0,show (i:Int) < (n.length:Int) from by omega,if_true]
  refine text_names n i hlt (groupOk_parts hk.1).1 s1 _ n[i].f0.length 0 a (by omega) (by omega) ?_
  rw [List.drop_zero]
  refine text_rules n i hlt hk.1 s3 hf _ n[i].f1.length 0 _ (by omega) (by omega) ?_
  rw [List.drop_zero]
  exact next
theorem noticeT_ev (n:List Gp) (hn:Sm n):Ev (fun k=>spec_NoticeText.f k n) (noticeT n):=by
 unfold spec_NoticeText.f noticeT
 refine Ev.bind (noticeOk_ev n hn) ?_
 by_cases h:noticeOk n=true
 ·simp only [h,if_true]
  have hk:n.all groupOk=true:=by
   unfold noticeOk at h
   rw [Bool.and_eq_true] at h
   exact h.1
  have:=text_outer n hn n.length 0 ⟨#[]⟩ (by omega) (by have:(⟨#[]⟩:ByteArray).size=0:=rfl;omega) (by rw [List.drop_zero];exact hk)
  rw [List.drop_zero] at this
  exact this
 ·simp only [h,Bool.false_eq_true,if_false];exact Ev.now _
theorem impl_small_l (s:ByteArray) (hs:s.size≤140737488351232) (d:Nat):∀ (k:Nat) (i:Nat),i+d=s.size→d < k →
  impl_allSmallLetters.l0 k s (i:Int)=some (smallFrom s d i):=by
 induction d with
 | zero=>
  intro k i h hk
  obtain ⟨k,rfl⟩:∃ m,k=m+1:=⟨k - 1,by omega⟩
  simp only [impl_allSmallLetters.l0,smallFrom]
  rw [if_neg (by omega)]
 | succ d ih=>
  intro k i h hk
  obtain ⟨k,rfl⟩:∃ m,k=m+1:=⟨k - 1,by omega⟩
  simp only [impl_allSmallLetters.l0,smallFrom]
  rw [if_pos (by omega),if_pos (by omega)]
  by_cases h1:bt s i < 97
  ·rw [if_pos h1,if_pos h1]
  ·rw [if_neg h1,if_neg h1]
   by_cases h2:bt s i > 122
   ·rw [if_pos h2,if_pos h2]
   ·rw [if_neg h2,if_neg h2,w64 (by omega) (by omega)]
    exact ih k (i+1) (by omega) (by omega)
theorem impl_name (s:ByteArray) (hs:s.size≤140737488351232):Ev (fun k=>impl_isName.f k s) (isName s):=by
 unfold impl_isName.f isName isSmall
 by_cases h1:1≤s.size
 ·by_cases h2:s.size≤8
  ·simp only [show (s.size:Int) ≥ 1 from by omega,show (s.size:Int)≤8 from by omega,if_true,h1,h2,decide_true,Bool.true_and]
   refine Ev.bind (a:=smallFrom s s.size 0) ?_ (Ev.now _)
   refine Ev.of (fun k=>impl_allSmallLetters.mono _ k) (k:=s.size+1) ?_
   exact impl_small_l s hs s.size (s.size+1) 0 (by omega) (by omega)
  ·simp only [show (s.size:Int) ≥ 1 from by omega,show ¬ (s.size:Int)≤8 from by omega,if_true,if_false,h2,decide_false,Bool.and_false,Bool.false_and]
   exact Ev.now _
 ·simp only [show ¬ (s.size:Int) ≥ 1 from by omega,if_false,h1,decide_false,Bool.false_and]
  exact Ev.now _
theorem impl_gname (s:ByteArray) (hs:s.size≤140737488351232):Ev (fun k=>impl_isGroupName.f k s) (gname s):=by
 unfold impl_isGroupName.f gname
 by_cases h:s.toList=([42]:List UInt8)
 ·simp only [h,if_true,beq_self_eq_true,Bool.true_or]
  exact Ev.now _
 ·simp only [h,if_false,beq_eq_false_iff_ne.mpr h,Bool.false_or]
  exact Ev.bind (impl_name s hs) (Ev.now _)
theorem impl_rules_l (rs:List Ru) (hr:rs.length≤1048576) (hz:∀ r ∈ rs,r.f1.size≤140737488351232) (d:Nat):∀ j:Nat,j+d=rs.length →
  Ev (fun k=>impl_rulesOk.l0 k rs (rs.length:Int) (j:Int)) ((rs.drop j).all fun r=>ruleOk r.f1):=by
 induction d with
 | zero=>
  intro j hj
  refine Ev_succ ?_
  simp only [impl_rulesOk.l0,show ¬ ((j:Int) < (rs.length:Int)) from by omega,if_false]
  rw [List.drop_of_length_le (by omega)]
  exact Ev.now _
 | succ d ih=>
  intro j hj
  have hlt:j < rs.length:=by omega
  have e4:wrap64 ((j:Int)+1)=((j+1:Nat):Int):=by rw [w64 (by omega) (by omega)];rfl
  refine Ev_succ ?_
  simp only [impl_rulesOk.l0,show (j:Int) < (rs.length:Int) from by omega,show (0:Int)≤(j:Int) from by omega,if_true]
  rw [rd_ru hlt,e4,List.drop_eq_getElem_cons hlt,List.all_cons]
  refine Ev.bind (ruleOk_impl _ (hz _ (List.getElem_mem hlt))) ?_
  cases ruleOk rs[j].f1 with
  | true=>simp only [if_true,Bool.true_and];exact ih (j+1) (by omega)
  | false=>simp only [Bool.false_eq_true,if_false,Bool.false_and];exact Ev.now _
theorem impl_rules (rs:List Ru) (hr:rs.length≤1048576) (hz:∀ r ∈ rs,r.f1.size≤140737488351232):Ev (fun k=>impl_rulesOk.f k rs) (rs.all fun r=>ruleOk r.f1):=by
 have:=impl_rules_l rs hr hz rs.length 0 (by omega)
 rw [List.drop_zero] at this
 exact this
theorem impl_group_l (rs:List Ru) (wt:Int) (ns0:List ByteArray) (hr:rs.length≤1048576) (hz:∀ r ∈ rs,r.f1.size≤140737488351232) (ns:List ByteArray) (hn:ns.length≤1048576) (hs:∀ s ∈ ns,s.size≤1048576) (d:Nat):∀ j:Nat,j+d=ns.length →
  Ev (fun k=>impl_groupOk.l0 k ns (ns.length:Int) (j:Int) ns0 rs wt) ((ns.drop j).all gname && rs.all fun r=>ruleOk r.f1):=by
 induction d with
 | zero=>
  intro j hj
  refine Ev_succ ?_
  simp only [impl_groupOk.l0,show ¬ ((j:Int) < (ns.length:Int)) from by omega,if_false]
  rw [List.drop_of_length_le (by omega)]
  simp only [List.all_nil,Bool.true_and]
  exact Ev.bind (impl_rules rs hr hz) (Ev.now _)
 | succ d ih=>
  intro j hj
  have hlt:j < ns.length:=by omega
  have e4:wrap64 ((j:Int)+1)=((j+1:Nat):Int):=by rw [w64 (by omega) (by omega)];rfl
  refine Ev_succ ?_
  simp only [impl_groupOk.l0,show (j:Int) < (ns.length:Int) from by omega,show (0:Int)≤(j:Int) from by omega,if_true]
  rw [rd_at hlt,e4,List.drop_eq_getElem_cons hlt,List.all_cons]
  have hz2:=hs _ (List.getElem_mem hlt)
  refine Ev.bind (impl_gname _ (by omega)) ?_
  cases gname ns[j] with
  | true=>simp only [if_true,Bool.true_and];exact ih (j+1) (by omega)
  | false=>simp only [Bool.false_eq_true,if_false,Bool.false_and];exact Ev.now _
theorem impl_group (g:Gp) (hr:g.f1.length≤1048576) (hz:∀ r ∈ g.f1,r.f1.size≤140737488351232) (hn:g.f0.length≤1048576) (hs:∀ s ∈ g.f0,s.size≤1048576) :
  Ev (fun k=>impl_groupOk.f k g.f0 g.f1 g.f2) (groupOk g):=by
 obtain ⟨ns,rs,wt⟩:=g
 simp only at hr hz hn hs ⊢
 have body:=impl_group_l rs wt ns hr hz ns hn hs ns.length 0 (by omega)
 rw [List.drop_zero] at body
 have stop:Ev (fun k=>impl_groupOk.j0 k true ns rs wt) false:=Ev_succ (by simp only [impl_groupOk.j0,if_true];exact Ev.now _)
 unfold impl_groupOk.f groupOk
 by_cases h0:ns.length=0
 ·simpa [h0] using stop
 by_cases h6:rs.length≤6
 ·by_cases hw:0≤wt
  ·by_cases hw2:wt≤20
   ·have go:Ev (fun k=>impl_groupOk.j1 k false ns rs wt) (ns.all gname && rs.all fun r=>ruleOk r.f1):=Ev_succ (by simp only [impl_groupOk.j1,Bool.false_eq_true,if_false];exact body)
    have no:Ev (fun k=>impl_groupOk.j1 k true ns rs wt) false:=Ev_succ (by simp only [impl_groupOk.j1,if_true];exact Ev.now _)
    simp only [show ¬ ((ns.length:Int)=0) from by omega,show ¬ ((rs.length:Int) > 6) from by omega,show ¬ (wt < 0) from by omega,show ¬ (wt > 20) from by omega,if_false,decide_false,h0,h6,hw,hw2,ne_eq,not_false_iff,decide_true,Bool.true_and,Bool.and_true]
    refine Ev_succ ?_
    simp only [impl_groupOk.j0,Bool.false_eq_true,if_false]
    by_cases h1:rs.length=0
    ·by_cases hw0:wt=0
     ·simpa [h1,hw0] using no
     ·simpa [h1,hw0,beq_eq_false_iff_ne.mpr hw0] using go
    ·simpa [h1,show ¬ ((rs.length:Int)=0) from by omega] using go
   ·simpa [h0,h6,hw,hw2,show ¬ ((rs.length:Int) > 6) from by omega,show ¬ (wt < 0) from by omega,show wt > 20 from by omega,show ¬ ((ns.length:Int)=0) from by omega] using stop
  ·simpa [h0,h6,hw,show ¬ ((rs.length:Int) > 6) from by omega,show wt < 0 from by omega,show ¬ ((ns.length:Int)=0) from by omega] using stop
 ·simpa [h0,h6,show ((rs.length:Int) > 6) from by omega,show ¬ ((ns.length:Int)=0) from by omega] using stop
structure Smi (n:List Gp):Prop extends Sm n where
 paths:∀ g ∈ n,∀ r ∈ g.f1,r.f1.size≤1048576
theorem impl_ok_l (n:List Gp) (hn:Smi n) (d:Nat):∀ (i c:Nat),i+d=n.length→c≤2097153 * i →
  Ev (fun k=>impl_NoticeOk.l0 k (c:Int) n (n.length:Int) (i:Int)) ((n.drop i).all groupOk && decide (c+linesOf (n.drop i)≤40)):=by
 have hf:=hn.few
 induction d with
 | zero=>
  intro i c hi hc
  refine Ev_succ ?_
  simp only [impl_NoticeOk.l0,show ¬ ((i:Int) < (n.length:Int)) from by omega,if_false]
  rw [List.drop_of_length_le (by omega)]
  simp only [List.all_nil,Bool.true_and,linesOf,List.map_nil,List.sum_nil,Nat.add_zero]
  rw [show (decide (c≤40))=decide ((c:Int)≤40) from by simp;omega]
  exact Ev.now _
 | succ d ih=>
  intro i c hi hc
  have hlt:i < n.length:=by omega
  obtain ⟨s1,s2,s3⟩:=hn.toSm.get hlt
  have s4:=hn.paths _ (List.getElem_mem hlt)
  have next:=ih (i+1) (c+(n[i].f0.length+n[i].f1.length+1)) (by omega) (by omega)
  rw [List.drop_eq_getElem_cons hlt,List.all_cons]
  have hL:linesOf (n[i] :: n.drop (i+1))=(n[i].f0.length+n[i].f1.length+1)+linesOf (n.drop (i+1)):=by unfold linesOf;rw [List.map_cons,List.sum_cons]
  rw [hL,← Nat.add_assoc]
  clear hL
  have hr:=rd_gp hlt
  generalize n[i]=g at s1 s2 s3 s4 next hr ⊢
  have e1:wrap64 ((g.f0.length:Int)+(g.f1.length:Int))=((g.f0.length+g.f1.length:Nat):Int):=by rw [w64 (by omega) (by omega)];omega
  have e2:wrap64 (((g.f0.length+g.f1.length:Nat):Int)+1)=((g.f0.length+g.f1.length+1:Nat):Int):=by rw [w64 (by omega) (by omega)];omega
  have e3:wrap64 ((c:Int)+((g.f0.length+g.f1.length+1:Nat):Int))=((c+(g.f0.length+g.f1.length+1):Nat):Int):=by rw [w64 (by omega) (by omega)];omega
  have e4:wrap64 ((i:Int)+1)=((i+1:Nat):Int):=by rw [w64 (by omega) (by omega)];rfl
  refine Ev_succ ?_
  simp only [impl_NoticeOk.l0,show (i:Int) < (n.length:Int) from by omega,show (0:Int)≤(i:Int) from by omega,if_true]
  rw [hr,e1,e2,e3,e4]
  refine Ev.bind (impl_group _ s3 (fun r hr=>by have:=s4 r hr;omega) s1 s2) ?_
  cases groupOk g with
  | true=>simp only [if_true,Bool.true_and];exact next
  | false=>simp only [Bool.false_eq_true,if_false,Bool.false_and];exact Ev.now _
theorem impl_noticeOk (n:List Gp) (hn:Smi n):Ev (fun k=>impl_NoticeOk.f k n) (noticeOk n):=by
 have h:=impl_ok_l n hn n.length 0 0 (by omega) (by omega)
 rw [List.drop_zero,Nat.zero_add] at h
 exact h
def nlr (r:Ru):Ln.NL:=.rule r.f0 r.f1
def glines (g:Gp):List Ln.NL:=(g.f0.map Ln.NL.caller++g.f1.map nlr)++(if g.f2=0 then [] else [Ln.NL.wait g.f2])
theorem linesB_append (a b:List Ln.NL):linesB (a++b)=linesB a++linesB b:=by unfold linesB;rw [List.map_append,List.flatten_append]
theorem linesB_one (x:Ln.NL):linesB [x]=L x.text:=by simp [linesB,L]
theorem dec_same:∀ n:Nat,n < 100→L (decB n)=Lib.decDigits n:=by decide +kernel
theorem caller_text (a s:ByteArray):L (nameT a s)=L a++L (Ln.NL.text (.caller s)):=by
 unfold nameT Ln.NL.text
 simp only [L_app,List.append_assoc]
theorem rule_text (a:ByteArray) (r:Ru):L (ruleT a r)=L a++L (nlr r).text:=by
 obtain ⟨b,p⟩:=r
 cases b <;> simp only [ruleT,nlr,Ln.NL.text,L_app,List.append_assoc,if_true,Bool.false_eq_true,if_false]
theorem names_text:∀ (ns:List ByteArray) (a:ByteArray),L (ns.foldl nameT a)=L a++linesB (ns.map Ln.NL.caller)
 | [],a=>by simp [linesB]
 | s :: r,a=>by
  rw [List.foldl_cons,names_text r,caller_text,List.map_cons,show Ln.NL.caller s :: r.map Ln.NL.caller=[Ln.NL.caller s]++r.map Ln.NL.caller from rfl,linesB_append,linesB_one,List.append_assoc]
theorem rules_text:∀ (rs:List Ru) (a:ByteArray),L (rs.foldl ruleT a)=L a++linesB (rs.map nlr)
 | [],a=>by simp [linesB]
 | s :: r,a=>by
  rw [List.foldl_cons,rules_text r,rule_text,List.map_cons,show nlr s :: r.map nlr=[nlr s]++r.map nlr from rfl,linesB_append,linesB_one,List.append_assoc]
theorem wait_text (a:ByteArray) (w:Int) (h0:0≤w) (h1:w≤20):L (waitT a w)=L a++linesB (if w=0 then [] else [Ln.NL.wait w]):=by
 unfold waitT
 by_cases h:w=0
 ·subst h;simp [linesB]
 ·have hp:w > 0:=by omega
  have hd:=dec_same w.toNat (by omega)
  simp only [hp,h,if_true,if_false]
  rw [linesB_one]
  simp only [Ln.NL.text,L_app,List.append_assoc]
  rw [hd]
theorem group_text (a:ByteArray) (g:Gp) (h0:0≤g.f2) (h1:g.f2≤20):L (groupT a g)=L a++linesB (glines g):=by
 unfold groupT glines
 rw [wait_text _ _ h0 h1,rules_text,names_text,linesB_append,linesB_append]
 simp only [List.append_assoc]
theorem gl_rules (ns:List ByteArray) (rs:List Ru) (wt:Int) (hr:rs.length≤1048576) (d:Nat):∀ (j:Nat) (a:List Ln.NL),j+d=rs.length→a.length+d≤4000000 →
  Ev (fun k=>impl_groupLines.l1 k a rs (rs.length:Int) (j:Int) ns rs wt) (a++((rs.drop j).map nlr++(if wt=0 then [] else [Ln.NL.wait wt]))):=by
 induction d with
 | zero=>
  intro j a hj ha
  refine Ev_succ ?_
  simp only [impl_groupLines.l1,show ¬ ((j:Int) < (rs.length:Int)) from by omega,if_false]
  rw [List.drop_of_length_le (by omega),List.map_nil,List.nil_append]
  by_cases hw:wt=0
  ·simp only [hw,if_true,List.append_nil];exact Ev.now _
  ·simp only [hw,if_false,show a.length < 8796093022208 from by omega,if_true];exact Ev.now _
 | succ d ih=>
  intro j a hj ha
  have hlt:j < rs.length:=by omega
  have e4:wrap64 ((j:Int)+1)=((j+1:Nat):Int):=by rw [w64 (by omega) (by omega)];rfl
  refine Ev_succ ?_
  simp only [impl_groupLines.l1,show (j:Int) < (rs.length:Int) from by omega,show (0:Int)≤(j:Int) from by omega,show a.length < 8796093022208 from by omega,if_true]
  rw [rd_ru hlt,e4,List.drop_eq_getElem_cons hlt,List.map_cons]
  have next:=ih (j+1) (a++[nlr rs[j]]) (by omega) (by rw [List.length_append,List.length_singleton];omega)
  rw [List.append_assoc] at next
  exact next
theorem gl_names (rs:List Ru) (wt:Int) (ns:List ByteArray) (hn:ns.length≤1048576) (hr:rs.length≤1048576) (d:Nat):∀ (j:Nat) (a:List Ln.NL),j+d=ns.length→a.length+d+rs.length≤4000000 →
  Ev (fun k=>impl_groupLines.l0 k a ns (ns.length:Int) (j:Int) ns rs wt) (a++((ns.drop j).map Ln.NL.caller++(rs.map nlr++(if wt=0 then [] else [Ln.NL.wait wt])))):=by
 induction d with
 | zero=>
  intro j a hj ha
  refine Ev_succ ?_
  simp only [impl_groupLines.l0,show ¬ ((j:Int) < (ns.length:Int)) from by omega,if_false]
  rw [List.drop_of_length_le (by omega),List.map_nil,List.nil_append]
  have:=gl_rules ns rs wt hr rs.length 0 a (by omega) (by omega)
  rw [List.drop_zero] at this
  exact this
 | succ d ih=>
  intro j a hj ha
  have hlt:j < ns.length:=by omega
  have e4:wrap64 ((j:Int)+1)=((j+1:Nat):Int):=by rw [w64 (by omega) (by omega)];rfl
  refine Ev_succ ?_
  simp only [impl_groupLines.l0,show (j:Int) < (ns.length:Int) from by omega,show (0:Int)≤(j:Int) from by omega,show a.length < 8796093022208 from by omega,if_true]
  rw [rd_at hlt,e4,List.drop_eq_getElem_cons hlt,List.map_cons]
  have next:=ih (j+1) (a++[Ln.NL.caller ns[j]]) (by omega) (by rw [List.length_append,List.length_singleton];omega)
  rw [List.append_assoc] at next
  exact next
theorem gl_ev (g:Gp) (hn:g.f0.length≤1048576) (hr:g.f1.length≤1048576):Ev (fun k=>impl_groupLines.f k g.f0 g.f1 g.f2) (glines g):=by
 have:=gl_names g.f1 g.f2 g.f0 hn hr g.f0.length 0 [] (by omega) (by simp only [List.length_nil];omega)
 rw [List.drop_zero,List.nil_append,← List.append_assoc] at this
 exact this
theorem lines_small (g:Gp) (h:groupOk g=true):(glines g).all P.smallB=true:=by
 obtain ⟨h1,h2,w0,w1,_⟩:=groupOk_parts h
 refine List.all_eq_true.2 fun x hx=>?_
 unfold glines at hx
 rcases List.mem_append.1 hx with hx|hx
 ·rcases List.mem_append.1 hx with hx|hx
  ·obtain ⟨s,hs,rfl⟩:=List.mem_map.1 hx
   have:=gname_size (List.all_eq_true.1 h1 s hs)
   exact decide_eq_true (by omega)
  ·obtain ⟨r,hr,rfl⟩:=List.mem_map.1 hx
   have:=ruleOk_size (List.all_eq_true.1 h2 r hr)
   exact decide_eq_true (by omega)
 ·by_cases hw:g.f2=0
  ·simp [hw] at hx
  ·rw [if_neg hw,List.mem_singleton] at hx
   subst hx
   simp only [P.smallB,Bool.and_eq_true,decide_eq_true_eq]
   omega
theorem glines_len (g:Gp):(glines g).length≤g.f0.length+g.f1.length+1:=by
 unfold glines
 split <;> simp <;> omega
theorem notices_ev:∀ (n:List Gp) (a:ByteArray),(∀ g ∈ n,groupOk g=true∧g.f0.length≤1048576∧g.f1.length≤1048576)→a.size+24 * linesOf n≤1000000000→Ev (fun k=>notices k n (L a)) (n.foldl groupT a)
 | [],a,_,_=>by
  simp only [notices,List.foldl_nil]
  exact Ev.now _
 | g :: r,a,h,hs=>by
  obtain ⟨hg,hl,hl2⟩:=h g List.mem_cons_self
  obtain ⟨_,_,w0,w1,_⟩:=groupOk_parts hg
  have hz:=group_size a hg
  have ht:=group_text a g w0 w1
  have hlen:=glines_len g
  have hL:linesOf (g :: r)=(g.f0.length+g.f1.length+1)+linesOf r:=by unfold linesOf;rw [List.map_cons,List.sum_cons]
  have next:=notices_ev r (groupT a g) (fun x hx=>h x (List.mem_cons_of_mem _ hx)) (by omega)
  have hq:(L a++linesB (glines g)).length≤140737488355328:=by rw [← ht,L_size];omega
  simp only [notices,List.foldl_cons]
  refine Ev.bind (gl_ev g hl hl2) ?_
  simp only [lines_small g hg,hq,show (glines g).length≤1000000000 from by omega,and_self,if_true]
  rw [← ht]
  exact next
theorem noticeT_impl (n:List Gp) (hn:Smi n):Ev (fun k=>impl_NoticeText.f k n) (noticeT n):=by
 have hf:=hn.few
 unfold impl_NoticeText.f noticeT
 simp only [show n.length≤1000000000 from by omega,if_true]
 refine Ev.bind (impl_noticeOk n hn) ?_
 by_cases h:noticeOk n=true
 ·simp only [h,if_true]
  unfold noticeOk at h
  rw [Bool.and_eq_true,decide_eq_true_eq] at h
  have h0:(⟨#[]⟩:ByteArray).size=0:=rfl
  exact notices_ev n ⟨#[]⟩ (fun g hg=>⟨List.all_eq_true.1 h.1 g hg,(hn.names g hg).1,hn.rules g hg⟩) (by omega)
 ·simp only [h,Bool.false_eq_true,if_false];exact Ev.now _
end Go.Proofs.Ythojbccgnlcblaa.Nt
end
section
namespace Go.Proofs.Ythojbccgnlcblaa.Pure
open Go.RowKit Go.Proofs.Ythojbccgnlcblaa.P Go.Proofs.YthojbccgnlcblaaW.PrintWords Go.Proofs.YthojbccgnlcblaaW.PrintLast Go.Proofs.Ythojbccgnlcblaa.B
set_option linter.unusedSimpArgs false
set_option linter.unusedVariables false
theorem sm_of {l:List Gs.Lg} (h:l.length≤1048576) (hf:∀ g ∈ l,Gs.Few g):Nt.Smi (l.map Gs.cg):=by
 refine ⟨⟨by rw [List.length_map];exact h,fun g hg=>?_,fun g hg=>?_⟩,fun g hg r hr=>?_⟩
 all_goals obtain ⟨q,hq,rfl⟩:=List.mem_map.1 hg
 all_goals obtain ⟨f0,f1,f2,f3⟩:=hf q hq
 ·exact ⟨f0,f1⟩
 ·show (q.f1.map Gs.cr).length≤_
  rw [List.length_map];exact f2
 ·obtain ⟨x,hx,rfl⟩:=List.mem_map.1 hr
  exact f3 x hx
theorem FnExactNoticeText (l:List Gs.Lg) (hl:l.length≤17592186044416) (hs:∀ g ∈ l,Gs.Fit g) :
  Ev (fun k=>laws_FnExactNoticeText.f k l) true:=by
 unfold laws_FnExactNoticeText.f
 obtain ⟨r,hr,hb⟩:=Gs.szGs_ev l hl hs
 refine Ev.bind hr ?_
 by_cases hr0:r < 0
 ·simp only [hr0,if_true];exact Ev.now _
 simp only [hr0,if_false]
 obtain ⟨b1,b2⟩:=hb (by omega)
 have hA:=Gs.toG_ev l b1 (fun g hg=>⟨(b2 g hg).1,(b2 g hg).2.2.1⟩)
 have hm:=sm_of b1 b2
 have h1:=Nt.noticeT_ev (l.map Gs.cg) hm.toSm
 have h2:=Nt.noticeT_impl (l.map Gs.cg) hm
 refine Ev.bind hA (Ev.bind h1 (Ev.bind hA (Ev.bind h2 ?_)))
 simp only [if_true]
 refine Ev.bind hA (Ev.bind (Gs.eqG_ev _ (by rw [List.length_map];exact b1) (fun g hg=>⟨(hm.names g hg).1,hm.rules g hg⟩)) ?_)
 simp only [if_true]
 exact Ev.now _
end Go.Proofs.Ythojbccgnlcblaa.Pure
end
section
namespace Go.Proofs.YthojbccgnlcblaaW.PrintWords
open Go.ChangeShapes Go.WideShapes

end Go.Proofs.YthojbccgnlcblaaW.PrintWords
end
section
namespace Go.Proofs.Ythojbccgnlcblaa.fnExactNoticeText
open Go.ChangeShapes Go.WideShapes Go.ChangeAt Go.RowKit
open Go.ChangeMaps (open_string shut_string)
set_option linter.unusedVariables false
theorem own : ownKnob Try.prog.godebug = none := by kernel_rfl
theorem laidOut : laidOutB Try.prog = true := by kernel_rfl
set_option maxRecDepth 100000 in
theorem lifted (os : Os) (started : os.Started) (H : Type) (enc : TypeId × Value → H) :
  ReturnsInHanded {} Try.checked os 3 .any (Rows.fnExactNoticeTextSpec.pre6 enc Try.prog Try.f3 Rows.fnExactNoticeTextRow.domain false) (Rows.fnExactNoticeTextSpec.post enc Try.prog Try.f3 false true false false) := by
 refine returnsInHanded_of_change_sized (C := Try.checked) own started (by kernel_rfl) Try.func3
  (ChangeSpec.witness6 (enc := enc) (C := Try.checked) false ⟨#[], #[.slice none 0 0], []⟩ 8 (by kernel_rfl) (by kernel_rfl) (by kernel_rfl) (by kernel_rfl)) ?_
 intro W base args ds gs before hval0 hW hcnd hsz0 _
 have hsz : (DataW.weightsEach Try.prog (Try.f3.params.toList ++ Rows.fnExactNoticeTextSpec.plain.varTypes Try.prog) (ds ++ gs)).all (· ≤ reachBytes) = true := hsz0
 have hval : ∀ (j : Nat) t v, Try.f3.params[j]? = some t → args[j]? = some v → Value.okWide Try.prog W .any base t v := hval0
 have hW' := hW
 obtain ⟨p, q, hA0, hV, rfl, hfz, hnd⟩ := hW
 have hA : DataW.TrodAll enc Try.prog W 0 (fun _ => true) true Try.f3.params.toList args.toList ds p := hA0
 rw [Try.params3] at hA hval hsz
 obtain ⟨v0, vs0, d0, ds0, p0, q0, hargs, rfl, rfl, h0, r0⟩ := trodAll_cons hA
 obtain ⟨rfl, rfl, rfl⟩ := trodAll_nil r0
 obtain rfl : args = #[v0] := by cases args; simp_all
 obtain ⟨rfl, rfl⟩ := trodVars_none hV
 have k0 := h0
 have lt0 : ∀ x ∈ p0, x.block < W.heap.size := by obtain ⟨m, hm⟩ := k0; exact DataW.trod_lt m _ _ _ hm
 obtain ⟨a0, len0, cap0, rfl⟩ := okWide_slice Try.underlying22 (hval 0 22 v0 rfl rfl)
 obtain ⟨n0, f0⟩ := h0
 have hrb : reachBytes = 140737488351232 := rfl
 obtain ⟨A, l, c, e0, hC, hc, hw⟩ := Gs.groups_open f0
 have e0' : (.slice a0 len0 cap0 : Value) = .slice A l.length c := by simpa [Value.cells] using e0
 injection e0' with e1 e2 e3
 subst e1
 subst e2
 subst e3
 obtain ⟨w1, w2⟩ := hw reachBytes (fun x hx => by
  have g2 := List.all_eq_true.1 hsz _ (DataW.weights_mem_each (j := 0) (t := 22) rfl rfl x hx)
  simpa using g2)
 obtain ⟨K, hK⟩ := Pure.FnExactNoticeText l (by omega) (fun p hp => w2 p hp (by omega) (by omega))
 clear hA0 hval0 hsz0 hsz hw
 refine (P.laws_FnExactNoticeText.calls K a0 cap0 l true W hC hc (hK K (Nat.le_refl _))).mono fun e W' ⟨he, bel⟩ => ?_
 subst he
 exact ⟨_, rfl, _, _, _, [], _, [], hW', trodAll_mk1 (shut_bool Try.underlying4 _), (trodAll_cons_mk (Below.trod laidOut (by kernel_rfl) (of_decide_eq_true (by kernel_rfl)) k0 bel lt0) trodAll_mk0), rfl, bel.frame _, fun h => by cases h⟩
set_option maxHeartbeats 4000000 in
theorem over : Rows.fnExactNoticeTextRow.holds Try.pinned (OpenSpec.ofChange Rows.fnExactNoticeTextSpec) :=
 OpenClaim.holds_of_wide 3 Try.f3 rfl rfl rfl rfl rfl rfl rfl ⟨rfl, rfl, rfl, rfl, rfl⟩ rfl rfl rfl rfl rfl (by as_aux_lemma => kernel_rfl) Try.func3 (by as_aux_lemma => kernel_rfl)
  (of_decide_eq_true (by as_aux_lemma => kernel_rfl)) (by unfold Func.isWrapper; first | (rw [if_pos (by decide +kernel)]; kernel_rfl) | (rw [if_neg (by decide +kernel)]; exact ⟨rfl, rfl⟩))
  (fun os started H enc _ => lifted os started H enc)
end Go.Proofs.Ythojbccgnlcblaa.fnExactNoticeText
namespace Go.Proofs.Ythojbccgnlcblaa
theorem fnExactNoticeText_holds : Rows.FnExactNoticeTextSaid := fnExactNoticeText.over
#print axioms fnExactNoticeText_holds
end Go.Proofs.Ythojbccgnlcblaa
end
