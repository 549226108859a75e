/- FnNoticeJunk holds of the given program at every input: Lines that are none say nothing. So they do not about a drawn text. No condition. Written by a program of this session (wip/pr.py). -/
import Derived.Test.YthojbccgnlcblaaDoorZFnNoticeJunkb
import Derived.Lib.IndexAny
import Derived.SizedLaws
import Derived.ChangeSlices
import Derived.Test.YthojbccgnlcblaaDoorRows
import Derived.Test.YthojbccgnlcblaaDoorCards
import Derived.Test.YthojbccgnlcblaaDoorTie
import Derived.LaidMore
import Derived.Lay
import Derived.SevenTiedAt
import Derived.Stop.Joined
import Derived.WalkKit
import Derived.ProofKit
import Derived.OpenShut
import Derived.ShutString
import Derived.ChangeOld
import Derived.Below

section
namespace Go.Proofs.YthojbccgnlcblaaDoor.Ad
open Go.RowKit Go.Proofs.YthojbccgnlcblaaDoor.P Go.Proofs.YthojbccgnlcblaaDoorW.PrintWords Go.Proofs.YthojbccgnlcblaaDoorW.PrintLast Go.Proofs.YthojbccgnlcblaaDoorW.PrintMore Go.Proofs.YthojbccgnlcblaaDoor.B
set_option linter.unusedVariables false
set_option linter.unusedSimpArgs false
def cutL (c:UInt8):List UInt8→List UInt8×List UInt8×Bool
 | []=>([],[],false)
 | x :: xs=>if x=c then ([],xs,true) else (x :: (cutL c xs).1,(cutL c xs).2)
theorem cutL_false {c:UInt8}:∀ {l:List UInt8},(cutL c l).2.2=false→(cutL c l).1=l∧(cutL c l).2.1=[]
 | [],_=>by simp [cutL]
 | x :: xs,h=>by
  unfold cutL at h ⊢
  by_cases e:x=c
  ·rw [if_pos e] at h;cases h
  ·rw [if_neg e] at h ⊢
   have:=cutL_false (l:=xs) h
   exact ⟨by rw [this.1],this.2⟩
theorem cutL_true {c:UInt8}:∀ {l:List UInt8},(cutL c l).2.2=true→l=(cutL c l).1++c :: (cutL c l).2.1
 | [],h=>by simp [cutL] at h
 | x :: xs,h=>by
  unfold cutL at h ⊢
  by_cases e:x=c
  ·rw [if_pos e,e];rfl
  ·rw [if_neg e] at h ⊢
   have:=cutL_true (l:=xs) h
   show x :: xs=x :: ((cutL c xs).1++c :: (cutL c xs).2.1)
   rw [← this]
theorem cutL_len {c:UInt8}:∀ (l:List UInt8),(cutL c l).1.length+(cutL c l).2.1.length≤l.length∧((cutL c l).2.2=true→(cutL c l).1.length+(cutL c l).2.1.length+1=l.length)
 | []=>by simp [cutL]
 | x :: xs=>by
  unfold cutL
  by_cases e:x=c
  ·rw [if_pos e];simp
  ·rw [if_neg e]
   have:=cutL_len (c:=c) xs
   simp only [List.length_cons]
   exact ⟨by omega,fun h=>by have:=this.2 h;omega⟩
def cutB (c:UInt8) (s:ByteArray):ByteArray×ByteArray×Bool:=(ofL (cutL c (L s)).1,ofL (cutL c (L s)).2.1,(cutL c (L s)).2.2)
theorem cut_l (s:ByteArray) (c:UInt8) (hs:s.size≤140737488351232):∀ (l:List UInt8) (i:Nat),(L s).drop i=l →
  Ev (fun k=>spec_l1Cut.l0 k s (c.toNat:Int) (i:Int)) (ofL ((L s).take i++(cutL c l).1),ofL (cutL c l).2.1,(cutL c l).2.2)
 | [],i,h=>by
  have:=bt_end h
  have n1:¬ ((i:Int) < (s.size:Int)):=by omega
  refine Ev_succ ?_
  simp only [spec_l1Cut.l0,n1,if_false]
  have e:(L s).take i=L s:=List.take_of_length_le (by rw [L_size];omega)
  simp only [cutL,e,List.append_nil,of_L]
  exact Ev.now _
 | x :: xs,i,h=>by
  obtain ⟨hi,hb,hd⟩:=bt_at h
  refine Ev_succ ?_
  have e1:wrap64 ((i:Int)+1)=((i+1:Nat):Int):=by rw [w64 (by omega) (by omega)];rfl
  have f1:(i:Int) < (s.size:Int):=by omega
  have f2:(0:Int)≤(i:Int):=by omega
  have f3:(i:Int)≤(s.size:Int):=by omega
  have f4:(0:Int)≤((i+1:Nat):Int):=by omega
  have f5:((i+1:Nat):Int)≤(s.size:Int):=by omega
  simp only [spec_l1Cut.l0,e1,f1,f2,f3,f4,f5,if_true,hb,u8_eq]
  unfold cutL
  by_cases e:x=c
  ·simp only [e,if_true]
   have a1:s.extract 0 ((i:Int)).toNat=ofL ((L s).take i++[]):=by
    apply L_inj;rw [L_ext,L_of];simp
   have a2:s.extract ((((i+1:Nat):Int))).toNat s.size=ofL xs:=by
    apply L_inj;rw [L_ext,L_of,Int.toNat_natCast,hd,List.take_of_length_le]
    rw [← hd,List.length_drop,L_size];omega
   rw [a1,a2]
   exact Ev.now _
  ·simp only [e,if_false]
   have:=cut_l s c hs xs (i+1) hd
   have ht:(L s).take (i+1)++(cutL c xs).1=(L s).take i++(x :: (cutL c xs).1):=by
    have hl:i < (L s).length:=by rw [L_size];exact hi
    have:(L s)[i]=x:=by
     have hd2:(L s).drop i=(L s)[i] :: (L s).drop (i+1):=List.drop_eq_getElem_cons hl
     rw [h] at hd2
     injection hd2 with h1 h2
     exact h1.symm
    rw [List.take_succ_eq_append_getElem hl,this]
    simp
   rw [ht] at this
   exact this
theorem cut_ev (s:ByteArray) (c:UInt8) (hs:s.size≤140737488351232):Ev (fun k=>spec_l1Cut.f k s (c.toNat:Int)) (cutB c s):=by
 have:=cut_l s c hs (L s) 0 rfl
 simp only [List.take_zero,List.nil_append] at this
 exact this
def splitN (c:UInt8):Nat→List UInt8→List (List UInt8)
 | 0,l=>[l]
 | n+1,l=>(cutL c l).1 :: (if (cutL c l).2.2=true then splitN c n (cutL c l).2.1 else [])
def splitL (c:UInt8) (l:List UInt8):List (List UInt8):=splitN c (l.length+1) l
theorem splitN_eq (c:UInt8):∀ (n m:Nat) (l:List UInt8),l.length < n→l.length < m→splitN c n l=splitN c m l
 | 0,_,l,h,_=>absurd h (by omega)
 | _+1,0,l,_,h=>absurd h (by omega)
 | n+1,m+1,l,h1,h2=>by
  simp only [splitN]
  by_cases e:(cutL c l).2.2=true
  ·have:=(cutL_len (c:=c) l).2 e
   rw [if_pos e,if_pos e,splitN_eq c n m _ (by omega) (by omega)]
  ·rw [if_neg e,if_neg e]
theorem splitL_eq (c:UInt8) (l:List UInt8):splitL c l=(cutL c l).1 :: (if (cutL c l).2.2=true then splitL c (cutL c l).2.1 else []):=by
 unfold splitL
 rw [splitN]
 by_cases e:(cutL c l).2.2=true
 ·have:=(cutL_len (c:=c) l).2 e
  rw [if_pos e,if_pos e,splitN_eq c _ ((cutL c l).2.1.length+1) _ (by omega) (by omega)]
 ·rw [if_neg e,if_neg e]
theorem splitN_len (c:UInt8):∀ (n:Nat) (l:List UInt8),(splitN c n l).length≤l.length+1
 | 0,l=>by simp [splitN]
 | n+1,l=>by
  simp only [splitN]
  by_cases e:(cutL c l).2.2=true
  ·have:=(cutL_len (c:=c) l).2 e
   have ih:=splitN_len c n (cutL c l).2.1
   rw [if_pos e];simp only [List.length_cons];omega
  ·rw [if_neg e];simp
theorem splitL_len (c:UInt8) (l:List UInt8):(splitL c l).length≤l.length+1:=splitN_len c _ l
theorem splitN_mem (c:UInt8):∀ (n:Nat) (l p:List UInt8),p ∈ splitN c n l→p.length≤l.length
 | 0,l,p,h=>by simp [splitN] at h;rw [h];exact Nat.le_refl _
 | n+1,l,p,h=>by
  simp only [splitN,List.mem_cons] at h
  have hc:=(cutL_len (c:=c) l).1
  rcases h with h|h
  ·rw [h];omega
  ·by_cases e:(cutL c l).2.2=true
   ·rw [if_pos e] at h
    have:=splitN_mem c n _ p h
    omega
   ·rw [if_neg e] at h;cases h
theorem splitL_mem (c:UInt8) (l p:List UInt8) (h:p ∈ splitL c l):p.length≤l.length:=splitN_mem c _ l p h
theorem split_l (c:UInt8) (n:Nat):∀ (s:ByteArray) (acc:List ByteArray),s.size < n→s.size≤1000000000→acc.length+s.size≤2000000000 →
  Ev (fun k=>spec_l1Split.l0 k (c.toNat:Int) acc s true) (acc++(splitL c (L s)).map ofL):=by
 induction n with
 | zero=>intro s acc h;exact absurd h (by omega)
 | succ n ih=>
  intro s acc h h1 h2
  refine Ev_succ ?_
  simp only [spec_l1Split.l0,if_true]
  refine Ev.bind (cut_ev s c (by omega)) ?_
  have g1:acc.length < 8796093022208:=by omega
  simp only [g1,if_true]
  rw [splitL_eq]
  have hl:=cutL_len (c:=c) (L s)
  rw [L_size] at hl
  by_cases e:(cutL c (L s)).2.2=true
  ·have e':(cutB c s).2.2=true:=e
   have hz:(ofL (cutL c (L s)).2.1).size=(cutL c (L s)).2.1.length:=ofL_size _
   have:=hl.2 e
   have ih':=ih (ofL (cutL c (L s)).2.1) (acc++[ofL (cutL c (L s)).1]) (by omega) (by omega) (by simp only [List.length_append,List.length_singleton];omega)
   rw [if_pos e]
   simp only [cutB,e]
   rw [L_of] at ih'
   simpa using ih'
  ·have e':(cutL c (L s)).2.2=false:=by simpa using e
   rw [if_neg e]
   simp only [cutB,e']
   refine Ev_succ ?_
   simp only [spec_l1Split.l0]
   simp
   exact Ev.now _
theorem split_ev (s:ByteArray) (c:UInt8) (hs:s.size≤1000000000):Ev (fun k=>spec_l1Split.f k s (c.toNat:Int)) ((splitL c (L s)).map ofL):=by
 have:=split_l c (s.size+1) s [] (by omega) hs (by simp;omega)
 rw [List.nil_append] at this
 exact this
theorem index_cut (c:UInt8):∀ l:List UInt8,Lib.indexByte l c=if (cutL c l).2.2=true then (((cutL c l).1.length:Nat):Int) else -1
 | []=>rfl
 | x :: xs=>by
  unfold Lib.indexByte cutL
  by_cases h:x=c
  ·subst h;simp
  ·have hb:(x == c)=false:=by simp [h]
   simp only [hb,h,if_false,Bool.false_eq_true,index_cut c xs]
   by_cases h2:(cutL c xs).2.2=true
   ·simp only [h2,if_true]
    have:((((cutL c xs).1.length:Nat):Int) == -1)=false:=by simp
    rw [this]
    simp
   ·simp only [h2,if_false,Bool.false_eq_true]
    rfl
theorem cut_parts {c:UInt8} {s:ByteArray} (h:(cutL c (L s)).2.2=true) :
  s.extract 0 (cutL c (L s)).1.length=ofL (cutL c (L s)).1∧s.extract ((cutL c (L s)).1.length+1) s.size=ofL (cutL c (L s)).2.1∧(cutL c (L s)).1.length+1≤s.size:=by
 have e:=cutL_true h
 have hn:=(cutL_len (c:=c) (L s)).2 h
 rw [L_size] at hn
 generalize (cutL c (L s)).1=a at *
 generalize (cutL c (L s)).2.1=b at *
 have e':s.data.toList=a++c :: b:=e
 refine ⟨?_,?_,by omega⟩
 ·apply L_inj
  rw [L_ext,L_of,e']
  simp
 ·apply L_inj
  have:(a++c :: b).drop (a.length+1)=b:=by rw [List.drop_append];simp
  rw [L_ext,L_of,e',this,List.take_of_length_le (by omega)]
theorem cut_i (s:ByteArray) (c:UInt8) (hs:s.size≤140737488351232):strings_Cut.f s ⟨#[c]⟩=some (cutB c s):=by
 have e1:L (⟨#[c]⟩:ByteArray)=[c]:=rfl
 have e2:(⟨#[c]⟩:ByteArray).size=1:=rfl
 unfold strings_Cut.f stringslite_Cut.f stringslite_Index.f cutB
 rw [e1]
 simp only [Option.bind_some,index_cut,e2]
 by_cases h:(cutL c (L s)).2.2=true
 ·obtain ⟨h1,h2,h3⟩:=cut_parts h
  simp only [h,if_true]
  rw [if_pos (by omega),if_pos (by omega),if_pos (by omega),w64 (by omega) (by omega),if_pos (by omega),if_pos (by omega)]
  simp only [Option.bind_some,Int.toNat_natCast]
  rw [h1,show (((cutL c (L s)).1.length:Int)+((1:Nat):Int)).toNat=(cutL c (L s)).1.length+1 from by omega,h2]
 ·simp only [h,if_false,Bool.false_eq_true]
  rw [if_neg (by decide)]
  obtain ⟨g1,g2⟩:=cutL_false (c:=c) (l:=L s) (by simpa using h)
  simp only [Option.bind_some,g1,g2,of_L]
  first|done|rfl
theorem count_cut_false {c:UInt8}:∀ {l:List UInt8},Lib.countByte l c=0→(cutL c l).2.2=false
 | [],_=>rfl
 | x :: xs,h=>by
  unfold Lib.countByte at h
  unfold cutL
  by_cases e:x=c
  ·subst e;simp at h
  ·rw [if_neg e]
   have h':Lib.countByte xs c=0:=by unfold Lib.countByte;rw [List.count_cons] at h;omega
   exact count_cut_false h'
theorem count_cut_true {c:UInt8} {m:Nat}:∀ {l:List UInt8},Lib.countByte l c=m+1→(cutL c l).2.2=true∧Lib.countByte (cutL c l).2.1 c=m
 | [],h=>by simp [Lib.countByte] at h
 | x :: xs,h=>by
  unfold Lib.countByte at h
  unfold cutL
  by_cases e:x=c
  ·subst e
   rw [if_pos rfl]
   refine ⟨rfl,?_⟩
   unfold Lib.countByte
   rw [List.count_cons_self] at h
   exact Nat.succ.inj h
  ·rw [if_neg e]
   have h':Lib.countByte xs c=m+1:=by
    unfold Lib.countByte
    rw [List.count_cons_of_ne e] at h
    exact h
   exact count_cut_true h'
theorem w64n0 (a:Nat) (h:a < 4611686018427387904):wrap64 ((a:Int)+0)=(a:Int):=by rw [w64 (by omega) (by omega)];omega
theorem w64n1 (a:Nat) (h:a < 4611686018427387904):wrap64 ((a:Int)+1)=((a+1:Nat):Int):=by rw [w64 (by omega) (by omega)];omega
theorem w64n2 (a:Nat) (h:a < 4611686018427387904):wrap64 ((a:Int)+((1:Nat):Int))=((a+1:Nat):Int):=by rw [w64 (by omega) (by omega)];omega
theorem w64b {n m:Nat} (h:n+1≤m) (hm:m≤1000000000):n < 4611686018427387904:=by omega
theorem w64d {n m:Nat} (h:n+m≤2000000000):n < 4611686018427387904:=by omega
theorem ci_lt (a m:Nat):(a:Int) < ((a+(m+1):Nat):Int):=by omega
theorem ci_neg (n:Nat):¬ ((n:Int) < 0):=by omega
theorem ci_nn (n:Nat):(0:Int)≤(n:Int):=by omega
theorem ci_le {n s:Nat} (h:n+1≤s):(n:Int)≤(s:Int):=by omega
theorem ci_le1 {n s:Nat} (h:n+1≤s):((n+1:Nat):Int)≤(s:Int):=by omega
theorem ci_l6 {a m l:Nat} (h:l=a+(m+2)):(a:Int) < (l:Int):=by omega
theorem set_mid (a:List ByteArray) (m:Nat) (p e:ByteArray):(a++List.replicate (m+1) e).set a.length p=(a++[p])++List.replicate m e:=by
 rw [List.set_append_right _ _ (Nat.le_refl _),Nat.sub_self,List.replicate_succ,List.set_cons_zero,List.append_assoc]
 rfl
theorem take_mid (a b:List ByteArray) (p:ByteArray):((a++[p])++b).take (a.length+1)=a++[p]:=by
 rw [List.take_append_of_le_length (by simp)]
 exact List.take_of_length_le (by simp)
theorem split_li (c:UInt8):∀ (m:Nat) (s:ByteArray) (a:List ByteArray),Lib.countByte (L s) c=m→s.size≤1000000000→a.length+m≤2000000000 →
  Ev (fun k=>strings_genSplit.l0 k s ⟨#[c]⟩ 0 ((a.length+m:Nat):Int) (a++List.replicate (m+1) (⟨#[]⟩:ByteArray)) (a.length:Int)) (a++(splitL c (L s)).map ofL):=by
 intro m
 have e1:L (⟨#[c]⟩:ByteArray)=[c]:=rfl
 have e2:(⟨#[c]⟩:ByteArray).size=1:=rfl
 induction m with
 | zero=>
  intro s a hc hs ha
  have hf:=count_cut_false hc
  obtain ⟨g1,g2⟩:=cutL_false hf
  rw [splitL_eq,hf]
  refine Ev_succ ?_
  simp only [strings_genSplit.l0]
  have hl:(a++List.replicate (0+1) (⟨#[]⟩:ByteArray)).length=a.length+1:=by simp
  have hw:wrap64 ((a.length:Int)+1)=((a.length+1:Nat):Int):=by rw [w64 (by omega) (by omega)];omega
  simp only [show ¬ ((a.length:Int) < ((a.length+0:Nat):Int)) from by omega,if_false,hl,show ((0:Int)≤(a.length:Int)) from by omega,show ((a.length:Int) < ((a.length+1:Nat):Int)) from by omega,if_true,hw,
   show ((0:Int)≤((a.length+1:Nat):Int)) from by omega,Int.toNat_natCast,Int.le_refl]
  rw [set_mid,take_mid]
  simp only [Bool.false_eq_true,if_false,List.map_cons,List.map_nil,g1,of_L]
  exact Ev.now _
 | succ m ih=>
  intro s a hc hs ha
  obtain ⟨ht,hc'⟩:=count_cut_true hc
  obtain ⟨h1,h2,h3⟩:=cut_parts ht
  have hix:Lib.indexByte (L s) c=(((cutL c (L s)).1.length:Nat):Int):=by rw [index_cut,if_pos ht]
  rw [splitL_eq,if_pos ht]
  have hz:(ofL (cutL c (L s)).2.1).size≤1000000000:=by
   have:=(cutL_len (c:=c) (L s)).1
   rw [L_size] at this
   rw [ofL_size];omega
  have key:=ih (ofL (cutL c (L s)).2.1) (a++[ofL (cutL c (L s)).1]) (by rw [L_of];exact hc') hz (by simp;omega)
  rw [L_of] at key
  rw [List.map_cons,show a++ofL (cutL c (L s)).1 :: List.map ofL (splitL c (cutL c (L s)).2.1)=a++[ofL (cutL c (L s)).1]++List.map ofL (splitL c (cutL c (L s)).2.1) from by simp]
  generalize (cutL c (L s)).1.length=n at h1 h2 h3 hix
  rw [show (cutL c (L s)).2.1=L (s.extract (n+1) s.size) from by rw [h2,L_of]]
  rw [← h1] at key ⊢
  rw [← h2] at key
  clear hz h1 h2 hc' ht hc
  have hl:(a++List.replicate (m+1+1) (⟨#[]⟩:ByteArray)).length=a.length+(m+2):=by simp
  have hl2:(a++[s.extract 0 n]).length=a.length+1:=by simp
  rw [hl2] at key
  refine Ev.step (fun k=>?_) key
  have c1:=ci_lt a.length m
  have c2:=ci_neg n
  have c3:=ci_nn n
  have c4:=ci_le h3
  have c5:=ci_nn a.length
  have c6:=ci_l6 hl
  have c7:=ci_nn (n+1)
  have c8:=ci_le1 h3
  have hw:wrap64 ((a.length:Int)+1)=((a.length+1:Nat):Int):=w64n1 a.length (w64d ha)
  have hw0:wrap64 ((n:Int)+0)=(n:Int):=w64n0 n (w64b h3 hs)
  have hw1:wrap64 ((n:Int)+((1:Nat):Int))=((n+1:Nat):Int):=w64n2 n (w64b h3 hs)
  simp only [strings_genSplit.l0,strings_Index.f,stringslite_Index.f]
  rw [if_pos c1,hix,Option.bind_some,Option.bind_some]
  rw [if_neg c2,hw0,if_pos c3,if_pos c4,if_pos c5,if_pos c6,e2,hw1,if_pos c7,if_pos c8,hw]
  simp only [Int.toNat_natCast]
  rw [set_mid,show a.length+1+m=a.length+(m+1) from by rw [Nat.add_assoc,Nat.add_comm 1 m]]
theorem split_i (s:ByteArray) (c:UInt8) (hs:s.size≤1000000000):Ev (fun k=>strings_Split.f k s ⟨#[c]⟩) ((splitL c (L s)).map ofL):=by
 have e1:L (⟨#[c]⟩:ByteArray)=[c]:=rfl
 have hcnt:Lib.countByte (L s) c≤s.size:=by rw [← L_size];exact List.count_le_length
 unfold strings_Split.f strings_genSplit.f strings_Count.f
 have en:¬ ((⟨#[c]⟩:ByteArray).toList=([]:List UInt8)):=by rw [toList_nil];show ¬ (1=0);omega
 rw [e1]
 simp only [show ¬ ((-1:Int)=0) from by omega,if_false,en,show ((-1:Int) < 0) from by omega,if_true,Option.bind_some]
 refine Ev.bind (a:=(splitL c (L s)).map ofL) ?_ (Ev.now _)
 refine Ev_succ ?_
 have hw:wrap64 (((Lib.countByte (L s) c:Nat):Int)+1)=((Lib.countByte (L s) c+1:Nat):Int):=by rw [w64 (by omega) (by omega)];omega
 have hw2:wrap64 ((s.size:Int)+1)=((s.size+1:Nat):Int):=by rw [w64 (by omega) (by omega)];omega
 have hm:mn ((Lib.countByte (L s) c+1:Nat):Int) ((s.size+1:Nat):Int)=((Lib.countByte (L s) c+1:Nat):Int):=by unfold mn;split <;> omega
 have hw3:wrap64 (((Lib.countByte (L s) c+1:Nat):Int) - 1)=((0+Lib.countByte (L s) c:Nat):Int):=by rw [w64 (by omega) (by omega)];omega
 simp only [strings_genSplit.j0,hw,hw2,hm,show ((0:Int)≤((Lib.countByte (L s) c+1:Nat):Int)) from by omega,if_true,Int.toNat_natCast,show Lib.countByte (L s) c+1≤17592186044416 from by omega,hw3]
 have:=split_li c (Lib.countByte (L s) c) s [] rfl hs (by simp;omega)
 simpa using this
def isName (s:ByteArray):Bool:=decide (1≤s.size) && decide (s.size≤8) && isSmall s
theorem spec_name_l (s:ByteArray) (hs:s.size≤140737488351232) (d:Nat):∀ (k:Nat) (i:Nat),i+d=s.size→d < k →
  spec_l2Name.l0 k s (i:Int)=some (smallFrom s d i && (decide (1≤s.size) && decide (s.size≤8))):=by
 induction d with
 | zero=>
  intro k i h hk
  obtain ⟨k,rfl⟩:∃ m,k=m+1:=⟨k - 1,by omega⟩
  simp only [spec_l2Name.l0,smallFrom,spec_l6In.f]
  rw [if_neg (by omega)]
  by_cases h1:1≤s.size
  ·rw [if_pos (by omega)];simp [h1];omega
  ·rw [if_neg (by omega)];simp [h1]
 | succ d ih=>
  intro k i h hk
  obtain ⟨k,rfl⟩:∃ m,k=m+1:=⟨k - 1,by omega⟩
  simp only [spec_l2Name.l0,smallFrom]
  rw [if_pos (by omega),if_pos (by omega)]
  by_cases h1:bt s i < 97
  ·rw [if_pos h1,if_pos h1];rfl
  ·rw [if_neg h1,if_neg h1]
   by_cases h2:bt s i > 122
   ·rw [if_pos h2,if_pos h2];rfl
   ·rw [if_neg h2,if_neg h2,w64 (by omega) (by omega)]
    exact ih k (i+1) (by omega) (by omega)
theorem name_ev (s:ByteArray) (hs:s.size≤140737488351232):Ev (fun k=>spec_l2Name.f k s) (isName s):=by
 refine Ev.of (fun k=>spec_l2Name.mono _ k) (k:=s.size+1) ?_
 unfold spec_l2Name.f
 have:=spec_name_l s hs s.size (s.size+1) 0 (by omega) (by omega)
 rw [show ((0:Nat):Int)=0 from rfl] at this
 rw [this]
 unfold isName isSmall
 cases smallFrom s s.size 0 <;> simp
def patB (c:UInt8):Bool:=plainB c || c == 47 || c == 42 || c == 63 || c == 37 || (decide (65≤c.toNat) && decide (c.toNat≤70))
def okL:List UInt8→Bool
 | []=>true
 | c :: r=>(patB c || (c == 36 && r.isEmpty)) && okL r
def ruleOk (p:ByteArray):Bool:=decide (1≤p.size) && decide (p.size≤16) && (bt p 0 == 47) && okL (L p)
theorem plain_f (c:UInt8):spec_l1Plain.f (c.toNat:Int)=some (plainB c):=by
 have:=plain_all c.toNat c.toNat_lt
 rwa [of_toNat] at this
theorem ok_spec_l (s:ByteArray) (hs:s.size≤1000000):∀ (l:List UInt8) (i:Nat),(L s).drop i=l→Ev (fun k=>spec_RuleOk.l0 k s (i:Int)) (okL l)
 | [],i,h=>by
  have:=bt_end h
  have n1:¬ ((i:Int) < (s.size:Int)):=by omega
  refine Ev_succ ?_
  simp only [spec_RuleOk.l0,n1,if_false]
  exact Ev.now _
 | x :: xs,i,h=>by
  obtain ⟨hi,hb,hd⟩:=bt_at h
  have e1:wrap64 ((i:Int)+1)=((i+1:Nat):Int):=by rw [w64 (by omega) (by omega)];rfl
  have e2:wrap64 ((s.size:Int) - 1)=(s.size:Int) - 1:=w64 (by omega) (by omega)
  have f1:(i:Int) < (s.size:Int):=by omega
  have f2:(0:Int)≤(i:Int):=by omega
  have hx:xs.length+(i+1)=s.size:=by rw [← L_size,← hd,List.length_drop];rw [L_size];omega
  have hE:xs.isEmpty=decide ((i:Int)=(s.size:Int) - 1):=by
   cases xs with
   | nil=>simp at hx ⊢;omega
   | cons y ys=>simp at hx ⊢;omega
  have ih:=ok_spec_l s hs xs (i+1) hd
  have c1:((x.toNat:Int)=47)↔(x == 47)=true:=by rw [beq_iff_eq];exact u8_eq (b:=47)
  have c2:((x.toNat:Int)=42)↔(x == 42)=true:=by rw [beq_iff_eq];exact u8_eq (b:=42)
  have c3:((x.toNat:Int)=63)↔(x == 63)=true:=by rw [beq_iff_eq];exact u8_eq (b:=63)
  have c4:((x.toNat:Int)=37)↔(x == 37)=true:=by rw [beq_iff_eq];exact u8_eq (b:=37)
  have c5:((x.toNat:Int)=36)↔(x == 36)=true:=by rw [beq_iff_eq];exact u8_eq (b:=36)
  have c6:((x.toNat:Int) ≥ 65)↔(decide (65≤x.toNat))=true:=by rw [decide_eq_true_eq];omega
  have c7:((x.toNat:Int)≤70)↔(decide (x.toNat≤70))=true:=by rw [decide_eq_true_eq];omega
  have c8:((i:Int)=(s.size:Int) - 1)↔xs.isEmpty=true:=by rw [hE,decide_eq_true_eq]
  refine Ev_succ ?_
  simp only [spec_RuleOk.l0,e1,e2,f1,f2,if_true,hb,plain_f,Option.bind_some,okL,patB,c1,c2,c3,c4,c5,c6,c7,c8]
  have yes:Ev (fun k=>spec_RuleOk.l0 k s ((i+1:Nat):Int)) (true && okL xs):=by rw [Bool.true_and];exact ih
  have no:Ev (fun k=>some false) (false && okL xs):=by rw [Bool.false_and];exact Ev.now _
  cases plainB x
  ·cases (x == 47)
   ·cases (x == 42)
    ·cases (x == 63)
     ·cases (x == 37)
      ·cases (x == 36) <;> cases xs.isEmpty <;> cases decide (65≤x.toNat) <;> cases decide (x.toNat≤70) <;> first|exact yes|exact no
      ·exact yes
     ·exact yes
    ·exact yes
   ·exact yes
  ·exact yes
theorem ruleOk_spec (p:ByteArray):Ev (fun k=>spec_RuleOk.f k p) (ruleOk p):=by
 unfold spec_RuleOk.f ruleOk
 by_cases h2:p.size≤16
 ·have n2:¬ (p.size:Int) > 16:=by omega
  by_cases h1:p.size=0
  ·have z:=toList_nil.2 h1
   have n1:¬ 1≤p.size:=by omega
   simp only [n2,if_false,z,if_true,n1,decide_false,Bool.false_and]
   refine Ev_succ ?_
   simp only [spec_RuleOk.j0,if_true]
   exact Ev.now _
  ·have z:¬ p.toList=[]:=fun e=>h1 (toList_nil.1 e)
   have n1:1≤p.size:=by omega
   have n3:(0:Int) < (p.size:Int):=by omega
   simp only [n2,n1,n3,z,h2,if_true,if_false,decide_true,Bool.true_and]
   refine Ev_succ ?_
   by_cases h3:bt p 0=47
   ·simp only [spec_RuleOk.j0,h3,bne_self_eq_false,Bool.false_eq_true,if_false,beq_self_eq_true,Bool.true_and]
    have:=ok_spec_l p (by omega) _ 0 rfl
    rw [List.drop_zero] at this
    exact this
   ·have h4:(bt p 0 != 47)=true:=by simpa using h3
    have h5:(bt p 0 == 47)=false:=by simpa using h3
    simp only [spec_RuleOk.j0,h4,h5,if_true,Bool.false_and]
    exact Ev.now _
 ·have n2:(p.size:Int) > 16:=by omega
  simp only [n2,h2,if_true,decide_false,Bool.and_false,Bool.false_and]
  refine Ev_succ ?_
  simp only [spec_RuleOk.j0,if_true]
  exact Ev.now _
def endsD (p:ByteArray):Bool:=(L p).getLast? == some 36
def bodyD (p:ByteArray):ByteArray:=if endsD p=true then p.extract 0 (p.size - 1) else p
theorem L_last {p:ByteArray} (h:1≤p.size):∃ l c,L p=l++[c]∧l.length+1=p.size:=by
 have hl:=L_size p
 have hn:L p≠[]:=fun e=>by rw [e] at hl;simp at hl;omega
 refine ⟨(L p).dropLast,(L p).getLast hn,(List.dropLast_concat_getLast hn).symm,?_⟩
 rw [List.length_dropLast];omega
theorem sz36:(⟨#[36]⟩:ByteArray).size=1:=rfl
theorem suf_f (p:ByteArray) (hp:p.size≤140737488351232):stringslite_HasSuffix.f p (⟨#[36]⟩:ByteArray)=some (endsD p):=by
 unfold stringslite_HasSuffix.f endsD
 rw [sz36]
 by_cases h:1≤p.size
 ·obtain ⟨l,c,e,hl⟩:=L_last h
  have w:wrap64 ((p.size:Int) - ((1:Nat):Int))=((p.size - 1:Nat):Int):=by rw [w64 (by omega) (by omega)];omega
  rw [w,if_pos (by omega),if_pos (by omega),if_pos (by omega),Int.toNat_natCast,Lib.toList_data]
  have x:L (p.extract (p.size - 1) p.size)=[c]:=by
   have hz:p.size - l.length=1:=by omega
   rw [L_ext,e,List.drop_append,show p.size - 1=l.length from by omega,hz]
   simp
  show some ((p.extract (p.size - 1) p.size).data.toList == _)=_
  rw [show (p.extract (p.size - 1) p.size).data.toList=[c] from x,e]
  simp [Lib.toList_data]
 ·rw [if_neg (by omega)]
  have:L p=[]:=List.length_eq_zero_iff.1 (by rw [L_size];omega)
  rw [this];rfl
theorem ends_size {p:ByteArray} (h:endsD p=true):1≤p.size:=by
 rcases Nat.lt_or_ge p.size 1 with h'|h'
 ·have:L p=[]:=List.length_eq_zero_iff.1 (by rw [L_size];omega)
  unfold endsD at h;rw [this] at h;cases h
 ·exact h'
theorem trim_f (p:ByteArray) (hp:p.size≤140737488351232):strings_TrimSuffix.f p (⟨#[36]⟩:ByteArray)=some (bodyD p):=by
 simp only [strings_TrimSuffix.f,stringslite_TrimSuffix.f,suf_f p hp,Option.bind_some,bodyD,sz36]
 by_cases h:endsD p=true
 ·have:=ends_size h
  have w:wrap64 ((p.size:Int) - ((1:Nat):Int))=((p.size - 1:Nat):Int):=by rw [w64 (by omega) (by omega)];omega
  rw [if_pos h,if_pos h,w,if_pos (by omega),if_pos (by omega),Int.toNat_natCast];rfl
 ·rw [if_neg h,if_neg h];rfl
theorem body_size (p:ByteArray):(bodyD p).size≤p.size:=by
 unfold bodyD
 split
 ·rw [ByteArray.size_extract];omega
 ·exact Nat.le_refl _
theorem pat_all:∀ n:Nat,n < 256→impl_isPatternByte.f (n:Int)=some (patB (UInt8.ofNat n)):=by decide +kernel
theorem pat_f (c:UInt8):impl_isPatternByte.f (c.toNat:Int)=some (patB c):=by
 have:=pat_all c.toNat c.toNat_lt
 rwa [of_toNat] at this
theorem okL_app (c:UInt8):∀ l:List UInt8,okL (l++[c])=(l.all patB && (patB c || c == 36))
 | []=>by simp [okL]
 | x :: l=>by
  simp only [List.cons_append,okL,okL_app c l,List.all_cons]
  cases l <;> simp [Bool.and_assoc]
theorem body_ok (p:ByteArray):(L (bodyD p)).all patB=okL (L p):=by
 by_cases h0:1≤p.size
 ·obtain ⟨l,c,e,hl⟩:=L_last h0
  have he:endsD p=(c == 36):=by unfold endsD;rw [e];simp
  rw [e,okL_app]
  unfold bodyD
  rw [he]
  by_cases h:c=36
  ·subst h
   rw [if_pos (by simp),L_ext,e,show p.size - 1 - 0=l.length from by omega]
   simp
  ·have h':(c == 36)=false:=by simpa using h
   rw [h',if_neg (by simp),e,Bool.or_false]
   simp
 ·have:L p=[]:=List.length_eq_zero_iff.1 (by rw [L_size];omega)
  have h1:endsD p=false:=by unfold endsD;rw [this];rfl
  unfold bodyD
  rw [h1,if_neg (by simp),this];rfl
theorem ok_impl_l (s:ByteArray) (hs:s.size≤1000000):∀ (l:List UInt8) (i:Nat),(L s).drop i=l→Ev (fun k=>impl_RuleOk.l0 k s (i:Int)) (l.all patB)
 | [],i,h=>by
  have:=bt_end h
  have n1:¬ ((i:Int) < (s.size:Int)):=by omega
  refine Ev_succ ?_
  simp only [impl_RuleOk.l0,n1,if_false]
  exact Ev.now _
 | x :: xs,i,h=>by
  obtain ⟨hi,hb,hd⟩:=bt_at h
  have e1:wrap64 ((i:Int)+1)=((i+1:Nat):Int):=by rw [w64 (by omega) (by omega)];rfl
  have f1:(i:Int) < (s.size:Int):=by omega
  have f2:(0:Int)≤(i:Int):=by omega
  refine Ev_succ ?_
  simp only [impl_RuleOk.l0,e1,f1,f2,if_true,hb,pat_f,Option.bind_some,List.all_cons]
  by_cases e:patB x=true
  ·simp only [e,if_true,Bool.true_and]
   exact ok_impl_l s hs xs (i+1) hd
  ·simp only [e,if_false,Bool.not_eq_true] at e ⊢
   simp only [e,Bool.false_and,Bool.false_eq_true,if_false]
   exact Ev.now _
theorem ruleOk_impl (p:ByteArray) (hp:p.size≤140737488351232):Ev (fun k=>impl_RuleOk.f k p) (ruleOk p):=by
 unfold impl_RuleOk.f ruleOk
 by_cases h1:p.size < 1
 ·have n1:(p.size:Int) < 1:=by omega
  have n2:¬ 1≤p.size:=by omega
  simp only [n1,if_true,n2,decide_false,Bool.false_and]
  refine Ev_succ ?_
  simp only [impl_RuleOk.j0,if_true]
  exact Ev.now _
 ·have n1:¬ (p.size:Int) < 1:=by omega
  have n1':1≤p.size:=by omega
  by_cases h2:p.size≤16
  ·have n2:¬ (p.size:Int) > 16:=by omega
   have n3:(0:Int) < (p.size:Int):=by omega
   simp only [n1,n2,n3,n1',h2,if_true,if_false,decide_true,Bool.true_and]
   refine Ev_succ ?_
   by_cases h3:bt p 0=47
   ·simp only [impl_RuleOk.j0,h3,bne_self_eq_false,Bool.false_eq_true,if_false,beq_self_eq_true,Bool.true_and,trim_f p hp,Option.bind_some]
    have:=ok_impl_l (bodyD p) (by have:=body_size p;omega) _ 0 rfl
    rw [List.drop_zero,body_ok] at this
    exact this
   ·have h4:(bt p 0 != 47)=true:=by simpa using h3
    have h5:(bt p 0 == 47)=false:=by simpa using h3
    simp only [impl_RuleOk.j0,h4,h5,if_true,Bool.false_and]
    exact Ev.now _
  ·have n2:(p.size:Int) > 16:=by omega
   simp only [n1,n2,n1',h2,if_true,if_false,decide_true,decide_false,Bool.true_and,Bool.false_and]
   refine Ev_succ ?_
   simp only [impl_RuleOk.j0,if_true]
   exact Ev.now _
end Go.Proofs.YthojbccgnlcblaaDoor.Ad
end
section
namespace Go.Proofs.YthojbccgnlcblaaDoor.Nt
open Go.RowKit Go.Proofs.YthojbccgnlcblaaDoor.P Go.Proofs.YthojbccgnlcblaaDoorW.PrintWords Go.Proofs.YthojbccgnlcblaaDoorW.PrintLast Go.Proofs.YthojbccgnlcblaaDoorW.PrintMore Go.Proofs.YthojbccgnlcblaaDoor.B Go.Proofs.YthojbccgnlcblaaDoor.Ad
set_option linter.unusedVariables false
set_option linter.unusedSimpArgs false
def gname (s:ByteArray):Bool:=s.toList == [42] || isName s
theorem impl_small_l (s:ByteArray) (hs:s.size≤140737488351232) (d:Nat):∀ (k:Nat) (i:Nat),i+d=s.size→d < k →
  impl_allSmallLetters.l0 k s (i:Int)=some (smallFrom s d i):=by
 induction d with
 | zero=>
  intro k i h hk
  obtain ⟨k,rfl⟩:∃ m,k=m+1:=⟨k - 1,by omega⟩
  simp only [impl_allSmallLetters.l0,smallFrom]
  rw [if_neg (by omega)]
 | succ d ih=>
  intro k i h hk
  obtain ⟨k,rfl⟩:∃ m,k=m+1:=⟨k - 1,by omega⟩
  simp only [impl_allSmallLetters.l0,smallFrom]
  rw [if_pos (by omega),if_pos (by omega)]
  by_cases h1:bt s i < 97
  ·rw [if_pos h1,if_pos h1]
  ·rw [if_neg h1,if_neg h1]
   by_cases h2:bt s i > 122
   ·rw [if_pos h2,if_pos h2]
   ·rw [if_neg h2,if_neg h2,w64 (by omega) (by omega)]
    exact ih k (i+1) (by omega) (by omega)
theorem impl_name (s:ByteArray) (hs:s.size≤140737488351232):Ev (fun k=>impl_isName.f k s) (isName s):=by
 unfold impl_isName.f isName isSmall
 by_cases h1:1≤s.size
 ·by_cases h2:s.size≤8
  ·simp only [show (s.size:Int) ≥ 1 from by omega,show (s.size:Int)≤8 from by omega,if_true,h1,h2,decide_true,Bool.true_and]
   refine Ev.bind (a:=smallFrom s s.size 0) ?_ (Ev.now _)
   refine Ev.of (fun k=>impl_allSmallLetters.mono _ k) (k:=s.size+1) ?_
   exact impl_small_l s hs s.size (s.size+1) 0 (by omega) (by omega)
  ·simp only [show (s.size:Int) ≥ 1 from by omega,show ¬ (s.size:Int)≤8 from by omega,if_true,if_false,h2,decide_false,Bool.and_false,Bool.false_and]
   exact Ev.now _
 ·simp only [show ¬ (s.size:Int) ≥ 1 from by omega,if_false,h1,decide_false,Bool.false_and]
  exact Ev.now _
theorem impl_gname (s:ByteArray) (hs:s.size≤140737488351232):Ev (fun k=>impl_isGroupName.f k s) (gname s):=by
 unfold impl_isGroupName.f gname
 by_cases h:s.toList=([42]:List UInt8)
 ·simp only [h,if_true,beq_self_eq_true,Bool.true_or]
  exact Ev.now _
 ·simp only [h,if_false,beq_eq_false_iff_ne.mpr h,Bool.false_or]
  exact Ev.bind (impl_name s hs) (Ev.now _)
end Go.Proofs.YthojbccgnlcblaaDoor.Nt
end
section
namespace Go.Proofs.YthojbccgnlcblaaDoor.Rn
open Go.RowKit Go.Proofs.YthojbccgnlcblaaDoor.P Go.Proofs.YthojbccgnlcblaaDoorW.PrintWords Go.Proofs.YthojbccgnlcblaaDoorW.PrintLast Go.Proofs.YthojbccgnlcblaaDoorW.PrintMore Go.Proofs.YthojbccgnlcblaaDoor.B Go.Proofs.YthojbccgnlcblaaDoor.Ad Go.Proofs.YthojbccgnlcblaaDoor.Nt
set_option linter.unusedVariables false
set_option linter.unusedSimpArgs false
def numFrom (s:ByteArray):Nat→Nat→Int→Int
 | 0,_,n=>n
 | d+1,i,n=>if bt s i < 48 then 0 else if bt s i > 57 then 0 else numFrom s d (i+1) (mn (wrap64 ((wrap64 (n * 10))+(((bt s i) - 48) % 256))) 20)
def numP (s:ByteArray):Int:=numFrom s s.size 0 0
theorem mn_le (a b:Int):mn a b≤b:=by unfold mn;split <;> omega
theorem num_bound (s:ByteArray):∀ (d i:Nat) (n:Int),0≤n→n≤20→0≤numFrom s d i n∧numFrom s d i n≤20
 | 0,_,n,h0,h1=>⟨h0,h1⟩
 | d+1,i,n,h0,h1=>by
  unfold numFrom
  by_cases c1:bt s i < 48
  ·rw [if_pos c1];omega
  ·rw [if_neg c1]
   by_cases c2:bt s i > 57
   ·rw [if_pos c2];omega
   ·rw [if_neg c2]
    have e1:wrap64 (n * 10)=n * 10:=w64 (by omega) (by omega)
    have e2:wrap64 (n * 10+((bt s i - 48) % 256))=n * 10+((bt s i - 48) % 256):=w64 (by omega) (by omega)
    refine num_bound s d (i+1) _ ?_ (mn_le _ _)
    rw [e1,e2]
    unfold mn
    split <;> omega
theorem numP_bound (s:ByteArray):0≤numP s∧numP s≤20:=num_bound s _ _ 0 (by omega) (by omega)
theorem num_s (s:ByteArray) (hs:s.size≤140737488351232) (d:Nat):∀ (k i:Nat) (n:Int),i+d=s.size→d < k→spec_l2Num.l0 k s 20 n (i:Int)=some (numFrom s d i n):=by
 induction d with
 | zero=>
  intro k i n h hk
  obtain ⟨k,rfl⟩:∃ m,k=m+1:=⟨k - 1,by omega⟩
  simp only [spec_l2Num.l0,numFrom]
  rw [if_neg (by omega)]
 | succ d ih=>
  intro k i n h hk
  obtain ⟨k,rfl⟩:∃ m,k=m+1:=⟨k - 1,by omega⟩
  simp only [spec_l2Num.l0,numFrom]
  rw [if_pos (by omega),if_pos (by omega)]
  by_cases h1:bt s i < 48
  ·rw [if_pos h1,if_pos h1]
  ·rw [if_neg h1,if_neg h1]
   by_cases h2:bt s i > 57
   ·rw [if_pos h2,if_pos h2]
   ·rw [if_neg h2,if_neg h2,w64 (n:=(i:Int)+1) (by omega) (by omega)]
    exact ih k (i+1) _ (by omega) (by omega)
theorem num_i (s:ByteArray) (hs:s.size≤140737488351232) (d:Nat):∀ (k i:Nat) (n:Int),i+d=s.size→d < k→impl_readWait.l0 k s n (i:Int)=some (numFrom s d i n):=by
 induction d with
 | zero=>
  intro k i n h hk
  obtain ⟨k,rfl⟩:∃ m,k=m+1:=⟨k - 1,by omega⟩
  simp only [impl_readWait.l0,numFrom]
  rw [if_neg (by omega)]
 | succ d ih=>
  intro k i n h hk
  obtain ⟨k,rfl⟩:∃ m,k=m+1:=⟨k - 1,by omega⟩
  simp only [impl_readWait.l0,numFrom]
  rw [if_pos (by omega),if_pos (by omega)]
  by_cases h1:bt s i < 48
  ·rw [if_pos h1,if_pos h1]
  ·rw [if_neg h1,if_neg h1]
   by_cases h2:bt s i > 57
   ·rw [if_pos h2,if_pos h2]
   ·rw [if_neg h2,if_neg h2,w64 (n:=(i:Int)+1) (by omega) (by omega)]
    exact ih k (i+1) _ (by omega) (by omega)
theorem num_spec (s:ByteArray) (hs:s.size≤140737488351232):Ev (fun k=>spec_l2Num.f k s 20) (numP s):=
 Ev.of (fun k=>spec_l2Num.mono _ _ k) (k:=s.size+1) (num_s s hs s.size (s.size+1) 0 0 (by omega) (by omega))
theorem num_impl (s:ByteArray) (hs:s.size≤140737488351232):Ev (fun k=>impl_readWait.f k s) (numP s):=
 Ev.of (fun k=>impl_readWait.mono _ k) (k:=s.size+1) (num_i s hs s.size (s.size+1) 0 0 (by omega) (by omega))
def wordRL (x1 x2:ByteArray):Option RL:=
 if x1.toList=([99,97,108,108,101,114]:List UInt8) then (if gname x2=true then some (.caller x2) else none)
 else if x1.toList=([108,101,116]:List UInt8) then (if ruleOk x2=true then some (.rule true x2) else none)
 else if x1.toList=([98,97,114]:List UInt8) then (if ruleOk x2=true then some (.rule false x2) else none)
 else if x1.toList=([119,97,105,116]:List UInt8) then some (.wait (numP x2))
 else none
def lineRL (s:ByteArray):Option RL:=wordRL (cutB 32 s).1 (cutB 32 s).2.1
theorem cut_size (s:ByteArray):(cutB 32 s).2.1.size≤s.size:=by
 have:=(cutL_len (c:=32) (L s)).1
 rw [L_size] at this
 show (ofL (cutL 32 (L s)).2.1).size≤_
 rw [← L_size,L_of]
 omega
theorem word_impl (x1 x2:ByteArray) (hs:x2.size≤140737488351232):Ev (fun k=>impl_readLine.g k x1 x2) (wordRL x1 x2):=by
 unfold impl_readLine.g wordRL
 by_cases c1:x1.toList=([99,97,108,108,101,114]:List UInt8)
 ·simp only [c1,if_true];exact Ev.bind (impl_gname x2 hs) (Ev.now _)
 simp only [c1,if_false]
 by_cases c2:x1.toList=([108,101,116]:List UInt8)
 ·simp only [c2,if_true];exact Ev.bind (ruleOk_impl x2 hs) (Ev.now _)
 simp only [c2,if_false]
 by_cases c3:x1.toList=([98,97,114]:List UInt8)
 ·simp only [c3,if_true];exact Ev.bind (ruleOk_impl x2 hs) (Ev.now _)
 simp only [c3,if_false]
 by_cases c4:x1.toList=([119,97,105,116]:List UInt8)
 ·simp only [c4,if_true];exact Ev.bind (num_impl x2 hs) (Ev.now _)
 simp only [c4,if_false]
 exact Ev.now _
theorem line_impl (s:ByteArray) (hs:s.size≤1000000000):Ev (fun k=>impl_readLine.f k s) (lineRL s):=by
 unfold impl_readLine.f
 rw [cut_i s 32 (by omega)]
 simp only [Option.bind_some]
 exact word_impl _ _ (by have:=cut_size s;omega)
structure Ok (gs:List Gp) (b:Bool) (n:Nat):Prop where
 few:gs.length≤n
 names:∀ g ∈ gs,g.f0.length≤n
 begun:gs.length≠0→(lastG gs).f1.length≠0→b=true
 form:∀ g ∈ gs,g.f0.length≠0∧g.f1.length≤6∧0≤g.f2∧g.f2≤20∧∀ r ∈ g.f1,ruleOk r.f1=true
theorem last_mem {gs:List Gp} (h:gs.length≠0):lastG gs ∈ gs:=by
 unfold lastG
 rw [List.getD_eq_getElem?_getD,List.getElem?_eq_getElem (by omega)]
 exact List.getElem_mem _
theorem last_set {gs:List Gp} (h:gs.length≠0) (x:Gp):lastG (gs.set (gs.length - 1) x)=x:=by
 unfold lastG
 rw [List.length_set,List.getD_eq_getElem?_getD,List.getElem?_set_self (by omega)]
 rfl
theorem last_app (gs:List Gp) (x:Gp):lastG (gs++[x])=x:=by
 unfold lastG
 rw [List.length_append,List.length_singleton,List.getD_eq_getElem?_getD,List.getElem?_append_right (by omega)]
 simp
theorem word_good {x1 x2:ByteArray} {x:RL} (h:wordRL x1 x2=some x):match x with|.caller _=>True|.rule _ p=>ruleOk p=true|.wait n=>0≤n∧n≤20:=by
 unfold wordRL at h
 split at h
 ·split at h
  ·obtain rfl:=Option.some.inj h;trivial
  ·cases h
 ·split at h
  ·split at h
   ·rename_i hr;obtain rfl:=Option.some.inj h;exact hr
   ·cases h
  ·split at h
   ·split at h
    ·rename_i hr;obtain rfl:=Option.some.inj h;exact hr
    ·cases h
   ·split at h
    ·obtain rfl:=Option.some.inj h;exact numP_bound x2
    ·cases h
theorem Ok.set {gs:List Gp} {b b':Bool} {n:Nat} (h:Ok gs b n) (h0:gs.length≠0) (x:Gp) (hx0:x.f0.length≤n+1) (hb:x.f1.length≠0→b'=true)
  (hf:x.f0.length≠0∧x.f1.length≤6∧0≤x.f2∧x.f2≤20∧∀ r ∈ x.f1,ruleOk r.f1=true):Ok (gs.set (gs.length - 1) x) b' (n+1):=by
 refine ⟨by rw [List.length_set];have:=h.few;omega,fun g hg=>?_,fun _=>by rw [last_set h0];exact hb,fun g hg=>?_⟩
 ·rcases List.mem_or_eq_of_mem_set hg with hg|rfl
  ·have:=h.names g hg;omega
  ·exact hx0
 ·rcases List.mem_or_eq_of_mem_set hg with hg|rfl
  ·exact h.form g hg
  ·exact hf
theorem Ok.up {gs:List Gp} {b:Bool} {n:Nat} (h:Ok gs b n):Ok gs b (n+1):=⟨by have:=h.few;omega,fun g hg=>by have:=h.names g hg;omega,h.begun,h.form⟩
theorem Ok.take {gs:List Gp} {b:Bool} {n:Nat} (h:Ok gs b n) {x1 x2:ByteArray} {x:RL} (hx:wordRL x1 x2=some x):Ok (takeF gs b x).1 (takeF gs b x).2 (n+1):=by
 have hg:=word_good hx
 have hf:=h.few
 cases x with
 | caller y=>
  simp only [takeF]
  by_cases c:b=true∨gs.length=0
  ·simp only [c,if_true]
   refine ⟨by rw [List.length_append,List.length_singleton];omega,fun g hg=>?_,fun _ hl=>by rw [last_app] at hl;simp at hl,fun g hg=>?_⟩
   ·rcases List.mem_append.1 hg with hg|hg
    ·have:=h.names g hg;omega
    ·rw [List.mem_singleton.1 hg];simp
   ·rcases List.mem_append.1 hg with hg|hg
    ·exact h.form g hg
    ·rw [List.mem_singleton.1 hg];simp
  ·simp only [c,if_false]
   have h0:gs.length≠0:=fun e=>c (.inr e)
   have hm:=last_mem h0
   have hn:=h.names _ hm
   obtain ⟨f1,f2,f3,f4,f5⟩:=h.form _ hm
   exact h.set h0 _ (by simp only [List.length_append,List.length_singleton];omega) (fun hl=>h.begun h0 hl) ⟨by simp,f2,f3,f4,f5⟩
 | rule l p=>
  simp only [takeF]
  by_cases h0:gs.length=0
  ·simp only [h0,if_true];exact h.up
  ·simp only [h0,if_false]
   have hm:=last_mem h0
   have hn:=h.names _ hm
   obtain ⟨f1,f2,f3,f4,f5⟩:=h.form _ hm
   by_cases h6:(lastG gs).f1.length < 6
   ·simp only [h6,if_true]
    refine h.set h0 _ (show (lastG gs).f0.length≤n+1 by omega) (fun _=>rfl) ⟨f1,by simp only [List.length_append,List.length_singleton];omega,f3,f4,fun r hr=>?_⟩
    rcases List.mem_append.1 hr with hr|hr
    ·exact f5 r hr
    ·rw [List.mem_singleton.1 hr];exact hg
   ·simp only [h6,if_false]
    exact ⟨by omega,fun g hg=>by have:=h.names g hg;omega,fun _ _=>rfl,h.form⟩
 | wait m=>
  simp only [takeF]
  by_cases h0:gs.length=0
  ·simp only [h0,if_true];exact h.up
  ·simp only [h0,if_false]
   have hm:=last_mem h0
   have hn:=h.names _ hm
   obtain ⟨f1,f2,f3,f4,f5⟩:=h.form _ hm
   exact h.set h0 _ (show (lastG gs).f0.length≤n+1 by omega) (fun _=>rfl) ⟨f1,f2,hg.1,hg.2,f5⟩
def stepRL (gs:List Gp) (b:Bool):Option RL→List Gp×Bool
 | none=>(gs,b)
 | some x=>takeF gs b x
theorem lineName_ev (x1 x2:ByteArray) (hs:x2.size≤140737488351232):Ev (fun k=>lineName k x1 x2) (decide (x1.toList=([99,97,108,108,101,114]:List UInt8)) && gname x2):=by
 unfold lineName gname
 by_cases c1:x1.toList=([99,97,108,108,101,114]:List UInt8)
 ·simp only [c1,if_true,decide_true,Bool.true_and]
  by_cases c2:x2.toList=([42]:List UInt8)
  ·simp only [c2,if_true,beq_self_eq_true,Bool.true_or];exact Ev.now _
  ·simp only [c2,if_false,beq_eq_false_iff_ne.mpr c2,Bool.false_or];exact name_ev x2 hs
 ·simp only [c1,if_false,decide_false,Bool.false_and];exact Ev.now _
theorem lineRule_ev (x1 x2:ByteArray) (m:Nat):Ev (fun k=>lineRule k x1 x2 m) (decide (x1.toList=([108,101,116]:List UInt8)∨x1.toList=([98,97,114]:List UInt8)) && (ruleOk x2 && decide (m < 6))):=by
 unfold lineRule
 by_cases c1:x1.toList=([108,101,116]:List UInt8)∨x1.toList=([98,97,114]:List UInt8)
 ·simp only [c1,if_true,decide_true,Bool.true_and];exact Ev.bind (ruleOk_spec x2) (Ev.now _)
 ·simp only [c1,if_false,decide_false,Bool.false_and];exact Ev.now _
theorem line_spec (x1 x2:ByteArray) (hs:x2.size≤140737488351232) (gs:List Gp) (b:Bool) (n:Nat) (h:Ok gs b n) (hn:n < 100000):Ev (fun k=>spec_l2Line.f k gs x1 x2 b) (stepRL gs b (wordRL x1 x2)):=by
 have hf:=h.few
 unfold spec_l2Line.f
 simp only [show gs.length < 1000000 from by omega,if_true]
 refine Ev.bind (lineName_ev x1 x2 hs) ?_
 unfold wordRL
 by_cases c1:x1.toList=([99,97,108,108,101,114]:List UInt8)
 ·have k2:¬ (x1.toList=([108,101,116]:List UInt8)∨x1.toList=([98,97,114]:List UInt8)):=by rw [c1];decide
  have k3:¬ x1.toList=([119,97,105,116]:List UInt8):=by rw [c1];decide
  simp only [c1,decide_true,Bool.true_and,if_true]
  cases hg:gname x2 with
  | true=>
   simp only [if_true,stepRL,takeF]
   by_cases c:b=true∨gs.length=0
   ·simp only [c,if_true];exact Ev.now _
   ·have h0:gs.length≠0:=fun e=>c (.inr e)
    have hb:b=false:=by cases b <;> simp_all
    have:=h.names _ (last_mem h0)
    subst hb
    simp only [c,if_false,show (lastG gs).f0.length < 1000000 from by omega,if_true]
    exact Ev.now _
  | false=>
   simp only [Bool.false_eq_true,if_false,stepRL]
   by_cases h0:gs.length=0
   ·simp only [h0,if_true];exact Ev.now _
   ·simp only [h0,if_false]
    have hr:=lineRule_ev x1 x2 (lastG gs).f1.length
    rw [decide_eq_false k2,Bool.false_and] at hr
    refine Ev.bind hr ?_
    rw [c1] at k3
    simp only [Bool.false_eq_true,if_false,k3]
    exact Ev.now _
 ·simp only [c1,decide_false,Bool.false_and,Bool.false_eq_true,if_false]
  by_cases c2:x1.toList=([108,101,116]:List UInt8)∨x1.toList=([98,97,114]:List UInt8)
  ·have k3:¬ x1.toList=([119,97,105,116]:List UInt8):=by rcases c2 with c2|c2 <;> (rw [c2];decide)
   have e:(if x1.toList=([108,101,116]:List UInt8) then (if ruleOk x2=true then some (RL.rule true x2) else none)
     else if x1.toList=([98,97,114]:List UInt8) then (if ruleOk x2=true then some (RL.rule false x2) else none)
     else if x1.toList=([119,97,105,116]:List UInt8) then some (RL.wait (numP x2)) else none)=(if ruleOk x2=true then some (RL.rule (x1.toList == ([108,101,116]:List UInt8)) x2) else none):=by
    by_cases c3:x1.toList=([108,101,116]:List UInt8)
    ·simp only [c3,if_true,beq_self_eq_true]
    ·have c4:x1.toList=([98,97,114]:List UInt8):=c2.resolve_left c3
     simp only [c4,if_true]
     rw [if_neg (by decide)]
     rfl
   rw [e]
   by_cases h0:gs.length=0
   ·simp only [h0,if_true]
    cases ruleOk x2 with
    | true=>simp only [if_true,stepRL,takeF,h0];exact Ev.now _
    | false=>simp only [Bool.false_eq_true,if_false,stepRL];exact Ev.now _
   ·simp only [h0,if_false]
    have hr:=lineRule_ev x1 x2 (lastG gs).f1.length
    rw [decide_eq_true c2,Bool.true_and] at hr
    refine Ev.bind hr ?_
    cases hk:ruleOk x2 with
    | true=>
     simp only [if_true,stepRL,takeF,h0,if_false,Bool.true_and]
     by_cases h6:(lastG gs).f1.length < 6
     ·simp only [h6,decide_true,if_true];exact Ev.now _
     ·have hb:=h.begun h0 (by omega)
      subst hb
      simp only [h6,decide_false,Bool.false_eq_true,if_false,k3]
      exact Ev.now _
    | false=>
     simp only [Bool.false_eq_true,if_false,stepRL,Bool.false_and,k3]
     exact Ev.now _
  ·have c3:¬ x1.toList=([108,101,116]:List UInt8):=fun e=>c2 (.inl e)
   have c4:¬ x1.toList=([98,97,114]:List UInt8):=fun e=>c2 (.inr e)
   simp only [c3,c4,if_false]
   by_cases h0:gs.length=0
   ·simp only [h0,if_true]
    by_cases c5:x1.toList=([119,97,105,116]:List UInt8)
    ·simp only [c5,if_true,stepRL,takeF,h0];exact Ev.now _
    ·simp only [c5,if_false,stepRL];exact Ev.now _
   ·simp only [h0,if_false]
    have hr:=lineRule_ev x1 x2 (lastG gs).f1.length
    rw [decide_eq_false c2,Bool.false_and] at hr
    refine Ev.bind hr ?_
    simp only [Bool.false_eq_true,if_false]
    by_cases c5:x1.toList=([119,97,105,116]:List UInt8)
    ·simp only [c5,if_true,stepRL,takeF,h0,if_false]
     exact Ev.bind (num_spec x2 hs) (Ev.now _)
    ·simp only [c5,if_false,stepRL];exact Ev.now _
def readRL:List ByteArray→List Gp→Bool→List Gp
 | [],gs,_=>gs
 | s :: r,gs,b=>readRL r (stepRL gs b (lineRL s)).1 (stepRL gs b (lineRL s)).2
theorem Ok.step {gs:List Gp} {b:Bool} {n:Nat} (h:Ok gs b n) (s:ByteArray):Ok (stepRL gs b (lineRL s)).1 (stepRL gs b (lineRL s)).2 (n+1):=by
 cases e:lineRL s with
 | none=>exact h.up
 | some x=>exact h.take e
theorem read_ok:∀ (ls:List ByteArray) (gs:List Gp) (b:Bool) (n:Nat),Ok gs b n→∃ b',Ok (readRL ls gs b) b' (n+ls.length)
 | [],gs,b,n,h=>⟨b,h⟩
 | s :: r,gs,b,n,h=>by
  obtain ⟨b',hb⟩:=read_ok r _ _ _ (h.step s)
  exact ⟨b',by rw [List.length_cons,show n+(r.length+1)=n+1+r.length from by omega];exact hb⟩
theorem read_spec:∀ (ls:List ByteArray) (gs:List Gp) (b:Bool) (n:Nat),Ok gs b n→n+ls.length < 100000→(∀ s ∈ ls,s.size≤1000000000)→Ev (fun k=>sLoop k ls gs b) (readRL ls gs b)
 | [],gs,b,n,h,hn,hs=>Ev.now _
 | s :: r,gs,b,n,h,hn,hs=>by
  rw [List.length_cons] at hn
  have hz:=hs s List.mem_cons_self
  have hc:=cut_size s
  simp only [sLoop]
  refine Ev.bind (cut_ev s 32 (by omega)) ?_
  refine Ev.bind (line_spec _ _ (by omega) gs b n h (by omega)) ?_
  exact read_spec r _ _ (n+1) (h.step s) (by omega) (fun x hx=>hs x (List.mem_cons_of_mem _ hx))
theorem read_impl:∀ (ls:List ByteArray) (gs:List Gp) (b:Bool) (n:Nat),Ok gs b n→n+ls.length < 100000→(∀ s ∈ ls,s.size≤1000000000)→Ev (fun k=>iLoop k ls gs b) (readRL ls gs b)
 | [],gs,b,n,h,hn,hs=>Ev.now _
 | s :: r,gs,b,n,h,hn,hs=>by
  rw [List.length_cons] at hn
  have hz:=hs s List.mem_cons_self
  have hf:=h.few
  have next:=read_impl r _ _ (n+1) (h.step s) (by omega) (fun x hx=>hs x (List.mem_cons_of_mem _ hx))
  simp only [iLoop,readRL]
  refine Ev.bind (line_impl s hz) ?_
  cases e:lineRL s with
  | none=>rw [e] at next;exact next
  | some x=>
   rw [e] at next
   have hl:(lastG gs).f0.length < 1000000:=by
    by_cases h0:gs.length=0
    ·have:gs=[]:=List.length_eq_zero_iff.1 h0
     subst this
     decide
    ·have:=h.names _ (last_mem h0);omega
   simp only [show gs.length < 1000000 from by omega,hl,and_self,if_true]
   exact next
theorem Ok.none:Ok [] false 0:=⟨Nat.le_refl _,(fun g hg=>by cases hg),fun h=>absurd rfl h,(fun g hg=>by cases hg)⟩
def linesOfT (t:ByteArray):List ByteArray:=((splitL 10 (L t)).map ofL).take 40
def noticeOf (t:ByteArray):List Gp:=readRL (linesOfT t) [] false
theorem lines_size (t:ByteArray):∀ s ∈ linesOfT t,s.size≤t.size:=by
 intro s hs
 obtain ⟨p,hp,rfl⟩:=List.mem_map.1 (List.mem_of_mem_take hs)
 have:=splitL_mem 10 (L t) p hp
 rw [L_size] at this
 rw [← L_size,L_of]
 exact this
theorem lines_few (t:ByteArray):(linesOfT t).length≤40:=by unfold linesOfT;rw [List.length_take];omega
theorem split_few (t:ByteArray):((splitL 10 (L t)).map ofL).length≤t.size+1:=by
 have:=splitL_len 10 (L t)
 rw [L_size] at this
 rw [List.length_map]
 exact this
theorem notice_spec (t:ByteArray) (ht:t.size≤100000000):Ev (fun k=>spec_NoticeRead.f k t) (noticeOf t):=by
 unfold spec_NoticeRead.f
 have:=split_few t
 have h40:=lines_few t
 refine Ev.bind (split_ev t 10 (by omega)) ?_
 simp only [show ((splitL 10 (L t)).map ofL).length≤1000000000 from by omega,if_true]
 exact read_spec (linesOfT t) [] false 0 Ok.none (by omega) (fun s hs=>by have:=lines_size t s hs;omega)
theorem notice_impl (t:ByteArray) (ht:t.size≤100000000):Ev (fun k=>impl_NoticeRead.f k t) (noticeOf t):=by
 unfold impl_NoticeRead.f
 have:=split_few t
 have h40:=lines_few t
 refine Ev.bind (split_i t 10 (by omega)) ?_
 simp only [show ((splitL 10 (L t)).map ofL).length≤1000000000 from by omega,if_true]
 exact read_impl (linesOfT t) [] false 0 Ok.none (by omega) (fun s hs=>by have:=lines_size t s hs;omega)
theorem notice_form (t:ByteArray):∃ b,Ok (noticeOf t) b 40:=by
 obtain ⟨b,hb⟩:=read_ok (linesOfT t) [] false 0 Ok.none
 have h40:=lines_few t
 exact ⟨b,by have:=hb.few;show (readRL (linesOfT t) [] false).length≤40;omega,(fun g hg=>by have:=hb.names g hg;omega),hb.begun,hb.form⟩
end Go.Proofs.YthojbccgnlcblaaDoor.Rn
end
section
namespace Go.Proofs.YthojbccgnlcblaaDoor.Lpn
open Go.RowKit Go.Proofs.YthojbccgnlcblaaDoor.P Go.Proofs.YthojbccgnlcblaaDoorW.PrintWords Go.Proofs.YthojbccgnlcblaaDoorW.PrintLast Go.Proofs.YthojbccgnlcblaaDoorW.PrintMore Go.Proofs.YthojbccgnlcblaaDoor.B
set_option linter.unusedVariables false
set_option linter.unusedSimpArgs false
abbrev Gq:=S32
abbrev Rq:=S34
theorem nn (i:Nat):(0:Int)≤(i:Int):=by omega
theorem rd_gq {l:List Gq} {i:Nat} (h:i < l.length):rd_T32 l (i:Int)=l[i]:=by
 simp [rd_T32,List.getD,List.getElem?_eq_getElem h]
theorem lpT_l (l:List ByteArray) (hl:l.length≤1048576) (d:Nat):∀ (i:Nat),i+d=l.length→Ev (fun k=>laws_lpTexts.l0 k l l (i:Int)) true:=by
 induction d with
 | zero=>
  intro i hi
  refine Ev_succ ?_
  simp only [laws_lpTexts.l0,show ¬ ((i:Int) < (l.length:Int)) from by omega,if_false]
  exact Ev.now _
 | succ d ih=>
  intro i hi
  have w1:wrap64 ((i:Int)+1)=((i+1:Nat):Int):=by rw [w64 (by omega) (by omega)];rfl
  refine Ev_succ ?_
  simp only [laws_lpTexts.l0,show (i:Int) < (l.length:Int) from by omega,nn i,if_true,ne_eq,not_true,bne_self_eq_false,Bool.false_eq_true,if_false]
  rw [w1]
  exact ih (i+1) (by omega)
theorem lpT_ev (l:List ByteArray) (hl:l.length≤1048576):Ev (fun k=>laws_lpTexts.f k l l) true:=by
 unfold laws_lpTexts.f
 simp only [if_true]
 exact lpT_l l hl l.length 0 (by omega)
theorem lpR_l (l:List Rq) (hl:l.length≤1048576) (d:Nat):∀ (i:Nat),i+d=l.length→Ev (fun k=>laws_lpRules.l0 k l l (i:Int)) true:=by
 induction d with
 | zero=>
  intro i hi
  refine Ev_succ ?_
  simp only [laws_lpRules.l0,show ¬ ((i:Int) < (l.length:Int)) from by omega,if_false]
  exact Ev.now _
 | succ d ih=>
  intro i hi
  have w1:wrap64 ((i:Int)+1)=((i+1:Nat):Int):=by rw [w64 (by omega) (by omega)];rfl
  refine Ev_succ ?_
  simp only [laws_lpRules.l0,show (i:Int) < (l.length:Int) from by omega,nn i,if_true,beq_self_eq_true,Bool.not_true,Bool.or_self,Bool.false_eq_true,if_false]
  rw [w1]
  exact ih (i+1) (by omega)
theorem lpR_ev (l:List Rq) (hl:l.length≤1048576):Ev (fun k=>laws_lpRules.f k l l) true:=by
 unfold laws_lpRules.f
 simp only [if_true]
 exact lpR_l l hl l.length 0 (by omega)
theorem lpG_l (l:List Gq) (hl:l.length≤1048576) (hs:∀ g ∈ l,g.f0.length≤1048576∧g.f1.length≤1048576) (d:Nat):∀ (i:Nat),i+d=l.length→Ev (fun k=>laws_lpGroups.l0 k l l (i:Int)) true:=by
 induction d with
 | zero=>
  intro i hi
  refine Ev_succ ?_
  simp only [laws_lpGroups.l0,show ¬ ((i:Int) < (l.length:Int)) from by omega,if_false]
  exact Ev.now _
 | succ d ih=>
  intro i hi
  have hlt:i < l.length:=by omega
  obtain ⟨s0,s1⟩:=hs _ (List.getElem_mem hlt)
  have w1:wrap64 ((i:Int)+1)=((i+1:Nat):Int):=by rw [w64 (by omega) (by omega)];rfl
  have next:=ih (i+1) (by omega)
  refine Ev_succ ?_
  simp only [laws_lpGroups.l0,show (i:Int) < (l.length:Int) from by omega,nn i,if_true,rd_gq hlt]
  rw [w1]
  refine Ev.bind (a:=true) ?_ ?_
  ·unfold laws_lpGroup.f
   simp only [if_true]
   refine Ev.bind (lpT_ev _ s0) ?_
   simp only [if_true]
   refine Ev.bind (lpR_ev _ s1) ?_
   exact Ev.now _
  ·simp only [if_true]
   exact next
theorem lpG_ev (l:List Gq) (hl:l.length≤1048576) (hs:∀ g ∈ l,g.f0.length≤1048576∧g.f1.length≤1048576):Ev (fun k=>laws_lpGroups.f k l l) true:=by
 unfold laws_lpGroups.f
 simp only [if_true]
 exact lpG_l l hl hs l.length 0 (by omega)
end Go.Proofs.YthojbccgnlcblaaDoor.Lpn
end
section
namespace Go.Proofs.YthojbccgnlcblaaDoor.Draw
open Go.RowKit Go.Proofs.YthojbccgnlcblaaDoor.P Go.Proofs.YthojbccgnlcblaaDoorW.PrintWords Go.Proofs.YthojbccgnlcblaaDoorW.PrintLast Go.Proofs.YthojbccgnlcblaaDoorW.PrintMore Go.Proofs.YthojbccgnlcblaaDoor.B
set_option linter.unusedVariables false
set_option linter.unusedSimpArgs false
structure Code (b:List Int):Prop where
 byte:∀ x ∈ b,0≤x∧x≤255
 short:b.length≤2000
theorem open_some (l0:List Int) (hw:∀ x ∈ l0,(Lit.int .u8 x).wf=true):∃ b,spec_l6Open.f l0=some (b,0)∧Code b:=by
 unfold spec_l6Open.f
 by_cases h:(l0.length:Int) > 2000
 ·rw [if_pos h,if_pos (by omega)]
  exact ⟨_,rfl,fun x hx=>wf_u8 (hw x (List.mem_of_mem_take hx)),by rw [List.length_take];omega⟩
 ·rw [if_neg h]
  exact ⟨_,rfl,fun x hx=>wf_u8 (hw x hx),by omega⟩
theorem pick_one {b:List Int} (hc:Code b) (k:Nat) (p n:Int) (hp:0≤p) (hp2:p≤1000000000000) :
  ∃ v,spec_l6Rd_pick.f (k+1) b p n=some (v,p+1)∧0≤v∧(1≤n→v < n):=by
 have hl:=hc.short
 have e1:wrap64 (p+1)=p+1:=w64 (by omega) (by omega)
 have e2:wrap64 (p+1 - 1)=p:=by rw [w64 (by omega) (by omega)];omega
 unfold spec_l6Rd_pick.f
 rw [e1]
 by_cases h1:n < 1
 ·rw [if_pos h1]
  exact ⟨0,by simp [spec_l6Rd_pick.j0],by omega,by omega⟩
 ·rw [if_neg h1]
  simp only [spec_l6Rd_pick.j0,e2]
  by_cases h2:(b.length:Int)=0
  ·rw [if_pos (by simpa using h2)]
   exact ⟨0,rfl,by omega,by omega⟩
  ·rw [if_neg (by simpa using h2)]
   by_cases h3:p < (b.length:Int)
   ·rw [if_pos h3,if_pos hp,if_neg (by omega)]
    have hr:=rd_byte hc.byte p
    rw [w64 (by omega) (by omega)]
    exact ⟨_,rfl,(tmod_nn hr.1 (by omega)).1,fun _=>(tmod_nn hr.1 (by omega)).2⟩
   ·rw [if_neg h3,if_neg h2]
    have hq:=tmod_nn (a:=p) (b:=(b.length:Int)) hp (by omega)
    have ew1:wrap64 (p * 7)=p * 7:=w64 (by omega) (by omega)
    have ew2:wrap64 (p * 7+3)=p * 7+3:=w64 (by omega) (by omega)
    have hq2:=tmod_nn (a:=p * 7+3) (b:=(b.length:Int)) (by omega) (by omega)
    rw [if_pos hq.1,if_pos hq.2,ew1,ew2,if_pos hq2.1,if_pos hq2.2,if_neg (by omega)]
    have r1:=rd_byte hc.byte (Int.tmod p (b.length:Int))
    have r2:=rd_byte hc.byte (Int.tmod (p * 7+3) (b.length:Int))
    generalize rd b (Int.tmod p (b.length:Int))=a1 at r1 ⊢
    generalize rd b (Int.tmod (p * 7+3) (b.length:Int))=a2 at r2 ⊢
    have r3:=tdiv_nn (a:=p) (b:=(b.length:Int)) hp (by omega)
    generalize Int.tdiv p (b.length:Int)=q at r3 ⊢
    have s1:wrap64 a1=a1:=w64 (by omega) (by omega)
    have s2:wrap64 a2=a2:=w64 (by omega) (by omega)
    have s3:wrap64 (a1 * 131)=a1 * 131:=w64 (by omega) (by omega)
    have s4:wrap64 (a2 * 1117)=a2 * 1117:=w64 (by omega) (by omega)
    have s5:wrap64 (p * 29)=p * 29:=w64 (by omega) (by omega)
    have s6:wrap64 q=q:=w64 (by omega) (by omega)
    have s7:wrap64 (q * 53)=q * 53:=w64 (by omega) (by omega)
    have s8:wrap64 (a1 * 131+a2 * 1117)=a1 * 131+a2 * 1117:=w64 (by omega) (by omega)
    have s9:wrap64 (a1 * 131+a2 * 1117+p * 29)=a1 * 131+a2 * 1117+p * 29:=w64 (by omega) (by omega)
    have s10:wrap64 (a1 * 131+a2 * 1117+p * 29+q * 53)=a1 * 131+a2 * 1117+p * 29+q * 53:=w64 (by omega) (by omega)
    simp only [s1,s2,s3,s4,s5,s6,s7,s8,s9,s10]
    have hX0:0≤a1 * 131+a2 * 1117+p * 29+q * 53:=by omega
    have hX1:a1 * 131+a2 * 1117+p * 29+q * 53 < 2 ^ 62:=by omega
    generalize a1 * 131+a2 * 1117+p * 29+q * 53=X at hX0 hX1 ⊢
    have d:=tdiv_nn (a:=X) (b:=64) hX0 (by omega)
    have s11:wrap64 (Int.tdiv X 64)=Int.tdiv X 64:=w64 (by omega) (by omega)
    rw [s11]
    have z:=xor_nn hX0 hX1 d.1 (by omega)
    exact ⟨_,rfl,(tmod_nn z.1 (by omega)).1,fun _=>(tmod_nn z.1 (by omega)).2⟩
theorem pick_ev {b:List Int} (hc:Code b) (p n:Int) (hp:0≤p) (hp2:p≤1000000000000) :
  ∃ v,Ev (fun k=>spec_l6Rd_pick.f k b p n) (v,p+1)∧0≤v∧(1≤n→v < n):=by
 obtain ⟨v,h,h0,h1⟩:=pick_one hc 0 p n hp hp2
 exact ⟨v,Ev.of (fun k=>spec_l6Rd_pick.mono _ _ _ k) h,h0,h1⟩
theorem of_ev {b:List Int} (hc:Code b) (p:Int) (l:List ByteArray) (hl:l≠[]) (hl2:(l.length:Int) < 1000000) (hp:0≤p) (hp2:p≤1000000000000) :
  ∃ s,Ev (fun k=>spec_l6Rd_of.f k b p l) (s,p+1)∧s ∈ l:=by
 have hpos:0 < l.length:=List.length_pos_iff.2 hl
 obtain ⟨v,h,h0,h1⟩:=pick_ev hc p (l.length:Int) hp hp2
 have hv:=h1 (by omega)
 refine ⟨rdOf ByteArray.empty l v,Ev.bind h ?_,?_⟩
 ·simp only [h0,hv,if_true]
  exact Ev.now _
 ·unfold rdOf
  have hlt:v.toNat < l.length:=by omega
  rw [List.getD_eq_getElem?_getD,List.getElem?_eq_getElem hlt]
  exact List.getElem_mem hlt
def Line (w:List UInt8):Prop:=(10:UInt8) ∉ w∧w.length≤20
instance (w:List UInt8):Decidable (Line w):=inferInstanceAs (Decidable (_∧_))
def flat (ws:List (List UInt8)):List UInt8:=(ws.map fun w=>w++[10]).flatten
theorem flat_len:∀ ws:List (List UInt8),(∀ w ∈ ws,Line w)→(flat ws).length≤21 * ws.length
 | [],_=>by simp [flat]
 | w :: r,h=>by
  have:=flat_len r (fun x hx=>h x (List.mem_cons_of_mem _ hx))
  have hw:=(h w List.mem_cons_self).2
  simp only [flat,List.map_cons,List.flatten_cons,List.length_append,List.length_singleton,List.length_cons,List.length_nil] at this ⊢
  omega
theorem flat_app (ws:List (List UInt8)) (w:List UInt8):flat (ws++[w])=flat ws++(w++[10]):=by simp [flat]
theorem rule_line {b:List Int} (hc:Code b) (p:Int) (h0:0≤p) (h1:p≤1000000000000):∃ s,Ev (fun k=>spec_l71Rule.f k b p) (s,p+1)∧(10:UInt8) ∉ L s∧(L s).length≤7:=by
 obtain ⟨s,hs,hm⟩:=of_ev hc p (([(⟨#[47]⟩:ByteArray),(⟨#[47,97]⟩:ByteArray),(⟨#[47,98]⟩:ByteArray),(⟨#[47,97,47]⟩:ByteArray),(⟨#[47,42,98]⟩:ByteArray),(⟨#[47,97,36]⟩:ByteArray),(⟨#[47,99]⟩:ByteArray),(⟨#[47,42,63]⟩:ByteArray),(⟨#[47,97,47,98]⟩:ByteArray),(⟨#[47,42,47,98,36]⟩:ByteArray),(⟨#[47,36]⟩:ByteArray),(⟨#[47,98,42,99]⟩:ByteArray),(⟨#[47,110,111,116,105,99,101]⟩:ByteArray),(⟨#[47,42]⟩:ByteArray)]:List ByteArray)) (by simp) (by decide) h0 h1
 refine ⟨s,Ev.bind hs (Ev.now _),?_⟩
 have all:∀ s ∈ (([(⟨#[47]⟩:ByteArray),(⟨#[47,97]⟩:ByteArray),(⟨#[47,98]⟩:ByteArray),(⟨#[47,97,47]⟩:ByteArray),(⟨#[47,42,98]⟩:ByteArray),(⟨#[47,97,36]⟩:ByteArray),(⟨#[47,99]⟩:ByteArray),(⟨#[47,42,63]⟩:ByteArray),(⟨#[47,97,47,98]⟩:ByteArray),(⟨#[47,42,47,98,36]⟩:ByteArray),(⟨#[47,36]⟩:ByteArray),(⟨#[47,98,42,99]⟩:ByteArray),(⟨#[47,110,111,116,105,99,101]⟩:ByteArray),(⟨#[47,42]⟩:ByteArray)]:List ByteArray)),(10:UInt8) ∉ L s∧(L s).length≤7:=by decide
 exact all s hm
theorem lines_l {b:List Int} (hc:Code b) (d:Nat):∀ (p:Int) (t:ByteArray) (ws:List (List UInt8)),0≤p→p+3 * d≤10000000000→L t=flat ws→ws.length+d≤1000→(∀ w ∈ ws,Line w) →
  ∃ x ws',Ev (fun k=>spec_DrawNoticeRead.l0 k t (d:Int) b p) x∧L x=flat ws'∧ws'.length≤ws.length+d∧∀ w ∈ ws',Line w:=by
 induction d with
 | zero=>
  intro p t ws h0 h1 ht h2 h3
  refine ⟨t,ws,Ev_succ ?_,ht,by omega,h3⟩
  have n1:¬ (((0:Nat):Int) > 0):=by omega
  simp only [spec_DrawNoticeRead.l0,n1,if_false]
  exact Ev.now _
 | succ d ih=>
  intro p t ws h0 h1 ht h2 h3
  obtain ⟨s1,e1,a1,b1⟩:=rule_line hc p h0 (by omega)
  obtain ⟨s2,e2,a2,b2⟩:=rule_line hc (p+1) (by omega) (by omega)
  have z1:s1.size≤7:=by rw [← L_size];exact b1
  have z2:s2.size≤7:=by rw [← L_size];exact b2
  obtain ⟨s3,e3,hm⟩:=of_ev hc (p+1+1) (([(⟨#[99,97,108,108,101,114,32,114,111,118,101,114]⟩:ByteArray),(⟨#[99,97,108,108,101,114,32,42]⟩:ByteArray),(⟨#[99,97,108,108,101,114,32,115,99,111,117,116]⟩:ByteArray),(⟨#[98,97,114,32]⟩:ByteArray)++s1,(⟨#[108,101,116,32]⟩:ByteArray)++s2,(⟨#[119,97,105,116,32,51]⟩:ByteArray),(⟨#[119,97,105,116,32,57,57]⟩:ByteArray),(⟨#[119,97,105,116,32,120]⟩:ByteArray),(⟨#[119,104,97,116]⟩:ByteArray),(⟨#[]⟩:ByteArray),(⟨#[99,97,108,108,101,114,32,82,79,86,69,82]⟩:ByteArray),(⟨#[98,97,114,32,97]⟩:ByteArray)]:List ByteArray)) (by simp) (by simp) (by omega) (by omega)
  have hline:Line (L s3):=by
   simp only [List.mem_cons,List.not_mem_nil,or_false] at hm
   rcases hm with rfl|rfl|rfl|rfl|rfl|rfl|rfl|rfl|rfl|rfl|rfl|rfl
   case inr.inr.inr.inl=>
    rw [L_app]
    refine ⟨fun h=>(List.mem_append.1 h).elim (by decide) a1,?_⟩
    rw [List.length_append]
    have:(L (⟨#[98,97,114,32]⟩:ByteArray)).length=4:=rfl
    omega
   case inr.inr.inr.inr.inl=>
    rw [L_app]
    refine ⟨fun h=>(List.mem_append.1 h).elim (by decide) a2,?_⟩
    rw [List.length_append]
    have:(L (⟨#[108,101,116,32]⟩:ByteArray)).length=4:=rfl
    omega
   all_goals decide
  have z3:s3.size≤20:=by rw [← L_size];exact hline.2
  have zt:t.size≤21 * ws.length:=by rw [← L_size,ht];exact flat_len ws h3
  obtain ⟨x,ws',hx,g1,g2,g3⟩:=ih (p+1+1+1) ((t++s3)++(⟨#[10]⟩:ByteArray)) (ws++[L s3]) (by omega) (by omega)
   (by rw [L_app,L_app,ht,flat_app,List.append_assoc];first|done|rfl) (by rw [List.length_append,List.length_singleton];omega) (fun w hw=>by
    rcases List.mem_append.1 hw with h|h
    ·exact h3 w h
    ·rw [List.mem_singleton.1 h];exact hline)
  refine ⟨x,ws',Ev_succ ?_,g1,by rw [List.length_append,List.length_singleton] at g2;omega,g3⟩
  have n1:(((d+1:Nat):Int) > 0):=by omega
  have w1:wrap64 (((d+1:Nat):Int) - 1)=(d:Int):=by rw [w64 (by omega) (by omega)];omega
  simp only [spec_DrawNoticeRead.l0,n1,if_true,w1]
  refine Ev.bind e1 ?_
  simp only [show 4+s1.size≤9223372036854775807 from by omega,if_true]
  refine Ev.bind e2 ?_
  simp only [show 4+s2.size≤9223372036854775807 from by omega,if_true]
  refine Ev.bind e3 ?_
  simp only [show t.size+s3.size≤9223372036854775807 from by omega,show t.size+s3.size+1≤9223372036854775807 from by omega,if_true]
  exact hx
theorem drawNotice_ev (l0:List Int) (hw:∀ x ∈ l0,(Lit.int .u8 x).wf=true):∃ t ws,Ev (fun k=>spec_DrawNoticeRead.f k l0) t∧L t=flat ws∧ws.length≤8∧∀ w ∈ ws,Line w:=by
 obtain ⟨b,hb,hc⟩:=open_some l0 hw
 obtain ⟨v,hv,v0,v1⟩:=pick_ev hc 0 9 (by omega) (by omega)
 have v2:=v1 (by omega)
 obtain ⟨m,rfl⟩:=Int.eq_ofNat_of_zero_le v0
 obtain ⟨x,ws,hx,g1,g2,g3⟩:=lines_l hc m (0+1) (⟨#[]⟩:ByteArray) [] (by omega) (by omega) rfl (by simp only [List.length_nil];omega) (by simp)
 refine ⟨x,ws,?_,g1,by simp only [List.length_nil] at g2;omega,g3⟩
 unfold spec_DrawNoticeRead.f
 rw [hb]
 simp only [Option.bind_some]
 exact Ev.bind hv hx
end Go.Proofs.YthojbccgnlcblaaDoor.Draw
end
section
namespace Go.Proofs.YthojbccgnlcblaaDoor.Pure
open Go.RowKit Go.Proofs.YthojbccgnlcblaaDoor.P Go.Proofs.YthojbccgnlcblaaDoorW.PrintWords Go.Proofs.YthojbccgnlcblaaDoorW.PrintLast Go.Proofs.YthojbccgnlcblaaDoorW.PrintMore Go.Proofs.YthojbccgnlcblaaDoor.Draw Go.Proofs.YthojbccgnlcblaaDoor.B Go.Proofs.YthojbccgnlcblaaDoor.Ad
set_option linter.unusedSimpArgs false
set_option linter.unusedVariables false
theorem cut_line:∀ (w r:List UInt8),(10:UInt8) ∉ w→cutL 10 (w++10 :: r)=(w,r,true)
 | [],r,_=>by simp [cutL]
 | x :: w,r,h=>by
  have h1:x≠10:=fun e=>h (by rw [e];exact List.mem_cons_self)
  have h2:=cut_line w r (fun e=>h (List.mem_cons_of_mem _ e))
  rw [List.cons_append]
  unfold cutL
  rw [if_neg h1,h2]
theorem split_flat:∀ ws:List (List UInt8),(∀ w ∈ ws,Line w)→splitL 10 (flat ws)=ws++[[]]
 | [],_=>rfl
 | w :: r,h=>by
  have ih:=split_flat r (fun x hx=>h x (List.mem_cons_of_mem _ hx))
  have e:flat (w :: r)=w++10 :: flat r:=by simp [flat]
  have hc:=cut_line w (flat r) (h w List.mem_cons_self).1
  rw [e,splitL_eq,hc]
  simp only [if_true]
  rw [ih,List.cons_append]
theorem lines_flat {t:ByteArray} {ws:List (List UInt8)} (ht:L t=flat ws) (h1:ws.length≤30) (h2:∀ w ∈ ws,Line w):Rn.linesOfT t=(ws++[[]]).map ofL:=by
 unfold Rn.linesOfT
 rw [ht,split_flat ws h2]
 refine List.take_of_length_le ?_
 rw [List.length_map,List.length_append,List.length_singleton]
 omega
theorem none_of {s:ByteArray} (h:(Rn.lineRL s).isNone=true):Rn.lineRL s=none:=Option.isNone_iff_eq_none.1 h
theorem read_skip {s:ByteArray} (h:Rn.lineRL s=none) (r:List ByteArray) (gs:List Gp) (b:Bool):Rn.readRL (s :: r) gs b=Rn.readRL r gs b:=by
 simp only [Rn.readRL,h,Rn.stepRL]
theorem read_skip_last {s:ByteArray} (h:Rn.lineRL s=none):∀ (r:List ByteArray) (gs:List Gp) (b:Bool),Rn.readRL (r++[s]) gs b=Rn.readRL r gs b
 | [],gs,b=>by rw [List.nil_append,read_skip h]
 | x :: r,gs,b=>by
  rw [List.cons_append]
  simp only [Rn.readRL]
  exact read_skip_last h r _ _
theorem n_what:Rn.lineRL (ofL [119,104,97,116])=none:=none_of (by decide +kernel)
theorem n_empty:Rn.lineRL (ofL [])=none:=none_of (by decide +kernel)
theorem n_let:Rn.lineRL (ofL [108,101,116,32,97])=none:=none_of (by decide +kernel)
theorem n_who:Rn.lineRL (ofL [119,104,111])=none:=none_of (by decide +kernel)
theorem junk_same {t:ByteArray} {ws:List (List UInt8)} (ht:L t=flat ws) (h1:ws.length≤8) (h2:∀ w ∈ ws,Line w) :
  Rn.noticeOf (((⟨#[119,104,97,116,10,10,108,101,116,32,97,10]⟩:ByteArray)++t)++(⟨#[119,104,111,10]⟩:ByteArray))=Rn.noticeOf t:=by
 have e:L (((⟨#[119,104,97,116,10,10,108,101,116,32,97,10]⟩:ByteArray)++t)++(⟨#[119,104,111,10]⟩:ByteArray))=flat (([119,104,97,116]:List UInt8) :: [] :: [108,101,116,32,97] :: (ws++[[119,104,111]])):=by
  rw [L_app,L_app,ht]
  simp [flat,L]
 have hws:∀ w ∈ (([119,104,97,116]:List UInt8) :: [] :: [108,101,116,32,97] :: (ws++[[119,104,111]])),Line w:=by
  intro w hw
  simp only [List.mem_cons,List.mem_append,List.not_mem_nil,or_false] at hw
  rcases hw with rfl|rfl|rfl|hw|rfl
  case inr.inr.inr.inl=>exact h2 w hw
  all_goals decide
 unfold Rn.noticeOf
 rw [lines_flat e (by simp only [List.length_cons,List.length_append,List.length_nil];omega) hws,lines_flat ht (by omega) h2]
 have e1:((([119,104,97,116]:List UInt8) :: [] :: [108,101,116,32,97] :: (ws++[[119,104,111]]))++[[]]).map ofL=ofL [119,104,97,116] :: ofL [] :: ofL [108,101,116,32,97] :: ((ws.map ofL++[ofL [119,104,111]])++[ofL []]):=by
  simp only [List.cons_append,List.map_cons,List.map_append,List.map_nil,List.append_assoc]
 have e2:(ws++[[]]).map ofL=ws.map ofL++[ofL []]:=by simp only [List.map_append,List.map_cons,List.map_nil]
 rw [e1,e2,read_skip n_what,read_skip n_empty,read_skip n_let,read_skip_last n_empty,read_skip_last n_who,read_skip_last n_empty]
theorem junk_size {t:ByteArray} {ws:List (List UInt8)} (ht:L t=flat ws) (h1:ws.length≤8) (h2:∀ w ∈ ws,Line w):t.size≤168:=by
 have:=flat_len ws h2
 rw [← L_size,ht]
 omega
theorem FnNoticeJunk:laws_FnNoticeJunk.Pure:=by
 intro l0 _ _ hw
 obtain ⟨t,ws,hx,g1,g2,g3⟩:=drawNotice_ev l0 hw
 have ht:=junk_size g1 g2 g3
 obtain ⟨b,ho⟩:=Rn.notice_form t
 have hfew:=ho.few
 have same:=Lpn.lpG_ev (Rn.noticeOf t) (by omega) (fun g hg=>⟨by have:=ho.names g hg;omega,by have:=(ho.form g hg).2.1;omega⟩)
 suffices Ev (fun k=>laws_FnNoticeJunk.f k l0) true by
  obtain ⟨K,hK⟩:=this
  exact ⟨K,hK K (Nat.le_refl _)⟩
 unfold laws_FnNoticeJunk.f
 by_cases hb:(l0.length:Int) > 1048576
 ·simp only [hb,if_true];exact Ev.now _
 simp only [hb,if_false]
 refine Ev.bind hx (Ev.bind (Rn.notice_impl t (by omega)) (Ev.bind (Rn.notice_spec t (by omega)) (Ev.bind same ?_)))
 have s12:(⟨#[119,104,97,116,10,10,108,101,116,32,97,10]⟩:ByteArray).size=12:=rfl
 have s4:(⟨#[119,104,111,10]⟩:ByteArray).size=4:=rfl
 simp only [if_true,show 12+t.size≤9223372036854775807 from by omega,show 12+t.size+4≤9223372036854775807 from by omega]
 have hj:=Rn.notice_impl (((⟨#[119,104,97,116,10,10,108,101,116,32,97,10]⟩:ByteArray)++t)++(⟨#[119,104,111,10]⟩:ByteArray)) (by rw [ByteArray.size_append,ByteArray.size_append,s12,s4];omega)
 rw [junk_same g1 g2 g3] at hj
 refine Ev.bind hj (Ev.bind same ?_)
 exact Ev.now _
end Go.Proofs.YthojbccgnlcblaaDoor.Pure
end
section
namespace Go.Proofs.YthojbccgnlcblaaDoorW.PrintWords
open Go.ChangeShapes Go.WideShapes
theorem sized_ints {H:Type} {enc:TypeId×Value→H} {P:Program} {W:World} {base:Nat} {spare:Nat→Bool} {held:Bool} {t e:TypeId} {k:IntKind} {a:Option Addr} {len cap:Nat} {d:DataW H} {ps:List MemPlace} {ts:List TypeId} {ds:List (DataW H)} {j:Nat}
  (hsz:(DataW.weightsEach P ts ds).all (·≤reachBytes)=true) (ht:ts[j]?=some t) (hd:ds[j]?=some d) (hu:P.underlying t=some (.slice e)) (he:P.underlying e=some (.int k)) (hc:P.cellsOf e=1) {B:Nat} (hB:P.bytesOf e=B)
  (h:DataW.Trod enc P W base spare held t (.slice a len cap) d ps):len * B≤140737488351232:=by
 obtain ⟨fuel,hf⟩:=h
 rcases open_ints hu he hc hf with ⟨hcs,_⟩|⟨x,l,c,zs,hcs,_,hl,_,hz,hx,_,_⟩
 ·simp [Value.cells] at hcs
  obtain ⟨rfl,rfl,rfl⟩:=hcs
  simp
 ·simp [Value.cells] at hcs
  obtain ⟨rfl,rfl,rfl⟩:=hcs
  obtain ⟨hx,_⟩:=Prod.mk.inj hx
  subst hx
  have z:=sized_slice hsz ht hd hu
  rw [hB] at z
  have hl2:len≤zs.length:=by
   rw [hz]
   split
   ·exact hl
   ·exact Nat.le_refl _
  have h1:(lits (H:=H) k (zs.take len)).length+(lits (H:=H) k (zs.drop len)).length=zs.length:=by
   simp [lits]
   omega
  rw [h1] at z
  exact Nat.le_trans (Nat.mul_le_mul_right _ hl2) z
end Go.Proofs.YthojbccgnlcblaaDoorW.PrintWords
end
section
namespace Go.Proofs.YthojbccgnlcblaaDoor.fnNoticeJunk
open Go.ChangeShapes Go.WideShapes Go.ChangeAt Go.RowKit
open Go.ChangeMaps (open_string shut_string)
set_option linter.unusedVariables false
theorem own : ownKnob Tryd.prog.godebug = none := by kernel_rfl
theorem laidOut : laidOutB Tryd.prog = true := by kernel_rfl
def IsRow (k : IntKind) (w : World) (a : Option Addr) (len cap : Nat) (zs : List Int) : Prop :=
 (a = none ∧ len = 0 ∧ cap = 0 ∧ zs = []) ∨
 ∃ x, a = some x ∧ len ≤ cap ∧ cap ≤ maxLen ∧ zs.length = cap ∧ (∀ i, i < zs.length → w.cell? (x.add i) = some (.int k (zs.getD i 0))) ∧ ∀ n ∈ zs, (Lit.int k n).wf = true
set_option maxRecDepth 100000 in
theorem lifted (os : Os) (started : os.Started) (H : Type) (enc : TypeId × Value → H) :
  ReturnsInHanded {} Tryd.checked os 5 .any (fun w args => (Rows.fnNoticeJunkSpec.pre enc Tryd.prog Tryd.f5 Rows.fnNoticeJunkRow.domain false w args ∧ laidMetH Tryd.prog Rows.fnNoticeJunkRow.laid w) ∧ sizedMet enc Tryd.prog Tryd.f5 (OpenSpec.ofChange Rows.fnNoticeJunkSpec) false w args)
   (Rows.fnNoticeJunkSpec.post enc Tryd.prog Tryd.f5 false true false false) := by
 refine returnsInHanded_of_change_and (C := Tryd.checked) (X := fun w _ => laidMetH Tryd.prog Rows.fnNoticeJunkRow.laid w) (fun _ _ _ hh h => h.of_heap hh) own started (by kernel_rfl) Tryd.func5
  (ChangeSpec.witness_shaped (enc := enc) (C := Tryd.checked) (os := os) (X := fun w _ => laidMetH Tryd.prog Rows.fnNoticeJunkRow.laid w) false (World.laidAll Tryd.prog os Rows.fnNoticeJunkRow.laid) #[.slice none 0 0] 8 (World.laidAll_os _ _ _)
   (World.shaped_of_ZipB (by kernel_rfl) (by kernel_rfl)) (by kernel_rfl) (by kernel_rfl) (by kernel_rfl)
   (by rw [MakeChecks.laidMetH_plain _ _ _ (by kernel_rfl)]; exact laidMet_laidAll _ (by kernel_rfl) (by kernel_rfl))) ?_
 intro W base args ds gs before hval0 hW hcnd hsz0 hL _
 have hsz : (DataW.weightsEach Tryd.prog (Tryd.f5.params.toList ++ Rows.fnNoticeJunkSpec.plain.varTypes Tryd.prog) (ds ++ gs)).all (· ≤ reachBytes) = true := hsz0
 have hval : ∀ (j : Nat) t v, Tryd.f5.params[j]? = some t → args[j]? = some v → Value.okWide Tryd.prog W .any base t v := hval0
 have hW' := hW
 obtain ⟨p, q, hA0, hV, rfl, hfz, hnd⟩ := hW
 have hA : DataW.TrodAll enc Tryd.prog W 0 (fun _ => true) true Tryd.f5.params.toList args.toList ds p := hA0
 rw [Tryd.params5] at hA hval hsz
 obtain ⟨v0, vs0, d0, ds0, p0, q0, hargs, rfl, rfl, h0, r0⟩ := trodAll_cons hA
 obtain ⟨rfl, rfl, rfl⟩ := trodAll_nil r0
 obtain rfl : args = #[v0] := by cases args; simp_all
 obtain ⟨rfl, rfl⟩ := trodVars_none hV
 obtain ⟨a0, len0, cap0, rfl⟩ := okWide_slice Tryd.underlying27 (hval 0 27 v0 rfl rfl)
 have k0 := h0
 have lt0 : ∀ x ∈ p0, x.block < W.heap.size := by obtain ⟨m, hm⟩ := k0; exact DataW.trod_lt m _ _ _ hm
 obtain ⟨z0, w0⟩ : ∃ zs, IsRow .u8 W a0 len0 cap0 zs := by
  obtain ⟨fuel, hf⟩ := h0
  rcases open_ints Tryd.underlying27 Tryd.underlying5 (by kernel_rfl) hf with ⟨hcs, _⟩ | ⟨x, l, c, zs, hcs, _, hl, hm, hz, _, hcell, hwz⟩
  ·simp [Value.cells] at hcs
   obtain ⟨rfl, rfl, rfl⟩ := hcs
   exact ⟨[], .inl ⟨rfl, rfl, rfl, rfl⟩⟩
  ·simp [Value.cells] at hcs
   obtain ⟨rfl, rfl, rfl⟩ := hcs
   exact ⟨zs, .inr ⟨_, rfl, hl, hm, by simpa using hz, hcell, hwz⟩⟩
 have y0 : len0 * 1 ≤ 140737488351232 := YthojbccgnlcblaaDoorW.PrintWords.sized_ints hsz (j := 0) (t := 27) rfl rfl Tryd.underlying27 Tryd.underlying5 (by kernel_rfl) (by kernel_rfl) h0
 clear hA0 hval0 hsz0 hsz
 refine (P.laws_FnNoticeJunk.walk Pure.FnNoticeJunk a0 len0 cap0 z0 W w0 y0).mono fun e W' ⟨he, bel⟩ => ?_
 subst he
 exact ⟨_, rfl, _, _, _, [], _, [], hW', trodAll_mk1 (shut_bool Tryd.underlying4 _), (trodAll_cons_mk (Below.trod laidOut (by kernel_rfl) (of_decide_eq_true (by kernel_rfl)) k0 bel lt0) trodAll_mk0), rfl, bel.frame _, fun h => by cases h⟩
set_option maxHeartbeats 4000000 in
theorem over : Rows.fnNoticeJunkRow.holds Tryd.pinned (OpenSpec.ofChange Rows.fnNoticeJunkSpec) :=
 OpenClaim.holds_of_wide 5 Tryd.f5 rfl rfl rfl rfl rfl rfl rfl ⟨rfl, rfl, rfl, rfl, rfl⟩ rfl rfl rfl rfl rfl (by as_aux_lemma => kernel_rfl) Tryd.func5 (by as_aux_lemma => kernel_rfl)
  (of_decide_eq_true (by as_aux_lemma => kernel_rfl)) (by unfold Func.isWrapper; first | (rw [if_pos (by decide +kernel)]; kernel_rfl) | (rw [if_neg (by decide +kernel)]; exact ⟨rfl, rfl⟩))
  (fun os started H enc _ => lifted os started H enc)
theorem card_holds : Rows.FnNoticeJunkCardSaid :=
 Claim7.holds_tied_plain_at .later [] [.data, .pinned] true (true, "476b8eef2d18fed7edc964a1c5d96751ec7555347d0254f823417832fff28865") true over (fun _ h => by cases h) (by as_aux_lemma => kernel_rfl) (fun _ h => by cases h) fnNoticeJunk_row_tie rfl ⟨rfl, rfl⟩ (by as_aux_lemma => kernel_rfl) rfl
  (fun f fn hf hfn => by
   obtain rfl : f = 5 := Option.some.inj ((show Tryd.prog.funcNamed "loop.example/pedlar/laws.FnNoticeJunk" = some 5 by as_aux_lemma => kernel_rfl).symm.trans hf) |>.symm
   obtain rfl : fn = Tryd.f5 := (Option.some.inj (Tryd.func5.symm.trans hfn)).symm
   exact ⟨by as_aux_lemma => kernel_rfl, fun j t ht => by
    rw [Tryd.params5] at ht
    have hm : t ∈ [27] := by simpa using Array.mem_of_getElem? ht
    have hall : ([27].all fun u => !Tryd.prog.wantsStandIn u) = true := by as_aux_lemma => kernel_rfl
    exact (show Tryd.prog.wantsStandIn t = false by simpa using List.all_eq_true.1 hall t hm)⟩)
  (by as_aux_lemma => kernel_rfl)
#print axioms card_holds
end Go.Proofs.YthojbccgnlcblaaDoor.fnNoticeJunk
namespace Go.Proofs.YthojbccgnlcblaaDoor
theorem fnNoticeJunk_holds : Rows.FnNoticeJunkCardSaid := fnNoticeJunk.card_holds
end Go.Proofs.YthojbccgnlcblaaDoor
end
