/- FnExactTripLooked holds of the given program at every input: the program's TripLooked returns what the reference's returns. No condition. -/
import Derived.Test.YtnnciiiackinpaaGreatDoorZFnExactTripLookedf
import Derived.Test.YtnnciiiackinpaaGreatDoorZFnExactTripLookedd
import Derived.Test.YtnnciiiackinpaaGreatDoorZFnExactTripLookede
import Derived.Test.YtnnciiiackinpaaGreatDoorZFnExactTripLookedc
import Derived.SizedLaws
import Derived.ChangeSlices
import Derived.Test.YtnnciiiackinpaaGreatDoorRows
import Derived.Test.YtnnciiiackinpaaGreatDoorCards
import Derived.Test.YtnnciiiackinpaaGreatDoorTie
import Derived.LaidMore
import Derived.Lay
import Derived.SevenTiedAt
import Derived.Stop.Joined
import Derived.Lib.SmallJoins
import Derived.WalkKit
import Derived.ProofKit
import Derived.OpenShut
import Derived.ShutString
import Derived.ChangeOld
import Derived.Below

section
namespace Go.Proofs.YtnnciiiackinpaaGreatDoor.Wd
open Go.RowKit Go.Proofs.YtnnciiiackinpaaGreatDoor.P Go.Proofs.YtnnciiiackinpaaGreatDoorW.PrintWords Go.Proofs.YtnnciiiackinpaaGreatDoorW.PrintLast Go.Proofs.YtnnciiiackinpaaGreatDoorW.PrintMore Go.Proofs.YtnnciiiackinpaaGreatDoor.B Go.Proofs.YtnnciiiackinpaaGreatDoor.Ad
set_option linter.unusedVariables false
set_option linter.unusedSimpArgs false
def norm (s:ByteArray):Bool:=(readO s).2.2.2.2 && (textB (readO s).1 (readO s).2.1 (readO s).2.2.1 (readO s).2.2.2.1).toList == s.toList
theorem readAddr_i (s:ByteArray):Ev (fun k=>impl_readAddress.f k s) (if norm s=true then ((readO s).1,(readO s).2.1,(readO s).2.2.1,(readO s).2.2.2.1,true) else none5):=by
 unfold impl_readAddress.f
 refine Ev.bind (read_i s) ?_
 have hF:=fine_read s
 obtain ⟨q1,q2,q3⟩:=fine_parts hF
 unfold norm
 by_cases h:(readO s).2.2.2.2=true
 ·have ht:=text_i (readO s).1 (readO s).2.1 (readO s).2.2.1 (readO s).2.2.2.1 q1 (by omega) (by omega)
  simp only [h,if_true,ht,Option.bind_some,Bool.true_and]
  by_cases h2:(textB (readO s).1 (readO s).2.1 (readO s).2.2.1 (readO s).2.2.2.1).toList=s.toList
  ·simp only [h2,if_true,beq_self_eq_true]
   exact Ev.now _
  ·simp only [h2,if_false,beq_eq_false_iff_ne.mpr h2,Bool.false_eq_true]
   exact Ev.now _
 ·have h':(readO s).2.2.2.2=false:=by simpa using h
  simp only [h',Bool.false_and,Bool.false_eq_true,if_false]
  exact Ev.now _
theorem isAddr_i (s:ByteArray):Ev (fun k=>impl_isAddress.f k s) (norm s):=by
 unfold impl_isAddress.f
 refine Ev.bind (readAddr_i s) ?_
 by_cases h:norm s=true
 ·rw [if_pos h,h];exact Ev.now _
 ·rw [if_neg h]
  have h':norm s=false:=by simpa using h
  rw [h']
  exact Ev.now _
theorem norm_s (s:ByteArray) (hs:s.size≤140737488351232):Ev (fun k=>spec_l11Norm.f k s) (norm s):=by
 unfold spec_l11Norm.f
 refine Ev.bind (read_ev s hs) ?_
 have hF:=fine_read s
 obtain ⟨q1,q2,q3⟩:=fine_parts hF
 unfold norm
 by_cases h:(readO s).2.2.2.2=true
 ·simp only [h,if_true,Bool.true_and]
  have ho:addrOk (readO s).1 (readO s).2.1 (readO s).2.2.1 (readO s).2.2.2.1=true:=by
   rcases hF with e|e
   ·rw [e] at h;cases h
   ·exact e.2
  refine Ev.bind (addrText_ev _ _ _ _ q1 (by omega) (by omega)) ?_
  unfold addrText
  rw [if_pos ho]
  exact Ev.now _
 ·have h':(readO s).2.2.2.2=false:=by simpa using h
  simp only [h',Bool.false_and,Bool.false_eq_true,if_false]
  exact Ev.now _
end Go.Proofs.YtnnciiiackinpaaGreatDoor.Wd
end
section
namespace Go.Proofs.YtnnciiiackinpaaGreatDoor.Tr
open Go.RowKit Go.Proofs.YtnnciiiackinpaaGreatDoor.P Go.Proofs.YtnnciiiackinpaaGreatDoorW.PrintWords Go.Proofs.YtnnciiiackinpaaGreatDoorW.PrintLast Go.Proofs.YtnnciiiackinpaaGreatDoorW.PrintMore Go.Proofs.YtnnciiiackinpaaGreatDoor.B Go.Proofs.YtnnciiiackinpaaGreatDoor.Ad Go.Proofs.YtnnciiiackinpaaGreatDoor.Wd
set_option linter.unusedVariables false
set_option linter.unusedSimpArgs false
def btw (a n b:Int):Bool:=decide (a≤n) && decide (n≤b)
def hasS (l:List ByteArray) (x:ByteArray):Bool:=l.any fun s=>decide (s=x)
def fresh:List ByteArray→List ByteArray→Bool
 | _,[]=>true
 | pre,s :: r=>!(hasS pre s) && fresh (pre++[s]) r
theorem hasS_iff {l:List ByteArray} {x:ByteArray}:hasS l x=true↔x ∈ l:=by
 unfold hasS;simp
theorem fresh_iff:∀ (l pre:List ByteArray),pre.Nodup→(fresh pre l=true↔(pre++l).Nodup)
 | [],pre,h=>by simp [fresh,h]
 | s :: r,pre,h=>by
  unfold fresh
  by_cases hs:s ∈ pre
  ·rw [hasS_iff.2 hs]
   simp only [Bool.not_true,Bool.false_and,Bool.false_eq_true,false_iff]
   intro hn
   exact (List.nodup_append.1 hn).2.2 s hs s (List.mem_cons_self ..) rfl
  ·have h0:hasS pre s=false:=by
    cases h1:hasS pre s with
    | false=>rfl
    | true=>exact absurd (hasS_iff.1 h1) hs
   have h2:(pre++[s]).Nodup:=List.nodup_append.2 ⟨h,by simp,fun a ha b hb=>by rw [List.mem_singleton.1 hb];intro e;exact hs (e ▸ ha)⟩
   rw [h0,Bool.not_false,Bool.true_and,fresh_iff r (pre++[s]) h2,List.append_assoc]
   rfl
theorem fresh_nil (l:List ByteArray):fresh [] l=decide l.Nodup:=by
 have:=fresh_iff l [] List.nodup_nil
 rw [List.nil_append] at this
 by_cases h:l.Nodup
 ·rw [this.2 h];simp [h]
 ·have h1:fresh [] l=false:=by
   cases h2:fresh [] l with
   | false=>rfl
   | true=>exact absurd (this.1 h2) h
  rw [h1];simp [h]
theorem beq_L (a b:ByteArray):(a.toList == b.toList)=decide (a=b):=by
 by_cases h:a=b
 ·subst h;simp
 ·have:¬ a.toList=b.toList:=fun e=>h (toList_inj.1 e)
  simp [h,this]
def itemB (name:ByteArray) (seen:List ByteArray) (x:MI):Bool:=norm x.f0 && (decide ((readO x.f0).1=name) && (hasS seen x.f0 && btw 0 x.f1 2))
def itemsB (name:ByteArray) (seen:List ByteArray) (l:List MI):Bool:=l.all (itemB name seen) && decide (l.map (·.f0)).Nodup
def looksB (now:Int):Int→List MK→Bool
 | _,[]=>true
 | last,x :: r=>(btw last x.f0 now && (btw 0 x.f2 3 && norm x.f1)) && looksB now x.f0 r
def rulesB (l:List MR):Bool:=l.all fun r=>ruleOk r.f1
def restB (h:MH):Bool:=if h.f2=true then decide (h.f3.f1.length≤40) && (rulesB h.f3.f1 && btw 0 h.f3.f2 20) else decide (h.f3.f1.length=0) && decide (h.f3.f2=0)
def houseB (name:ByteArray) (h:MH):Bool:=isHouse h.f0 && (btw 0 h.f1 5100 && (btw 0 h.f4 2 && (decide (h.f3.f0=[name]) && restB h)))
def housesB (name:ByteArray) (seen:List ByteArray) (l:List MH):Bool:=(l.all fun h=>houseB name h && itemsB h.f0 seen h.f5) && decide (l.map (·.f0)).Nodup
def seenB (l:List ByteArray):Bool:=l.all norm && decide l.Nodup
def tripB (n:ByteArray) (now:Int) (hs:List MH) (sn:List ByteArray) (lk:List MK):Bool:=
 isName n && (btw 0 now 5000 && ((decide (sn.length≤60) && seenB sn) && ((decide (lk.length≤400) && looksB now 0 lk) && housesB n sn hs)))
structure Small (n:ByteArray) (hs:List MH) (sn:List ByteArray) (lk:List MK):Prop where
 nn:n.size≤1048576
 lh:hs.length≤1048576
 hn:∀ h ∈ hs,h.f0.size≤1048576
 h3:∀ h ∈ hs,h.f3.f0.length≤1048576
 h4:∀ h ∈ hs,h.f3.f1.length≤1048576
 s4:∀ h ∈ hs,∀ r ∈ h.f3.f1,r.f1.size≤1048576
 h5:∀ h ∈ hs,h.f5.length≤1048576
 s5:∀ h ∈ hs,∀ x ∈ h.f5,x.f0.size≤1048576
 ls:sn.length≤1048576
 s:∀ x ∈ sn,x.size≤1048576
 ll:lk.length≤1048576
 k:∀ x ∈ lk,x.f1.size≤1048576
theorem all_drop {α:Type} {l:List α} {i:Nat} (hi:i < l.length) (f:α→Bool):(l.drop i).all f=(f l[i] && (l.drop (i+1)).all f):=by
 rw [List.drop_eq_getElem_cons hi,List.all_cons]
theorem take_map {α β:Type} {l:List α} {i:Nat} (hi:i < l.length) (f:α→β):(l.take i).map f++[f l[i]]=(l.take (i+1)).map f:=by
 rw [List.take_succ_eq_append_getElem hi,List.map_append]
 rfl
theorem fresh_drop {α:Type} {l:List α} {i:Nat} (hi:i < l.length) (f:α→ByteArray):fresh ((l.take i).map f) ((l.drop i).map f)=(!(hasS ((l.take i).map f) (f l[i])) && fresh ((l.take (i+1)).map f) ((l.drop (i+1)).map f)):=by
 rw [List.drop_eq_getElem_cons hi,List.map_cons]
 show (!(hasS _ _) && fresh ((l.take i).map f++[f l[i]]) _)=_
 rw [take_map hi]
end Go.Proofs.YtnnciiiackinpaaGreatDoor.Tr
end
section
namespace Go.Proofs.YtnnciiiackinpaaGreatDoor.Tr
open Go.RowKit Go.Proofs.YtnnciiiackinpaaGreatDoor.P Go.Proofs.YtnnciiiackinpaaGreatDoorW.PrintWords Go.Proofs.YtnnciiiackinpaaGreatDoorW.PrintLast Go.Proofs.YtnnciiiackinpaaGreatDoorW.PrintMore Go.Proofs.YtnnciiiackinpaaGreatDoor.B Go.Proofs.YtnnciiiackinpaaGreatDoor.Ad Go.Proofs.YtnnciiiackinpaaGreatDoor.Wd
set_option linter.unusedVariables false
set_option linter.unusedSimpArgs false
theorem hasS_cons (a:ByteArray) (l:List ByteArray) (x:ByteArray):hasS (a :: l) x=(decide (a=x) || hasS l x):=rfl
theorem btw_s (a n b:Int):spec_l6In.f n a b=some (btw a n b):=by
 unfold spec_l6In.f btw
 by_cases h:n ≥ a
 ·simp [h,show a≤n from h]
 ·simp [h,show ¬ a≤n from h]
def firstIdx (x:ByteArray):List MH→Int→Int
 | [],_=>-1
 | h :: r,j=>if h.f0=x then j else firstIdx x r (j+1)
theorem first_iff (x:ByteArray):∀ (l:List MH) (i:Nat) (hi:i < l.length) (j:Int),l[i].f0=x→(firstIdx x l j=j+i↔hasS ((l.take i).map (·.f0)) x=false)
 | h :: r,i,hi,j,e=>by
  unfold firstIdx
  by_cases c:h.f0=x
  ·rw [if_pos c]
   cases i with
   | zero=>simp [hasS]
   | succ i=>
    simp only [List.take_succ_cons,List.map_cons,hasS,List.any_cons,c,decide_true,Bool.true_or]
    constructor
    ·intro h;omega
    ·intro h;cases h
  ·rw [if_neg c]
   cases i with
   | zero=>exact absurd e c
   | succ i=>
    have hi':i < r.length:=by simpa using hi
    have:=first_iff x r i hi' (j+1) (by simpa using e)
    rw [show j+1+(i:Int)=j+((i+1:Nat):Int) from by omega] at this
    rw [this]
    simp [hasS,c]
section
variable (n:ByteArray) (now:Int) (hs:List MH) (sn:List ByteArray) (lk:List MK)
theorem house_l (x:ByteArray) (hl:hs.length≤1048576) (d:Nat):∀ j:Nat,j+d=hs.length→Ev (fun k=>spec_l12House.l0 k x (j:Int) n now hs sn lk) (firstIdx x (hs.drop j) (j:Int)):=by
 induction d with
 | zero=>
  intro j hj
  refine Ev_succ ?_
  simp only [spec_l12House.l0,show ¬ ((j:Int) < (hs.length:Int)) from by omega,if_false]
  rw [List.drop_of_length_le (by omega)]
  exact Ev.now _
 | succ d ih=>
  intro j hj
  have hlt:j < hs.length:=by omega
  have w1:wrap64 ((j:Int)+1)=((j+1:Nat):Int):=by rw [w64 (by omega) (by omega)];rfl
  have next:=ih (j+1) (by omega)
  refine Ev_succ ?_
  simp only [spec_l12House.l0,show (j:Int) < (hs.length:Int) from by omega,nn j,if_true,rd_MH hlt]
  rw [List.drop_eq_getElem_cons hlt]
  unfold firstIdx
  by_cases h:hs[j].f0=x
  ·have h':hs[j].f0.toList=x.toList:=by rw [h]
   simp only [h',if_true,h]
   exact Ev.now _
  ·have h':¬ hs[j].f0.toList=x.toList:=fun e=>h (toList_inj.1 e)
   simp only [h',h,if_false]
   rw [w1]
   exact next
theorem house_s (x:ByteArray) (hl:hs.length≤1048576):Ev (fun k=>spec_l12House.f k n now hs sn lk x) (firstIdx x hs 0):=by
 have:=house_l n now hs sn lk x hl hs.length 0 (by omega)
 rw [List.drop_zero] at this
 exact this
section
variable (a0:ByteArray) (a1:Int) (a2:Bool) (a3:List ByteArray) (a4:List MR) (a5 a6:Int) (td:List MI)
theorem items_seen (hsl:sn.length≤1048576) (i:Nat) (hi:i < td.length) (R2:Bool→Bool) (hR:∀ b,Ev (fun k=>spec_l12Items.l2 k (i:Int) b 0 n now hs sn lk a0 a1 a2 a3 a4 a5 a6 td) (R2 b)) (d:Nat):∀ (j:Nat) (b:Bool),j+d=sn.length →
  Ev (fun k=>spec_l12Items.l1 k (i:Int) b (j:Int) n now hs sn lk a0 a1 a2 a3 a4 a5 a6 td) (R2 (b || hasS (sn.drop j) td[i].f0)):=by
 induction d with
 | zero=>
  intro j b hj
  refine Ev_succ ?_
  simp only [spec_l12Items.l1,show ¬ ((j:Int) < (sn.length:Int)) from by omega,if_false]
  rw [List.drop_of_length_le (by omega)]
  simp only [hasS,List.any_nil,Bool.or_false]
  exact hR b
 | succ d ih=>
  intro j b hj
  have hlt:j < sn.length:=by omega
  have w1:wrap64 ((j:Int)+1)=((j+1:Nat):Int):=by rw [w64 (by omega) (by omega)];rfl
  refine Ev_succ ?_
  simp only [spec_l12Items.l1,show (j:Int) < (sn.length:Int) from by omega,show (i:Int) < (td.length:Int) from by omega,nn j,nn i,if_true,rd_S hlt,rd_MI hi]
  rw [w1,List.drop_eq_getElem_cons hlt]
  cases b with
  | true=>
   simp only [if_true]
   have:=ih (j+1) true (by omega)
   rw [Bool.true_or] at this ⊢
   exact this
  | false=>
   simp only [Bool.false_eq_true,if_false,beq_L]
   have:=ih (j+1) (decide (sn[j]=td[i].f0)) (by omega)
   rw [Bool.false_or,hasS_cons]
   exact this
theorem items_old (hl:td.length≤1048576) (i:Nat) (hi:i < td.length) (R:Bool) (hR:Ev (fun k=>spec_l12Items.l0 k ((i+1:Nat):Int) n now hs sn lk a0 a1 a2 a3 a4 a5 a6 td) R) (d:Nat):∀ (j:Nat) (b:Bool),j+d=i →
  Ev (fun k=>spec_l12Items.l2 k (i:Int) b (j:Int) n now hs sn lk a0 a1 a2 a3 a4 a5 a6 td) ((b && !(hasS (((td.take i).drop j).map (·.f0)) td[i].f0)) && R):=by
 induction d with
 | zero=>
  intro j b hj
  have w1:wrap64 ((i:Int)+1)=((i+1:Nat):Int):=by rw [w64 (by omega) (by omega)];rfl
  refine Ev_succ ?_
  simp only [spec_l12Items.l2,show ¬ ((j:Int) < (i:Int)) from by omega,if_false]
  rw [List.drop_of_length_le (by rw [List.length_take];omega),w1]
  cases b with
  | true=>simpa [hasS] using hR
  | false=>simp only [Bool.false_eq_true,if_false,Bool.false_and];exact Ev.now _
 | succ d ih=>
  intro j b hj
  have hlt:j < td.length:=by omega
  have hlt2:j < (td.take i).length:=by rw [List.length_take];omega
  have w1:wrap64 ((j:Int)+1)=((j+1:Nat):Int):=by rw [w64 (by omega) (by omega)];rfl
  refine Ev_succ ?_
  simp only [spec_l12Items.l2,show (j:Int) < (i:Int) from by omega,show (j:Int) < (td.length:Int) from by omega,show (i:Int) < (td.length:Int) from by omega,nn j,nn i,if_true,rd_MI hlt,rd_MI hi]
  rw [w1,List.drop_eq_getElem_cons hlt2,List.getElem_take]
  cases b with
  | false=>
   simp only [Bool.false_eq_true,if_false,Bool.false_and]
   have:=ih (j+1) false (by omega)
   rw [Bool.false_and,Bool.false_and] at this
   exact this
  | true=>
   simp only [if_true,Bool.true_and]
   rw [show (td[j].f0.toList != td[i].f0.toList) = !(decide (td[j].f0=td[i].f0)) from by rw [bne,beq_L]]
   have:=ih (j+1) (!(decide (td[j].f0=td[i].f0))) (by omega)
   rw [List.map_cons,hasS_cons,Bool.not_or]
   exact this
theorem items_l (hsl:sn.length≤1048576) (hn:sn.all norm=true) (hl:td.length≤1048576) (hz:∀ x ∈ td,x.f0.size≤1048576) (d:Nat):∀ i:Nat,i+d=td.length →
  Ev (fun k=>spec_l12Items.l0 k (i:Int) n now hs sn lk a0 a1 a2 a3 a4 a5 a6 td) ((td.drop i).all (itemB a0 sn) && fresh ((td.take i).map (·.f0)) ((td.drop i).map (·.f0))):=by
 induction d with
 | zero=>
  intro i hi
  refine Ev_succ ?_
  simp only [spec_l12Items.l0,show ¬ ((i:Int) < (td.length:Int)) from by omega,if_false]
  rw [List.drop_of_length_le (by omega)]
  simp only [List.all_nil,List.map_nil,fresh,Bool.true_and]
  exact Ev.now _
 | succ d ih=>
  intro i hi
  have hlt:i < td.length:=by omega
  have next:=ih (i+1) (by omega)
  have stop:Ev (fun k=>spec_l12Items.j1 k (i:Int) true n now hs sn lk a0 a1 a2 a3 a4 a5 a6 td) false:=Ev_succ (by simp only [spec_l12Items.j1,if_true];exact Ev.now _)
  have old:=items_old n now hs sn lk a0 a1 a2 a3 a4 a5 a6 td hl i hlt _ next i 0
  have seen:=items_seen n now hs sn lk a0 a1 a2 a3 a4 a5 a6 td hsl i hlt _ (fun b=>old b (by omega)) sn.length 0 false (by omega)
  rw [List.drop_zero,List.drop_zero,Bool.false_or] at seen
  have hz2:=hz _ (List.getElem_mem hlt)
  have hin:hasS sn td[i].f0=true→norm td[i].f0=true:=fun h=>List.all_eq_true.1 hn _ (hasS_iff.1 h)
  have ho:norm td[i].f0=true→(readO td[i].f0).2.2.2.2=true:=fun h=>by
   unfold norm at h
   exact (Bool.and_eq_true _ _ ▸ h).1
  refine Ev_succ ?_
  simp only [spec_l12Items.l0,show (i:Int) < (td.length:Int) from by omega,nn i,if_true,rd_MI hlt]
  rw [all_drop hlt,fresh_drop hlt]
  unfold itemB at seen ⊢
  generalize hA:(td.drop (i+1)).all (fun x=>norm x.f0 && (decide ((readO x.f0).1=a0) && (hasS sn x.f0 && btw 0 x.f1 2)))=A at seen ⊢
  generalize fresh ((td.take (i+1)).map (·.f0)) ((td.drop (i+1)).map (·.f0))=F at seen ⊢
  generalize hasS ((td.take i).map (·.f0)) td[i].f0=o at seen ⊢
  refine Ev.bind (read_ev _ (by omega)) ?_
  by_cases h1:(readO td[i].f0).2.2.2.2=true
  ·simp only [h1,if_true]
   by_cases hh:(readO td[i].f0).1=a0
   ·have hh':(readO td[i].f0).1.toList=a0.toList:=by rw [hh]
    simp only [hh',if_true,btw_s,Option.bind_some,hh,decide_true,Bool.true_and]
    cases btw 0 td[i].f1 2 with
    | false=>
     simp only [Bool.not_false,Bool.and_false,Bool.false_and]
     exact stop
    | true=>
     simp only [Bool.not_true,Bool.and_true]
     refine Ev_succ ?_
     simp only [spec_l12Items.j1,Bool.false_eq_true,if_false]
     have e:(hasS sn td[i].f0 && !o && (A && F))=(norm td[i].f0 && hasS sn td[i].f0 && A && (!o && F)):=by
      cases h2:hasS sn td[i].f0 with
      | false=>simp
      | true=>rw [hin h2];cases o <;> cases A <;> rfl
     rw [e] at seen
     exact seen
   ·have hh':¬ (readO td[i].f0).1.toList=a0.toList:=fun e=>hh (toList_inj.1 e)
    simp only [hh',if_false,hh,decide_false,Bool.false_and,Bool.and_false]
    exact stop
  ·have h1':norm td[i].f0=false:=by
    cases h2:norm td[i].f0 with
    | false=>rfl
    | true=>exact absurd (ho h2) h1
   simp only [h1,Bool.false_eq_true,if_false,h1',Bool.false_and]
   exact stop
theorem items_s (hsl:sn.length≤1048576) (hn:sn.all norm=true) (hl:td.length≤1048576) (hz:∀ x ∈ td,x.f0.size≤1048576) :
  Ev (fun k=>spec_l12Items.f k n now hs sn lk a0 a1 a2 a3 a4 a5 a6 td) (itemsB a0 sn td):=by
 have:=items_l n now hs sn lk a0 a1 a2 a3 a4 a5 a6 td hsl hn hl hz td.length 0 (by omega)
 rw [List.drop_zero,List.take_zero,List.map_nil,fresh_nil] at this
 exact this
end
def houseV (h:MH) (q:Bool):Bool:=isHouse h.f0 && (q && (btw 0 h.f1 5100 && (btw 0 h.f4 2 && (decide (h.f3.f0=[n]) && (btw 0 h.f3.f2 20 && (decide (h.f3.f1.length≤40) && (rulesB h.f3.f1 && ((h.f2 || (decide (h.f3.f1.length=0) && decide (h.f3.f2=0))) && itemsB h.f0 sn h.f5))))))))
theorem houseV_eq (h:MH) (q:Bool):houseV n sn h q=((houseB n h && itemsB h.f0 sn h.f5) && q):=by
 unfold houseV houseB restB
 cases h2:h.f2 with
 | true=>
  simp only [if_true,Bool.true_or,Bool.true_and]
  cases isHouse h.f0 <;> cases q <;> cases btw 0 h.f1 5100 <;> cases btw 0 h.f4 2 <;> cases decide (h.f3.f0=[n]) <;> cases btw 0 h.f3.f2 20 <;> cases decide (h.f3.f1.length≤40) <;> cases rulesB h.f3.f1 <;> cases itemsB h.f0 sn h.f5 <;> rfl
 | false=>
  simp only [Bool.false_eq_true,if_false,Bool.false_or]
  by_cases h0:h.f3.f1.length=0
  ·have hr:rulesB h.f3.f1=true:=by rw [List.length_eq_zero_iff.1 h0];rfl
   by_cases hw:h.f3.f2=0
   ·rw [hr,hw,h0]
    simp only [show btw 0 0 20=true from rfl,decide_true,show (0:Nat)≤40 from by omega,Bool.true_and]
    cases isHouse h.f0 <;> cases q <;> cases btw 0 h.f1 5100 <;> cases btw 0 h.f4 2 <;> cases decide (h.f3.f0=[n]) <;> cases itemsB h.f0 sn h.f5 <;> rfl
   ·simp only [hw,decide_false,Bool.and_false,Bool.false_and]
  ·simp only [h0,decide_false,Bool.false_and,Bool.and_false]
theorem rules_s (rs:List MR) (hr:rs.length≤1048576) (a0:ByteArray) (a1:Int) (a2:Bool) (a3:List ByteArray) (a5 a6:Int) (td:List MI) (R:Bool) (hR:Ev (fun k=>spec_l12HouseOk.l0 k (rs.length:Int) n now hs sn lk a0 a1 a2 a3 rs a5 a6 td) R) (d:Nat):∀ j:Nat,j+d=rs.length →
  Ev (fun k=>spec_l12HouseOk.l0 k (j:Int) n now hs sn lk a0 a1 a2 a3 rs a5 a6 td) (rulesB (rs.drop j) && R):=by
 induction d with
 | zero=>
  intro j hj
  obtain rfl:j=rs.length:=by omega
  rw [List.drop_of_length_le (by omega)]
  exact hR
 | succ d ih=>
  intro j hj
  have hlt:j < rs.length:=by omega
  have e4:wrap64 ((j:Int)+1)=((j+1:Nat):Int):=by rw [w64 (by omega) (by omega)];rfl
  have next:=ih (j+1) (by omega)
  refine Ev_succ ?_
  simp only [spec_l12HouseOk.l0,show (j:Int) < (rs.length:Int) from by omega,nn j,if_true]
  unfold rulesB at next ⊢
  rw [rd_MR hlt,e4,all_drop hlt]
  refine Ev.bind (ruleOk_spec _) ?_
  cases ruleOk rs[j].f1 with
  | true=>simp only [if_true,Bool.true_and];exact next
  | false=>simp only [Bool.false_eq_true,if_false,Bool.false_and];exact Ev.now _
theorem one_name' (l:List ByteArray) (n:ByteArray):decide (l=[n])=(decide (l.length=1) && decide (rdOf ByteArray.empty l 0=n)):=by
 match l with
 | []=>simp
 | [a]=>simp [rdOf]
 | a :: b :: r=>simp
theorem houseOk_s (hS:Small n hs sn lk) (hn:sn.all norm=true) (i:Nat) (hi:i < hs.length) :
  Ev (fun k=>spec_l12HouseOk.f k n now hs sn lk (i:Int)) (houseV n sn hs[i] (!(hasS ((hs.take i).map (·.f0)) hs[i].f0))):=by
 have hm:=List.getElem_mem hi
 have hl:=hS.lh
 have z0:=hS.hn _ hm
 have z4:=hS.h4 _ hm
 have z5:=hS.h5 _ hm
 have y5:=hS.s5 _ hm
 have hf:=first_iff hs[i].f0 hs i hi 0 rfl
 rw [Int.zero_add] at hf
 have ef:=house_s n now hs sn lk hs[i].f0 hl
 unfold spec_l12HouseOk.f houseV
 simp only [show (i:Int) < (hs.length:Int) from by omega,nn i,if_true,rd_MH hi]
 generalize hs[i]=h at z0 z4 z5 y5 hf ef ⊢
 obtain ⟨h0,h1,h2,⟨h3,h4,h5⟩,h6,h7⟩:=h
 simp only at z0 z4 z5 y5 hf ef ⊢
 have stop:Ev (fun k=>spec_l12HouseOk.j0 k true n now hs sn lk h0 h1 h2 h3 h4 h5 h6 h7) false:=Ev_succ (by simp only [spec_l12HouseOk.j0,if_true];exact Ev.now _)
 refine Ev.bind (house_ev h0 (by omega)) ?_
 cases isHouse h0 with
 | false=>simp only [Bool.false_eq_true,if_false,Bool.false_and];exact stop
 | true=>
  simp only [if_true,Bool.true_and]
  refine Ev.bind ef ?_
  cases hq:hasS ((hs.take i).map (·.f0)) h0 with
  | true=>
   rw [hq] at hf
   have:¬ firstIdx h0 hs 0=(i:Int):=fun e=>by cases hf.1 e
   simp only [this,if_false,Bool.not_true,Bool.false_and]
   exact stop
  | false=>
   rw [hq] at hf
   simp only [hf.2 rfl,if_true,Bool.not_false,Bool.true_and,btw_s,Option.bind_some]
   cases btw 0 h1 5100 with
   | false=>simp only [Bool.false_eq_true,if_false,Bool.false_and];exact stop
   | true=>
    simp only [if_true,Bool.true_and]
    cases btw 0 h6 2 with
    | false=>simp only [Bool.false_eq_true,if_false,Bool.false_and];exact stop
    | true=>
     simp only [if_true,Bool.true_and]
     rw [one_name']
     by_cases c1:h3.length=1
     ·simp only [show (h3.length:Int)=1 from by omega,show (0:Int) < 1 from by omega,if_true,c1,decide_true,Bool.true_and]
      by_cases c2:rdOf ByteArray.empty h3 0=n
      ·have c2':(rdOf ByteArray.empty h3 0).toList=n.toList:=by rw [c2]
       simp only [c2',if_true,c2,decide_true,Bool.true_and]
       cases btw 0 h5 20 with
       | false=>simp only [Bool.false_eq_true,if_false,Bool.false_and];exact stop
       | true=>
        simp only [if_true,Bool.true_and]
        refine Ev_succ ?_
        by_cases c40:h4.length≤40
        ·simp only [spec_l12HouseOk.j0,show decide ((h4.length:Int) > 40)=false from decide_eq_false (by omega),Bool.false_eq_true,if_false,c40,decide_true,Bool.true_and]
         have ei:=items_s n now hs sn lk h0 h1 h2 h3 h4 h5 h6 h7 hS.ls hn z5 y5
         have last:Ev (fun k=>spec_l12HouseOk.l0 k (h4.length:Int) n now hs sn lk h0 h1 h2 h3 h4 h5 h6 h7) ((h2 || (decide (h4.length=0) && decide (h5=0))) && itemsB h0 sn h7):=by
          refine Ev_succ ?_
          simp only [spec_l12HouseOk.l0,show ¬ ((h4.length:Int) < (h4.length:Int)) from by omega,if_false]
          cases h2 with
          | true=>
           simp only [if_true,Bool.true_or,Bool.true_and]
           exact Ev.bind ei (Ev.now _)
          | false=>
           simp only [Bool.false_eq_true,if_false,Bool.false_or]
           by_cases d0:h4.length=0
           ·by_cases dw:h5=0
            ·simp only [show (h4.length:Int)=0 from by omega,d0,dw,if_true,decide_true,Bool.true_and]
             subst dw
             exact Ev.bind ei (Ev.now _)
            ·simp only [show (h4.length:Int)=0 from by omega,d0,dw,if_true,if_false,decide_true,decide_false,Bool.true_and,Bool.false_and]
             exact Ev.now _
           ·simp only [show ¬ (h4.length:Int)=0 from by omega,d0,if_false,decide_false,Bool.false_and]
            exact Ev.now _
         have:=rules_s n now hs sn lk h4 z4 h0 h1 h2 h3 h5 h6 h7 _ last h4.length 0 (by omega)
         rw [List.drop_zero] at this
         exact this
        ·simp only [spec_l12HouseOk.j0,show decide ((h4.length:Int) > 40)=true from decide_eq_true (by omega),if_true,c40,decide_false,Bool.false_and]
         exact Ev.now _
      ·have c2':¬ (rdOf ByteArray.empty h3 0).toList=n.toList:=fun e=>c2 (toList_inj.1 e)
       simp only [c2',if_false,c2,decide_false,Bool.false_and]
       exact stop
     ·simp only [show ¬ (h3.length:Int)=1 from by omega,if_false,c1,decide_false,Bool.false_and]
      exact stop
theorem looks_s (hl:lk.length≤1048576) (hz:∀ x ∈ lk,x.f1.size≤1048576) (d:Nat):∀ (i:Nat) (last:Int),i+d=lk.length→0≤last→(i=0→last=0)→(∀ h:i - 1 < lk.length,0 < i→lk[i - 1].f0=last) →
  Ev (fun k=>spec_TripOk.l3 k (i:Int) n now hs sn lk) (looksB now last (lk.drop i)):=by
 induction d with
 | zero=>
  intro i last hi _ _ _
  refine Ev_succ ?_
  simp only [spec_TripOk.l3,show ¬ ((i:Int) < (lk.length:Int)) from by omega,if_false]
  rw [List.drop_of_length_le (by omega)]
  exact Ev.now _
 | succ d ih=>
  intro i last hi h0 hz0 hp
  have hlt:i < lk.length:=by omega
  have w1:wrap64 ((i:Int)+1)=((i+1:Nat):Int):=by rw [w64 (by omega) (by omega)];rfl
  have hz1:=hz _ (List.getElem_mem hlt)
  have hn:=norm_s lk[i].f1 (by omega)
  rw [List.drop_eq_getElem_cons hlt]
  simp only [looksB]
  refine Ev_succ ?_
  simp only [spec_TripOk.l3,show (i:Int) < (lk.length:Int) from by omega,nn i,if_true,rd_MK hlt,btw_s,Option.bind_some]
  by_cases ht:btw 0 lk[i].f0 now=true
  ·have ht2:0≤lk[i].f0∧lk[i].f0≤now:=by
    unfold btw at ht
    simpa using ht
   have next:=ih (i+1) (lk[i].f0) (by omega) ht2.1 (by omega) (fun _ _=>rfl)
   have body:Ev (fun k=>(spec_l11Norm.f k lk[i].f1).bind fun t292=>(if t292=true then (if btw 0 lk[i].f2 3=true then spec_TripOk.l3 k (wrap64 ((i:Int)+1)) n now hs sn lk else some false) else some false)) ((btw 0 lk[i].f2 3 && norm lk[i].f1) && looksB now lk[i].f0 (lk.drop (i+1))):=by
    refine Ev.bind hn ?_
    rw [w1]
    cases norm lk[i].f1 with
    | false=>simp only [Bool.false_eq_true,if_false,Bool.and_false,Bool.false_and];exact Ev.now _
    | true=>
     cases btw 0 lk[i].f2 3 with
     | false=>simp only [Bool.false_eq_true,if_false,if_true,Bool.false_and];exact Ev.now _
     | true=>simp only [if_true,Bool.true_and];exact next
   simp only [ht,if_true]
   by_cases hi0:i=0
   ·have hb:btw last lk[i].f0 now=true:=by rw [hz0 hi0];exact ht
    simp only [show ¬ ((i:Int) > 0) from by omega,if_false,hb,Bool.true_and]
    exact body
   ·have w2:wrap64 ((i:Int) - 1)=((i - 1:Nat):Int):=by rw [w64 (by omega) (by omega)];omega
    have hlt2:i - 1 < lk.length:=by omega
    have hl1:=hp hlt2 (by omega)
    simp only [show ((i:Int) > 0) from by omega,if_true,w2,nn,show ((i - 1:Nat):Int) < (lk.length:Int) from by omega,rd_MK hlt2,hl1]
    by_cases hgt:last > lk[i].f0
    ·have hb:btw last lk[i].f0 now=false:=by unfold btw;simp [show ¬ last≤lk[i].f0 from by omega]
     simp only [hgt,if_true,hb,Bool.false_and]
     exact Ev.now _
    ·have hb:btw last lk[i].f0 now=true:=by unfold btw;simp [show last≤lk[i].f0 from by omega,ht2.2]
     simp only [hgt,if_false,hb,Bool.true_and]
     exact body
  ·have hb:btw last lk[i].f0 now=false:=by
    unfold btw at ht ⊢
    simp only [Bool.and_eq_true,decide_eq_true_eq,not_and] at ht
    by_cases c:last≤lk[i].f0
    ·simp [c,show ¬ lk[i].f0≤now from ht (by omega)]
    ·simp [c]
   simp only [ht,Bool.false_eq_true,if_false,hb,Bool.false_and]
   exact Ev.now _
theorem houses_s (hS:Small n hs sn lk) (hn:sn.all norm=true) (R:Bool) (hR:Ev (fun k=>spec_TripOk.l3 k 0 n now hs sn lk) R) (d:Nat):∀ i:Nat,i+d=hs.length →
  Ev (fun k=>spec_TripOk.l2 k (i:Int) n now hs sn lk) ((((hs.drop i).all fun h=>houseB n h && itemsB h.f0 sn h.f5) && fresh ((hs.take i).map (·.f0)) ((hs.drop i).map (·.f0))) && R):=by
 have hl:=hS.lh
 induction d with
 | zero=>
  intro i hi
  refine Ev_succ ?_
  simp only [spec_TripOk.l2,show ¬ ((i:Int) < (hs.length:Int)) from by omega,if_false]
  rw [List.drop_of_length_le (by omega)]
  simp only [List.all_nil,List.map_nil,fresh,Bool.true_and]
  exact hR
 | succ d ih=>
  intro i hi
  have hlt:i < hs.length:=by omega
  have w1:wrap64 ((i:Int)+1)=((i+1:Nat):Int):=by rw [w64 (by omega) (by omega)];rfl
  have next:=ih (i+1) (by omega)
  refine Ev_succ ?_
  simp only [spec_TripOk.l2,show (i:Int) < (hs.length:Int) from by omega,if_true]
  rw [all_drop hlt,fresh_drop hlt,w1]
  refine Ev.bind (houseOk_s n now hs sn lk hS hn i hlt) ?_
  rw [houseV_eq]
  generalize (hs.drop (i+1)).all (fun h=>houseB n h && itemsB h.f0 sn h.f5)=A at next ⊢
  generalize fresh ((hs.take (i+1)).map (·.f0)) ((hs.drop (i+1)).map (·.f0))=F at next ⊢
  cases (houseB n hs[i] && itemsB hs[i].f0 sn hs[i].f5) with
  | false=>simp only [Bool.false_and,Bool.false_eq_true,if_false];exact Ev.now _
  | true=>
   simp only [Bool.true_and]
   cases hasS ((hs.take i).map (·.f0)) hs[i].f0 with
   | true=>simp only [Bool.not_true,Bool.false_eq_true,if_false,Bool.false_and,Bool.and_false];exact Ev.now _
   | false=>simp only [Bool.not_false,if_true,Bool.true_and];exact next
theorem seen_old (hl:sn.length≤1048576) (i:Nat) (hi:i < sn.length) (R:Bool) (hR:Ev (fun k=>spec_TripOk.l0 k ((i+1:Nat):Int) n now hs sn lk) R) (d:Nat):∀ j:Nat,j+d=i →
  Ev (fun k=>spec_TripOk.l1 k (i:Int) (j:Int) n now hs sn lk) (!(hasS ((sn.take i).drop j) sn[i]) && R):=by
 induction d with
 | zero=>
  intro j hj
  have w1:wrap64 ((i:Int)+1)=((i+1:Nat):Int):=by rw [w64 (by omega) (by omega)];rfl
  refine Ev_succ ?_
  simp only [spec_TripOk.l1,show ¬ ((j:Int) < (i:Int)) from by omega,if_false]
  rw [List.drop_of_length_le (by rw [List.length_take];omega),w1]
  simpa [hasS] using hR
 | succ d ih=>
  intro j hj
  have hlt:j < sn.length:=by omega
  have hlt2:j < (sn.take i).length:=by rw [List.length_take];omega
  have w1:wrap64 ((j:Int)+1)=((j+1:Nat):Int):=by rw [w64 (by omega) (by omega)];rfl
  have next:=ih (j+1) (by omega)
  refine Ev_succ ?_
  simp only [spec_TripOk.l1,show (j:Int) < (i:Int) from by omega,show (j:Int) < (sn.length:Int) from by omega,show (i:Int) < (sn.length:Int) from by omega,nn j,nn i,if_true,rd_S hlt,rd_S hi]
  rw [w1,List.drop_eq_getElem_cons hlt2,List.getElem_take]
  by_cases h:sn[j]=sn[i]
  ·have h':sn[j].toList=sn[i].toList:=by rw [h]
   rw [hasS_cons,show decide (sn[j]=sn[i])=true from by simp [h]]
   simp only [h',if_true,Bool.true_or,Bool.not_true,Bool.false_and]
   exact Ev.now _
  ·have h':¬ sn[j].toList=sn[i].toList:=fun e=>h (toList_inj.1 e)
   simp only [h',if_false]
   rw [hasS_cons,show decide (sn[j]=sn[i])=false from by simp [h],Bool.false_or]
   exact next
theorem seen_s (hl:sn.length≤1048576) (hz:∀ x ∈ sn,x.size≤1048576) (R:Bool) (hR:sn.all norm=true→Ev (fun k=>spec_TripOk.l2 k 0 n now hs sn lk) R) (d:Nat):∀ i:Nat,i+d=sn.length→((sn.take i).all norm=true) →
  Ev (fun k=>spec_TripOk.l0 k (i:Int) n now hs sn lk) (((sn.drop i).all norm && fresh (sn.take i) (sn.drop i)) && R):=by
 induction d with
 | zero=>
  intro i hi hp
  refine Ev_succ ?_
  simp only [spec_TripOk.l0,show ¬ ((i:Int) < (sn.length:Int)) from by omega,if_false]
  rw [List.take_of_length_le (by omega)] at hp
  rw [List.drop_of_length_le (by omega)]
  simp only [List.all_nil,fresh,Bool.true_and]
  exact hR hp
 | succ d ih=>
  intro i hi hp
  have hlt:i < sn.length:=by omega
  have hz1:=hz _ (List.getElem_mem hlt)
  have hf:=fresh_drop hlt (fun x=>x)
  simp only [List.map_id'] at hf
  refine Ev_succ ?_
  simp only [spec_TripOk.l0,show (i:Int) < (sn.length:Int) from by omega,nn i,if_true,rd_S hlt]
  rw [all_drop hlt,hf]
  refine Ev.bind (norm_s sn[i] (by omega)) ?_
  cases hn:norm sn[i] with
  | false=>simp only [Bool.false_eq_true,if_false,Bool.false_and];exact Ev.now _
  | true=>
   simp only [if_true,Bool.true_and]
   have next:=ih (i+1) (by omega) (by rw [List.take_succ_eq_append_getElem hlt,List.all_append,hp];simp [hn])
   have:=seen_old n now hs sn lk hl i hlt _ next i 0 (by omega)
   rw [List.drop_zero] at this
   have e:(!(hasS (sn.take i) sn[i]) && ((sn.drop (i+1)).all norm && fresh (sn.take (i+1)) (sn.drop (i+1)) && R))=((sn.drop (i+1)).all norm && (!(hasS (sn.take i) sn[i]) && fresh (sn.take (i+1)) (sn.drop (i+1))) && R):=by
    cases hasS (sn.take i) sn[i] <;> cases (sn.drop (i+1)).all norm <;> rfl
   rw [e] at this
   exact this
theorem tripOk_s (hS:Small n hs sn lk):Ev (fun k=>spec_TripOk.f k n now hs sn lk) (tripB n now hs sn lk):=by
 have stop:Ev (fun k=>spec_TripOk.j0 k true n now hs sn lk) false:=Ev_succ (by simp only [spec_TripOk.j0,if_true];exact Ev.now _)
 unfold spec_TripOk.f tripB
 refine Ev.bind (name_ev n (by have:=hS.nn;omega)) ?_
 cases isName n with
 | false=>simp only [Bool.false_eq_true,if_false,Bool.false_and];exact stop
 | true=>
  simp only [if_true,btw_s,Option.bind_some,Bool.true_and]
  cases btw 0 now 5000 with
  | false=>simp only [Bool.false_eq_true,if_false,Bool.false_and];exact stop
  | true=>
   simp only [if_true,Bool.true_and]
   by_cases h60:sn.length≤60
   ·simp only [show ¬ ((sn.length:Int) > 60) from by omega,if_false,h60,decide_true,Bool.true_and]
    refine Ev_succ ?_
    by_cases h400:lk.length≤400
    ·simp only [spec_TripOk.j0,show decide ((lk.length:Int) > 400)=false from decide_eq_false (by omega),Bool.false_eq_true,if_false,h400,decide_true,Bool.true_and]
     have e3:=looks_s n now hs sn lk hS.ll hS.k lk.length 0 0 (by omega) (by omega) (fun _=>rfl) (fun _ h=>by omega)
     rw [List.drop_zero] at e3
     have e0:=seen_s n now hs sn lk hS.ls hS.s _ (fun hn=>houses_s n now hs sn lk hS hn _ e3 hs.length 0 (by omega)) sn.length 0 (by omega) (by simp)
     rw [List.drop_zero,List.take_zero,List.drop_zero,List.take_zero,List.map_nil,fresh_nil,fresh_nil] at e0
     have e:(((sn.all norm && decide sn.Nodup) && (((hs.all fun h=>houseB n h && itemsB h.f0 sn h.f5) && decide (hs.map (·.f0)).Nodup) && looksB now 0 lk)))=(seenB sn && (looksB now 0 lk && housesB n sn hs)):=by
      unfold seenB housesB
      cases (sn.all norm && decide sn.Nodup) <;> cases looksB now 0 lk <;> simp
     rw [← e]
     exact e0
    ·simp only [spec_TripOk.j0,show decide ((lk.length:Int) > 400)=true from decide_eq_true (by omega),if_true,h400,decide_false,Bool.false_and,Bool.and_false]
     exact Ev.now _
   ·simp only [show ((sn.length:Int) > 60) from by omega,if_true,h60,decide_false,Bool.false_and]
    exact stop
end
end Go.Proofs.YtnnciiiackinpaaGreatDoor.Tr
end
section
namespace Go.Proofs.YtnnciiiackinpaaGreatDoor.Tr
open Go.RowKit Go.Proofs.YtnnciiiackinpaaGreatDoor.P Go.Proofs.YtnnciiiackinpaaGreatDoorW.PrintWords Go.Proofs.YtnnciiiackinpaaGreatDoorW.PrintLast Go.Proofs.YtnnciiiackinpaaGreatDoorW.PrintMore Go.Proofs.YtnnciiiackinpaaGreatDoor.B Go.Proofs.YtnnciiiackinpaaGreatDoor.Ad
set_option linter.unusedVariables false
set_option linter.unusedSimpArgs false
theorem small_of {f0:ByteArray} {f2:List LH} {f3:List ByteArray} {f4:List LK} (h:TB 1048576 1048576 f0 f2 f3 f4):Small f0 (f2.map cH) f3 (f4.map cK):=by
 refine ⟨h.n,by rw [List.length_map];exact h.lh,?_,?_,?_,?_,?_,?_,h.ls,h.s,by rw [List.length_map];exact h.lk,?_⟩
 all_goals intro y hy
 all_goals obtain ⟨q,hq,rfl⟩:=List.mem_map.1 hy
 ·exact (h.h q hq).n
 ·exact (h.h q hq).l3
 ·show (q.f3.f1.map cR).length≤_
  rw [List.length_map]
  exact (h.h q hq).l4
 ·intro r hr
  obtain ⟨z,hz,rfl⟩:=List.mem_map.1 hr
  exact (h.h q hq).s4 z hz
 ·show (q.f5.map cI).length≤_
  rw [List.length_map]
  exact (h.h q hq).l7
 ·intro r hr
  obtain ⟨z,hz,rfl⟩:=List.mem_map.1 hr
  exact (h.h q hq).s7 z hz
 ·exact h.k q hq
theorem toT_b {f0:ByteArray} (f1:Int) {f2:List LH} {f3:List ByteArray} {f4:List LK} (h:TB 1048576 1048576 f0 f2 f3 f4):Ev (fun k=>laws_toTrip.f k f0 f1 f2 f3 f4) (f0,f1,f2.map cH,f3,f4.map cK):=
 toT_ev f0 f1 f2 f3 f4 h.lh h.h h.ls h.lk
theorem eqT_b {f0:ByteArray} (f1:Int) {f2:List LH} {f3:List ByteArray} {f4:List LK} (h:TB 1048576 1048576 f0 f2 f3 f4):Ev (fun k=>laws_eqTrip.f k f0 f1 (f2.map cH) f3 (f4.map cK) f0 f1 (f2.map cH) f3 (f4.map cK)) true:=
 eqT_ev f0 f1 _ f3 _ (small_of h).lh (fun y hy=>⟨(small_of h).h3 y hy,(small_of h).h4 y hy,(small_of h).h5 y hy⟩) h.ls (small_of h).ll
end Go.Proofs.YtnnciiiackinpaaGreatDoor.Tr
end
section
namespace Go.Proofs.YtnnciiiackinpaaGreatDoor.Tr
open Go.RowKit Go.Proofs.YtnnciiiackinpaaGreatDoor.P Go.Proofs.YtnnciiiackinpaaGreatDoorW.PrintWords Go.Proofs.YtnnciiiackinpaaGreatDoorW.PrintLast Go.Proofs.YtnnciiiackinpaaGreatDoorW.PrintMore Go.Proofs.YtnnciiiackinpaaGreatDoor.B Go.Proofs.YtnnciiiackinpaaGreatDoor.Tx
set_option linter.unusedVariables false
set_option linter.unusedSimpArgs false
theorem ex_bind {α β:Type} {f:Nat→Option α} {a:α} {g:Nat→α→Option β} {P:β→Prop} (h:Ev f a) (h2:∃ y,Ev (fun k=>g k a) y∧P y):∃ y,Ev (fun k=>(f k).bind (g k)) y∧P y:=by
 obtain ⟨y,hy,hp⟩:=h2
 exact ⟨y,Ev.bind h hy,hp⟩
theorem ex_imp {β:Type} {f:Nat→Option β} {P Q:β→Prop} (h:∃ y,Ev f y∧P y) (hp:∀ y,P y→Q y):∃ y,Ev f y∧Q y:=by
 obtain ⟨y,hy,hq⟩:=h
 exact ⟨y,hy,hp y hq⟩
theorem ex_succ {β:Type} {f:Nat→Option β} {P:β→Prop} (h:∃ y,Ev (fun k=>f (k+1)) y∧P y):∃ y,Ev f y∧P y:=by
 obtain ⟨y,hy,hp⟩:=h
 exact ⟨y,Ev_succ hy,hp⟩
theorem markR_l (d:Nat):∀ (i:Nat) (l:List MR) (x:Int),i+d=l.length→l.length≤1048576→0≤x→x+2 * d≤1000000000000000→∃ y:Int×List MR,Ev (fun k=>laws_markRuleS.l0 k l x (i:Int)) y∧y.1=x+2 * d:=by
 induction d with
 | zero=>
  intro i l x hi hl h0 h1
  refine ex_succ ⟨(x,l),?_,by omega⟩
  simp only [laws_markRuleS.l0,show ¬ ((i:Int) < (l.length:Int)) from by omega,if_false]
  exact Ev.now _
 | succ d ih=>
  intro i l x hi hl h0 h1
  have e0:wrap64 (x+1)=x+1:=by rw [w64 (by omega) (by omega)]
  have e1:wrap64 (x+1+1)=x+2:=by rw [w64 (by omega) (by omega)];omega
  have e9:wrap64 ((i:Int)+1)=((i+1:Nat):Int):=by rw [w64 (by omega) (by omega)];rfl
  refine ex_succ ?_
  simp only [laws_markRuleS.l0,show ((i:Int) < (l.length:Int)) from by omega,nn i,if_true,Option.bind_some,Int.toNat_natCast,e0,e1,e9]
  refine ex_bind (mt_ev (x+1) (by omega) (by omega)) ?_
  try simp only [Option.bind_some,if_true]
  exact ex_imp (ih (i+1) _ (x+2) (by simp only [List.length_set];omega) (by simp only [List.length_set];omega) (by omega) (by omega)) (fun y h=>by omega)
theorem markR_ev (l:List MR) (x:Int) (hl:l.length≤1048576) (h0:0≤x) (h1:x≤900000000000000):∃ y:Int×List MR,Ev (fun k=>laws_markRuleS.f k l x) y∧y.1=x+2 * l.length:=
 markR_l l.length 0 l x (by omega) hl h0 (by omega)
theorem markI_l (d:Nat):∀ (i:Nat) (l:List MI) (x:Int),i+d=l.length→l.length≤1048576→0≤x→x+2 * d≤1000000000000000→∃ y:Int×List MI,Ev (fun k=>laws_markItemS.l0 k l x (i:Int)) y∧y.1=x+2 * d:=by
 induction d with
 | zero=>
  intro i l x hi hl h0 h1
  refine ex_succ ⟨(x,l),?_,by omega⟩
  simp only [laws_markItemS.l0,show ¬ ((i:Int) < (l.length:Int)) from by omega,if_false]
  exact Ev.now _
 | succ d ih=>
  intro i l x hi hl h0 h1
  have e0:wrap64 (x+1)=x+1:=by rw [w64 (by omega) (by omega)]
  have e1:wrap64 (x+1+1)=x+2:=by rw [w64 (by omega) (by omega)];omega
  have e9:wrap64 ((i:Int)+1)=((i+1:Nat):Int):=by rw [w64 (by omega) (by omega)];rfl
  refine ex_succ ?_
  simp only [laws_markItemS.l0,show ((i:Int) < (l.length:Int)) from by omega,nn i,if_true,Option.bind_some,Int.toNat_natCast,e0,e1,e9]
  refine ex_bind (mt_ev (x) (by omega) (by omega)) ?_
  try simp only [Option.bind_some,if_true]
  exact ex_imp (ih (i+1) _ (x+2) (by simp only [List.length_set];omega) (by simp only [List.length_set];omega) (by omega) (by omega)) (fun y h=>by omega)
theorem markI_ev (l:List MI) (x:Int) (hl:l.length≤1048576) (h0:0≤x) (h1:x≤900000000000000):∃ y:Int×List MI,Ev (fun k=>laws_markItemS.f k l x) y∧y.1=x+2 * l.length:=
 markI_l l.length 0 l x (by omega) hl h0 (by omega)
theorem markK_l (d:Nat):∀ (i:Nat) (l:List MK) (x:Int),i+d=l.length→l.length≤1048576→0≤x→x+3 * d≤1000000000000000→∃ y:Int×List MK,Ev (fun k=>laws_markLookS.l0 k l x (i:Int)) y∧y.1=x+3 * d:=by
 induction d with
 | zero=>
  intro i l x hi hl h0 h1
  refine ex_succ ⟨(x,l),?_,by omega⟩
  simp only [laws_markLookS.l0,show ¬ ((i:Int) < (l.length:Int)) from by omega,if_false]
  exact Ev.now _
 | succ d ih=>
  intro i l x hi hl h0 h1
  have e0:wrap64 (x+1)=x+1:=by rw [w64 (by omega) (by omega)]
  have e1:wrap64 (x+1+1)=x+2:=by rw [w64 (by omega) (by omega)];omega
  have e2:wrap64 (x+2+1)=x+3:=by rw [w64 (by omega) (by omega)];omega
  have e9:wrap64 ((i:Int)+1)=((i+1:Nat):Int):=by rw [w64 (by omega) (by omega)];rfl
  refine ex_succ ?_
  simp only [laws_markLookS.l0,show ((i:Int) < (l.length:Int)) from by omega,nn i,if_true,Option.bind_some,Int.toNat_natCast,e0,e1,e2,e9]
  refine ex_bind (mt_ev (x+1) (by omega) (by omega)) ?_
  try simp only [Option.bind_some,if_true]
  exact ex_imp (ih (i+1) _ (x+3) (by simp only [List.length_set];omega) (by simp only [List.length_set];omega) (by omega) (by omega)) (fun y h=>by omega)
theorem markK_ev (l:List MK) (x:Int) (hl:l.length≤1048576) (h0:0≤x) (h1:x≤900000000000000):∃ y:Int×List MK,Ev (fun k=>laws_markLookS.f k l x) y∧y.1=x+3 * l.length:=
 markK_l l.length 0 l x (by omega) hl h0 (by omega)
theorem markH_ev:∀ (l:List MH) (x:Int),(∀ h ∈ l,h.f3.f0.length≤1048576∧h.f3.f1.length≤1048576∧h.f5.length≤1048576)→0≤x→x+10000000 * l.length≤800000000000000→∃ y:Int,Ev (fun k=>mhLoop k l x) y∧0≤y∧y≤x+10000000 * l.length
 | [],x,_,h0,h1=>⟨x,by simp only [mhLoop];exact Ev.now _,h0,by simp⟩
 | h :: r,x,hh,h0,h1=>by
  obtain ⟨s3,s4,s5⟩:=hh h (List.mem_cons_self ..)
  rw [List.length_cons] at h1 ⊢
  have e0:wrap64 (x+1)=x+1:=w64 (by omega) (by omega)
  have e1:wrap64 (x+1+1)=x+2:=by rw [w64 (by omega) (by omega)];omega
  have e2:wrap64 (x+2+1)=x+3:=by rw [w64 (by omega) (by omega)];omega
  obtain ⟨ns,en,_,_⟩:=Tx.markS_ev h.f3.f0 (x+3) (by omega) (by omega) (by omega)
  obtain ⟨⟨m2,rs⟩,er,hr⟩:=markR_ev h.f3.f1 (x+3+h.f3.f0.length) s4 (by omega) (by omega)
  simp only at hr
  have e3:wrap64 (m2+1)=m2+1:=w64 (by omega) (by omega)
  have e4:wrap64 (m2+1+1)=m2+2:=by rw [w64 (by omega) (by omega)];omega
  obtain ⟨⟨m3,is⟩,ei,hi⟩:=markI_ev h.f5 (m2+2) s5 (by omega) (by omega)
  simp only at hi
  obtain ⟨y,ey,y0,y1⟩:=markH_ev r m3 (fun h hm=>hh h (List.mem_cons_of_mem _ hm)) (by omega) (by omega)
  refine ⟨y,?_,y0,by omega⟩
  simp only [mhLoop,e0,e1,e2]
  refine Ev.bind (mt_ev x (by omega) (by omega)) (Ev.bind en (Ev.bind er ?_))
  simp only [e3,e4]
  exact Ev.bind ei ey
theorem markT_ev {n:ByteArray} {hs:List MH} {sn:List ByteArray} {lk:List MK} (hS:Small n hs sn lk):∃ y:Int,Ev (fun k=>laws_markTrip.f k hs sn lk 1) y∧0≤y:=by
 have h1:=hS.lh
 have h2:=hS.ls
 have h3:=hS.ll
 obtain ⟨a,ea,a0,a1⟩:=markH_ev hs 1 (fun h hm=>⟨hS.h3 h hm,hS.h4 h hm,hS.h5 h hm⟩) (by omega) (by omega)
 obtain ⟨ns,en,_,_⟩:=Tx.markS_ev sn a (by omega) (by omega) (by omega)
 obtain ⟨⟨c,ks⟩,ek,hk⟩:=markK_ev lk (a+sn.length) h3 (by omega) (by omega)
 simp only at hk
 refine ⟨c,?_,by omega⟩
 unfold laws_markTrip.f
 have eh:Ev (fun k=>laws_markHouseS.f k hs 1) a:=by
  unfold laws_markHouseS.f
  simp only [show hs.length≤1000000000 from by omega,if_true]
  exact ea
 exact Ev.bind eh (Ev.bind en (Ev.bind ek (Ev.now _)))
theorem rd_at {l:List Int} {i:Nat} (h:i < l.length):rd l (i:Int)=l[i]:=by
 simp [rd,List.getD,List.getElem?_eq_getElem h]
end Go.Proofs.YtnnciiiackinpaaGreatDoor.Tr
end
section
namespace Go.Proofs.YtnnciiiackinpaaGreatDoor.Nn
open Go.RowKit Go.Proofs.YtnnciiiackinpaaGreatDoor.P Go.Proofs.YtnnciiiackinpaaGreatDoorW.PrintWords Go.Proofs.YtnnciiiackinpaaGreatDoorW.PrintLast Go.Proofs.YtnnciiiackinpaaGreatDoorW.PrintMore Go.Proofs.YtnnciiiackinpaaGreatDoor.B Go.Proofs.YtnnciiiackinpaaGreatDoor.Ad
set_option linter.unusedVariables false
set_option linter.unusedSimpArgs false
theorem impl_small_l (s:ByteArray) (hs:s.size≤140737488351232) (d:Nat):∀ (k:Nat) (i:Nat),i+d=s.size→d < k →
  impl_allSmallLetters.l0 k s (i:Int)=some (smallFrom s d i):=by
 induction d with
 | zero=>
  intro k i h hk
  obtain ⟨k,rfl⟩:∃ m,k=m+1:=⟨k - 1,by omega⟩
  simp only [impl_allSmallLetters.l0,smallFrom]
  rw [if_neg (by omega)]
 | succ d ih=>
  intro k i h hk
  obtain ⟨k,rfl⟩:∃ m,k=m+1:=⟨k - 1,by omega⟩
  simp only [impl_allSmallLetters.l0,smallFrom]
  rw [if_pos (by omega),if_pos (by omega)]
  by_cases h1:bt s i < 97
  ·rw [if_pos h1,if_pos h1]
  ·rw [if_neg h1,if_neg h1]
   by_cases h2:bt s i > 122
   ·rw [if_pos h2,if_pos h2]
   ·rw [if_neg h2,if_neg h2,w64 (by omega) (by omega)]
    exact ih k (i+1) (by omega) (by omega)
theorem impl_name (s:ByteArray) (hs:s.size≤140737488351232):Ev (fun k=>impl_isName.f k s) (isName s):=by
 unfold impl_isName.f isName isSmall
 by_cases h1:1≤s.size
 ·by_cases h2:s.size≤8
  ·simp only [show (s.size:Int) ≥ 1 from by omega,show (s.size:Int)≤8 from by omega,if_true,h1,h2,decide_true,Bool.true_and]
   refine Ev.bind (a:=smallFrom s s.size 0) ?_ (Ev.now _)
   refine Ev.of (fun k=>impl_allSmallLetters.mono _ k) (k:=s.size+1) ?_
   exact impl_small_l s hs s.size (s.size+1) 0 (by omega) (by omega)
  ·simp only [show (s.size:Int) ≥ 1 from by omega,show ¬ (s.size:Int)≤8 from by omega,if_true,if_false,h2,decide_false,Bool.and_false,Bool.false_and]
   exact Ev.now _
 ·simp only [show ¬ (s.size:Int) ≥ 1 from by omega,if_false,h1,decide_false,Bool.false_and]
  exact Ev.now _
end Go.Proofs.YtnnciiiackinpaaGreatDoor.Nn
end
section
namespace Go.Proofs.YtnnciiiackinpaaGreatDoor.Tr
open Go.RowKit Go.Proofs.YtnnciiiackinpaaGreatDoor.P Go.Proofs.YtnnciiiackinpaaGreatDoorW.PrintWords Go.Proofs.YtnnciiiackinpaaGreatDoorW.PrintLast Go.Proofs.YtnnciiiackinpaaGreatDoorW.PrintMore Go.Proofs.YtnnciiiackinpaaGreatDoor.B Go.Proofs.YtnnciiiackinpaaGreatDoor.Ad Go.Proofs.YtnnciiiackinpaaGreatDoor.Wd
set_option linter.unusedVariables false
set_option linter.unusedSimpArgs false
theorem btw_i (a n b:Int):impl_between.f a n b=some (btw a n b):=by
 unfold impl_between.f btw
 by_cases h:a≤n <;> simp [h]
theorem once_i (l:List ByteArray) (hl:l.length≤1048576) (hs:∀ s ∈ l,s.size≤1048576):Ev (fun k=>impl_allOnce.f k l) (decide l.Nodup):=by
 unfold impl_allOnce.f
 rw [if_pos ⟨by omega,fun s h=>by have:=hs s h;omega⟩]
 exact Ev.now _
theorem index_l (l:List ByteArray) (x:ByteArray) (hl:l.length≤1048576) (d:Nat):∀ i,i+d=l.length→Ev (fun k=>(slices_Index_string_string.l0 k l x (l.length:Int) (i:Int)).bind fun t=>some (decide (t ≥ 0))) (hasS (l.drop i) x):=by
 induction d with
 | zero=>
  intro i hi
  refine Ev_succ ?_
  simp only [slices_Index_string_string.l0,show ¬ ((i:Int) < (l.length:Int)) from by omega,if_false,Option.bind_some]
  rw [List.drop_of_length_le (by omega)]
  exact Ev.now _
 | succ d ih=>
  intro i hi
  have hlt:i < l.length:=by omega
  have w1:wrap64 ((i:Int)+1)=((i+1:Nat):Int):=by rw [w64 (by omega) (by omega)];rfl
  have next:=ih (i+1) (by omega)
  refine Ev_succ ?_
  simp only [slices_Index_string_string.l0,show (i:Int) < (l.length:Int) from by omega,nn i,if_true,rd_S hlt]
  rw [w1]
  unfold hasS at next ⊢
  rw [List.drop_eq_getElem_cons hlt,List.any_cons]
  by_cases h:x.toList=l[i].toList
  ·have e:l[i]=x:=(toList_inj.1 h).symm
   simp only [h,if_true,Option.bind_some,e,decide_true,Bool.true_or]
   rw [show decide ((i:Int) ≥ 0)=true from by simp]
   exact Ev.now _
  ·have e:¬ l[i]=x:=fun e=>h (by rw [e])
   simp only [h,if_false,e,decide_false,Bool.false_or]
   exact next
theorem has_i (l:List ByteArray) (x:ByteArray) (hl:l.length≤1048576):Ev (fun k=>slices_Contains_string_string.f k l x) (hasS l x):=by
 have:=index_l l x hl l.length 0 (by omega)
 rw [List.drop_zero] at this
 exact this
theorem seen_l (l:List ByteArray) (hl:l.length≤1048576) (d:Nat):∀ i,i+d=l.length→Ev (fun k=>impl_seenOk.l0 k l (l.length:Int) (i:Int)) ((l.drop i).all norm):=by
 induction d with
 | zero=>
  intro i hi
  refine Ev_succ ?_
  simp only [impl_seenOk.l0,show ¬ ((i:Int) < (l.length:Int)) from by omega,if_false]
  rw [List.drop_of_length_le (by omega)]
  exact Ev.now _
 | succ d ih=>
  intro i hi
  have hlt:i < l.length:=by omega
  have w1:wrap64 ((i:Int)+1)=((i+1:Nat):Int):=by rw [w64 (by omega) (by omega)];rfl
  have next:=ih (i+1) (by omega)
  refine Ev_succ ?_
  simp only [impl_seenOk.l0,show (i:Int) < (l.length:Int) from by omega,nn i,if_true,rd_S hlt]
  rw [w1,all_drop hlt]
  refine Ev.bind (isAddr_i _) ?_
  cases norm l[i] with
  | true=>simp only [if_true,Bool.true_and];exact next
  | false=>simp only [Bool.false_eq_true,if_false,Bool.false_and];exact Ev.now _
theorem seenOk_i (l:List ByteArray) (hl:l.length≤1048576) (hs:∀ s ∈ l,s.size≤1048576):Ev (fun k=>impl_seenOk.f k l) (decide (l.length≤60) && seenB l):=by
 unfold impl_seenOk.f seenB
 by_cases h:l.length≤60
 ·simp only [show ¬ ((l.length:Int) > 60) from by omega,if_false,h,decide_true,Bool.true_and]
  refine Ev.bind (once_i l hl hs) (Ev_succ ?_)
  cases decide l.Nodup with
  | true=>
   simp only [impl_seenOk.j0,Bool.not_true,Bool.false_eq_true,if_false,Bool.and_true]
   have:=seen_l l hl l.length 0 (by omega)
   rw [List.drop_zero] at this
   exact this
  | false=>
   simp only [impl_seenOk.j0,Bool.not_false,if_true,Bool.and_false]
   exact Ev.now _
 ·simp only [show ((l.length:Int) > 60) from by omega,if_true,h,decide_false,Bool.false_and]
  refine Ev_succ ?_
  simp only [impl_seenOk.j0,if_true]
  exact Ev.now _
theorem looks_l (now:Int) (l:List MK) (hl:l.length≤1048576) (d:Nat):∀ i (last:Int),i+d=l.length→Ev (fun k=>impl_looksOk.l0 k now last l (l.length:Int) (i:Int)) (looksB now last (l.drop i)):=by
 induction d with
 | zero=>
  intro i last hi
  refine Ev_succ ?_
  simp only [impl_looksOk.l0,show ¬ ((i:Int) < (l.length:Int)) from by omega,if_false]
  rw [List.drop_of_length_le (by omega)]
  exact Ev.now _
 | succ d ih=>
  intro i last hi
  have hlt:i < l.length:=by omega
  have w1:wrap64 ((i:Int)+1)=((i+1:Nat):Int):=by rw [w64 (by omega) (by omega)];rfl
  have next:=ih (i+1) (l[i].f0) (by omega)
  rw [List.drop_eq_getElem_cons hlt]
  simp only [looksB]
  refine Ev_succ ?_
  simp only [impl_looksOk.l0,show (i:Int) < (l.length:Int) from by omega,nn i,if_true,rd_MK hlt,btw_i,Option.bind_some]
  cases btw last l[i].f0 now with
  | false=>
   simp only [Bool.false_eq_true,if_false,Bool.false_and]
   refine Ev_succ ?_
   simp only [impl_looksOk.j1,if_true]
   exact Ev.now _
  | true=>
   simp only [if_true,Bool.true_and]
   refine Ev_succ ?_
   cases btw 0 l[i].f2 3 with
   | false=>
    simp only [impl_looksOk.j1,Bool.not_false,if_true,Bool.false_and]
    exact Ev.now _
   | true=>
    simp only [impl_looksOk.j1,Bool.not_true,Bool.false_eq_true,if_false,Bool.true_and]
    refine Ev.bind (isAddr_i _) ?_
    cases norm l[i].f1 with
    | true=>simp only [if_true,Bool.true_and];rw [w1];exact next
    | false=>simp only [Bool.false_eq_true,if_false,Bool.false_and];exact Ev.now _
theorem looksOk_i (now:Int) (l:List MK) (hl:l.length≤1048576):Ev (fun k=>impl_looksOk.f k l now) (decide (l.length≤400) && looksB now 0 l):=by
 unfold impl_looksOk.f
 by_cases h:l.length≤400
 ·simp only [show ¬ ((l.length:Int) > 400) from by omega,if_false,h,decide_true,Bool.true_and]
  have:=looks_l now l hl l.length 0 0 (by omega)
  rw [List.drop_zero] at this
  exact this
 ·simp only [show ((l.length:Int) > 400) from by omega,if_true,h,decide_false,Bool.false_and]
  exact Ev.now _
theorem rules_l (rs:List MR) (hr:rs.length≤1048576) (hz:∀ r ∈ rs,r.f1.size≤1048576) (d:Nat):∀ j:Nat,j+d=rs.length→Ev (fun k=>impl_rulesOk.l0 k rs (rs.length:Int) (j:Int)) (rulesB (rs.drop j)):=by
 induction d with
 | zero=>
  intro j hj
  refine Ev_succ ?_
  simp only [impl_rulesOk.l0,show ¬ ((j:Int) < (rs.length:Int)) from by omega,if_false]
  rw [List.drop_of_length_le (by omega)]
  exact Ev.now _
 | succ d ih=>
  intro j hj
  have hlt:j < rs.length:=by omega
  have e4:wrap64 ((j:Int)+1)=((j+1:Nat):Int):=by rw [w64 (by omega) (by omega)];rfl
  have next:=ih (j+1) (by omega)
  refine Ev_succ ?_
  simp only [impl_rulesOk.l0,show (j:Int) < (rs.length:Int) from by omega,nn j,if_true]
  unfold rulesB at next ⊢
  rw [rd_MR hlt,e4,all_drop hlt]
  have hz2:=hz _ (List.getElem_mem hlt)
  refine Ev.bind (ruleOk_impl _ (by omega)) ?_
  cases ruleOk rs[j].f1 with
  | true=>simp only [if_true,Bool.true_and];exact next
  | false=>simp only [Bool.false_eq_true,if_false,Bool.false_and];exact Ev.now _
theorem rules_i (rs:List MR) (hr:rs.length≤1048576) (hz:∀ r ∈ rs,r.f1.size≤1048576):Ev (fun k=>impl_rulesOk.f k rs) (rulesB rs):=by
 have:=rules_l rs hr hz rs.length 0 (by omega)
 rw [List.drop_zero] at this
 exact this
theorem one_name (l:List ByteArray) (n:ByteArray):decide (l=[n])=(decide (l.length=1) && decide (rdOf ByteArray.empty l 0=n)):=by
 match l with
 | []=>simp
 | [a]=>simp [rdOf]
 | a :: b :: r=>simp
theorem houseOk_i (n:ByteArray) (h:MH) (hh:h.f0.size≤1048576) (hr:h.f3.f1.length≤1048576) (hz:∀ r ∈ h.f3.f1,r.f1.size≤1048576):Ev (fun k=>impl_houseOk.f k h.f0 h.f1 h.f2 h.f3.f0 h.f3.f1 h.f3.f2 h.f4 h.f5 n) (houseB n h):=by
 have stop:Ev (fun k=>impl_houseOk.j0 k n true h.f0 h.f1 h.f2 h.f3.f0 h.f3.f1 h.f3.f2 h.f4 h.f5) false:=Ev_succ (by simp only [impl_houseOk.j0,if_true];exact Ev.now _)
 have stop1:Ev (fun k=>impl_houseOk.j1 k true h.f0 h.f1 h.f2 h.f3.f0 h.f3.f1 h.f3.f2 h.f4 h.f5 h.f3.f0 h.f3.f1 h.f3.f2) false:=Ev_succ (by simp only [impl_houseOk.j1,if_true];exact Ev.now _)
 unfold impl_houseOk.f houseB
 refine Ev.bind (house_i h.f0 (by omega)) ?_
 cases isHouse h.f0 with
 | false=>simp only [Bool.false_eq_true,if_false,Bool.false_and];exact stop
 | true=>
  simp only [if_true,btw_i,Option.bind_some,Bool.true_and]
  cases btw 0 h.f1 5100 with
  | false=>simp only [Bool.false_eq_true,if_false,Bool.false_and];exact stop
  | true=>
   simp only [if_true,Bool.true_and]
   cases btw 0 h.f4 2 with
   | false=>simp only [Bool.not_false,Bool.false_and];exact stop
   | true=>
    simp only [Bool.not_true,Bool.true_and]
    refine Ev_succ ?_
    simp only [impl_houseOk.j0,Bool.false_eq_true,if_false]
    rw [one_name]
    by_cases h1:h.f3.f0.length=1
    ·simp only [show (h.f3.f0.length:Int)=1 from by omega,show (0:Int) < 1 from by omega,if_true,h1,decide_true,Bool.true_and]
     rw [show ((rdOf ByteArray.empty h.f3.f0 0).toList != n.toList) = !(decide (rdOf ByteArray.empty h.f3.f0 0=n)) from by rw [bne,beq_L]]
     cases decide (rdOf ByteArray.empty h.f3.f0 0=n) with
     | false=>simp only [Bool.not_false,Bool.false_and];exact stop1
     | true=>
      simp only [Bool.not_true,Bool.true_and]
      refine Ev_succ ?_
      simp only [impl_houseOk.j1,Bool.false_eq_true,if_false]
      unfold restB
      cases h.f2 with
      | true=>
       simp only [if_true]
       by_cases h40:h.f3.f1.length≤40
       ·simp only [show (h.f3.f1.length:Int)≤40 from by omega,if_true,h40,decide_true,Bool.true_and]
        refine Ev.bind (rules_i _ hr hz) ?_
        cases rulesB h.f3.f1 with
        | true=>simp only [if_true,btw_i,Option.bind_some,Bool.true_and];exact Ev.now _
        | false=>simp only [Bool.false_eq_true,if_false,Bool.false_and];exact Ev.now _
       ·simp only [show ¬ (h.f3.f1.length:Int)≤40 from by omega,if_false,h40,decide_false,Bool.false_and]
        exact Ev.now _
      | false=>
       simp only [Bool.false_eq_true,if_false]
       by_cases h0:h.f3.f1.length=0
       ·simp only [show (h.f3.f1.length:Int)=0 from by omega,if_true,h0,decide_true,Bool.true_and]
        rw [show (h.f3.f2 == 0)=decide (h.f3.f2=0) from rfl]
        exact Ev.now _
       ·simp only [show ¬ (h.f3.f1.length:Int)=0 from by omega,if_false,h0,decide_false,Bool.false_and]
        exact Ev.now _
    ·simp only [show ¬ (h.f3.f0.length:Int)=1 from by omega,if_false,h1,decide_false,Bool.false_and]
     exact stop1
theorem itemsB_le {name:ByteArray} {seen:List ByteArray} {l:List MI} (h:itemsB name seen l=true):l.length≤seen.length:=by
 unfold itemsB at h
 rw [Bool.and_eq_true] at h
 have hn:(l.map (·.f0)).Nodup:=of_decide_eq_true h.2
 have:=List.Nodup.length_le_of_subset hn (l₂:=seen) (fun s hs=>by
  obtain ⟨x,hx,rfl⟩:=List.mem_map.1 hs
  have:=List.all_eq_true.1 h.1 x hx
  unfold itemB at this
  simp only [Bool.and_eq_true] at this
  exact hasS_iff.1 this.2.2.1)
 rwa [List.length_map] at this
theorem todo_l (sn:List ByteArray) (hsl:sn.length≤1048576) (td:List MI) (hl:td.length≤1048576) (hz:∀ x ∈ td,x.f0.size≤1048576) (a0:ByteArray) (a1:Int) (a2:Bool) (a3:List ByteArray) (a4:List MR) (a5 a6:Int) (a7:List MI) (d:Nat):∀ i:Nat,i+d=td.length →
  Ev (fun k=>impl_todoOk.l0 k sn ((td.take i).map (·.f0)) td (td.length:Int) (i:Int) a0 a1 a2 a3 a4 a5 a6 a7) ((td.drop i).all (itemB a0 sn) && decide (td.map (·.f0)).Nodup):=by
 induction d with
 | zero=>
  intro i hi
  refine Ev_succ ?_
  simp only [impl_todoOk.l0,show ¬ ((i:Int) < (td.length:Int)) from by omega,if_false]
  rw [List.drop_of_length_le (by omega),List.take_of_length_le (by omega)]
  simp only [List.all_nil,Bool.true_and]
  exact Ev.bind (once_i _ (by rw [List.length_map];exact hl) (fun s hs=>by obtain ⟨x,hx,rfl⟩:=List.mem_map.1 hs;exact hz x hx)) (Ev.now _)
 | succ d ih=>
  intro i hi
  have hlt:i < td.length:=by omega
  have w1:wrap64 ((i:Int)+1)=((i+1:Nat):Int):=by rw [w64 (by omega) (by omega)];rfl
  have next:=ih (i+1) (by omega)
  rw [← take_map hlt] at next
  have hacc:((td.take i).map (·.f0)).length < 8796093022208:=by rw [List.length_map,List.length_take];omega
  have stop:Ev (fun k=>impl_todoOk.j1 k sn ((td.take i).map (·.f0)) td (td.length:Int) (i:Int) true a0 a1 a2 a3 a4 a5 a6 a7 td[i].f0 td[i].f1) false:=Ev_succ (by simp only [impl_todoOk.j1,if_true];exact Ev.now _)
  refine Ev_succ ?_
  simp only [impl_todoOk.l0,show (i:Int) < (td.length:Int) from by omega,nn i,if_true,rd_MI hlt]
  rw [all_drop hlt]
  unfold itemB
  refine Ev.bind (readAddr_i _) ?_
  cases hn:norm td[i].f0 with
  | false=>
   simp only [Bool.false_eq_true,if_false,none5,Bool.false_and]
   exact stop
  | true=>
   simp only [if_true,Bool.true_and]
   by_cases hh:(readO td[i].f0).1=a0
   ·have hh':(readO td[i].f0).1.toList=a0.toList:=by rw [hh]
    simp only [hh',if_true,hh,decide_true,Bool.true_and]
    refine Ev.bind (has_i sn _ hsl) ?_
    cases hasS sn td[i].f0 with
    | false=>simp only [Bool.not_false,Bool.false_and];exact stop
    | true=>
     simp only [Bool.not_true,Bool.true_and]
     refine Ev_succ ?_
     simp only [impl_todoOk.j1,Bool.false_eq_true,if_false,btw_i,Option.bind_some]
     cases btw 0 td[i].f1 2 with
     | false=>simp only [Bool.false_eq_true,if_false,Bool.false_and];exact Ev.now _
     | true=>
      simp only [if_true,hacc,Bool.true_and]
      rw [w1]
      exact next
   ·have hh':¬ (readO td[i].f0).1.toList=a0.toList:=fun e=>hh (toList_inj.1 e)
    simp only [hh',if_false,hh,decide_false,Bool.false_and]
    exact stop
theorem todoOk_i (sn:List ByteArray) (hsl:sn.length≤1048576) (td:List MI) (hl:td.length≤1048576) (hz:∀ x ∈ td,x.f0.size≤1048576) (a0:ByteArray) (a1:Int) (a2:Bool) (a3:List ByteArray) (a4:List MR) (a5 a6:Int) :
  Ev (fun k=>impl_todoOk.f k a0 a1 a2 a3 a4 a5 a6 td sn) (itemsB a0 sn td):=by
 unfold impl_todoOk.f
 by_cases h:td.length≤sn.length
 ·simp only [show ¬ (td.length:Int) > (sn.length:Int) from by omega,if_false]
  have:=todo_l sn hsl td hl hz a0 a1 a2 a3 a4 a5 a6 td td.length 0 (by omega)
  rw [List.drop_zero,List.take_zero] at this
  exact this
 ·simp only [show (td.length:Int) > (sn.length:Int) from by omega,if_true]
  have:itemsB a0 sn td=false:=by
   cases hb:itemsB a0 sn td with
   | false=>rfl
   | true=>exact absurd (itemsB_le hb) h
  rw [this]
  exact Ev.now _
theorem houses_l (n:ByteArray) (now:Int) (hs:List MH) (sn:List ByteArray) (lk:List MK) (hS:Small n hs sn lk) (d:Nat):∀ i:Nat,i+d=hs.length →
  Ev (fun k=>impl_TripOk.l0 k ((hs.take i).map (·.f0)) hs (hs.length:Int) (i:Int) n now hs sn lk) (((hs.drop i).all fun h=>houseB n h && itemsB h.f0 sn h.f5) && decide (hs.map (·.f0)).Nodup):=by
 have hl:=hS.lh
 induction d with
 | zero=>
  intro i hi
  refine Ev_succ ?_
  simp only [impl_TripOk.l0,show ¬ ((i:Int) < (hs.length:Int)) from by omega,if_false]
  rw [List.drop_of_length_le (by omega),List.take_of_length_le (by omega)]
  simp only [List.all_nil,Bool.true_and]
  exact Ev.bind (once_i _ (by rw [List.length_map];exact hl) (fun s hs'=>by obtain ⟨x,hx,rfl⟩:=List.mem_map.1 hs';exact hS.hn x hx)) (Ev.now _)
 | succ d ih=>
  intro i hi
  have hlt:i < hs.length:=by omega
  have hm:=List.getElem_mem hlt
  have w1:wrap64 ((i:Int)+1)=((i+1:Nat):Int):=by rw [w64 (by omega) (by omega)];rfl
  have next:=ih (i+1) (by omega)
  rw [← take_map hlt] at next
  have hacc:((hs.take i).map (·.f0)).length < 8796093022208:=by rw [List.length_map,List.length_take];omega
  have e1:=houseOk_i n hs[i] (hS.hn _ hm) (hS.h4 _ hm) (hS.s4 _ hm)
  have e2:=todoOk_i sn hS.ls hs[i].f5 (hS.h5 _ hm) (hS.s5 _ hm) hs[i].f0 hs[i].f1 hs[i].f2 hs[i].f3.f0 hs[i].f3.f1 hs[i].f3.f2 hs[i].f4
  refine Ev_succ ?_
  simp only [impl_TripOk.l0,show (i:Int) < (hs.length:Int) from by omega,nn i,if_true,rd_MH hlt]
  rw [all_drop hlt]
  refine Ev.bind e1 ?_
  cases houseB n hs[i] with
  | false=>simp only [Bool.false_eq_true,if_false,Bool.false_and];exact Ev.now _
  | true=>
   simp only [if_true,Bool.true_and]
   refine Ev.bind e2 ?_
   cases itemsB hs[i].f0 sn hs[i].f5 with
   | false=>simp only [Bool.false_eq_true,if_false,Bool.false_and];exact Ev.now _
   | true=>
    simp only [if_true,Bool.true_and,hacc]
    rw [w1]
    exact next
theorem tripOk_i (n:ByteArray) (now:Int) (hs:List MH) (sn:List ByteArray) (lk:List MK) (hS:Small n hs sn lk):Ev (fun k=>impl_TripOk.f k n now hs sn lk) (tripB n now hs sn lk):=by
 have stop:Ev (fun k=>impl_TripOk.j0 k true n now hs sn lk) false:=Ev_succ (by simp only [impl_TripOk.j0,if_true];exact Ev.now _)
 have stop1:Ev (fun k=>impl_TripOk.j1 k true n now hs sn lk) false:=Ev_succ (by simp only [impl_TripOk.j1,if_true];exact Ev.now _)
 unfold impl_TripOk.f tripB
 refine Ev.bind (Nn.impl_name n (by have:=hS.nn;omega)) ?_
 cases isName n with
 | false=>simp only [Bool.false_eq_true,if_false,Bool.false_and];exact stop
 | true=>
  simp only [if_true,btw_i,Option.bind_some,Bool.true_and]
  cases btw 0 now 5000 with
  | false=>simp only [Bool.not_false,Bool.false_and];exact stop
  | true=>
   simp only [Bool.not_true,Bool.true_and]
   refine Ev_succ ?_
   simp only [impl_TripOk.j0,Bool.false_eq_true,if_false]
   refine Ev.bind (seenOk_i sn hS.ls hS.s) ?_
   cases (decide (sn.length≤60) && seenB sn) with
   | false=>simp only [Bool.false_eq_true,if_false,Bool.false_and];exact stop1
   | true=>
    simp only [if_true,Bool.true_and]
    refine Ev.bind (looksOk_i now lk hS.ll) ?_
    cases (decide (lk.length≤400) && looksB now 0 lk) with
    | false=>simp only [Bool.not_false,Bool.false_and];exact stop1
    | true=>
     simp only [Bool.not_true,Bool.true_and]
     refine Ev_succ ?_
     simp only [impl_TripOk.j1,Bool.false_eq_true,if_false]
     have:=houses_l n now hs sn lk hS hs.length 0 (by omega)
     rw [List.drop_zero,List.take_zero] at this
     exact this
end Go.Proofs.YtnnciiiackinpaaGreatDoor.Tr
end
section
namespace Go.Proofs.YtnnciiiackinpaaGreatDoor.Tr
open Go.RowKit Go.Proofs.YtnnciiiackinpaaGreatDoor.P Go.Proofs.YtnnciiiackinpaaGreatDoorW.PrintWords Go.Proofs.YtnnciiiackinpaaGreatDoorW.PrintLast Go.Proofs.YtnnciiiackinpaaGreatDoorW.PrintMore Go.Proofs.YtnnciiiackinpaaGreatDoor.B Go.Proofs.YtnnciiiackinpaaGreatDoor.Ad Go.Proofs.YtnnciiiackinpaaGreatDoor.Wd
set_option linter.unusedVariables false
set_option linter.unusedSimpArgs false
theorem looks_norm' (now:Int):∀ (l:List MK) (last:Int),looksB now last l=true→∀ y ∈ l,norm y.f1=true
 | [],_,_,y,hy=>by cases hy
 | z :: r,last,h,y,hy=>by
  simp only [looksB,Bool.and_eq_true] at h
  rcases List.mem_cons.1 hy with rfl|hy
  ·exact h.1.2.2
  ·exact looks_norm' now r _ h.2 y hy
theorem trip_norm' {n:ByteArray} {now:Int} {hs:List MH} {sn:List ByteArray} {lk:List MK} (h:tripB n now hs sn lk=true):lk.length≤400∧∀ y ∈ lk,norm y.f1=true:=by
 unfold tripB at h
 simp only [Bool.and_eq_true] at h
 exact ⟨of_decide_eq_true h.2.2.2.1.1,looks_norm' now lk 0 h.2.2.2.1.2⟩
def hsO (y:MK):ByteArray:=(readO y.f1).1
theorem hsO_size (y:MK):(hsO y).size≤60:=(fine_parts (fine_read y.f1)).2.1
def doorB (x:ByteArray):ByteArray:=((⟨#[47,47]⟩:ByteArray)++x)++(⟨#[47,110,111,116,105,99,101]⟩:ByteArray)
theorem door_s {x:ByteArray} (h:x.size≤60):spec_l11Door.f x=some (doorB x):=by
 unfold spec_l11Door.f
 rw [if_pos (by omega),if_pos (by omega)];rfl
theorem door_i {x:ByteArray} (h:x.size≤60):impl_noticeAddr.f x=some (doorB x):=by
 unfold impl_noticeAddr.f
 rw [if_pos (by omega),if_pos (by omega)];rfl
def atDoor (y:MK):Bool:=decide (y.f1=doorB (hsO y))
def badB (y:MK):Bool:=!(atDoor y) || y.f2 != 3
def isDoor (L:List MK) (y:MK):Bool:=atDoor y && ((L.all fun z=>!(decide (hsO z=hsO y)) || (decide (z.f1=y.f1) && decide (z.f2=3))) && decide ((L.countP fun z=>decide (z.f1=y.f1)) < 3))
def keepP (L:List MK):List (ByteArray×Bool):=(L.map fun z=>(hsO z,badB z)).reverse
theorem keepP_snoc (L:List MK) (z:MK):keepP (L++[z])=(hsO z,badB z) :: keepP L:=by simp [keepP]
theorem oth_any (x:ByteArray):∀ l:List (ByteArray×Bool),othF x l=l.any fun p=>decide (p.1=x) && p.2
 | []=>rfl
 | p :: r=>by
  unfold othF
  rw [List.any_cons,oth_any x r]
  by_cases h:p.1=x
  ·simp [h,Bool.or_comm]
  ·simp [h]
theorem made_count (x:ByteArray):∀ l:List (ByteArray×Bool),madeF x l=((l.countP fun p=>decide (p.1=x):Nat):Int)
 | []=>rfl
 | p :: r=>by
  unfold madeF
  rw [List.countP_cons,made_count x r]
  by_cases h:p.1=x
  ·simp [h]
  ·simp [h]
theorem isDoor_i (L:List MK) (y:MK):isDoor L y=(atDoor y && (!(othF (hsO y) (keepP L)) && decide (madeF (hsO y) (keepP L) < 3))):=by
 unfold isDoor
 cases hd:atDoor y with
 | false=>rfl
 | true=>
  have hy:y.f1=doorB (hsO y):=of_decide_eq_true hd
  have e1:(!(othF (hsO y) (keepP L)))=(L.all fun z=>!(decide (hsO z=hsO y)) || (decide (z.f1=y.f1) && decide (z.f2=3))):=by
   rw [oth_any,keepP,List.any_reverse,List.any_map,List.not_any_eq_all_not]
   congr 1
   funext z
   simp only [Function.comp,badB,atDoor]
   by_cases h:hsO z=hsO y
   ·have hz0:doorB (hsO y)=y.f1:=hy.symm
    simp only [h,decide_true,Bool.true_and,Bool.not_true,Bool.false_or]
    by_cases h2:z.f1=y.f1 <;> by_cases h3:z.f2=3 <;> simp [h2,h3]
    all_goals first|exact hy|exact fun e=>h2 (e.trans hz0)
   ·simp [h]
  rw [e1]
  cases ha:(L.all fun z=>!(decide (hsO z=hsO y)) || (decide (z.f1=y.f1) && decide (z.f2=3))) with
  | false=>rfl
  | true=>
   have e2:madeF (hsO y) (keepP L)=((L.countP fun z=>decide (z.f1=y.f1):Nat):Int):=by
    rw [made_count,keepP,List.countP_reverse,List.countP_map]
    congr 1
    refine List.countP_congr fun z hz=>?_
    have:=List.all_eq_true.1 ha z hz
    simp only [Function.comp,decide_eq_true_eq]
    constructor
    ·intro h
     simp [h] at this
     exact this.1
    ·intro h
     unfold hsO
     rw [h]
   rw [e2,Bool.true_and,Bool.true_and,Bool.true_and]
   exact decide_eq_decide.2 (by omega)
def lookB:List MK→List MK→List ByteArray→List ByteArray
 | _,[],acc=>acc
 | L,y :: r,acc=>lookB (L++[y]) r (if (y.f2 != 3 && !(isDoor L y))=true then (if hasS acc y.f1=true then acc else acc++[y.f1]) else acc)
theorem acc_i (acc:List ByteArray) (y:MK) (b:Bool) (hl:acc.length≤1048576):Ev (fun k=>accF k acc y b) (if (y.f2 != 3 && !b)=true then (if hasS acc y.f1=true then acc else acc++[y.f1]) else acc):=by
 unfold accF
 by_cases h:(y.f2 != 3 && !b)=true
 ·simp only [h,if_true]
  exact Ev.bind (has_i acc y.f1 hl) (Ev.now _)
 ·rw [if_neg h]
  simp only [h,Bool.false_eq_true,if_false]
  exact Ev.now _
theorem next_len (acc:List ByteArray) (x:ByteArray) (c d:Bool):(if c=true then (if d=true then acc else acc++[x]) else acc).length≤acc.length+1:=by
 split
 ·split
  ·omega
  ·rw [List.length_append,List.length_singleton];omega
 ·omega
theorem look_il:∀ (r L:List MK) (acc:List ByteArray),acc.length+r.length≤1000→(∀ y ∈ r,norm y.f1=true)→Ev (fun k=>lkLoop k r (keepP L) acc) (lookB L r acc)
 | [],L,acc,_,_=>by simp only [lkLoop,lookB];exact Ev.now _
 | y :: r,L,acc,hl,hn=>by
  rw [List.length_cons] at hl
  have hs:=hsO_size y
  simp only [lkLoop,lookB]
  refine Ev.bind (readAddr_i _) ?_
  rw [if_pos (hn y (List.mem_cons_self ..))]
  have e0:(readO y.f1).1=hsO y:=rfl
  simp only [if_true,e0,show (hsO y).size≤9223372036854775807 from by omega,door_i hs,Option.bind_some]
  have ed:(y.f1.toList == (doorB (hsO y)).toList)=atDoor y:=by rw [beq_L];rfl
  rw [ed]
  refine Ev.bind (acc_i acc y _ (by omega)) ?_
  rw [← isDoor_i L y]
  have:=look_il r (L++[y]) (if (y.f2 != 3 && !(isDoor L y))=true then (if hasS acc y.f1=true then acc else acc++[y.f1]) else acc) (by have:=next_len acc y.f1 (y.f2 != 3 && !(isDoor L y)) (hasS acc y.f1);omega) (fun z hz=>hn z (List.mem_cons_of_mem _ hz))
  rw [keepP_snoc] at this
  exact this
theorem put_l (x:ByteArray) (acc:List ByteArray) (hl:acc.length≤1048576) (d:Nat):∀ i,i+d=acc.length→Ev (fun k=>spec_l3Put.l0 k acc x (i:Int)) (if hasS (acc.drop i) x=true then acc else acc++[x]):=by
 induction d with
 | zero=>
  intro i hi
  refine Ev_succ ?_
  simp only [spec_l3Put.l0,show ¬ ((i:Int) < (acc.length:Int)) from by omega,if_false,show acc.length < 8796093022208 from by omega,if_true]
  rw [List.drop_of_length_le (by omega)]
  simp only [hasS,List.any_nil,Bool.false_eq_true,if_false]
  exact Ev.now _
 | succ d ih=>
  intro i hi
  have hlt:i < acc.length:=by omega
  have w1:wrap64 ((i:Int)+1)=((i+1:Nat):Int):=by rw [w64 (by omega) (by omega)];rfl
  have next:=ih (i+1) (by omega)
  refine Ev_succ ?_
  simp only [spec_l3Put.l0,show (i:Int) < (acc.length:Int) from by omega,nn i,if_true,rd_S hlt]
  rw [w1,List.drop_eq_getElem_cons hlt,hasS_cons]
  by_cases h:acc[i]=x
  ·have h':acc[i].toList=x.toList:=by rw [h]
   simp only [h',if_true,h,decide_true,Bool.true_or]
   exact Ev.now _
  ·have h':¬ acc[i].toList=x.toList:=fun e=>h (toList_inj.1 e)
   simp only [h',if_false,h,decide_false,Bool.false_or]
   exact next
theorem put_s (x:ByteArray) (acc:List ByteArray) (hl:acc.length≤1048576):Ev (fun k=>spec_l3Put.f k acc x) (if hasS acc x=true then acc else acc++[x]):=by
 have:=put_l x acc hl acc.length 0 (by omega)
 rw [List.drop_zero] at this
 exact this
section
variable (n:ByteArray) (now:Int) (hs:List MH) (sn:List ByteArray) (lk:List MK)
theorem count_s (hl:lk.length≤400) (i:Nat) (hi:i < lk.length) (d:Nat):∀ (j c:Nat),j+d=i→c≤j→Ev (fun k=>spec_l12IsDoor.l1 k (i:Int) (c:Int) (j:Int) n now hs sn lk) (decide (c+(((lk.take i).drop j).countP fun z=>decide (z.f1=lk[i].f1)) < 3)):=by
 induction d with
 | zero=>
  intro j c hj hc
  refine Ev_succ ?_
  simp only [spec_l12IsDoor.l1,show ¬ ((j:Int) < (i:Int)) from by omega,if_false]
  rw [List.drop_of_length_le (by rw [List.length_take];omega)]
  have e:decide (c+List.countP (fun z:MK=>decide (z.f1=lk[i].f1)) [] < 3)=decide ((c:Int) < 3):=decide_eq_decide.2 (by rw [List.countP_nil];omega)
  rw [e]
  exact Ev.now _
 | succ d ih=>
  intro j c hj hc
  have hlt:j < lk.length:=by omega
  have hlt2:j < (lk.take i).length:=by rw [List.length_take];omega
  have w1:wrap64 ((j:Int)+1)=((j+1:Nat):Int):=by rw [w64 (by omega) (by omega)];rfl
  have w2:wrap64 ((c:Int)+1)=((c+1:Nat):Int):=by rw [w64 (by omega) (by omega)];rfl
  refine Ev_succ ?_
  simp only [spec_l12IsDoor.l1,show (j:Int) < (i:Int) from by omega,show (j:Int) < (lk.length:Int) from by omega,show (i:Int) < (lk.length:Int) from by omega,nn j,nn i,if_true,rd_MK hlt,rd_MK hi]
  rw [w1,w2,List.drop_eq_getElem_cons hlt2,List.getElem_take,List.countP_cons]
  by_cases h:lk[j].f1=lk[i].f1
  ·have h':lk[j].f1.toList=lk[i].f1.toList:=by rw [h]
   simp only [h',if_true,h,decide_true]
   have:=ih (j+1) (c+1) (by omega) (by omega)
   rw [show c+1+List.countP (fun z=>decide (z.f1=lk[i].f1)) (List.drop (j+1) (List.take i lk))=c+(List.countP (fun z=>decide (z.f1=lk[i].f1)) (List.drop (j+1) (List.take i lk))+1) from by omega] at this
   exact this
  ·have h':¬ lk[j].f1.toList=lk[i].f1.toList:=fun e=>h (toList_inj.1 e)
   simp only [h',if_false,h,decide_false,Bool.false_eq_true,Nat.add_zero]
   exact ih (j+1) c (by omega) (by omega)
theorem all_s (hl:lk.length≤400) (hz:∀ y ∈ lk,y.f1.size≤1048576) (i:Nat) (hi:i < lk.length) (b:List ByteArray) (b2:Bool) (b3:ByteArray) (d:Nat):∀ j:Nat,j+d=i→Ev (fun k=>spec_l12IsDoor.l0 k (i:Int) (j:Int) n now hs sn lk (hsO lk[i]) b b2 b3)
  ((((lk.take i).drop j).all fun z=>!(decide (hsO z=hsO lk[i])) || (decide (z.f1=lk[i].f1) && decide (z.f2=3))) && decide (((lk.take i).countP fun z=>decide (z.f1=lk[i].f1)) < 3)):=by
 induction d with
 | zero=>
  intro j hj
  refine Ev_succ ?_
  simp only [spec_l12IsDoor.l0,show ¬ ((j:Int) < (i:Int)) from by omega,if_false]
  rw [List.drop_of_length_le (by rw [List.length_take];omega)]
  simp only [List.all_nil,Bool.true_and]
  have:=count_s n now hs sn lk hl i hi i 0 0 (by omega) (by omega)
  rw [List.drop_zero,Nat.zero_add] at this
  exact this
 | succ d ih=>
  intro j hj
  have hlt:j < lk.length:=by omega
  have hlt2:j < (lk.take i).length:=by rw [List.length_take];omega
  have w1:wrap64 ((j:Int)+1)=((j+1:Nat):Int):=by rw [w64 (by omega) (by omega)];rfl
  have next:=ih (j+1) (by omega)
  have hz2:=hz _ (List.getElem_mem hlt)
  refine Ev_succ ?_
  simp only [spec_l12IsDoor.l0,show (j:Int) < (i:Int) from by omega,show (j:Int) < (lk.length:Int) from by omega,show (i:Int) < (lk.length:Int) from by omega,nn j,nn i,if_true,rd_MK hlt,rd_MK hi]
  rw [w1,List.drop_eq_getElem_cons hlt2,List.getElem_take,List.all_cons]
  refine Ev.bind (read_ev _ (by omega)) ?_
  have e0:(readO lk[j].f1).1=hsO lk[j]:=rfl
  rw [e0]
  by_cases h:hsO lk[j]=hsO lk[i]
  ·have h':(hsO lk[j]).toList=(hsO lk[i]).toList:=by rw [h]
   simp only [h',if_true,h,decide_true,Bool.not_true,Bool.false_or]
   by_cases h2:lk[j].f1=lk[i].f1
   ·have h2':lk[j].f1.toList=lk[i].f1.toList:=by rw [h2]
    simp only [h2',if_true,h2,decide_true,Bool.true_and]
    by_cases h3:lk[j].f2=3
    ·simp only [h3,if_true,decide_true,Bool.true_and]
     exact next
    ·simp only [h3,if_false,decide_false,Bool.false_and]
     exact Ev.now _
   ·have h2':¬ lk[j].f1.toList=lk[i].f1.toList:=fun e=>h2 (toList_inj.1 e)
    simp only [h2',if_false,h2,decide_false,Bool.false_and]
    exact Ev.now _
  ·have h':¬ (hsO lk[j]).toList=(hsO lk[i]).toList:=fun e=>h (toList_inj.1 e)
   simp only [h',if_false,h,decide_false,Bool.not_false,Bool.true_or,Bool.true_and]
   exact next
theorem isDoor_s (hl:lk.length≤400) (hz:∀ y ∈ lk,y.f1.size≤1048576) (i:Nat) (hi:i < lk.length):Ev (fun k=>spec_l12IsDoor.f k n now hs sn lk (i:Int)) (isDoor (lk.take i) lk[i]):=by
 have hz2:=hz _ (List.getElem_mem hi)
 unfold spec_l12IsDoor.f isDoor
 simp only [show (i:Int) < (lk.length:Int) from by omega,nn i,if_true,rd_MK hi]
 refine Ev.bind (read_ev _ (by omega)) ?_
 have e0:(readO lk[i].f1).1=hsO lk[i]:=rfl
 simp only [e0,door_s (hsO_size lk[i]),Option.bind_some]
 unfold atDoor
 by_cases h:lk[i].f1=doorB (hsO lk[i])
 ·have h':lk[i].f1.toList=(doorB (hsO lk[i])).toList:=congrArg _ h
  rw [decide_eq_true h,Bool.true_and]
  simp only [if_pos h']
  have:=all_s n now hs sn lk hl hz i hi (readO lk[i].f1).2.1 (readO lk[i].f1).2.2.1 (readO lk[i].f1).2.2.2.1 i 0 (by omega)
  rw [List.drop_zero] at this
  exact this
 ·have h':¬ lk[i].f1.toList=(doorB (hsO lk[i])).toList:=fun e=>h (toList_inj.1 e)
  rw [decide_eq_false h,Bool.false_and]
  simp only [if_neg h']
  exact Ev.now _
theorem look_sl (hl:lk.length≤400) (hz:∀ y ∈ lk,y.f1.size≤1048576) (d:Nat):∀ (i:Nat) (acc:List ByteArray),i+d=lk.length→acc.length≤i→Ev (fun k=>spec_TripLooked.l0 k acc (i:Int) n now hs sn lk) (lookB (lk.take i) (lk.drop i) acc):=by
 induction d with
 | zero=>
  intro i acc hi ha
  refine Ev_succ ?_
  simp only [spec_TripLooked.l0,show ¬ ((i:Int) < (lk.length:Int)) from by omega,if_false]
  rw [List.drop_of_length_le (by omega)]
  simp only [lookB]
  exact Ev.now _
 | succ d ih=>
  intro i acc hi ha
  have hlt:i < lk.length:=by omega
  have w1:wrap64 ((i:Int)+1)=((i+1:Nat):Int):=by rw [w64 (by omega) (by omega)];rfl
  have hd:=isDoor_s n now hs sn lk hl hz i hlt
  refine Ev_succ ?_
  simp only [spec_TripLooked.l0,show (i:Int) < (lk.length:Int) from by omega,nn i,if_true,rd_MK hlt]
  rw [w1,List.drop_eq_getElem_cons hlt]
  simp only [lookB]
  rw [show lk.take i++[lk[i]]=lk.take (i+1) from (List.take_succ_eq_append_getElem hlt).symm]
  by_cases h3:lk[i].f2=3
  ·simp only [h3,if_true,bne_self_eq_false,Bool.false_and,Bool.false_eq_true,if_false]
   exact ih (i+1) acc (by omega) (by omega)
  ·have h3':(lk[i].f2 != 3)=true:=by simp [h3]
   simp only [h3,if_false,h3',Bool.true_and]
   refine Ev.bind hd ?_
   cases isDoor (lk.take i) lk[i] with
   | true=>
    simp only [if_true,Bool.not_true,Bool.false_eq_true,if_false]
    exact ih (i+1) acc (by omega) (by omega)
   | false=>
    simp only [Bool.false_eq_true,if_false,Bool.not_false,if_true]
    refine Ev.bind (put_s _ acc (by omega)) ?_
    refine ih (i+1) _ (by omega) ?_
    split
    ·omega
    ·rw [List.length_append,List.length_singleton];omega
def tripLooked:List ByteArray:=if tripB n now hs sn lk=true then lookB [] lk [] else []
theorem lookB_len:∀ (r L:List MK) (acc:List ByteArray),(lookB L r acc).length≤acc.length+r.length
 | [],_,acc=>Nat.le_refl _
 | y :: r,L,acc=>by
  unfold lookB
  have h1:=lookB_len r (L++[y]) (if (y.f2 != 3 && !(isDoor L y))=true then (if hasS acc y.f1=true then acc else acc++[y.f1]) else acc)
  have h2:=next_len acc y.f1 (y.f2 != 3 && !(isDoor L y)) (hasS acc y.f1)
  rw [List.length_cons]
  omega
theorem tripLooked_len:(tripLooked n now hs sn lk).length≤lk.length:=by
 unfold tripLooked
 split
 ·have:=lookB_len lk [] []
  simpa using this
 ·exact Nat.zero_le _
theorem tripLooked_s (hS:Small n hs sn lk):Ev (fun k=>spec_TripLooked.f k n now hs sn lk) (tripLooked n now hs sn lk):=by
 unfold spec_TripLooked.f tripLooked
 simp only [Option.bind_some]
 refine Ev.bind (tripOk_s n now hs sn lk hS) ?_
 cases ht:tripB n now hs sn lk with
 | false=>simp only [Bool.false_eq_true,if_false];exact Ev.now _
 | true=>
  simp only [if_true]
  have:=look_sl n now hs sn lk (trip_norm' ht).1 hS.k lk.length 0 [] (by omega) (Nat.le_refl _)
  rw [List.drop_zero,List.take_zero] at this
  exact this
theorem tripLooked_i (hS:Small n hs sn lk):Ev (fun k=>impl_TripLooked.f k n now hs sn lk) (tripLooked n now hs sn lk):=by
 unfold impl_TripLooked.f tripLooked
 refine Ev.bind (tripOk_i n now hs sn lk hS) ?_
 cases ht:tripB n now hs sn lk with
 | false=>simp only [Bool.false_eq_true,if_false];exact Ev.now _
 | true=>
  have h4:=(trip_norm' ht).1
  simp only [if_true,impl_looked.f,show lk.length≤1000000 from by omega]
  have:=look_il lk [] [] (by simp;omega) (trip_norm' ht).2
  exact Ev.bind this (Ev.now _)
end
end Go.Proofs.YtnnciiiackinpaaGreatDoor.Tr
end
section
namespace Go.Proofs.YtnnciiiackinpaaGreatDoor.Pure
open Go.RowKit Go.Proofs.YtnnciiiackinpaaGreatDoor.P Go.Proofs.YtnnciiiackinpaaGreatDoorW.PrintWords Go.Proofs.YtnnciiiackinpaaGreatDoorW.PrintLast Go.Proofs.YtnnciiiackinpaaGreatDoor.B
set_option linter.unusedSimpArgs false
set_option linter.unusedVariables false
theorem FnExactTripLooked (f0:ByteArray) (f1:Int) (f2:List Tr.LH) (f3:List ByteArray) (f4:List Tr.LK) (hg:Tr.TB 4611686018427387904 17592186044416 f0 f2 f3 f4) :
  Ev (fun k=>laws_FnExactTripLooked.f k f0 f1 f2 f3 f4) true:=by
 unfold laws_FnExactTripLooked.f
 obtain ⟨r,hr,hb⟩:=Tr.szT_ev f0 f1 f2 f3 f4 hg
 refine Ev.bind hr ?_
 by_cases hr0:r < 0
 ·simp only [hr0,if_true];exact Ev.now _
 simp only [hr0,if_false]
 have hB:=hb (by omega)
 have hS:=Tr.small_of hB
 have hA:=Tr.toT_b f1 hB
 have e1:=Tr.tripLooked_s f0 f1 _ f3 _ hS
 have e2:=Tr.tripLooked_i f0 f1 _ f3 _ hS
 have hl:=Tr.tripLooked_len f0 f1 (f2.map Tr.cH) f3 (f4.map Tr.cK)
 have hl2:=hS.ll
 generalize Tr.tripLooked f0 f1 (f2.map Tr.cH) f3 (f4.map Tr.cK)=g at e1 e2 hl
 obtain ⟨m,hm,m0⟩:=Tr.markT_ev hS
 obtain ⟨g',hg1,hgl,hg2⟩:=Tx.markS_ev g 1 (by omega) (by omega) (by omega)
 have hg3:=Tx.heldS_ev g' 1 (by omega) (by omega) (by omega) hg2
 rw [hgl] at hg3
 refine Ev.bind hA (Ev.bind e1 (Ev.bind e2 (Ev.bind (Tr.eqS_ev g (by omega)) (Ev.bind (Tr.eqT_b f1 hB) (Ev.bind hm (Ev.bind hg1 (Ev.bind hg3 ?_)))))))
 rw [if_pos ⟨rfl,rfl,m0,by omega,rfl⟩]
 exact Ev.now _
end Go.Proofs.YtnnciiiackinpaaGreatDoor.Pure
end
section
namespace Go.Proofs.YtnnciiiackinpaaGreatDoorW.PrintWords
open Go.ChangeShapes Go.WideShapes

end Go.Proofs.YtnnciiiackinpaaGreatDoorW.PrintWords
end
section
namespace Go.Proofs.YtnnciiiackinpaaGreatDoor.fnExactTripLooked
open Go.ChangeShapes Go.WideShapes Go.ChangeAt Go.RowKit
open Go.ChangeMaps (open_string shut_string)
set_option linter.unusedVariables false
theorem own : ownKnob Tryz.prog.godebug = none := by kernel_rfl
theorem laidOut : laidOutB Tryz.prog = true := by kernel_rfl
set_option maxRecDepth 100000 in
theorem lifted (os : Os) (started : os.Started) (H : Type) (enc : TypeId × Value → H) :
  ReturnsInHanded {} Tryz.checked os 4 .any (fun w args => (Rows.fnExactTripLookedSpec.pre enc Tryz.prog Tryz.f4 Rows.fnExactTripLookedRow.domain false w args ∧ laidMetH Tryz.prog Rows.fnExactTripLookedRow.laid w) ∧ sizedMet enc Tryz.prog Tryz.f4 (OpenSpec.ofChange Rows.fnExactTripLookedSpec) false w args)
   (Rows.fnExactTripLookedSpec.post enc Tryz.prog Tryz.f4 false true false false) := by
 refine returnsInHanded_of_change_and (C := Tryz.checked) (X := fun w _ => laidMetH Tryz.prog Rows.fnExactTripLookedRow.laid w) (fun _ _ _ hh h => h.of_heap hh) own started (by kernel_rfl) Tryz.func4
  (ChangeSpec.witness_shaped (enc := enc) (C := Tryz.checked) (os := os) (X := fun w _ => laidMetH Tryz.prog Rows.fnExactTripLookedRow.laid w) false (World.laidAll Tryz.prog os Rows.fnExactTripLookedRow.laid) #[.agg #[.string ByteArray.empty, .int .i64 0, .slice none 0 0, .slice none 0 0, .slice none 0 0]] 8 (World.laidAll_os _ _ _)
   (World.shaped_of_ZipB (by kernel_rfl) (by kernel_rfl)) (by kernel_rfl) (by kernel_rfl) (by kernel_rfl)
   (by rw [MakeChecks.laidMetH_plain _ _ _ (by kernel_rfl)]; exact laidMet_laidAll _ (by kernel_rfl) (by kernel_rfl))) ?_
 intro W base args ds gs before hval0 hW hcnd hsz0 hL _
 have hsz : (DataW.weightsEach Tryz.prog (Tryz.f4.params.toList ++ Rows.fnExactTripLookedSpec.plain.varTypes Tryz.prog) (ds ++ gs)).all (· ≤ reachBytes) = true := hsz0
 have hval : ∀ (j : Nat) t v, Tryz.f4.params[j]? = some t → args[j]? = some v → Value.okWide Tryz.prog W .any base t v := hval0
 have hW' := hW
 obtain ⟨p, q, hA0, hV, rfl, hfz, hnd⟩ := hW
 have hA : DataW.TrodAll enc Tryz.prog W 0 (fun _ => true) true Tryz.f4.params.toList args.toList ds p := hA0
 rw [Tryz.params4] at hA hval hsz
 obtain ⟨v0, vs0, d0, ds0, p0, q0, hargs, rfl, rfl, h0, r0⟩ := trodAll_cons hA
 obtain ⟨rfl, rfl, rfl⟩ := trodAll_nil r0
 obtain rfl : args = #[v0] := by cases args; simp_all
 obtain ⟨rfl, rfl⟩ := trodVars_none hV
 have k0 := h0
 have lt0 : ∀ x ∈ p0, x.block < W.heap.size := by obtain ⟨m, hm⟩ := k0; exact DataW.trod_lt m _ _ _ hm
 have hrb : reachBytes = 140737488351232 := rfl
 obtain ⟨s0, i1, A2, l2, c2, A3, l3, c3, A4, l4, c4, ev, hC2, hl2, hC3, hl3, hC4, hl4, hw⟩ := Tr.trip_open (.inr ⟨base, hval 0 26 v0 rfl rfl⟩) h0
 subst ev
 have hB := hw reachBytes (fun x hx => by
  have g2 := List.all_eq_true.1 hsz _ (DataW.weights_mem_each (j := 0) (t := 26) rfl rfl x hx)
  simpa using g2) (by omega) (by omega)
 obtain ⟨K, hK⟩ := Pure.FnExactTripLooked s0 i1 l2 l3 l4 hB
 clear hA0 hval0 hsz0 hsz hw
 refine (P.laws_FnExactTripLooked.calls K s0 i1 A2 c2 l2 A3 c3 l3 A4 c4 l4 W hC2 hl2 hC3 hl3 hC4 hl4 (hK K (Nat.le_refl _))).mono fun e W' ⟨he, bel⟩ => ?_
 subst he
 exact ⟨_, rfl, _, _, _, [], _, [], hW', trodAll_mk1 (shut_bool Tryz.underlying4 _), (trodAll_cons_mk (Below.trod laidOut (by kernel_rfl) (of_decide_eq_true (by kernel_rfl)) k0 bel lt0) trodAll_mk0), rfl, bel.frame _, fun h => by cases h⟩
set_option maxHeartbeats 4000000 in
theorem over : Rows.fnExactTripLookedRow.holds Tryz.pinned (OpenSpec.ofChange Rows.fnExactTripLookedSpec) :=
 OpenClaim.holds_of_wide 4 Tryz.f4 rfl rfl rfl rfl rfl rfl rfl ⟨rfl, rfl, rfl, rfl, rfl⟩ rfl rfl rfl rfl rfl (by as_aux_lemma => kernel_rfl) Tryz.func4 (by as_aux_lemma => kernel_rfl)
  (of_decide_eq_true (by as_aux_lemma => kernel_rfl)) (by unfold Func.isWrapper; first | (rw [if_pos (by decide +kernel)]; kernel_rfl) | (rw [if_neg (by decide +kernel)]; exact ⟨rfl, rfl⟩))
  (fun os started H enc _ => lifted os started H enc)
theorem card_holds : Rows.FnExactTripLookedCardSaid :=
 Claim7.holds_tied_plain_at .later [] [.data, .pinned] true (true, "46d27b90297ab5c7d7a93b95ed6b06eaa200d58fb3db614c4d8df8b0924ff882") false over (fun _ h => by cases h) (by as_aux_lemma => kernel_rfl) (fun _ h => by cases h) fnExactTripLooked_row_tie rfl ⟨rfl, rfl⟩ (by as_aux_lemma => kernel_rfl) rfl
  (fun f fn hf hfn => by
   obtain rfl : f = 4 := Option.some.inj ((show Tryz.prog.funcNamed "loop.example/pedlar/laws.FnExactTripLooked" = some 4 by as_aux_lemma => kernel_rfl).symm.trans hf) |>.symm
   obtain rfl : fn = Tryz.f4 := (Option.some.inj (Tryz.func4.symm.trans hfn)).symm
   exact ⟨by as_aux_lemma => kernel_rfl, fun j t ht => by
    rw [Tryz.params4] at ht
    have hm : t ∈ [26] := by simpa using Array.mem_of_getElem? ht
    have hall : ([26].all fun u => !Tryz.prog.wantsStandIn u) = true := by as_aux_lemma => kernel_rfl
    exact (show Tryz.prog.wantsStandIn t = false by simpa using List.all_eq_true.1 hall t hm)⟩)
  (by as_aux_lemma => kernel_rfl)
#print axioms card_holds
end Go.Proofs.YtnnciiiackinpaaGreatDoor.fnExactTripLooked
namespace Go.Proofs.YtnnciiiackinpaaGreatDoor
theorem fnExactTripLooked_holds : Rows.FnExactTripLookedCardSaid := fnExactTripLooked.card_holds
end Go.Proofs.YtnnciiiackinpaaGreatDoor
end
