/- FnExactTripNext holds of the given program at every input: the program's TripNext returns what the reference's returns. No condition. -/
import Derived.Test.YteepbodnaameiaaGreatDoorZFnExactTripNexte
import Derived.Test.YteepbodnaameiaaGreatDoorZFnExactTripNextb
import Derived.Test.YteepbodnaameiaaGreatDoorZFnExactTripNextc
import Derived.Lib.IndexAny
import Derived.Test.YteepbodnaameiaaGreatDoorZFnExactTripNextd
import Derived.SizedLaws
import Derived.ChangeSlices
import Derived.Test.YteepbodnaameiaaGreatDoorRows
import Derived.Test.YteepbodnaameiaaGreatDoorCards
import Derived.Test.YteepbodnaameiaaGreatDoorTie
import Derived.LaidMore
import Derived.Lay
import Derived.SevenTiedAt
import Derived.Stop.Joined
import Derived.Lib.SmallJoins
import Derived.WalkKit
import Derived.ProofKit
import Derived.OpenShut
import Derived.ShutString
import Derived.ChangeOld
import Derived.Below

section
namespace Go.Proofs.YteepbodnaameiaaGreatDoor.Ad
open Go.RowKit Go.Proofs.YteepbodnaameiaaGreatDoor.P Go.Proofs.YteepbodnaameiaaGreatDoorW.PrintWords Go.Proofs.YteepbodnaameiaaGreatDoorW.PrintLast Go.Proofs.YteepbodnaameiaaGreatDoorW.PrintMore Go.Proofs.YteepbodnaameiaaGreatDoor.B
set_option linter.unusedVariables false
set_option linter.unusedSimpArgs false
def ints (l:List UInt8):List Int:=l.map fun c=>(c.toNat:Int)
theorem ints_app (a b:List UInt8):ints (a++b)=ints a++ints b:=by simp [ints]
theorem ints_len (a:List UInt8):(ints a).length=a.length:=by simp [ints]
theorem nums_ints (l:List UInt8):strOfNums (ints l)=ofL l:=by
 unfold strOfNums ofL ints
 rw [List.map_map]
 congr 2
 have h:((fun n:Int=>UInt8.ofNat n.toNat) ∘ fun c:UInt8=>(c.toNat:Int))=id:=by funext c;simp
 exact (congrArg (fun f=>List.map f l) h).trans (List.map_id l)
theorem figv_all:∀ n:Nat,n < 256→impl_figureValue.f (n:Int)=some (match hexN (UInt8.ofNat n) with|some x=>((x:Int),true)|none=>(0,false)):=by decide +kernel
theorem figv (c:UInt8):impl_figureValue.f (c.toNat:Int)=some (match hexN c with|some x=>((x:Int),true)|none=>(0,false)):=by
 have:=figv_all c.toNat c.toNat_lt
 rwa [of_toNat] at this
theorem stands_all:∀ n:Nat,n < 256→impl_standsForItself.f (n:Int)=some (plainB (UInt8.ofNat n)):=by decide +kernel
def hexT:ByteArray:=⟨#[48,49,50,51,52,53,54,55,56,57,65,66,67,68,69,70]⟩
theorem put_all:∀ n:Nat,n < 256→(plainB (UInt8.ofNat n)=true→[(n:Int)]=ints (encN n))∧(plainB (UInt8.ofNat n)=false→0≤(n:Int) / 16∧(n:Int) / 16 < 16∧0≤Go.bits .and .u8 (n:Int) 15∧Go.bits .and .u8 (n:Int) 15 < 16 ∧
  ([37,bt hexT ((n:Int) / 16),bt hexT (Go.bits .and .u8 (n:Int) 15)]:List Int)=ints (encN n)):=by decide +kernel
theorem sign_i (s:ByteArray) (i:Nat) (hs:s.size≤60) (hi:i < s.size) :
  impl_signByte.f s (i:Int)=some (if h:i+2 < (L s).length then (match hexN ((L s)[i+1]'(by omega)),hexN ((L s)[i+2]'h) with|some x,some y=>(((x * 16+y:Nat):Int),true)|_,_=>(0,false)) else (0,false)):=by
 have hL:=L_size s
 unfold impl_signByte.f
 rw [w64 (n:=(s.size:Int) - i) (by omega) (by omega)]
 by_cases h:i+2 < (L s).length
 ·rw [dif_pos h,if_neg (by omega),w64 (n:=(i:Int)+1) (by omega) (by omega),w64 (n:=(i:Int)+2) (by omega) (by omega),if_pos (by omega),if_pos (by omega)]
  have b1:=bt_get s (i+1) (by omega)
  have b2:=bt_get s (i+2) h
  have l1:=@hexN_lt ((L s)[i+1]'(by omega))
  have l2:=@hexN_lt ((L s)[i+2]'h)
  rw [show ((i:Int)+1)=((i+1:Nat):Int) from by omega,show ((i:Int)+2)=((i+2:Nat):Int) from by omega,b1,b2]
  generalize (L s)[i+1]'(by omega)=ca at l1 ⊢
  generalize (L s)[i+2]'h=cb at l2 ⊢
  rw [figv ca,figv cb]
  simp only [Option.bind_some]
  rw [if_pos (by omega),if_pos (by omega)]
  cases ha:hexN ca with
  | none=>simp
  | some x=>
   cases hb:hexN cb with
   | none=>simp
   | some y=>
    have:=l1 ha
    have:=l2 hb
    simp only [if_true]
    rw [w64 (n:=(x:Int) * 16) (by omega) (by omega),w64 (by omega) (by omega)]
    congr 2
    omega
 ·rw [dif_neg h,if_pos (by omega)]
theorem enc_i (s:ByteArray) (acc:List UInt8) (n:Nat) (j:Int) (h:n < 256) (ha:acc.length≤1000000) (k:Nat) :
  ((impl_standsForItself.f (n:Int)).bind fun t=>(if t=true then (if (ints acc).length < 140737488355328 then (impl_EscNorm.l0 k s (ints acc++[(n:Int)]) j) else (none)) else (if 0≤((n:Int) / 16) then (if ((n:Int) / 16) < 16 then (if 0≤(Go.bits .and .u8 (n:Int) 15) then (if (Go.bits .and .u8 (n:Int) 15) < 16 then ((some (([37,bt (⟨#[48,49,50,51,52,53,54,55,56,57,65,66,67,68,69,70]⟩:ByteArray) ((n:Int) / 16),bt (⟨#[48,49,50,51,52,53,54,55,56,57,65,66,67,68,69,70]⟩:ByteArray) (Go.bits .and .u8 (n:Int) 15)]:List Int):List Int)).bind fun y=>(if (ints acc).length+y.length < 140737488355328 then (impl_EscNorm.l0 k s (ints acc++y) j) else (none))) else (none)) else (none)) else (none)) else (none))))=impl_EscNorm.l0 k s (ints (acc++encN n)) j:=by
 obtain ⟨p1,p2⟩:=put_all n h
 rw [stands_all n h]
 simp only [Option.bind_some]
 have hl:=ints_len acc
 cases hp:plainB (UInt8.ofNat n) with
 | true=>rw [if_pos rfl,if_pos (by omega),ints_app,p1 hp]
 | false=>
  obtain ⟨q1,q2,q3,q4,q5⟩:=p2 hp
  rw [if_neg (by simp),if_pos q1,if_pos q2,if_pos q3,if_pos q4]
  unfold hexT at q5
  rw [q5]
  have:=encN_len n
  have:=ints_len (encN n)
  rw [if_pos (by omega),ints_app]
theorem esc_i (s:ByteArray) (hs:s.size≤60) (n:Nat):∀ (i:Nat) (acc:List UInt8),i≤s.size→s.size - i≤n→acc.length≤3 * i →
  Ev (fun k=>impl_EscNorm.l0 k s (ints acc) (i:Int)) (escR (ofL acc) (esc ((L s).drop i))):=by
 have hL:=L_size s
 induction n with
 | zero=>
  intro i acc hi hn ha
  refine Ev.of (fun k=>impl_EscNorm.mono_l k |> fun h=>h _ _ _) (k:=1) ?_
  simp only [impl_EscNorm.l0]
  rw [if_neg (by omega),List.drop_eq_nil_of_le (by omega)]
  simp only [esc,escR]
  rw [app_nil,nums_ints]
 | succ n ih=>
  intro i acc hi hn ha
  by_cases hlt:i < s.size
  ·have hlt':i < (L s).length:=by omega
   rw [drop_at hlt']
   have hb:=bt_get s i hlt'
   by_cases hc:(L s)[i]=37
   ·have hb37:bt s i=37:=by rw [hb,hc];rfl
    have w3:wrap64 (wrap64 ((i:Int)+2)+1)=((i+2+1:Nat):Int):=by rw [w64 (n:=(i:Int)+2) (by omega) (by omega),w64 (by omega) (by omega)];omega
    rw [hc]
    have sg:=sign_i s i hs hlt
    refine Ev_succ ?_
    simp only [impl_EscNorm.l0]
    simp only [show ((i:Int) < (s.size:Int)) from by omega,show ((0:Int)≤(i:Int)) from by omega,hb37,if_true,sg,Option.bind_some,w3]
    by_cases h2:i+2 < (L s).length
    ·have g1:i+1 < (L s).length:=by omega
     rw [drop_at g1,drop_at h2]
     simp only [h2,dif_pos]
     generalize (L s)[i+1]'g1=ca
     generalize (L s)[i+2]'h2=cb
     cases ha':hexN ca with
     | none=>
      rw [esc_bad1 _ _ ha']
      simp only [Bool.false_eq_true,if_false]
      exact Ev.now _
     | some x=>
      cases hb':hexN cb with
      | none=>
       rw [esc_bad2 _ _ hb']
       simp only [Bool.false_eq_true,if_false]
       exact Ev.now _
      | some y=>
       have hx:=hexN_lt ha'
       have hy:=hexN_lt hb'
       rw [esc_sign _ ha' hb',escR_map]
       simp only [if_true]
       refine Ev.congr (fun k=>enc_i s acc (x * 16+y) _ (by omega) (by omega) k) ?_
       have:=encN_len (x * 16+y)
       rw [← ofL_app]
       exact ih (i+2+1) _ (by omega) (by omega) (by rw [List.length_append];omega)
    ·rw [esc_short (by rw [List.length_drop];omega)]
     simp only [h2,dif_neg,not_false_eq_true,Bool.false_eq_true,if_false]
     exact Ev.now _
   ·have hb37:¬ bt s i=37:=by
     rw [hb]
     intro e
     exact hc (UInt8.toNat_inj.1 (by have:(37:UInt8).toNat=37:=rfl;omega))
    rw [esc_plain _ hc]
    have hlt8:=(L s)[i].toNat_lt
    have w1:wrap64 ((i:Int)+1)=((i+1:Nat):Int):=by rw [w64 (by omega) (by omega)];omega
    refine Ev_succ ?_
    simp only [impl_EscNorm.l0]
    simp only [show ((i:Int) < (s.size:Int)) from by omega,show ((0:Int)≤(i:Int)) from by omega,hb37,if_true,if_false,w1]
    rw [escR_map]
    simp only [hb]
    refine Ev.congr (fun k=>enc_i s acc (L s)[i].toNat _ (by omega) (by omega) k) ?_
    have hz:=encN_len (L s)[i].toNat
    rw [← ofL_app]
    refine ih (i+1) _ (by omega) (by omega) ?_
    rw [List.length_append];omega
  ·refine Ev.of (fun k=>impl_EscNorm.mono_l k |> fun h=>h _ _ _) (k:=1) ?_
   simp only [impl_EscNorm.l0]
   rw [if_neg (by omega),List.drop_eq_nil_of_le (by omega)]
   simp only [esc,escR]
   rw [app_nil,nums_ints]
theorem escNorm_i (s:ByteArray):Ev (fun k=>impl_EscNorm.f k s) (escNorm s):=by
 unfold impl_EscNorm.f escNorm
 by_cases h:s.size > 60
 ·simp only [show ((s.size:Int) > 60) from by omega,if_true,h]
  exact Ev.now _
 ·simp only [show ¬ ((s.size:Int) > 60) from by omega,if_false,h]
  have:=esc_i s (by omega) s.size 0 [] (by omega) (by omega) (Nat.le_refl 0)
  simp only [List.drop_zero] at this
  have e:escR (ofL []) (esc (L s))=escO (esc (L s)):=by
   unfold escR escO
   cases esc (L s) with
   | none=>rfl
   | some r=>simp only [Prod.mk.injEq,and_true];apply L_inj;rw [L_app];rfl
  rw [← e]
  exact this
theorem norm_i (s:ByteArray):Ev (fun k=>impl_isNormal.f k s) (isNorm s):=by
 unfold impl_isNormal.f isNorm
 refine Ev.bind (escNorm_i s) ?_
 by_cases h:(escNorm s).2=true
 ·simp only [h,if_true,Bool.true_and]
  exact Ev.now _
 ·simp only [h,if_false,Bool.false_and]
  exact Ev.now _
theorem small_i (s:ByteArray) (hs:s.size≤140737488351232) (d:Nat):∀ (k:Nat) (i:Nat),i+d=s.size→d < k →
  impl_allSmallLetters.l0 k s (i:Int)=some (smallFrom s d i):=by
 induction d with
 | zero=>
  intro k i h hk
  obtain ⟨k,rfl⟩:∃ m,k=m+1:=⟨k - 1,by omega⟩
  simp only [impl_allSmallLetters.l0,smallFrom]
  rw [if_neg (by omega)]
 | succ d ih=>
  intro k i h hk
  obtain ⟨k,rfl⟩:∃ m,k=m+1:=⟨k - 1,by omega⟩
  simp only [impl_allSmallLetters.l0,smallFrom]
  rw [if_pos (by omega),if_pos (by omega)]
  by_cases h1:bt s i < 97
  ·rw [if_pos h1,if_pos h1]
  ·rw [if_neg h1,if_neg h1]
   by_cases h2:bt s i > 122
   ·rw [if_pos h2,if_pos h2]
   ·rw [if_neg h2,if_neg h2,w64 (by omega) (by omega)]
    exact ih k (i+1) (by omega) (by omega)
theorem smalls_i (s:ByteArray) (hs:s.size≤140737488351232):Ev (fun k=>impl_allSmallLetters.f k s) (isSmall s):=by
 refine Ev.of (fun k=>impl_allSmallLetters.mono _ k) (k:=s.size+1) ?_
 exact small_i s hs s.size (s.size+1) 0 (by omega) (by omega)
theorem house_i (s:ByteArray) (hs:s.size≤140737488351232):Ev (fun k=>impl_isHouse.f k s) (isHouse s):=by
 unfold impl_isHouse.f isHouse
 by_cases h1:1≤s.size
 ·simp only [show ((s.size:Int) ≥ 1) from by omega,if_true,h1,decide_true,Bool.true_and]
  by_cases h2:s.size≤5
  ·simp only [show ((s.size:Int)≤5) from by omega,if_true,h2,decide_true,Bool.true_and]
   exact Ev.bind (smalls_i s hs) (Ev.now _)
  ·simp only [show ¬ ((s.size:Int)≤5) from by omega,if_false,h2,decide_false,Bool.false_and]
   exact Ev.now _
 ·simp only [show ¬ ((s.size:Int) ≥ 1) from by omega,if_false,h1,decide_false,Bool.false_and]
  exact Ev.now _
theorem L_fold:∀ (r:List ByteArray) (acc:ByteArray),L (r.foldl (fun a q=>(a++⟨#[47]⟩)++q) acc)=L acc++Lib.joinTail [47] (r.map L)
 | [],acc=>by simp [Lib.joinTail]
 | q :: r,acc=>by
  rw [List.foldl_cons,L_fold r,L_app,L_app]
  simp [Lib.joinTail,L]
theorem L_body (ps:List ByteArray):L (body ps)=47 :: Lib.join (ps.map L) [47]:=by
 cases ps with
 | nil=>rfl
 | cons p r=>
  unfold body
  rw [L_fold,List.map_cons,Lib.join_cons,L_app]
  rfl
theorem body_join (ps:List ByteArray):(⟨#[47]⟩:ByteArray)++ofL (Lib.join (ps.map L) [47])=body ps:=by
 apply L_inj
 rw [L_app,L_of,L_body]
 rfl
theorem join_len (ps:List ByteArray):(Lib.join (ps.map L) [47]).length+1=(body ps).size:=by
 rw [← L_size,L_body];simp
theorem path_i (parts:List ByteArray) (asks:Bool) (ask house:ByteArray) (hP:Parts parts) (hq:ask.size≤1048576):impl_writePath.f house parts asks ask=some (pathB parts asks ask):=by
 have hz:=path_size parts false ask hP hq
 have hb:pathB parts false ask=body parts:=rfl
 rw [hb] at hz
 have hj:=join_len parts
 have hf:=hP.few
 unfold impl_writePath.f strings_Join.f
 have e47:L (⟨#[47]⟩:ByteArray)=[47]:=rfl
 rw [e47,if_pos ⟨by omega,by omega⟩]
 simp only [Option.bind_some]
 have hs:=ofL_size (Lib.join (parts.map L) [47])
 rw [if_pos (by omega),body_join]
 by_cases h:asks=true
 ·rw [if_pos h,if_pos (by omega),if_pos (by omega)]
  unfold pathB
  rw [if_pos h,ByteArray.append_assoc]
 ·rw [if_neg h]
  unfold pathB
  rw [if_neg h]
theorem text_i (house:ByteArray) (parts:List ByteArray) (asks:Bool) (ask:ByteArray) (hP:Parts parts) (hq:ask.size≤1048576) (hh:house.size≤1048576) :
  impl_writeAddr.f house parts asks ask=some (textB house parts asks ask):=by
 have hz:=path_size parts asks ask hP hq
 unfold impl_writeAddr.f
 rw [if_pos (by omega),path_i parts asks ask house hP hq]
 simp only [Option.bind_some]
 rw [if_pos (by omega)]
 rfl
def okEnd (house:ByteArray) (parts:List ByteArray) (asks:Bool) (ask:ByteArray):Bool:=isNorm ask && (asks || ask.toList == []) && decide ((textB house parts asks ask).size≤60)
theorem ok_i (house:ByteArray) (parts:List ByteArray) (asks:Bool) (ask:ByteArray) (hP:Parts parts) (hq:ask.size≤1048576) (hh:house.size≤1048576) (d:Nat):∀ (i:Nat),i+d=parts.length →
  Ev (fun k=>impl_AddrOk.l0 k parts (parts.length:Int) (i:Int) house parts asks ask) ((parts.drop i).all partOk && okEnd house parts asks ask):=by
 have hf:=hP.few
 induction d with
 | zero=>
  intro i hi
  rw [List.drop_eq_nil_of_le (by omega)]
  simp only [List.all_nil,Bool.true_and]
  refine Ev_succ ?_
  simp only [impl_AddrOk.l0]
  simp only [show ¬ ((i:Int) < (parts.length:Int)) from by omega,if_false,text_i house parts asks ask hP hq hh,Option.bind_some]
  refine Ev.bind (norm_i ask) ?_
  unfold okEnd
  have e:decide (((textB house parts asks ask).size:Int)≤60)=decide ((textB house parts asks ask).size≤60):=by rw [Bool.eq_iff_iff];simp;omega
  by_cases h3:isNorm ask=true
  ·simp only [h3,if_true,Bool.true_and,e]
   by_cases h4:asks=true
   ·simp only [h4,if_true,Bool.true_or,Bool.true_and]
    exact Ev.now _
   ·by_cases h5:ask.toList=[]
    ·simp only [h4,if_false,h5,if_true,beq_self_eq_true,Bool.or_true,Bool.true_and]
     exact Ev.now _
    ·simp only [h4,if_false,h5,show (ask.toList == ([]:List UInt8))=false from by simp [h5],Bool.or_false,Bool.false_and]
     exact Ev.now _
  ·simp only [h3,if_false,Bool.false_and]
   exact Ev.now _
 | succ d ih=>
  intro i hi
  have hlt:i < parts.length:=by omega
  rw [List.drop_eq_getElem_cons hlt,List.all_cons]
  refine Ev_succ ?_
  simp only [impl_AddrOk.l0]
  have w1:wrap64 ((i:Int)+1)=((i+1:Nat):Int):=by rw [w64 (by omega) (by omega)];omega
  simp only [show ((i:Int) < (parts.length:Int)) from by omega,show ((0:Int)≤(i:Int)) from by omega,if_true,rd_at hlt,w1]
  by_cases h2:parts[i].toList=[]
  ·simp only [h2,if_true]
   rw [show partOk parts[i]=false from by simp [partOk,h2]]
   exact Ev.now _
  ·by_cases h3:parts[i].toList=[46]
   ·simp only [h2,h3,if_true,if_false]
    rw [show partOk parts[i]=false from by simp [partOk,h3]]
    first|exact Ev.now _|simpa using Ev.now _
   ·by_cases h4:parts[i].toList=[46,46]
    ·simp only [h2,h3,h4,if_true,if_false]
     rw [show partOk parts[i]=false from by simp [partOk,h4]]
     first|exact Ev.now _|simpa using Ev.now _
    ·simp only [h2,h3,h4,if_false]
     refine Ev.bind (norm_i parts[i]) ?_
     by_cases h1:isNorm parts[i]=true
     ·simp only [h1,if_true]
      rw [show partOk parts[i]=true from by simp [partOk,h1,h2,h3,h4],Bool.true_and]
      exact ih (i+1) (by omega)
     ·simp only [h1,if_false]
      rw [show partOk parts[i]=false from by simp [partOk,h1]]
      exact Ev.now _
theorem okEnd_is (house:ByteArray) (parts:List ByteArray) (asks:Bool) (ask:ByteArray):addrOk house parts asks ask=(isHouse house && decide (parts.length≤5) && (parts.all partOk && okEnd house parts asks ask)):=by
 unfold addrOk okEnd
 cases isHouse house <;> cases decide (parts.length≤5) <;> cases isNorm ask <;> cases (asks || ask.toList == []) <;> cases parts.all partOk <;> rfl
theorem addrOk_i (house:ByteArray) (parts:List ByteArray) (asks:Bool) (ask:ByteArray) (hP:Parts parts) (hq:ask.size≤1048576) (hh:house.size≤1048576) :
  Ev (fun k=>impl_AddrOk.f k house parts asks ask) (addrOk house parts asks ask):=by
 have hf:=hP.few
 have bad:Ev (fun k=>impl_AddrOk.j0 k true house parts asks ask) false:=Ev_succ (by simp only [impl_AddrOk.j0,if_true];exact Ev.now _)
 unfold impl_AddrOk.f
 rw [okEnd_is]
 refine Ev.bind (house_i house (by omega)) ?_
 by_cases h1:isHouse house=true
 ·simp only [h1,if_true,Bool.true_and]
  by_cases h2:parts.length≤5
  ·rw [show decide ((parts.length:Int) > 5)=false from by simp;omega]
   simp only [h2,decide_true,Bool.true_and]
   refine Ev_succ ?_
   simp only [impl_AddrOk.j0,Bool.false_eq_true,if_false]
   have:=ok_i house parts asks ask hP hq hh parts.length 0 (by omega)
   simpa using this
  ·rw [show decide ((parts.length:Int) > 5)=true from by simp;omega]
   simp only [h2,decide_false,Bool.false_and]
   exact bad
 ·simp only [h1,if_false,Bool.false_and]
  exact bad
def cutL (c:UInt8):List UInt8→List UInt8×List UInt8×Bool
 | []=>([],[],false)
 | x :: xs=>if x=c then ([],xs,true) else (x :: (cutL c xs).1,(cutL c xs).2)
theorem cutL_false {c:UInt8}:∀ {l:List UInt8},(cutL c l).2.2=false→(cutL c l).1=l∧(cutL c l).2.1=[]
 | [],_=>by simp [cutL]
 | x :: xs,h=>by
  unfold cutL at h ⊢
  by_cases e:x=c
  ·rw [if_pos e] at h;cases h
  ·rw [if_neg e] at h ⊢
   have:=cutL_false (l:=xs) h
   exact ⟨by rw [this.1],this.2⟩
theorem cutL_true {c:UInt8}:∀ {l:List UInt8},(cutL c l).2.2=true→l=(cutL c l).1++c :: (cutL c l).2.1
 | [],h=>by simp [cutL] at h
 | x :: xs,h=>by
  unfold cutL at h ⊢
  by_cases e:x=c
  ·rw [if_pos e,e];rfl
  ·rw [if_neg e] at h ⊢
   have:=cutL_true (l:=xs) h
   show x :: xs=x :: ((cutL c xs).1++c :: (cutL c xs).2.1)
   rw [← this]
theorem cutL_len {c:UInt8}:∀ (l:List UInt8),(cutL c l).1.length+(cutL c l).2.1.length≤l.length∧((cutL c l).2.2=true→(cutL c l).1.length+(cutL c l).2.1.length+1=l.length)
 | []=>by simp [cutL]
 | x :: xs=>by
  unfold cutL
  by_cases e:x=c
  ·rw [if_pos e];simp
  ·rw [if_neg e]
   have:=cutL_len (c:=c) xs
   simp only [List.length_cons]
   exact ⟨by omega,fun h=>by have:=this.2 h;omega⟩
def cutB (c:UInt8) (s:ByteArray):ByteArray×ByteArray×Bool:=(ofL (cutL c (L s)).1,ofL (cutL c (L s)).2.1,(cutL c (L s)).2.2)
theorem cut_l (s:ByteArray) (c:UInt8) (hs:s.size≤140737488351232):∀ (l:List UInt8) (i:Nat),(L s).drop i=l →
  Ev (fun k=>spec_l1Cut.l0 k s (c.toNat:Int) (i:Int)) (ofL ((L s).take i++(cutL c l).1),ofL (cutL c l).2.1,(cutL c l).2.2)
 | [],i,h=>by
  have:=bt_end h
  have n1:¬ ((i:Int) < (s.size:Int)):=by omega
  refine Ev_succ ?_
  simp only [spec_l1Cut.l0,n1,if_false]
  have e:(L s).take i=L s:=List.take_of_length_le (by rw [L_size];omega)
  simp only [cutL,e,List.append_nil,of_L]
  exact Ev.now _
 | x :: xs,i,h=>by
  obtain ⟨hi,hb,hd⟩:=bt_at h
  refine Ev_succ ?_
  have e1:wrap64 ((i:Int)+1)=((i+1:Nat):Int):=by rw [w64 (by omega) (by omega)];rfl
  have f1:(i:Int) < (s.size:Int):=by omega
  have f2:(0:Int)≤(i:Int):=by omega
  have f3:(i:Int)≤(s.size:Int):=by omega
  have f4:(0:Int)≤((i+1:Nat):Int):=by omega
  have f5:((i+1:Nat):Int)≤(s.size:Int):=by omega
  simp only [spec_l1Cut.l0,e1,f1,f2,f3,f4,f5,if_true,hb,u8_eq]
  unfold cutL
  by_cases e:x=c
  ·simp only [e,if_true]
   have a1:s.extract 0 ((i:Int)).toNat=ofL ((L s).take i++[]):=by
    apply L_inj;rw [L_ext,L_of];simp
   have a2:s.extract ((((i+1:Nat):Int))).toNat s.size=ofL xs:=by
    apply L_inj;rw [L_ext,L_of,Int.toNat_natCast,hd,List.take_of_length_le]
    rw [← hd,List.length_drop,L_size];omega
   rw [a1,a2]
   exact Ev.now _
  ·simp only [e,if_false]
   have:=cut_l s c hs xs (i+1) hd
   have ht:(L s).take (i+1)++(cutL c xs).1=(L s).take i++(x :: (cutL c xs).1):=by
    have hl:i < (L s).length:=by rw [L_size];exact hi
    have:(L s)[i]=x:=by
     have hd2:(L s).drop i=(L s)[i] :: (L s).drop (i+1):=List.drop_eq_getElem_cons hl
     rw [h] at hd2
     injection hd2 with h1 h2
     exact h1.symm
    rw [List.take_succ_eq_append_getElem hl,this]
    simp
   rw [ht] at this
   exact this
theorem cut_ev (s:ByteArray) (c:UInt8) (hs:s.size≤140737488351232):Ev (fun k=>spec_l1Cut.f k s (c.toNat:Int)) (cutB c s):=by
 have:=cut_l s c hs (L s) 0 rfl
 simp only [List.take_zero,List.nil_append] at this
 exact this
def splitN (c:UInt8):Nat→List UInt8→List (List UInt8)
 | 0,l=>[l]
 | n+1,l=>(cutL c l).1 :: (if (cutL c l).2.2=true then splitN c n (cutL c l).2.1 else [])
def splitL (c:UInt8) (l:List UInt8):List (List UInt8):=splitN c (l.length+1) l
theorem splitN_eq (c:UInt8):∀ (n m:Nat) (l:List UInt8),l.length < n→l.length < m→splitN c n l=splitN c m l
 | 0,_,l,h,_=>absurd h (by omega)
 | _+1,0,l,_,h=>absurd h (by omega)
 | n+1,m+1,l,h1,h2=>by
  simp only [splitN]
  by_cases e:(cutL c l).2.2=true
  ·have:=(cutL_len (c:=c) l).2 e
   rw [if_pos e,if_pos e,splitN_eq c n m _ (by omega) (by omega)]
  ·rw [if_neg e,if_neg e]
theorem splitL_eq (c:UInt8) (l:List UInt8):splitL c l=(cutL c l).1 :: (if (cutL c l).2.2=true then splitL c (cutL c l).2.1 else []):=by
 unfold splitL
 rw [splitN]
 by_cases e:(cutL c l).2.2=true
 ·have:=(cutL_len (c:=c) l).2 e
  rw [if_pos e,if_pos e,splitN_eq c _ ((cutL c l).2.1.length+1) _ (by omega) (by omega)]
 ·rw [if_neg e,if_neg e]
theorem splitN_len (c:UInt8):∀ (n:Nat) (l:List UInt8),(splitN c n l).length≤l.length+1
 | 0,l=>by simp [splitN]
 | n+1,l=>by
  simp only [splitN]
  by_cases e:(cutL c l).2.2=true
  ·have:=(cutL_len (c:=c) l).2 e
   have ih:=splitN_len c n (cutL c l).2.1
   rw [if_pos e];simp only [List.length_cons];omega
  ·rw [if_neg e];simp
theorem splitL_len (c:UInt8) (l:List UInt8):(splitL c l).length≤l.length+1:=splitN_len c _ l
theorem split_l (c:UInt8) (n:Nat):∀ (s:ByteArray) (acc:List ByteArray),s.size < n→s.size≤1000000000→acc.length+s.size≤2000000000 →
  Ev (fun k=>spec_l1Split.l0 k (c.toNat:Int) acc s true) (acc++(splitL c (L s)).map ofL):=by
 induction n with
 | zero=>intro s acc h;exact absurd h (by omega)
 | succ n ih=>
  intro s acc h h1 h2
  refine Ev_succ ?_
  simp only [spec_l1Split.l0,if_true]
  refine Ev.bind (cut_ev s c (by omega)) ?_
  have g1:acc.length < 8796093022208:=by omega
  simp only [g1,if_true]
  rw [splitL_eq]
  have hl:=cutL_len (c:=c) (L s)
  rw [L_size] at hl
  by_cases e:(cutL c (L s)).2.2=true
  ·have e':(cutB c s).2.2=true:=e
   have hz:(ofL (cutL c (L s)).2.1).size=(cutL c (L s)).2.1.length:=ofL_size _
   have:=hl.2 e
   have ih':=ih (ofL (cutL c (L s)).2.1) (acc++[ofL (cutL c (L s)).1]) (by omega) (by omega) (by simp only [List.length_append,List.length_singleton];omega)
   rw [if_pos e]
   simp only [cutB,e]
   rw [L_of] at ih'
   simpa using ih'
  ·have e':(cutL c (L s)).2.2=false:=by simpa using e
   rw [if_neg e]
   simp only [cutB,e']
   refine Ev_succ ?_
   simp only [spec_l1Split.l0]
   simp
   exact Ev.now _
theorem split_ev (s:ByteArray) (c:UInt8) (hs:s.size≤1000000000):Ev (fun k=>spec_l1Split.f k s (c.toNat:Int)) ((splitL c (L s)).map ofL):=by
 have:=split_l c (s.size+1) s [] (by omega) hs (by simp;omega)
 rw [List.nil_append] at this
 exact this
def isName (s:ByteArray):Bool:=decide (1≤s.size) && decide (s.size≤8) && isSmall s
theorem spec_name_l (s:ByteArray) (hs:s.size≤140737488351232) (d:Nat):∀ (k:Nat) (i:Nat),i+d=s.size→d < k →
  spec_l2Name.l0 k s (i:Int)=some (smallFrom s d i && (decide (1≤s.size) && decide (s.size≤8))):=by
 induction d with
 | zero=>
  intro k i h hk
  obtain ⟨k,rfl⟩:∃ m,k=m+1:=⟨k - 1,by omega⟩
  simp only [spec_l2Name.l0,smallFrom,spec_l6In.f]
  rw [if_neg (by omega)]
  by_cases h1:1≤s.size
  ·rw [if_pos (by omega)];simp [h1];omega
  ·rw [if_neg (by omega)];simp [h1]
 | succ d ih=>
  intro k i h hk
  obtain ⟨k,rfl⟩:∃ m,k=m+1:=⟨k - 1,by omega⟩
  simp only [spec_l2Name.l0,smallFrom]
  rw [if_pos (by omega),if_pos (by omega)]
  by_cases h1:bt s i < 97
  ·rw [if_pos h1,if_pos h1];rfl
  ·rw [if_neg h1,if_neg h1]
   by_cases h2:bt s i > 122
   ·rw [if_pos h2,if_pos h2];rfl
   ·rw [if_neg h2,if_neg h2,w64 (by omega) (by omega)]
    exact ih k (i+1) (by omega) (by omega)
theorem name_ev (s:ByteArray) (hs:s.size≤140737488351232):Ev (fun k=>spec_l2Name.f k s) (isName s):=by
 refine Ev.of (fun k=>spec_l2Name.mono _ k) (k:=s.size+1) ?_
 unfold spec_l2Name.f
 have:=spec_name_l s hs s.size (s.size+1) 0 (by omega) (by omega)
 rw [show ((0:Nat):Int)=0 from rfl] at this
 rw [this]
 unfold isName isSmall
 cases smallFrom s s.size 0 <;> simp
def patB (c:UInt8):Bool:=plainB c || c == 47 || c == 42 || c == 63 || c == 37 || (decide (65≤c.toNat) && decide (c.toNat≤70))
def okL:List UInt8→Bool
 | []=>true
 | c :: r=>(patB c || (c == 36 && r.isEmpty)) && okL r
def ruleOk (p:ByteArray):Bool:=decide (1≤p.size) && decide (p.size≤16) && (bt p 0 == 47) && okL (L p)
theorem plain_f (c:UInt8):spec_l1Plain.f (c.toNat:Int)=some (plainB c):=by
 have:=plain_all c.toNat c.toNat_lt
 rwa [of_toNat] at this
theorem ok_spec_l (s:ByteArray) (hs:s.size≤1000000):∀ (l:List UInt8) (i:Nat),(L s).drop i=l→Ev (fun k=>spec_RuleOk.l0 k s (i:Int)) (okL l)
 | [],i,h=>by
  have:=bt_end h
  have n1:¬ ((i:Int) < (s.size:Int)):=by omega
  refine Ev_succ ?_
  simp only [spec_RuleOk.l0,n1,if_false]
  exact Ev.now _
 | x :: xs,i,h=>by
  obtain ⟨hi,hb,hd⟩:=bt_at h
  have e1:wrap64 ((i:Int)+1)=((i+1:Nat):Int):=by rw [w64 (by omega) (by omega)];rfl
  have e2:wrap64 ((s.size:Int) - 1)=(s.size:Int) - 1:=w64 (by omega) (by omega)
  have f1:(i:Int) < (s.size:Int):=by omega
  have f2:(0:Int)≤(i:Int):=by omega
  have hx:xs.length+(i+1)=s.size:=by rw [← L_size,← hd,List.length_drop];rw [L_size];omega
  have hE:xs.isEmpty=decide ((i:Int)=(s.size:Int) - 1):=by
   cases xs with
   | nil=>simp at hx ⊢;omega
   | cons y ys=>simp at hx ⊢;omega
  have ih:=ok_spec_l s hs xs (i+1) hd
  have c1:((x.toNat:Int)=47)↔(x == 47)=true:=by rw [beq_iff_eq];exact u8_eq (b:=47)
  have c2:((x.toNat:Int)=42)↔(x == 42)=true:=by rw [beq_iff_eq];exact u8_eq (b:=42)
  have c3:((x.toNat:Int)=63)↔(x == 63)=true:=by rw [beq_iff_eq];exact u8_eq (b:=63)
  have c4:((x.toNat:Int)=37)↔(x == 37)=true:=by rw [beq_iff_eq];exact u8_eq (b:=37)
  have c5:((x.toNat:Int)=36)↔(x == 36)=true:=by rw [beq_iff_eq];exact u8_eq (b:=36)
  have c6:((x.toNat:Int) ≥ 65)↔(decide (65≤x.toNat))=true:=by rw [decide_eq_true_eq];omega
  have c7:((x.toNat:Int)≤70)↔(decide (x.toNat≤70))=true:=by rw [decide_eq_true_eq];omega
  have c8:((i:Int)=(s.size:Int) - 1)↔xs.isEmpty=true:=by rw [hE,decide_eq_true_eq]
  refine Ev_succ ?_
  simp only [spec_RuleOk.l0,e1,e2,f1,f2,if_true,hb,plain_f,Option.bind_some,okL,patB,c1,c2,c3,c4,c5,c6,c7,c8]
  have yes:Ev (fun k=>spec_RuleOk.l0 k s ((i+1:Nat):Int)) (true && okL xs):=by rw [Bool.true_and];exact ih
  have no:Ev (fun k=>some false) (false && okL xs):=by rw [Bool.false_and];exact Ev.now _
  cases plainB x
  ·cases (x == 47)
   ·cases (x == 42)
    ·cases (x == 63)
     ·cases (x == 37)
      ·cases (x == 36) <;> cases xs.isEmpty <;> cases decide (65≤x.toNat) <;> cases decide (x.toNat≤70) <;> first|exact yes|exact no
      ·exact yes
     ·exact yes
    ·exact yes
   ·exact yes
  ·exact yes
theorem ruleOk_spec (p:ByteArray):Ev (fun k=>spec_RuleOk.f k p) (ruleOk p):=by
 unfold spec_RuleOk.f ruleOk
 by_cases h2:p.size≤16
 ·have n2:¬ (p.size:Int) > 16:=by omega
  by_cases h1:p.size=0
  ·have z:=toList_nil.2 h1
   have n1:¬ 1≤p.size:=by omega
   simp only [n2,if_false,z,if_true,n1,decide_false,Bool.false_and]
   refine Ev_succ ?_
   simp only [spec_RuleOk.j0,if_true]
   exact Ev.now _
  ·have z:¬ p.toList=[]:=fun e=>h1 (toList_nil.1 e)
   have n1:1≤p.size:=by omega
   have n3:(0:Int) < (p.size:Int):=by omega
   simp only [n2,n1,n3,z,h2,if_true,if_false,decide_true,Bool.true_and]
   refine Ev_succ ?_
   by_cases h3:bt p 0=47
   ·simp only [spec_RuleOk.j0,h3,bne_self_eq_false,Bool.false_eq_true,if_false,beq_self_eq_true,Bool.true_and]
    have:=ok_spec_l p (by omega) _ 0 rfl
    rw [List.drop_zero] at this
    exact this
   ·have h4:(bt p 0 != 47)=true:=by simpa using h3
    have h5:(bt p 0 == 47)=false:=by simpa using h3
    simp only [spec_RuleOk.j0,h4,h5,if_true,Bool.false_and]
    exact Ev.now _
 ·have n2:(p.size:Int) > 16:=by omega
  simp only [n2,h2,if_true,decide_false,Bool.and_false,Bool.false_and]
  refine Ev_succ ?_
  simp only [spec_RuleOk.j0,if_true]
  exact Ev.now _
def endsD (p:ByteArray):Bool:=(L p).getLast? == some 36
def bodyD (p:ByteArray):ByteArray:=if endsD p=true then p.extract 0 (p.size - 1) else p
theorem L_last {p:ByteArray} (h:1≤p.size):∃ l c,L p=l++[c]∧l.length+1=p.size:=by
 have hl:=L_size p
 have hn:L p≠[]:=fun e=>by rw [e] at hl;simp at hl;omega
 refine ⟨(L p).dropLast,(L p).getLast hn,(List.dropLast_concat_getLast hn).symm,?_⟩
 rw [List.length_dropLast];omega
theorem sz36:(⟨#[36]⟩:ByteArray).size=1:=rfl
theorem suf_f (p:ByteArray) (hp:p.size≤140737488351232):stringslite_HasSuffix.f p (⟨#[36]⟩:ByteArray)=some (endsD p):=by
 unfold stringslite_HasSuffix.f endsD
 rw [sz36]
 by_cases h:1≤p.size
 ·obtain ⟨l,c,e,hl⟩:=L_last h
  have w:wrap64 ((p.size:Int) - ((1:Nat):Int))=((p.size - 1:Nat):Int):=by rw [w64 (by omega) (by omega)];omega
  rw [w,if_pos (by omega),if_pos (by omega),if_pos (by omega),Int.toNat_natCast,Lib.toList_data]
  have x:L (p.extract (p.size - 1) p.size)=[c]:=by
   have hz:p.size - l.length=1:=by omega
   rw [L_ext,e,List.drop_append,show p.size - 1=l.length from by omega,hz]
   simp
  show some ((p.extract (p.size - 1) p.size).data.toList == _)=_
  rw [show (p.extract (p.size - 1) p.size).data.toList=[c] from x,e]
  simp [Lib.toList_data]
 ·rw [if_neg (by omega)]
  have:L p=[]:=List.length_eq_zero_iff.1 (by rw [L_size];omega)
  rw [this];rfl
theorem ends_size {p:ByteArray} (h:endsD p=true):1≤p.size:=by
 rcases Nat.lt_or_ge p.size 1 with h'|h'
 ·have:L p=[]:=List.length_eq_zero_iff.1 (by rw [L_size];omega)
  unfold endsD at h;rw [this] at h;cases h
 ·exact h'
theorem trim_f (p:ByteArray) (hp:p.size≤140737488351232):strings_TrimSuffix.f p (⟨#[36]⟩:ByteArray)=some (bodyD p):=by
 simp only [strings_TrimSuffix.f,stringslite_TrimSuffix.f,suf_f p hp,Option.bind_some,bodyD,sz36]
 by_cases h:endsD p=true
 ·have:=ends_size h
  have w:wrap64 ((p.size:Int) - ((1:Nat):Int))=((p.size - 1:Nat):Int):=by rw [w64 (by omega) (by omega)];omega
  rw [if_pos h,if_pos h,w,if_pos (by omega),if_pos (by omega),Int.toNat_natCast];rfl
 ·rw [if_neg h,if_neg h];rfl
theorem body_size (p:ByteArray):(bodyD p).size≤p.size:=by
 unfold bodyD
 split
 ·rw [ByteArray.size_extract];omega
 ·exact Nat.le_refl _
theorem pat_all:∀ n:Nat,n < 256→impl_isPatternByte.f (n:Int)=some (patB (UInt8.ofNat n)):=by decide +kernel
theorem pat_f (c:UInt8):impl_isPatternByte.f (c.toNat:Int)=some (patB c):=by
 have:=pat_all c.toNat c.toNat_lt
 rwa [of_toNat] at this
theorem okL_app (c:UInt8):∀ l:List UInt8,okL (l++[c])=(l.all patB && (patB c || c == 36))
 | []=>by simp [okL]
 | x :: l=>by
  simp only [List.cons_append,okL,okL_app c l,List.all_cons]
  cases l <;> simp [Bool.and_assoc]
theorem body_ok (p:ByteArray):(L (bodyD p)).all patB=okL (L p):=by
 by_cases h0:1≤p.size
 ·obtain ⟨l,c,e,hl⟩:=L_last h0
  have he:endsD p=(c == 36):=by unfold endsD;rw [e];simp
  rw [e,okL_app]
  unfold bodyD
  rw [he]
  by_cases h:c=36
  ·subst h
   rw [if_pos (by simp),L_ext,e,show p.size - 1 - 0=l.length from by omega]
   simp
  ·have h':(c == 36)=false:=by simpa using h
   rw [h',if_neg (by simp),e,Bool.or_false]
   simp
 ·have:L p=[]:=List.length_eq_zero_iff.1 (by rw [L_size];omega)
  have h1:endsD p=false:=by unfold endsD;rw [this];rfl
  unfold bodyD
  rw [h1,if_neg (by simp),this];rfl
theorem ok_impl_l (s:ByteArray) (hs:s.size≤1000000):∀ (l:List UInt8) (i:Nat),(L s).drop i=l→Ev (fun k=>impl_RuleOk.l0 k s (i:Int)) (l.all patB)
 | [],i,h=>by
  have:=bt_end h
  have n1:¬ ((i:Int) < (s.size:Int)):=by omega
  refine Ev_succ ?_
  simp only [impl_RuleOk.l0,n1,if_false]
  exact Ev.now _
 | x :: xs,i,h=>by
  obtain ⟨hi,hb,hd⟩:=bt_at h
  have e1:wrap64 ((i:Int)+1)=((i+1:Nat):Int):=by rw [w64 (by omega) (by omega)];rfl
  have f1:(i:Int) < (s.size:Int):=by omega
  have f2:(0:Int)≤(i:Int):=by omega
  refine Ev_succ ?_
  simp only [impl_RuleOk.l0,e1,f1,f2,if_true,hb,pat_f,Option.bind_some,List.all_cons]
  by_cases e:patB x=true
  ·simp only [e,if_true,Bool.true_and]
   exact ok_impl_l s hs xs (i+1) hd
  ·simp only [e,if_false,Bool.not_eq_true] at e ⊢
   simp only [e,Bool.false_and,Bool.false_eq_true,if_false]
   exact Ev.now _
theorem ruleOk_impl (p:ByteArray) (hp:p.size≤140737488351232):Ev (fun k=>impl_RuleOk.f k p) (ruleOk p):=by
 unfold impl_RuleOk.f ruleOk
 by_cases h1:p.size < 1
 ·have n1:(p.size:Int) < 1:=by omega
  have n2:¬ 1≤p.size:=by omega
  simp only [n1,if_true,n2,decide_false,Bool.false_and]
  refine Ev_succ ?_
  simp only [impl_RuleOk.j0,if_true]
  exact Ev.now _
 ·have n1:¬ (p.size:Int) < 1:=by omega
  have n1':1≤p.size:=by omega
  by_cases h2:p.size≤16
  ·have n2:¬ (p.size:Int) > 16:=by omega
   have n3:(0:Int) < (p.size:Int):=by omega
   simp only [n1,n2,n3,n1',h2,if_true,if_false,decide_true,Bool.true_and]
   refine Ev_succ ?_
   by_cases h3:bt p 0=47
   ·simp only [impl_RuleOk.j0,h3,bne_self_eq_false,Bool.false_eq_true,if_false,beq_self_eq_true,Bool.true_and,trim_f p hp,Option.bind_some]
    have:=ok_impl_l (bodyD p) (by have:=body_size p;omega) _ 0 rfl
    rw [List.drop_zero,body_ok] at this
    exact this
   ·have h4:(bt p 0 != 47)=true:=by simpa using h3
    have h5:(bt p 0 == 47)=false:=by simpa using h3
    simp only [impl_RuleOk.j0,h4,h5,if_true,Bool.false_and]
    exact Ev.now _
  ·have n2:(p.size:Int) > 16:=by omega
   simp only [n1,n2,n1',h2,if_true,if_false,decide_true,decide_false,Bool.true_and,Bool.false_and]
   refine Ev_succ ?_
   simp only [impl_RuleOk.j0,if_true]
   exact Ev.now _
end Go.Proofs.YteepbodnaameiaaGreatDoor.Ad
end
section
namespace Go.Proofs.YteepbodnaameiaaGreatDoor.Ad
open Go.RowKit Go.Proofs.YteepbodnaameiaaGreatDoorW.PrintWords Go.Proofs.YteepbodnaameiaaGreatDoor.B
set_option linter.unusedVariables false
set_option linter.unusedSimpArgs false
abbrev A5:=ByteArray×List ByteArray×Bool×ByteArray×Bool
def none5:A5:=((⟨#[]⟩:ByteArray),([]:List ByteArray),false,(⟨#[]⟩:ByteArray),false)
def escAll:List ByteArray→Option (List ByteArray)
 | []=>some []
 | q :: qs=>if (escNorm q).2=true then (escAll qs).map ((escNorm q).1 :: ·) else none
def clean1 (acc:List ByteArray) (p:ByteArray):List ByteArray:=
 if p.toList=[] then acc else if p.toList=[46] then acc else if p.toList=[46,46] then acc.take (acc.length - 1) else acc++[p]
def pathClean (ps:List ByteArray):List ByteArray:=ps.foldl clean1 []
def wayO (house:ByteArray) (base:List ByteArray) (way:ByteArray):A5:=
 match escAll ((splitL 47 (L (cutB 63 way).1)).map ofL) with
 | none=>none5
 | some ps=>if (escNorm (cutB 63 way).2.1).2=true then (if addrOk house (pathClean (base++ps)) (cutB 63 way).2.2 (escNorm (cutB 63 way).2.1).1=true then (house,pathClean (base++ps),(cutB 63 way).2.2,(escNorm (cutB 63 way).2.1).1,true) else none5) else none5
def houseL:List UInt8→List UInt8×List UInt8
 | []=>([],[])
 | x :: xs=>if x=47∨x=63 then ([],x :: xs) else (x :: (houseL xs).1,(houseL xs).2)
def wholeO (rest:ByteArray):A5:=wayO (smallB (ofL (houseL (L rest)).1)) [] (ofL (houseL (L rest)).2)
def readO (raw:ByteArray):A5:=
 if raw.size > 60 then none5 else if (cutB 35 raw).1.size < 2 then none5 else if (L (cutB 35 raw).1).take 2=[47,47] then wholeO ((cutB 35 raw).1.extract 2 (cutB 35 raw).1.size) else none5
def Fine (a:A5):Prop:=a=none5∨(a.2.2.2.2=true∧addrOk a.1 a.2.1 a.2.2.1 a.2.2.2.1=true)
theorem fine_none:Fine none5:=Or.inl rfl
theorem fine_way (h:ByteArray) (b:List ByteArray) (w:ByteArray):Fine (wayO h b w):=by
 unfold wayO
 split
 ·exact fine_none
 ·split
  ·split
   ·rename_i hh
    exact Or.inr ⟨rfl,hh⟩
   ·exact fine_none
  ·exact fine_none
theorem fine_read (raw:ByteArray):Fine (readO raw):=by
 unfold readO
 split
 ·exact fine_none
 ·split
  ·exact fine_none
  ·split
   ·exact fine_way _ _ _
   ·exact fine_none
theorem isHouse_size {s:ByteArray} (h:isHouse s=true):s.size≤5:=by
 unfold isHouse at h
 simp only [Bool.and_eq_true,decide_eq_true_eq] at h
 exact h.1.2
theorem clean1_mem {acc:List ByteArray} {p x:ByteArray} (h:x ∈ clean1 acc p):x ∈ acc∨x=p:=by
 unfold clean1 at h
 split at h
 ·exact Or.inl h
 ·split at h
  ·exact Or.inl h
  ·split at h
   ·exact Or.inl (List.mem_of_mem_take h)
   ·rcases List.mem_append.1 h with h|h
    ·exact Or.inl h
    ·exact Or.inr (List.mem_singleton.1 h)
theorem clean1_len (acc:List ByteArray) (p:ByteArray):(clean1 acc p).length≤acc.length+1:=by
 unfold clean1
 split
 ·omega
 ·split
  ·omega
  ·split
   ·rw [List.length_take];omega
   ·simp
theorem cleanF_mem:∀ {ps acc:List ByteArray} {x:ByteArray},x ∈ ps.foldl clean1 acc→x ∈ acc∨x ∈ ps
 | [],acc,x,h=>Or.inl h
 | p :: ps,acc,x,h=>by
  rw [List.foldl_cons] at h
  rcases cleanF_mem h with h|h
  ·rcases clean1_mem h with h|h
   ·exact Or.inl h
   ·exact Or.inr (by rw [h];exact List.mem_cons_self)
  ·exact Or.inr (List.mem_cons_of_mem _ h)
theorem cleanF_len:∀ (ps acc:List ByteArray),(ps.foldl clean1 acc).length≤acc.length+ps.length
 | [],acc=>by simp
 | p :: ps,acc=>by
  rw [List.foldl_cons]
  have:=cleanF_len ps (clean1 acc p)
  have:=clean1_len acc p
  simp only [List.length_cons];omega
end Go.Proofs.YteepbodnaameiaaGreatDoor.Ad
end
section
namespace Go.Proofs.YteepbodnaameiaaGreatDoor.Ad
open Go.RowKit Go.Proofs.YteepbodnaameiaaGreatDoor.P Go.Proofs.YteepbodnaameiaaGreatDoorW.PrintWords Go.Proofs.YteepbodnaameiaaGreatDoorW.PrintLast Go.Proofs.YteepbodnaameiaaGreatDoorW.PrintMore Go.Proofs.YteepbodnaameiaaGreatDoor.B
set_option linter.unusedVariables false
set_option linter.unusedSimpArgs false
theorem index_cut (c:UInt8):∀ l:List UInt8,Lib.indexByte l c=if (cutL c l).2.2=true then (((cutL c l).1.length:Nat):Int) else -1
 | []=>rfl
 | x :: xs=>by
  unfold Lib.indexByte cutL
  by_cases h:x=c
  ·subst h;simp
  ·have hb:(x == c)=false:=by simp [h]
   simp only [hb,h,if_false,Bool.false_eq_true,index_cut c xs]
   by_cases h2:(cutL c xs).2.2=true
   ·simp only [h2,if_true]
    have:((((cutL c xs).1.length:Nat):Int) == -1)=false:=by simp
    rw [this]
    simp
   ·simp only [h2,if_false,Bool.false_eq_true]
    rfl
theorem cut_parts {c:UInt8} {s:ByteArray} (h:(cutL c (L s)).2.2=true) :
  s.extract 0 (cutL c (L s)).1.length=ofL (cutL c (L s)).1∧s.extract ((cutL c (L s)).1.length+1) s.size=ofL (cutL c (L s)).2.1∧(cutL c (L s)).1.length+1≤s.size:=by
 have e:=cutL_true h
 have hn:=(cutL_len (c:=c) (L s)).2 h
 rw [L_size] at hn
 generalize (cutL c (L s)).1=a at *
 generalize (cutL c (L s)).2.1=b at *
 have e':s.data.toList=a++c :: b:=e
 refine ⟨?_,?_,by omega⟩
 ·apply L_inj
  rw [L_ext,L_of,e']
  simp
 ·apply L_inj
  have:(a++c :: b).drop (a.length+1)=b:=by rw [List.drop_append];simp
  rw [L_ext,L_of,e',this,List.take_of_length_le (by omega)]
theorem cut_i (s:ByteArray) (c:UInt8) (hs:s.size≤140737488351232):strings_Cut.f s ⟨#[c]⟩=some (cutB c s):=by
 have e1:L (⟨#[c]⟩:ByteArray)=[c]:=rfl
 have e2:(⟨#[c]⟩:ByteArray).size=1:=rfl
 unfold strings_Cut.f stringslite_Cut.f stringslite_Index.f cutB
 rw [e1]
 simp only [Option.bind_some,index_cut,e2]
 by_cases h:(cutL c (L s)).2.2=true
 ·obtain ⟨h1,h2,h3⟩:=cut_parts h
  simp only [h,if_true]
  rw [if_pos (by omega),if_pos (by omega),if_pos (by omega),w64 (by omega) (by omega),if_pos (by omega),if_pos (by omega)]
  simp only [Option.bind_some,Int.toNat_natCast]
  rw [h1,show (((cutL c (L s)).1.length:Int)+((1:Nat):Int)).toNat=(cutL c (L s)).1.length+1 from by omega,h2]
 ·simp only [h,if_false,Bool.false_eq_true]
  rw [if_neg (by decide)]
  obtain ⟨g1,g2⟩:=cutL_false (c:=c) (l:=L s) (by simpa using h)
  simp only [Option.bind_some,g1,g2,of_L]
  first|done|rfl
theorem count_cut_false {c:UInt8}:∀ {l:List UInt8},Lib.countByte l c=0→(cutL c l).2.2=false
 | [],_=>rfl
 | x :: xs,h=>by
  unfold Lib.countByte at h
  unfold cutL
  by_cases e:x=c
  ·subst e;simp at h
  ·rw [if_neg e]
   have h':Lib.countByte xs c=0:=by unfold Lib.countByte;rw [List.count_cons] at h;omega
   exact count_cut_false h'
theorem count_cut_true {c:UInt8} {m:Nat}:∀ {l:List UInt8},Lib.countByte l c=m+1→(cutL c l).2.2=true∧Lib.countByte (cutL c l).2.1 c=m
 | [],h=>by simp [Lib.countByte] at h
 | x :: xs,h=>by
  unfold Lib.countByte at h
  unfold cutL
  by_cases e:x=c
  ·subst e
   rw [if_pos rfl]
   refine ⟨rfl,?_⟩
   unfold Lib.countByte
   rw [List.count_cons_self] at h
   exact Nat.succ.inj h
  ·rw [if_neg e]
   have h':Lib.countByte xs c=m+1:=by
    unfold Lib.countByte
    rw [List.count_cons_of_ne e] at h
    exact h
   exact count_cut_true h'
theorem w64n0 (a:Nat) (h:a < 4611686018427387904):wrap64 ((a:Int)+0)=(a:Int):=by rw [w64 (by omega) (by omega)];omega
theorem w64n1 (a:Nat) (h:a < 4611686018427387904):wrap64 ((a:Int)+1)=((a+1:Nat):Int):=by rw [w64 (by omega) (by omega)];omega
theorem w64n2 (a:Nat) (h:a < 4611686018427387904):wrap64 ((a:Int)+((1:Nat):Int))=((a+1:Nat):Int):=by rw [w64 (by omega) (by omega)];omega
theorem w64b {n m:Nat} (h:n+1≤m) (hm:m≤1000000000):n < 4611686018427387904:=by omega
theorem w64d {n m:Nat} (h:n+m≤2000000000):n < 4611686018427387904:=by omega
theorem ci_lt (a m:Nat):(a:Int) < ((a+(m+1):Nat):Int):=by omega
theorem ci_neg (n:Nat):¬ ((n:Int) < 0):=by omega
theorem ci_nn (n:Nat):(0:Int)≤(n:Int):=by omega
theorem ci_le {n s:Nat} (h:n+1≤s):(n:Int)≤(s:Int):=by omega
theorem ci_le1 {n s:Nat} (h:n+1≤s):((n+1:Nat):Int)≤(s:Int):=by omega
theorem ci_l6 {a m l:Nat} (h:l=a+(m+2)):(a:Int) < (l:Int):=by omega
theorem set_mid (a:List ByteArray) (m:Nat) (p e:ByteArray):(a++List.replicate (m+1) e).set a.length p=(a++[p])++List.replicate m e:=by
 rw [List.set_append_right _ _ (Nat.le_refl _),Nat.sub_self,List.replicate_succ,List.set_cons_zero,List.append_assoc]
 rfl
theorem take_mid (a b:List ByteArray) (p:ByteArray):((a++[p])++b).take (a.length+1)=a++[p]:=by
 rw [List.take_append_of_le_length (by simp)]
 exact List.take_of_length_le (by simp)
theorem split_li (c:UInt8):∀ (m:Nat) (s:ByteArray) (a:List ByteArray),Lib.countByte (L s) c=m→s.size≤1000000000→a.length+m≤2000000000 →
  Ev (fun k=>strings_genSplit.l0 k s ⟨#[c]⟩ 0 ((a.length+m:Nat):Int) (a++List.replicate (m+1) (⟨#[]⟩:ByteArray)) (a.length:Int)) (a++(splitL c (L s)).map ofL):=by
 intro m
 have e1:L (⟨#[c]⟩:ByteArray)=[c]:=rfl
 have e2:(⟨#[c]⟩:ByteArray).size=1:=rfl
 induction m with
 | zero=>
  intro s a hc hs ha
  have hf:=count_cut_false hc
  obtain ⟨g1,g2⟩:=cutL_false hf
  rw [splitL_eq,hf]
  refine Ev_succ ?_
  simp only [strings_genSplit.l0]
  have hl:(a++List.replicate (0+1) (⟨#[]⟩:ByteArray)).length=a.length+1:=by simp
  have hw:wrap64 ((a.length:Int)+1)=((a.length+1:Nat):Int):=by rw [w64 (by omega) (by omega)];omega
  simp only [show ¬ ((a.length:Int) < ((a.length+0:Nat):Int)) from by omega,if_false,hl,show ((0:Int)≤(a.length:Int)) from by omega,show ((a.length:Int) < ((a.length+1:Nat):Int)) from by omega,if_true,hw,
   show ((0:Int)≤((a.length+1:Nat):Int)) from by omega,Int.toNat_natCast,Int.le_refl]
  rw [set_mid,take_mid]
  simp only [Bool.false_eq_true,if_false,List.map_cons,List.map_nil,g1,of_L]
  exact Ev.now _
 | succ m ih=>
  intro s a hc hs ha
  obtain ⟨ht,hc'⟩:=count_cut_true hc
  obtain ⟨h1,h2,h3⟩:=cut_parts ht
  have hix:Lib.indexByte (L s) c=(((cutL c (L s)).1.length:Nat):Int):=by rw [index_cut,if_pos ht]
  rw [splitL_eq,if_pos ht]
  have hz:(ofL (cutL c (L s)).2.1).size≤1000000000:=by
   have:=(cutL_len (c:=c) (L s)).1
   rw [L_size] at this
   rw [ofL_size];omega
  have key:=ih (ofL (cutL c (L s)).2.1) (a++[ofL (cutL c (L s)).1]) (by rw [L_of];exact hc') hz (by simp;omega)
  rw [L_of] at key
  rw [List.map_cons,show a++ofL (cutL c (L s)).1 :: List.map ofL (splitL c (cutL c (L s)).2.1)=a++[ofL (cutL c (L s)).1]++List.map ofL (splitL c (cutL c (L s)).2.1) from by simp]
  generalize (cutL c (L s)).1.length=n at h1 h2 h3 hix
  rw [show (cutL c (L s)).2.1=L (s.extract (n+1) s.size) from by rw [h2,L_of]]
  rw [← h1] at key ⊢
  rw [← h2] at key
  clear hz h1 h2 hc' ht hc
  have hl:(a++List.replicate (m+1+1) (⟨#[]⟩:ByteArray)).length=a.length+(m+2):=by simp
  have hl2:(a++[s.extract 0 n]).length=a.length+1:=by simp
  rw [hl2] at key
  refine Ev.step (fun k=>?_) key
  have c1:=ci_lt a.length m
  have c2:=ci_neg n
  have c3:=ci_nn n
  have c4:=ci_le h3
  have c5:=ci_nn a.length
  have c6:=ci_l6 hl
  have c7:=ci_nn (n+1)
  have c8:=ci_le1 h3
  have hw:wrap64 ((a.length:Int)+1)=((a.length+1:Nat):Int):=w64n1 a.length (w64d ha)
  have hw0:wrap64 ((n:Int)+0)=(n:Int):=w64n0 n (w64b h3 hs)
  have hw1:wrap64 ((n:Int)+((1:Nat):Int))=((n+1:Nat):Int):=w64n2 n (w64b h3 hs)
  simp only [strings_genSplit.l0,strings_Index.f,stringslite_Index.f]
  rw [if_pos c1,hix,Option.bind_some,Option.bind_some]
  rw [if_neg c2,hw0,if_pos c3,if_pos c4,if_pos c5,if_pos c6,e2,hw1,if_pos c7,if_pos c8,hw]
  simp only [Int.toNat_natCast]
  rw [set_mid,show a.length+1+m=a.length+(m+1) from by rw [Nat.add_assoc,Nat.add_comm 1 m]]
theorem split_i (s:ByteArray) (c:UInt8) (hs:s.size≤1000000000):Ev (fun k=>strings_Split.f k s ⟨#[c]⟩) ((splitL c (L s)).map ofL):=by
 have e1:L (⟨#[c]⟩:ByteArray)=[c]:=rfl
 have hcnt:Lib.countByte (L s) c≤s.size:=by rw [← L_size];exact List.count_le_length
 unfold strings_Split.f strings_genSplit.f strings_Count.f
 have en:¬ ((⟨#[c]⟩:ByteArray).toList=([]:List UInt8)):=by rw [toList_nil];show ¬ (1=0);omega
 rw [e1]
 simp only [show ¬ ((-1:Int)=0) from by omega,if_false,en,show ((-1:Int) < 0) from by omega,if_true,Option.bind_some]
 refine Ev.bind (a:=(splitL c (L s)).map ofL) ?_ (Ev.now _)
 refine Ev_succ ?_
 have hw:wrap64 (((Lib.countByte (L s) c:Nat):Int)+1)=((Lib.countByte (L s) c+1:Nat):Int):=by rw [w64 (by omega) (by omega)];omega
 have hw2:wrap64 ((s.size:Int)+1)=((s.size+1:Nat):Int):=by rw [w64 (by omega) (by omega)];omega
 have hm:mn ((Lib.countByte (L s) c+1:Nat):Int) ((s.size+1:Nat):Int)=((Lib.countByte (L s) c+1:Nat):Int):=by unfold mn;split <;> omega
 have hw3:wrap64 (((Lib.countByte (L s) c+1:Nat):Int) - 1)=((0+Lib.countByte (L s) c:Nat):Int):=by rw [w64 (by omega) (by omega)];omega
 simp only [strings_genSplit.j0,hw,hw2,hm,show ((0:Int)≤((Lib.countByte (L s) c+1:Nat):Int)) from by omega,if_true,Int.toNat_natCast,show Lib.countByte (L s) c+1≤17592186044416 from by omega,hw3]
 have:=split_li c (Lib.countByte (L s) c) s [] rfl hs (by simp;omega)
 simpa using this
theorem fine_parts {a:A5} (h:Fine a):Parts a.2.1∧a.1.size≤60∧a.2.2.2.1.size≤60:=by
 rcases h with rfl|⟨_,h⟩
 ·exact ⟨⟨by simp [none5],by simp [none5]⟩,Nat.zero_le _,Nat.zero_le _⟩
 ·unfold addrOk at h
  simp only [Bool.and_eq_true,decide_eq_true_eq] at h
  obtain ⟨⟨⟨⟨⟨h1,h2⟩,h3⟩,h4⟩,h5⟩,h6⟩:=h
  refine ⟨⟨by omega,fun p hp=>?_⟩,?_,?_⟩
  ·have:=List.all_eq_true.1 h5 p hp
   unfold partOk at this
   simp only [Bool.and_eq_true] at this
   have:=isNorm_size this.1.1.1
   omega
  ·have:=isHouse_size h1;omega
  ·exact isNorm_size h3
theorem clean_l (ps:List ByteArray) (hl:ps.length≤1000000) (d:Nat):∀ (i:Nat) (acc:List ByteArray),i+d=ps.length→acc.length≤i →
  Ev (fun k=>spec_PathClean.l0 k ps acc (i:Int)) ((ps.drop i).foldl clean1 acc):=by
 induction d with
 | zero=>
  intro i acc hi ha
  have n1:¬ ((i:Int) < (ps.length:Int)):=by omega
  rw [List.drop_eq_nil_of_le (by omega)]
  refine Ev_succ ?_
  simp only [spec_PathClean.l0,n1,if_false]
  exact Ev.now _
 | succ d ih=>
  intro i acc hi ha
  have hi':i < ps.length:=by omega
  have f1:(i:Int) < (ps.length:Int):=by omega
  have f2:(0:Int)≤(i:Int):=by omega
  have e1:wrap64 ((i:Int)+1)=((i+1:Nat):Int):=by rw [w64 (by omega) (by omega)];rfl
  have hr:=rd_at hi'
  rw [List.drop_eq_getElem_cons hi',List.foldl_cons]
  generalize ps[i]=p at hr ⊢
  have hc:=clean1_len acc p
  have ih':=ih (i+1) (clean1 acc p) (by omega) (by omega)
  refine Ev_succ ?_
  simp only [spec_PathClean.l0,f1,f2,if_true,hr]
  unfold clean1 at ih' ⊢
  by_cases h1:p.toList=[]
  ·simp only [h1,if_true] at ih' ⊢
   refine Ev_succ ?_
   simp only [spec_PathClean.j1,if_true,e1]
   exact ih'
  ·simp only [h1,if_false] at ih' ⊢
   refine Ev_succ ?_
   by_cases h2:p.toList=[46]
   ·simp only [h2,if_true] at ih' ⊢
    simp only [spec_PathClean.j1,beq_self_eq_true,if_true,e1]
    exact ih'
   ·have h2':(p.toList == [46])=false:=by simpa using h2
    simp only [h2,if_false] at ih' ⊢
    simp only [spec_PathClean.j1,h2',Bool.false_eq_true,if_false,f1,f2,if_true,hr,e1]
    by_cases h3:p.toList=[46,46]
    ·have m:mx (wrap64 ((acc.length:Int) - 1)) 0=((acc.length - 1:Nat):Int):=by
      rw [w64 (by omega) (by omega)];unfold mx;split <;> omega
     have g1:(0:Int)≤((acc.length - 1:Nat):Int):=by omega
     have g2:((acc.length - 1:Nat):Int)≤(acc.length:Int):=by omega
     simp only [h3,if_true] at ih' ⊢
     simp only [m,g1,g2,if_true,Int.toNat_natCast]
     exact ih'
    ·have g3:acc.length < 8796093022208:=by omega
     simp only [h3,if_false] at ih' ⊢
     simp only [g3,if_true]
     exact ih'
theorem clean_ev (ps:List ByteArray) (hl:ps.length≤1000000):Ev (fun k=>spec_PathClean.f k ps) (pathClean ps):=
 clean_l ps hl ps.length 0 [] (by omega) (by simp)
def wayE (house:ByteArray) (asks:Bool) (ask:ByteArray) (ps:List ByteArray):A5:=
 if (escNorm ask).2=true then (if addrOk house (pathClean ps) asks (escNorm ask).1=true then (house,pathClean ps,asks,(escNorm ask).1,true) else none5) else none5
theorem way_l (house ask:ByteArray) (asks:Bool) (base:List ByteArray) (b0:Bool) (a0:ByteArray) (hh:house.size≤100000) (ls:List ByteArray) (hl:ls.length≤900) (d:Nat) :
  ∀ (i:Nat) (acc:List ByteArray),i+d=ls.length→acc.length≤i+50→(∀ p ∈ acc,p.size≤1048576) →
  Ev (fun k=>spec_l1Way.l0 k ask asks acc ls (i:Int) house base b0 a0) (match escAll (ls.drop i) with|none=>none5|some ps=>wayE house asks ask (acc++ps)):=by
 induction d with
 | zero=>
  intro i acc hi ha hp
  have n1:¬ ((i:Int) < (ls.length:Int)):=by omega
  rw [List.drop_eq_nil_of_le (by omega)]
  refine Ev_succ ?_
  simp only [spec_l1Way.l0,n1,if_false,escAll,List.append_nil]
  refine Ev.bind (escNorm_ev ask) (Ev.bind (clean_ev acc (by omega)) ?_)
  have hz:=escNorm_size ask
  unfold wayE
  by_cases h1:(escNorm ask).2=true
  ·simp only [h1,if_true]
   have hP:Parts (pathClean acc):=⟨by have:=cleanF_len acc [];unfold pathClean;simp only [List.length_nil] at this;omega,fun p hq=>by
    rcases cleanF_mem hq with h|h
    ·cases h
    ·exact hp p h⟩
   refine Ev.bind (addrOk_ev house (pathClean acc) asks (escNorm ask).1 hP (by omega) (by omega)) ?_
   by_cases h2:addrOk house (pathClean acc) asks (escNorm ask).1=true
   ·simp only [h2,if_true];exact Ev.now _
   ·simp only [h2,if_false];exact Ev.now _
  ·simp only [h1,if_false];exact Ev.now _
 | succ d ih=>
  intro i acc hi ha hp
  have hi':i < ls.length:=by omega
  have f1:(i:Int) < (ls.length:Int):=by omega
  have f2:(0:Int)≤(i:Int):=by omega
  have e1:wrap64 ((i:Int)+1)=((i+1:Nat):Int):=by rw [w64 (by omega) (by omega)];rfl
  have hr:=rd_at hi'
  rw [List.drop_eq_getElem_cons hi']
  generalize ls[i]=p at hr ⊢
  have hz:=escNorm_size p
  refine Ev_succ ?_
  simp only [spec_l1Way.l0,f1,f2,if_true,hr,e1]
  refine Ev.bind (escNorm_ev p) ?_
  unfold escAll
  by_cases h1:(escNorm p).2=true
  ·have g3:acc.length < 8796093022208:=by omega
   simp only [h1,if_true,g3]
   have ih':=ih (i+1) (acc++[(escNorm p).1]) (by omega) (by simp;omega) (fun x hx=>by
    rcases List.mem_append.1 hx with h|h
    ·exact hp x h
    ·rw [List.mem_singleton.1 h];omega)
   cases he:escAll (ls.drop (i+1)) with
   | none=>rw [he] at ih';exact ih'
   | some ps=>
    rw [he] at ih'
    simp only [Option.map_some]
    simpa using ih'
  ·simp only [h1,if_false];exact Ev.now _
theorem cutB_size (c:UInt8) (s:ByteArray):(cutB c s).1.size≤s.size∧(cutB c s).2.1.size≤s.size:=by
 have:=(cutL_len (c:=c) (L s)).1
 rw [L_size] at this
 unfold cutB
 constructor
 ·show (ofL _).size≤_;rw [ofL_size];omega
 ·show (ofL _).size≤_;rw [ofL_size];omega
theorem way_ev (house:ByteArray) (base:List ByteArray) (b0:Bool) (a0 way:ByteArray) (hh:house.size≤100000) (hb:base.length≤50) (hp:∀ p ∈ base,p.size≤1048576) (hw:way.size≤800) :
  Ev (fun k=>spec_l1Way.f k house base b0 a0 way) (wayO house base way):=by
 unfold spec_l1Way.f wayO
 refine Ev.bind (cut_ev way 63 (by omega)) ?_
 have hc:=cutB_size 63 way
 have g:([]:List ByteArray).length+base.length < 8796093022208:=by simp;omega
 simp only [Option.bind_some,g,if_true,List.nil_append]
 refine Ev.bind (split_ev (cutB 63 way).1 47 (by omega)) ?_
 have hl:=splitL_len 47 (L (cutB 63 way).1)
 rw [L_size] at hl
 have:=way_l house (cutB 63 way).2.1 (cutB 63 way).2.2 base b0 a0 hh ((splitL 47 (L (cutB 63 way).1)).map ofL) (by rw [List.length_map];omega) _ 0 base (Nat.zero_add _) (by omega) hp
 rw [List.drop_zero] at this
 exact this
theorem house_l (s h:ByteArray) (hs:s.size≤800):∀ (l:List UInt8) (i:Nat),(L s).drop i=l→h=s →
  Ev (fun k=>spec_l1Whole.l0 k s h (⟨#[]⟩:ByteArray) (i:Int)) (wayO (smallB (ofL ((L s).take i++(houseL l).1))) [] (ofL (houseL l).2))
 | [],i,h',e=>by
  have:=bt_end h'
  have n1:¬ ((i:Int) < (s.size:Int)):=by omega
  have eq:(L s).take i=L s:=List.take_of_length_le (by rw [L_size];omega)
  subst e
  refine Ev_succ ?_
  simp only [spec_l1Whole.l0,n1,if_false,houseL,eq,List.append_nil,of_L,spec_l1Small.f,show h.size≤140737488351232 from by omega,if_true,Option.bind_some]
  refine Ev.bind (way_ev (smallB h) [] false _ _ (by unfold smallB;rw [ofL_size,List.length_map,L_size];omega) (by simp) (by simp) (by decide)) ?_
  exact Ev.now _
 | x :: xs,i,h',e=>by
  obtain ⟨hi,hb,hd⟩:=bt_at h'
  have e1:wrap64 ((i:Int)+1)=((i+1:Nat):Int):=by rw [w64 (by omega) (by omega)];rfl
  have f1:(i:Int) < (s.size:Int):=by omega
  have f2:(0:Int)≤(i:Int):=by omega
  have f3:(i:Int)≤(s.size:Int):=by omega
  have c1:((x.toNat:Int)=47)↔x=47:=u8_eq (b:=47)
  have c2:((x.toNat:Int)=63)↔x=63:=u8_eq (b:=63)
  have x1:s.extract 0 i=ofL ((L s).take i):=by apply L_inj;rw [L_ext,L_of];simp
  have x2:s.extract i s.size=ofL (x :: xs):=by
   apply L_inj;rw [L_ext,L_of,h',List.take_of_length_le]
   rw [← h',List.length_drop,L_size];omega
  have z1:(ofL ((L s).take i)).size≤800:=by rw [ofL_size,List.length_take,L_size];omega
  have z2:(ofL (x :: xs)).size≤800:=by rw [ofL_size,← h',List.length_drop,L_size];omega
  have fin:Ev (fun k=>(spec_l1Way.f k (smallB (ofL ((L s).take i))) ([]:List ByteArray) false (⟨#[]⟩:ByteArray) (ofL (x :: xs))).bind fun bt204=>(some (bt204.1,bt204.2.1,bt204.2.2.1,bt204.2.2.2.1,bt204.2.2.2.2))) (wayO (smallB (ofL ((L s).take i++[]))) [] (ofL (x :: xs))):=by
   rw [List.append_nil]
   refine Ev.bind (way_ev _ [] false _ _ (by unfold smallB;rw [ofL_size,List.length_map,L_size];omega) (by simp) (by simp) z2) ?_
   exact Ev.now _
  refine Ev_succ ?_
  simp only [spec_l1Whole.l0,f1,f2,f3,if_true,hb,c1,c2,e1,Int.toNat_natCast,x1,x2,spec_l1Small.f,show (ofL ((L s).take i)).size≤140737488351232 from by omega,Option.bind_some]
  unfold houseL
  by_cases h1:x=47
  ·simp only [h1,if_true,true_or]
   rw [h1] at fin
   exact fin
  ·by_cases h2:x=63
   ·simp only [h1,h2,if_true,if_false,or_true,show ¬ ((63:UInt8)=47) from by decide]
    rw [h2] at fin
    exact fin
   ·simp only [h1,h2,if_false,or_self]
    have:=house_l s h hs xs (i+1) hd e
    have ht:(L s).take (i+1)++(houseL xs).1=(L s).take i++(x :: (houseL xs).1):=by
     have hl:i < (L s).length:=by rw [L_size];exact hi
     have:(L s)[i]=x:=by
      have hd2:(L s).drop i=(L s)[i] :: (L s).drop (i+1):=List.drop_eq_getElem_cons hl
      rw [h'] at hd2
      injection hd2 with h1 h2
      exact h1.symm
     rw [List.take_succ_eq_append_getElem hl,this]
     simp
    rw [ht] at this
    exact this
theorem whole_ev (s:ByteArray) (hs:s.size≤800):Ev (fun k=>spec_l1Whole.f k s) (wholeO s):=by
 have:=house_l s s hs (L s) 0 rfl rfl
 simp only [List.take_zero,List.nil_append] at this
 exact this
theorem read_ev (raw:ByteArray) (hs:raw.size≤140737488351232):Ev (fun k=>spec_AddrRead.f k raw) (readO raw):=by
 unfold spec_AddrRead.f readO
 refine Ev.bind (cut_ev raw 35 hs) ?_
 have hc:=(cutB_size 35 raw).1
 generalize (cutB 35 raw).1=c at hc ⊢
 by_cases h1:raw.size > 60
 ·have n1:(raw.size:Int) > 60:=by omega
  simp only [n1,h1,if_true];exact Ev.now _
 ·have n1:¬ (raw.size:Int) > 60:=by omega
  simp only [n1,h1,if_false]
  by_cases h2:c.size < 2
  ·have n2:(c.size:Int) < 2:=by omega
   simp only [n2,h2,if_true];exact Ev.now _
  ·have n2:¬ (c.size:Int) < 2:=by omega
   have n3:(2:Int)≤(c.size:Int):=by omega
   have hx:((c.extract 0 2).toList=[47,47])↔((L c).take 2=[47,47]):=by
    rw [Lib.toList_data]
    show L (c.extract 0 2)=_↔_
    rw [L_ext];simp
   simp only [n2,h2,n3,if_true,if_false,show (0:Int)≤2 from by omega,hx]
   by_cases h3:(L c).take 2=[47,47]
   ·simp only [h3,if_true]
    have hz:(c.extract 2 c.size).size≤800:=by rw [ByteArray.size_extract];omega
    generalize c.extract 2 c.size=z at hz ⊢
    exact Ev.bind (whole_ev z hz) (Ev.now _)
   ·simp only [h3,if_false];exact Ev.now _
theorem clean_li (ps:List ByteArray) (hl:ps.length≤1000000) (d:Nat):∀ (i:Nat) (acc:List ByteArray),i+d=ps.length→acc.length≤i →
  Ev (fun k=>impl_PathClean.l0 k acc ps (ps.length:Int) (i:Int)) ((ps.drop i).foldl clean1 acc):=by
 induction d with
 | zero=>
  intro i acc hi ha
  rw [List.drop_eq_nil_of_le (by omega)]
  refine Ev_succ ?_
  simp only [impl_PathClean.l0,show ¬ ((i:Int) < (ps.length:Int)) from by omega,if_false]
  exact Ev.now _
 | succ d ih=>
  intro i acc hi ha
  have hlt:i < ps.length:=by omega
  have hr:=rd_at hlt
  have w1:=w64n1 i (by omega)
  have f1:(i:Int) < (ps.length:Int):=by omega
  have f2:=ci_nn i
  rw [List.drop_eq_getElem_cons hlt,List.foldl_cons]
  generalize ps[i]=p at hr ⊢
  have next:∀ acc',acc'.length≤i+1→acc'=clean1 acc p→Ev (fun k=>impl_PathClean.l0 k acc' ps (ps.length:Int) ((i+1:Nat):Int)) ((ps.drop (i+1)).foldl clean1 (clean1 acc p)):=fun acc' h1 h2=>by
   rw [← h2];exact ih (i+1) acc' (by omega) h1
  refine Ev_succ ?_
  simp only [impl_PathClean.l0,f1,f2,if_true]
  rw [hr]
  by_cases h1:p.toList=[]
  ·simp only [h1,if_true]
   refine Ev_succ ?_
   simp only [impl_PathClean.j1]
   simp only [show (([]:List UInt8) == [])=true from rfl,if_true]
   rw [w1]
   exact next acc (by omega) (by unfold clean1;rw [if_pos h1])
  ·simp only [h1,if_false]
   by_cases h2:p.toList=[46]
   ·refine Ev_succ ?_
    simp only [impl_PathClean.j1]
    simp only [h2,show (([46]:List UInt8) == [46])=true from rfl,if_true]
    rw [w1]
    exact next acc (by omega) (by unfold clean1;rw [if_neg h1,if_pos h2])
   ·refine Ev_succ ?_
    simp only [impl_PathClean.j1]
    simp only [show (p.toList == ([46]:List UInt8))=false from by simp [h2],Bool.false_eq_true,if_false]
    by_cases h3:p.toList=[46,46]
    ·simp only [h3,if_true]
     have hc:clean1 acc p=acc.take (acc.length - 1):=by unfold clean1;rw [if_neg h1,if_neg h2,if_pos h3]
     by_cases h4:acc.length=0
     ·simp only [show ¬ ((acc.length:Int) > 0) from by omega,if_false]
      rw [w1]
      exact next acc (by omega) (by rw [hc,List.length_eq_zero_iff.1 h4];rfl)
     ·have w2:wrap64 ((acc.length:Int) - 1)=((acc.length - 1:Nat):Int):=by rw [w64 (by omega) (by omega)];omega
      simp only [show ((acc.length:Int) > 0) from by omega,if_true]
      rw [w2]
      simp only [show ((0:Int)≤((acc.length - 1:Nat):Int)) from by omega,show (((acc.length - 1:Nat):Int)≤(acc.length:Int)) from by omega,if_true,Int.toNat_natCast]
      rw [w1]
      exact next _ (by rw [List.length_take];omega) hc.symm
    ·simp only [h3,if_false,show acc.length < 8796093022208 from by omega,if_true]
     rw [w1]
     exact next _ (by simp;omega) (by unfold clean1;rw [if_neg h1,if_neg h2,if_neg h3])
theorem clean_i (ps:List ByteArray) (hl:ps.length≤1000000):Ev (fun k=>impl_PathClean.f k ps) (pathClean ps):=
 clean_li ps hl ps.length 0 [] (by omega) (by simp)
def wayI (house:ByteArray) (asks:Bool) (ask:ByteArray) (ps:List ByteArray):A5:=if addrOk house (pathClean ps) asks ask=true then (house,pathClean ps,asks,ask,true) else none5
theorem way_li (house ask:ByteArray) (asks:Bool) (hh:house.size≤100000) (hq:ask.size≤1048576) (ls:List ByteArray) (hl:ls.length≤900) (d:Nat) :
  ∀ (i:Nat) (acc:List ByteArray),i+d=ls.length→acc.length≤50+i→(∀ p ∈ acc,p.size≤1048576) →
  Ev (fun k=>impl_readWay.l0 k house ask asks acc ls (ls.length:Int) (i:Int)) (match escAll (ls.drop i) with|none=>none5|some ps=>wayI house asks ask (acc++ps)):=by
 induction d with
 | zero=>
  intro i acc hi ha hp
  rw [List.drop_eq_nil_of_le (by omega)]
  refine Ev_succ ?_
  simp only [impl_readWay.l0,show ¬ ((i:Int) < (ls.length:Int)) from by omega,if_false,escAll,List.append_nil]
  refine Ev.bind (clean_i acc (by omega)) ?_
  unfold wayI
  have hP:Parts (pathClean acc):=⟨by have:=cleanF_len acc [];unfold pathClean;simp only [List.length_nil] at this;omega,fun p hq=>by
   rcases cleanF_mem hq with h|h
   ·cases h
   ·exact hp p h⟩
  refine Ev.bind (addrOk_i house (pathClean acc) asks ask hP (by omega) (by omega)) ?_
  by_cases h2:addrOk house (pathClean acc) asks ask=true
  ·simp only [h2,if_true];exact Ev.now _
  ·simp only [h2,if_false];exact Ev.now _
 | succ d ih=>
  intro i acc hi ha hp
  have hi':i < ls.length:=by omega
  have f1:(i:Int) < (ls.length:Int):=by omega
  have f2:=ci_nn i
  have e1:=w64n1 i (by omega)
  have hr:=rd_at hi'
  rw [List.drop_eq_getElem_cons hi']
  generalize ls[i]=p at hr ⊢
  have hz:=escNorm_size p
  refine Ev_succ ?_
  simp only [impl_readWay.l0,f1,f2,if_true,hr,e1]
  refine Ev.bind (escNorm_i p) ?_
  unfold escAll
  by_cases h1:(escNorm p).2=true
  ·have g3:acc.length < 8796093022208:=by omega
   simp only [h1,if_true,g3]
   have ih':=ih (i+1) (acc++[(escNorm p).1]) (by omega) (by simp;omega) (fun x hx=>by
    rcases List.mem_append.1 hx with h|h
    ·exact hp x h
    ·rw [List.mem_singleton.1 h];omega)
   cases he:escAll (ls.drop (i+1)) with
   | none=>rw [he] at ih';exact ih'
   | some ps=>
    rw [he] at ih'
    simp only [Option.map_some]
    simpa using ih'
  ·simp only [h1,if_false];exact Ev.now _
theorem way_i (house:ByteArray) (base:List ByteArray) (way:ByteArray) (hh:house.size≤100000) (hb:base.length≤50) (hp:∀ p ∈ base,p.size≤1048576) (hw:way.size≤800) :
  Ev (fun k=>impl_readWay.f k house base way) (wayO house base way):=by
 unfold impl_readWay.f wayO
 have hc:=cutB_size 63 way
 rw [cut_i way 63 (by omega)]
 simp only [Option.bind_some]
 have hz:=escNorm_size (cutB 63 way).2.1
 refine Ev.bind (escNorm_i (cutB 63 way).2.1) ?_
 by_cases h1:(escNorm (cutB 63 way).2.1).2=true
 ·simp only [h1,if_true,slices_Clone_string_string.f,show base.length * 16≤140737488355328 from by omega,Option.bind_some]
  refine Ev.bind (split_i (cutB 63 way).1 47 (by omega)) ?_
  have hl:=splitL_len 47 (L (cutB 63 way).1)
  rw [L_size] at hl
  have:=way_li house (escNorm (cutB 63 way).2.1).1 (cutB 63 way).2.2 hh (by omega) ((splitL 47 (L (cutB 63 way).1)).map ofL) (by rw [List.length_map];omega) _ 0 base (Nat.zero_add _) (by omega) hp
  rw [List.drop_zero] at this
  exact this
 ·simp only [h1,if_false]
  generalize escAll ((splitL 47 (L (cutB 63 way).1)).map ofL)=o
  cases o <;> exact Ev.now _
theorem any_house:∀ l:List UInt8,(Lib.indexAny l [47,63]=-1→houseL l=(l,[]))∧(∀ n:Nat,Lib.indexAny l [47,63]=(n:Int)→houseL l=(l.take n,l.drop n)∧n≤l.length)
 | []=>⟨fun _=>rfl,fun n h=>by unfold Lib.indexAny at h;omega⟩
 | x :: xs=>by
  obtain ⟨i1,i2⟩:=any_house xs
  unfold Lib.indexAny houseL
  by_cases h:x=47∨x=63
  ·have hc:([47,63]:List UInt8).contains x=true:=by rcases h with h|h <;> subst h <;> decide
   rw [if_pos h,if_pos hc]
   refine ⟨fun e=>by omega,fun n e=>?_⟩
   obtain rfl:n=0:=by omega
   exact ⟨rfl,Nat.zero_le _⟩
  ·have hc:¬ ([47,63]:List UInt8).contains x=true:=by
    simp only [List.contains_cons,List.contains_nil,Bool.or_false,Bool.or_eq_true,beq_iff_eq]
    exact h
   rw [if_neg h,if_neg hc]
   have hge:=Lib.indexAny_ge [47,63] xs
   by_cases h2:Lib.indexAny xs [47,63]=-1
   ·have hb:(Lib.indexAny xs [47,63] == -1)=true:=by simp [h2]
    rw [if_pos hb]
    refine ⟨fun _=>by rw [i1 h2],fun n e=>by omega⟩
   ·have hb:¬ (Lib.indexAny xs [47,63] == -1)=true:=by simp [h2]
    rw [if_neg hb]
    refine ⟨fun e=>by omega,fun n e=>?_⟩
    obtain ⟨m,hm⟩:∃ m:Nat,Lib.indexAny xs [47,63]=(m:Int):=⟨(Lib.indexAny xs [47,63]).toNat,by omega⟩
    obtain ⟨g1,g2⟩:=i2 m hm
    obtain rfl:n=m+1:=by omega
    rw [g1]
    exact ⟨rfl,by simp only [List.length_cons];omega⟩
def wholeI (s:ByteArray):A5:=if s.size < 2 then none5 else if (L s).take 2=[47,47] then wholeO (s.extract 2 s.size) else none5
theorem prefix_i (s:ByteArray) (hs:s.size≤800):stringslite_HasPrefix.f s ⟨#[47,47]⟩=some (decide (2≤s.size) && decide ((L s).take 2=[47,47])):=by
 unfold stringslite_HasPrefix.f
 have e2:(⟨#[47,47]⟩:ByteArray).size=2:=rfl
 rw [e2]
 by_cases h:2≤s.size
 ·rw [if_pos (by omega),if_pos (by omega),if_pos (by omega)]
  have hx:(s.extract 0 2).toList=(L s).take 2:=by rw [Lib.toList_data];show L (s.extract 0 2)=_;rw [L_ext];simp
  have hy:(⟨#[47,47]⟩:ByteArray).toList=[47,47]:=by rw [Lib.toList_data]
  simp only [Int.toNat_natCast,hx,hy,h,decide_true,Bool.true_and]
  congr 1
  rw [Bool.eq_iff_iff];simp
 ·rw [if_neg (by omega)]
  simp [h]
theorem whole_i (s:ByteArray) (hs:s.size≤800):Ev (fun k=>impl_readWhole.f k s) (wholeI s):=by
 unfold impl_readWhole.f strings_CutPrefix.f stringslite_CutPrefix.f wholeI
 have e2:(⟨#[47,47]⟩:ByteArray).size=2:=rfl
 rw [prefix_i s hs,e2]
 simp only [Option.bind_some]
 by_cases h:2≤s.size
 ·by_cases h3:(L s).take 2=[47,47]
  ·simp only [h,h3,decide_true,Bool.true_and,if_true,show ¬ (s.size < 2) from by omega,if_false]
   rw [if_pos (by omega),if_pos (by omega)]
   simp only [Option.bind_some,if_true,Int.toNat_natCast]
   have hz:(s.extract 2 s.size).size≤800:=by rw [ByteArray.size_extract];omega
   generalize s.extract 2 s.size=z at hz
   unfold strings_IndexAny.f wholeO
   have ez:L (⟨#[47,63]⟩:ByteArray)=[47,63]:=rfl
   rw [ez,if_pos ⟨rfl,by omega⟩]
   obtain ⟨a1,a2⟩:=any_house (L z)
   have hge:=Lib.indexAny_ge [47,63] (L z)
   by_cases hi:Lib.indexAny (L z) [47,63]=-1
   ·have hH:=a1 hi
    rw [hH]
    have x1:z.extract 0 ((z.size:Int)).toNat=z:=by apply L_inj;rw [L_ext,Int.toNat_natCast,List.drop_zero];exact List.take_of_length_le (by rw [Nat.sub_zero];exact Nat.le_of_eq (L_size z))
    have x2:z.extract ((z.size:Int)).toNat z.size=ofL []:=by apply L_inj;rw [L_ext,L_of,Int.toNat_natCast,Nat.sub_self];exact List.take_zero
    rw [of_L]
    refine Ev.congr (f:=fun k=>(impl_readWay.f k (smallB z) [] (ofL [])).bind fun b=>some (b.1,b.2.1,b.2.2.1,b.2.2.2.1,b.2.2.2.2)) (fun k=>?_) ?_
    ·rw [hi,Option.bind_some,if_pos (by omega),if_pos (by omega),if_pos (by omega)]
     first|rw [x1,x2]|(simp only [Int.toNat_natCast] at x1 x2;rw [x1,x2])
     unfold impl_smallLetters.f
     rw [if_pos (by omega),Option.bind_some]
    refine Ev.bind (way_i (smallB z) [] (ofL []) (by unfold smallB;rw [ofL_size,List.length_map,L_size];omega) (by simp) (by simp) (by decide)) ?_
    exact Ev.now _
   ·obtain ⟨n,hn⟩:∃ n:Nat,Lib.indexAny (L z) [47,63]=(n:Int):=⟨(Lib.indexAny (L z) [47,63]).toNat,by omega⟩
    obtain ⟨hH,hle⟩:=a2 n hn
    rw [L_size] at hle
    rw [hH]
    have x1:z.extract 0 ((n:Int)).toNat=ofL ((L z).take n):=by apply L_inj;rw [L_ext,L_of];simp
    have x2:z.extract ((n:Int)).toNat z.size=ofL ((L z).drop n):=by
     apply L_inj;rw [L_ext,L_of,Int.toNat_natCast]
     exact List.take_of_length_le (by rw [List.length_drop,L_size];exact Nat.le_refl _)
    have s1:(ofL ((L z).take n)).size≤800:=by rw [ofL_size,List.length_take,L_size];omega
    have s2:(ofL ((L z).drop n)).size≤800:=by rw [ofL_size,List.length_drop,L_size];omega
    generalize ofL ((L z).take n)=y at s1 x1 ⊢
    refine Ev.congr (f:=fun k=>(impl_readWay.f k (smallB y) [] (ofL ((L z).drop n))).bind fun b=>some (b.1,b.2.1,b.2.2.1,b.2.2.2.1,b.2.2.2.2)) (fun k=>?_) ?_
    ·rw [hn,Option.bind_some,if_neg (by omega),if_pos (by omega),if_pos (by omega),x1,x2]
     unfold impl_smallLetters.f
     rw [if_pos (by omega),Option.bind_some]
    refine Ev.bind (way_i (smallB y) [] _ (by unfold smallB;rw [ofL_size,List.length_map,L_size];omega) (by simp) (by simp) s2) ?_
    exact Ev.now _
  ·simp only [h,h3,decide_true,decide_false,Bool.and_false,Bool.false_eq_true,if_false,Option.bind_some,show ¬ (s.size < 2) from by omega]
   exact Ev.now _
 ·simp only [h,decide_false,Bool.false_and,Bool.false_eq_true,if_false,Option.bind_some,show s.size < 2 from by omega,if_true]
  exact Ev.now _
theorem read_i (raw:ByteArray):Ev (fun k=>impl_AddrRead.f k raw) (readO raw):=by
 unfold impl_AddrRead.f readO
 by_cases h:raw.size > 60
 ·simp only [show ((raw.size:Int) > 60) from by omega,if_true,h]
  exact Ev.now _
 ·simp only [show ¬ ((raw.size:Int) > 60) from by omega,if_false,h]
  have hc:=cutB_size 35 raw
  rw [cut_i raw 35 (by omega)]
  simp only [Option.bind_some]
  refine Ev.bind (whole_i (cutB 35 raw).1 (by omega)) ?_
  exact Ev.now _
end Go.Proofs.YteepbodnaameiaaGreatDoor.Ad
end
section
namespace Go.Proofs.YteepbodnaameiaaGreatDoor.Wd
open Go.RowKit Go.Proofs.YteepbodnaameiaaGreatDoor.P Go.Proofs.YteepbodnaameiaaGreatDoorW.PrintWords Go.Proofs.YteepbodnaameiaaGreatDoorW.PrintLast Go.Proofs.YteepbodnaameiaaGreatDoorW.PrintMore Go.Proofs.YteepbodnaameiaaGreatDoor.B Go.Proofs.YteepbodnaameiaaGreatDoor.Ad
set_option linter.unusedVariables false
set_option linter.unusedSimpArgs false
def norm (s:ByteArray):Bool:=(readO s).2.2.2.2 && (textB (readO s).1 (readO s).2.1 (readO s).2.2.1 (readO s).2.2.2.1).toList == s.toList
theorem readAddr_i (s:ByteArray):Ev (fun k=>impl_readAddress.f k s) (if norm s=true then ((readO s).1,(readO s).2.1,(readO s).2.2.1,(readO s).2.2.2.1,true) else none5):=by
 unfold impl_readAddress.f
 refine Ev.bind (read_i s) ?_
 have hF:=fine_read s
 obtain ⟨q1,q2,q3⟩:=fine_parts hF
 unfold norm
 by_cases h:(readO s).2.2.2.2=true
 ·have ht:=text_i (readO s).1 (readO s).2.1 (readO s).2.2.1 (readO s).2.2.2.1 q1 (by omega) (by omega)
  simp only [h,if_true,ht,Option.bind_some,Bool.true_and]
  by_cases h2:(textB (readO s).1 (readO s).2.1 (readO s).2.2.1 (readO s).2.2.2.1).toList=s.toList
  ·simp only [h2,if_true,beq_self_eq_true]
   exact Ev.now _
  ·simp only [h2,if_false,beq_eq_false_iff_ne.mpr h2,Bool.false_eq_true]
   exact Ev.now _
 ·have h':(readO s).2.2.2.2=false:=by simpa using h
  simp only [h',Bool.false_and,Bool.false_eq_true,if_false]
  exact Ev.now _
theorem isAddr_i (s:ByteArray):Ev (fun k=>impl_isAddress.f k s) (norm s):=by
 unfold impl_isAddress.f
 refine Ev.bind (readAddr_i s) ?_
 by_cases h:norm s=true
 ·rw [if_pos h,h];exact Ev.now _
 ·rw [if_neg h]
  have h':norm s=false:=by simpa using h
  rw [h']
  exact Ev.now _
theorem norm_s (s:ByteArray) (hs:s.size≤140737488351232):Ev (fun k=>spec_l11Norm.f k s) (norm s):=by
 unfold spec_l11Norm.f
 refine Ev.bind (read_ev s hs) ?_
 have hF:=fine_read s
 obtain ⟨q1,q2,q3⟩:=fine_parts hF
 unfold norm
 by_cases h:(readO s).2.2.2.2=true
 ·simp only [h,if_true,Bool.true_and]
  have ho:addrOk (readO s).1 (readO s).2.1 (readO s).2.2.1 (readO s).2.2.2.1=true:=by
   rcases hF with e|e
   ·rw [e] at h;cases h
   ·exact e.2
  refine Ev.bind (addrText_ev _ _ _ _ q1 (by omega) (by omega)) ?_
  unfold addrText
  rw [if_pos ho]
  exact Ev.now _
 ·have h':(readO s).2.2.2.2=false:=by simpa using h
  simp only [h',Bool.false_and,Bool.false_eq_true,if_false]
  exact Ev.now _
end Go.Proofs.YteepbodnaameiaaGreatDoor.Wd
end
section
namespace Go.Proofs.YteepbodnaameiaaGreatDoor.Tr
open Go.RowKit Go.Proofs.YteepbodnaameiaaGreatDoor.P Go.Proofs.YteepbodnaameiaaGreatDoorW.PrintWords Go.Proofs.YteepbodnaameiaaGreatDoorW.PrintLast Go.Proofs.YteepbodnaameiaaGreatDoorW.PrintMore Go.Proofs.YteepbodnaameiaaGreatDoor.B Go.Proofs.YteepbodnaameiaaGreatDoor.Ad Go.Proofs.YteepbodnaameiaaGreatDoor.Wd
set_option linter.unusedVariables false
set_option linter.unusedSimpArgs false
def btw (a n b:Int):Bool:=decide (a≤n) && decide (n≤b)
def hasS (l:List ByteArray) (x:ByteArray):Bool:=l.any fun s=>decide (s=x)
def fresh:List ByteArray→List ByteArray→Bool
 | _,[]=>true
 | pre,s :: r=>!(hasS pre s) && fresh (pre++[s]) r
theorem hasS_iff {l:List ByteArray} {x:ByteArray}:hasS l x=true↔x ∈ l:=by
 unfold hasS;simp
theorem fresh_iff:∀ (l pre:List ByteArray),pre.Nodup→(fresh pre l=true↔(pre++l).Nodup)
 | [],pre,h=>by simp [fresh,h]
 | s :: r,pre,h=>by
  unfold fresh
  by_cases hs:s ∈ pre
  ·rw [hasS_iff.2 hs]
   simp only [Bool.not_true,Bool.false_and,Bool.false_eq_true,false_iff]
   intro hn
   exact (List.nodup_append.1 hn).2.2 s hs s (List.mem_cons_self ..) rfl
  ·have h0:hasS pre s=false:=by
    cases h1:hasS pre s with
    | false=>rfl
    | true=>exact absurd (hasS_iff.1 h1) hs
   have h2:(pre++[s]).Nodup:=List.nodup_append.2 ⟨h,by simp,fun a ha b hb=>by rw [List.mem_singleton.1 hb];intro e;exact hs (e ▸ ha)⟩
   rw [h0,Bool.not_false,Bool.true_and,fresh_iff r (pre++[s]) h2,List.append_assoc]
   rfl
theorem fresh_nil (l:List ByteArray):fresh [] l=decide l.Nodup:=by
 have:=fresh_iff l [] List.nodup_nil
 rw [List.nil_append] at this
 by_cases h:l.Nodup
 ·rw [this.2 h];simp [h]
 ·have h1:fresh [] l=false:=by
   cases h2:fresh [] l with
   | false=>rfl
   | true=>exact absurd (this.1 h2) h
  rw [h1];simp [h]
theorem beq_L (a b:ByteArray):(a.toList == b.toList)=decide (a=b):=by
 by_cases h:a=b
 ·subst h;simp
 ·have:¬ a.toList=b.toList:=fun e=>h (toList_inj.1 e)
  simp [h,this]
def itemB (name:ByteArray) (seen:List ByteArray) (x:MI):Bool:=norm x.f0 && (decide ((readO x.f0).1=name) && (hasS seen x.f0 && btw 0 x.f1 2))
def itemsB (name:ByteArray) (seen:List ByteArray) (l:List MI):Bool:=l.all (itemB name seen) && decide (l.map (·.f0)).Nodup
def looksB (now:Int):Int→List MK→Bool
 | _,[]=>true
 | last,x :: r=>(btw last x.f0 now && (btw 0 x.f2 3 && norm x.f1)) && looksB now x.f0 r
def rulesB (l:List MR):Bool:=l.all fun r=>ruleOk r.f1
def restB (h:MH):Bool:=if h.f2=true then decide (h.f3.f1.length≤40) && (rulesB h.f3.f1 && btw 0 h.f3.f2 20) else decide (h.f3.f1.length=0) && decide (h.f3.f2=0)
def houseB (name:ByteArray) (h:MH):Bool:=isHouse h.f0 && (btw 0 h.f1 5100 && (btw 0 h.f4 2 && (decide (h.f3.f0=[name]) && restB h)))
def housesB (name:ByteArray) (seen:List ByteArray) (l:List MH):Bool:=(l.all fun h=>houseB name h && itemsB h.f0 seen h.f5) && decide (l.map (·.f0)).Nodup
def seenB (l:List ByteArray):Bool:=l.all norm && decide l.Nodup
def tripB (n:ByteArray) (now:Int) (hs:List MH) (sn:List ByteArray) (lk:List MK):Bool:=
 isName n && (btw 0 now 5000 && ((decide (sn.length≤60) && seenB sn) && ((decide (lk.length≤400) && looksB now 0 lk) && housesB n sn hs)))
structure Small (n:ByteArray) (hs:List MH) (sn:List ByteArray) (lk:List MK):Prop where
 nn:n.size≤1048576
 lh:hs.length≤1048576
 hn:∀ h ∈ hs,h.f0.size≤1048576
 h3:∀ h ∈ hs,h.f3.f0.length≤1048576
 h4:∀ h ∈ hs,h.f3.f1.length≤1048576
 s4:∀ h ∈ hs,∀ r ∈ h.f3.f1,r.f1.size≤1048576
 h5:∀ h ∈ hs,h.f5.length≤1048576
 s5:∀ h ∈ hs,∀ x ∈ h.f5,x.f0.size≤1048576
 ls:sn.length≤1048576
 s:∀ x ∈ sn,x.size≤1048576
 ll:lk.length≤1048576
 k:∀ x ∈ lk,x.f1.size≤1048576
theorem all_drop {α:Type} {l:List α} {i:Nat} (hi:i < l.length) (f:α→Bool):(l.drop i).all f=(f l[i] && (l.drop (i+1)).all f):=by
 rw [List.drop_eq_getElem_cons hi,List.all_cons]
theorem take_map {α β:Type} {l:List α} {i:Nat} (hi:i < l.length) (f:α→β):(l.take i).map f++[f l[i]]=(l.take (i+1)).map f:=by
 rw [List.take_succ_eq_append_getElem hi,List.map_append]
 rfl
theorem fresh_drop {α:Type} {l:List α} {i:Nat} (hi:i < l.length) (f:α→ByteArray):fresh ((l.take i).map f) ((l.drop i).map f)=(!(hasS ((l.take i).map f) (f l[i])) && fresh ((l.take (i+1)).map f) ((l.drop (i+1)).map f)):=by
 rw [List.drop_eq_getElem_cons hi,List.map_cons]
 show (!(hasS _ _) && fresh ((l.take i).map f++[f l[i]]) _)=_
 rw [take_map hi]
end Go.Proofs.YteepbodnaameiaaGreatDoor.Tr
end
section
namespace Go.Proofs.YteepbodnaameiaaGreatDoor.Tr
open Go.RowKit Go.Proofs.YteepbodnaameiaaGreatDoor.P Go.Proofs.YteepbodnaameiaaGreatDoorW.PrintWords Go.Proofs.YteepbodnaameiaaGreatDoorW.PrintLast Go.Proofs.YteepbodnaameiaaGreatDoorW.PrintMore Go.Proofs.YteepbodnaameiaaGreatDoor.B Go.Proofs.YteepbodnaameiaaGreatDoor.Ad Go.Proofs.YteepbodnaameiaaGreatDoor.Wd
set_option linter.unusedVariables false
set_option linter.unusedSimpArgs false
theorem hasS_cons (a:ByteArray) (l:List ByteArray) (x:ByteArray):hasS (a :: l) x=(decide (a=x) || hasS l x):=rfl
theorem btw_s (a n b:Int):spec_l6In.f n a b=some (btw a n b):=by
 unfold spec_l6In.f btw
 by_cases h:n ≥ a
 ·simp [h,show a≤n from h]
 ·simp [h,show ¬ a≤n from h]
def firstIdx (x:ByteArray):List MH→Int→Int
 | [],_=>-1
 | h :: r,j=>if h.f0=x then j else firstIdx x r (j+1)
theorem first_iff (x:ByteArray):∀ (l:List MH) (i:Nat) (hi:i < l.length) (j:Int),l[i].f0=x→(firstIdx x l j=j+i↔hasS ((l.take i).map (·.f0)) x=false)
 | h :: r,i,hi,j,e=>by
  unfold firstIdx
  by_cases c:h.f0=x
  ·rw [if_pos c]
   cases i with
   | zero=>simp [hasS]
   | succ i=>
    simp only [List.take_succ_cons,List.map_cons,hasS,List.any_cons,c,decide_true,Bool.true_or]
    constructor
    ·intro h;omega
    ·intro h;cases h
  ·rw [if_neg c]
   cases i with
   | zero=>exact absurd e c
   | succ i=>
    have hi':i < r.length:=by simpa using hi
    have:=first_iff x r i hi' (j+1) (by simpa using e)
    rw [show j+1+(i:Int)=j+((i+1:Nat):Int) from by omega] at this
    rw [this]
    simp [hasS,c]
section
variable (n:ByteArray) (now:Int) (hs:List MH) (sn:List ByteArray) (lk:List MK)
theorem house_l (x:ByteArray) (hl:hs.length≤1048576) (d:Nat):∀ j:Nat,j+d=hs.length→Ev (fun k=>spec_l12House.l0 k x (j:Int) n now hs sn lk) (firstIdx x (hs.drop j) (j:Int)):=by
 induction d with
 | zero=>
  intro j hj
  refine Ev_succ ?_
  simp only [spec_l12House.l0,show ¬ ((j:Int) < (hs.length:Int)) from by omega,if_false]
  rw [List.drop_of_length_le (by omega)]
  exact Ev.now _
 | succ d ih=>
  intro j hj
  have hlt:j < hs.length:=by omega
  have w1:wrap64 ((j:Int)+1)=((j+1:Nat):Int):=by rw [w64 (by omega) (by omega)];rfl
  have next:=ih (j+1) (by omega)
  refine Ev_succ ?_
  simp only [spec_l12House.l0,show (j:Int) < (hs.length:Int) from by omega,nn j,if_true,rd_MH hlt]
  rw [List.drop_eq_getElem_cons hlt]
  unfold firstIdx
  by_cases h:hs[j].f0=x
  ·have h':hs[j].f0.toList=x.toList:=by rw [h]
   simp only [h',if_true,h]
   exact Ev.now _
  ·have h':¬ hs[j].f0.toList=x.toList:=fun e=>h (toList_inj.1 e)
   simp only [h',h,if_false]
   rw [w1]
   exact next
theorem house_s (x:ByteArray) (hl:hs.length≤1048576):Ev (fun k=>spec_l12House.f k n now hs sn lk x) (firstIdx x hs 0):=by
 have:=house_l n now hs sn lk x hl hs.length 0 (by omega)
 rw [List.drop_zero] at this
 exact this
section
variable (a0:ByteArray) (a1:Int) (a2:Bool) (a3:List ByteArray) (a4:List MR) (a5 a6:Int) (td:List MI)
theorem items_seen (hsl:sn.length≤1048576) (i:Nat) (hi:i < td.length) (R2:Bool→Bool) (hR:∀ b,Ev (fun k=>spec_l12Items.l2 k (i:Int) b 0 n now hs sn lk a0 a1 a2 a3 a4 a5 a6 td) (R2 b)) (d:Nat):∀ (j:Nat) (b:Bool),j+d=sn.length →
  Ev (fun k=>spec_l12Items.l1 k (i:Int) b (j:Int) n now hs sn lk a0 a1 a2 a3 a4 a5 a6 td) (R2 (b || hasS (sn.drop j) td[i].f0)):=by
 induction d with
 | zero=>
  intro j b hj
  refine Ev_succ ?_
  simp only [spec_l12Items.l1,show ¬ ((j:Int) < (sn.length:Int)) from by omega,if_false]
  rw [List.drop_of_length_le (by omega)]
  simp only [hasS,List.any_nil,Bool.or_false]
  exact hR b
 | succ d ih=>
  intro j b hj
  have hlt:j < sn.length:=by omega
  have w1:wrap64 ((j:Int)+1)=((j+1:Nat):Int):=by rw [w64 (by omega) (by omega)];rfl
  refine Ev_succ ?_
  simp only [spec_l12Items.l1,show (j:Int) < (sn.length:Int) from by omega,show (i:Int) < (td.length:Int) from by omega,nn j,nn i,if_true,rd_S hlt,rd_MI hi]
  rw [w1,List.drop_eq_getElem_cons hlt]
  cases b with
  | true=>
   simp only [if_true]
   have:=ih (j+1) true (by omega)
   rw [Bool.true_or] at this ⊢
   exact this
  | false=>
   simp only [Bool.false_eq_true,if_false,beq_L]
   have:=ih (j+1) (decide (sn[j]=td[i].f0)) (by omega)
   rw [Bool.false_or,hasS_cons]
   exact this
theorem items_old (hl:td.length≤1048576) (i:Nat) (hi:i < td.length) (R:Bool) (hR:Ev (fun k=>spec_l12Items.l0 k ((i+1:Nat):Int) n now hs sn lk a0 a1 a2 a3 a4 a5 a6 td) R) (d:Nat):∀ (j:Nat) (b:Bool),j+d=i →
  Ev (fun k=>spec_l12Items.l2 k (i:Int) b (j:Int) n now hs sn lk a0 a1 a2 a3 a4 a5 a6 td) ((b && !(hasS (((td.take i).drop j).map (·.f0)) td[i].f0)) && R):=by
 induction d with
 | zero=>
  intro j b hj
  have w1:wrap64 ((i:Int)+1)=((i+1:Nat):Int):=by rw [w64 (by omega) (by omega)];rfl
  refine Ev_succ ?_
  simp only [spec_l12Items.l2,show ¬ ((j:Int) < (i:Int)) from by omega,if_false]
  rw [List.drop_of_length_le (by rw [List.length_take];omega),w1]
  cases b with
  | true=>simpa [hasS] using hR
  | false=>simp only [Bool.false_eq_true,if_false,Bool.false_and];exact Ev.now _
 | succ d ih=>
  intro j b hj
  have hlt:j < td.length:=by omega
  have hlt2:j < (td.take i).length:=by rw [List.length_take];omega
  have w1:wrap64 ((j:Int)+1)=((j+1:Nat):Int):=by rw [w64 (by omega) (by omega)];rfl
  refine Ev_succ ?_
  simp only [spec_l12Items.l2,show (j:Int) < (i:Int) from by omega,show (j:Int) < (td.length:Int) from by omega,show (i:Int) < (td.length:Int) from by omega,nn j,nn i,if_true,rd_MI hlt,rd_MI hi]
  rw [w1,List.drop_eq_getElem_cons hlt2,List.getElem_take]
  cases b with
  | false=>
   simp only [Bool.false_eq_true,if_false,Bool.false_and]
   have:=ih (j+1) false (by omega)
   rw [Bool.false_and,Bool.false_and] at this
   exact this
  | true=>
   simp only [if_true,Bool.true_and]
   rw [show (td[j].f0.toList != td[i].f0.toList) = !(decide (td[j].f0=td[i].f0)) from by rw [bne,beq_L]]
   have:=ih (j+1) (!(decide (td[j].f0=td[i].f0))) (by omega)
   rw [List.map_cons,hasS_cons,Bool.not_or]
   exact this
theorem items_l (hsl:sn.length≤1048576) (hn:sn.all norm=true) (hl:td.length≤1048576) (hz:∀ x ∈ td,x.f0.size≤1048576) (d:Nat):∀ i:Nat,i+d=td.length →
  Ev (fun k=>spec_l12Items.l0 k (i:Int) n now hs sn lk a0 a1 a2 a3 a4 a5 a6 td) ((td.drop i).all (itemB a0 sn) && fresh ((td.take i).map (·.f0)) ((td.drop i).map (·.f0))):=by
 induction d with
 | zero=>
  intro i hi
  refine Ev_succ ?_
  simp only [spec_l12Items.l0,show ¬ ((i:Int) < (td.length:Int)) from by omega,if_false]
  rw [List.drop_of_length_le (by omega)]
  simp only [List.all_nil,List.map_nil,fresh,Bool.true_and]
  exact Ev.now _
 | succ d ih=>
  intro i hi
  have hlt:i < td.length:=by omega
  have next:=ih (i+1) (by omega)
  have stop:Ev (fun k=>spec_l12Items.j1 k (i:Int) true n now hs sn lk a0 a1 a2 a3 a4 a5 a6 td) false:=Ev_succ (by simp only [spec_l12Items.j1,if_true];exact Ev.now _)
  have old:=items_old n now hs sn lk a0 a1 a2 a3 a4 a5 a6 td hl i hlt _ next i 0
  have seen:=items_seen n now hs sn lk a0 a1 a2 a3 a4 a5 a6 td hsl i hlt _ (fun b=>old b (by omega)) sn.length 0 false (by omega)
  rw [List.drop_zero,List.drop_zero,Bool.false_or] at seen
  have hz2:=hz _ (List.getElem_mem hlt)
  have hin:hasS sn td[i].f0=true→norm td[i].f0=true:=fun h=>List.all_eq_true.1 hn _ (hasS_iff.1 h)
  have ho:norm td[i].f0=true→(readO td[i].f0).2.2.2.2=true:=fun h=>by
   unfold norm at h
   exact (Bool.and_eq_true _ _ ▸ h).1
  refine Ev_succ ?_
  simp only [spec_l12Items.l0,show (i:Int) < (td.length:Int) from by omega,nn i,if_true,rd_MI hlt]
  rw [all_drop hlt,fresh_drop hlt]
  unfold itemB at seen ⊢
  generalize hA:(td.drop (i+1)).all (fun x=>norm x.f0 && (decide ((readO x.f0).1=a0) && (hasS sn x.f0 && btw 0 x.f1 2)))=A at seen ⊢
  generalize fresh ((td.take (i+1)).map (·.f0)) ((td.drop (i+1)).map (·.f0))=F at seen ⊢
  generalize hasS ((td.take i).map (·.f0)) td[i].f0=o at seen ⊢
  refine Ev.bind (read_ev _ (by omega)) ?_
  by_cases h1:(readO td[i].f0).2.2.2.2=true
  ·simp only [h1,if_true]
   by_cases hh:(readO td[i].f0).1=a0
   ·have hh':(readO td[i].f0).1.toList=a0.toList:=by rw [hh]
    simp only [hh',if_true,btw_s,Option.bind_some,hh,decide_true,Bool.true_and]
    cases btw 0 td[i].f1 2 with
    | false=>
     simp only [Bool.not_false,Bool.and_false,Bool.false_and]
     exact stop
    | true=>
     simp only [Bool.not_true,Bool.and_true]
     refine Ev_succ ?_
     simp only [spec_l12Items.j1,Bool.false_eq_true,if_false]
     have e:(hasS sn td[i].f0 && !o && (A && F))=(norm td[i].f0 && hasS sn td[i].f0 && A && (!o && F)):=by
      cases h2:hasS sn td[i].f0 with
      | false=>simp
      | true=>rw [hin h2];cases o <;> cases A <;> rfl
     rw [e] at seen
     exact seen
   ·have hh':¬ (readO td[i].f0).1.toList=a0.toList:=fun e=>hh (toList_inj.1 e)
    simp only [hh',if_false,hh,decide_false,Bool.false_and,Bool.and_false]
    exact stop
  ·have h1':norm td[i].f0=false:=by
    cases h2:norm td[i].f0 with
    | false=>rfl
    | true=>exact absurd (ho h2) h1
   simp only [h1,Bool.false_eq_true,if_false,h1',Bool.false_and]
   exact stop
theorem items_s (hsl:sn.length≤1048576) (hn:sn.all norm=true) (hl:td.length≤1048576) (hz:∀ x ∈ td,x.f0.size≤1048576) :
  Ev (fun k=>spec_l12Items.f k n now hs sn lk a0 a1 a2 a3 a4 a5 a6 td) (itemsB a0 sn td):=by
 have:=items_l n now hs sn lk a0 a1 a2 a3 a4 a5 a6 td hsl hn hl hz td.length 0 (by omega)
 rw [List.drop_zero,List.take_zero,List.map_nil,fresh_nil] at this
 exact this
end
def houseV (h:MH) (q:Bool):Bool:=isHouse h.f0 && (q && (btw 0 h.f1 5100 && (btw 0 h.f4 2 && (decide (h.f3.f0=[n]) && (btw 0 h.f3.f2 20 && (decide (h.f3.f1.length≤40) && (rulesB h.f3.f1 && ((h.f2 || (decide (h.f3.f1.length=0) && decide (h.f3.f2=0))) && itemsB h.f0 sn h.f5))))))))
theorem houseV_eq (h:MH) (q:Bool):houseV n sn h q=((houseB n h && itemsB h.f0 sn h.f5) && q):=by
 unfold houseV houseB restB
 cases h2:h.f2 with
 | true=>
  simp only [if_true,Bool.true_or,Bool.true_and]
  cases isHouse h.f0 <;> cases q <;> cases btw 0 h.f1 5100 <;> cases btw 0 h.f4 2 <;> cases decide (h.f3.f0=[n]) <;> cases btw 0 h.f3.f2 20 <;> cases decide (h.f3.f1.length≤40) <;> cases rulesB h.f3.f1 <;> cases itemsB h.f0 sn h.f5 <;> rfl
 | false=>
  simp only [Bool.false_eq_true,if_false,Bool.false_or]
  by_cases h0:h.f3.f1.length=0
  ·have hr:rulesB h.f3.f1=true:=by rw [List.length_eq_zero_iff.1 h0];rfl
   by_cases hw:h.f3.f2=0
   ·rw [hr,hw,h0]
    simp only [show btw 0 0 20=true from rfl,decide_true,show (0:Nat)≤40 from by omega,Bool.true_and]
    cases isHouse h.f0 <;> cases q <;> cases btw 0 h.f1 5100 <;> cases btw 0 h.f4 2 <;> cases decide (h.f3.f0=[n]) <;> cases itemsB h.f0 sn h.f5 <;> rfl
   ·simp only [hw,decide_false,Bool.and_false,Bool.false_and]
  ·simp only [h0,decide_false,Bool.false_and,Bool.and_false]
theorem rules_s (rs:List MR) (hr:rs.length≤1048576) (a0:ByteArray) (a1:Int) (a2:Bool) (a3:List ByteArray) (a5 a6:Int) (td:List MI) (R:Bool) (hR:Ev (fun k=>spec_l12HouseOk.l0 k (rs.length:Int) n now hs sn lk a0 a1 a2 a3 rs a5 a6 td) R) (d:Nat):∀ j:Nat,j+d=rs.length →
  Ev (fun k=>spec_l12HouseOk.l0 k (j:Int) n now hs sn lk a0 a1 a2 a3 rs a5 a6 td) (rulesB (rs.drop j) && R):=by
 induction d with
 | zero=>
  intro j hj
  obtain rfl:j=rs.length:=by omega
  rw [List.drop_of_length_le (by omega)]
  exact hR
 | succ d ih=>
  intro j hj
  have hlt:j < rs.length:=by omega
  have e4:wrap64 ((j:Int)+1)=((j+1:Nat):Int):=by rw [w64 (by omega) (by omega)];rfl
  have next:=ih (j+1) (by omega)
  refine Ev_succ ?_
  simp only [spec_l12HouseOk.l0,show (j:Int) < (rs.length:Int) from by omega,nn j,if_true]
  unfold rulesB at next ⊢
  rw [rd_MR hlt,e4,all_drop hlt]
  refine Ev.bind (ruleOk_spec _) ?_
  cases ruleOk rs[j].f1 with
  | true=>simp only [if_true,Bool.true_and];exact next
  | false=>simp only [Bool.false_eq_true,if_false,Bool.false_and];exact Ev.now _
theorem one_name' (l:List ByteArray) (n:ByteArray):decide (l=[n])=(decide (l.length=1) && decide (rdOf ByteArray.empty l 0=n)):=by
 match l with
 | []=>simp
 | [a]=>simp [rdOf]
 | a :: b :: r=>simp
theorem houseOk_s (hS:Small n hs sn lk) (hn:sn.all norm=true) (i:Nat) (hi:i < hs.length) :
  Ev (fun k=>spec_l12HouseOk.f k n now hs sn lk (i:Int)) (houseV n sn hs[i] (!(hasS ((hs.take i).map (·.f0)) hs[i].f0))):=by
 have hm:=List.getElem_mem hi
 have hl:=hS.lh
 have z0:=hS.hn _ hm
 have z4:=hS.h4 _ hm
 have z5:=hS.h5 _ hm
 have y5:=hS.s5 _ hm
 have hf:=first_iff hs[i].f0 hs i hi 0 rfl
 rw [Int.zero_add] at hf
 have ef:=house_s n now hs sn lk hs[i].f0 hl
 unfold spec_l12HouseOk.f houseV
 simp only [show (i:Int) < (hs.length:Int) from by omega,nn i,if_true,rd_MH hi]
 generalize hs[i]=h at z0 z4 z5 y5 hf ef ⊢
 obtain ⟨h0,h1,h2,⟨h3,h4,h5⟩,h6,h7⟩:=h
 simp only at z0 z4 z5 y5 hf ef ⊢
 have stop:Ev (fun k=>spec_l12HouseOk.j0 k true n now hs sn lk h0 h1 h2 h3 h4 h5 h6 h7) false:=Ev_succ (by simp only [spec_l12HouseOk.j0,if_true];exact Ev.now _)
 refine Ev.bind (house_ev h0 (by omega)) ?_
 cases isHouse h0 with
 | false=>simp only [Bool.false_eq_true,if_false,Bool.false_and];exact stop
 | true=>
  simp only [if_true,Bool.true_and]
  refine Ev.bind ef ?_
  cases hq:hasS ((hs.take i).map (·.f0)) h0 with
  | true=>
   rw [hq] at hf
   have:¬ firstIdx h0 hs 0=(i:Int):=fun e=>by cases hf.1 e
   simp only [this,if_false,Bool.not_true,Bool.false_and]
   exact stop
  | false=>
   rw [hq] at hf
   simp only [hf.2 rfl,if_true,Bool.not_false,Bool.true_and,btw_s,Option.bind_some]
   cases btw 0 h1 5100 with
   | false=>simp only [Bool.false_eq_true,if_false,Bool.false_and];exact stop
   | true=>
    simp only [if_true,Bool.true_and]
    cases btw 0 h6 2 with
    | false=>simp only [Bool.false_eq_true,if_false,Bool.false_and];exact stop
    | true=>
     simp only [if_true,Bool.true_and]
     rw [one_name']
     by_cases c1:h3.length=1
     ·simp only [show (h3.length:Int)=1 from by omega,show (0:Int) < 1 from by omega,if_true,c1,decide_true,Bool.true_and]
      by_cases c2:rdOf ByteArray.empty h3 0=n
      ·have c2':(rdOf ByteArray.empty h3 0).toList=n.toList:=by rw [c2]
       simp only [c2',if_true,c2,decide_true,Bool.true_and]
       cases btw 0 h5 20 with
       | false=>simp only [Bool.false_eq_true,if_false,Bool.false_and];exact stop
       | true=>
        simp only [if_true,Bool.true_and]
        refine Ev_succ ?_
        by_cases c40:h4.length≤40
        ·simp only [spec_l12HouseOk.j0,show decide ((h4.length:Int) > 40)=false from decide_eq_false (by omega),Bool.false_eq_true,if_false,c40,decide_true,Bool.true_and]
         have ei:=items_s n now hs sn lk h0 h1 h2 h3 h4 h5 h6 h7 hS.ls hn z5 y5
         have last:Ev (fun k=>spec_l12HouseOk.l0 k (h4.length:Int) n now hs sn lk h0 h1 h2 h3 h4 h5 h6 h7) ((h2 || (decide (h4.length=0) && decide (h5=0))) && itemsB h0 sn h7):=by
          refine Ev_succ ?_
          simp only [spec_l12HouseOk.l0,show ¬ ((h4.length:Int) < (h4.length:Int)) from by omega,if_false]
          cases h2 with
          | true=>
           simp only [if_true,Bool.true_or,Bool.true_and]
           exact Ev.bind ei (Ev.now _)
          | false=>
           simp only [Bool.false_eq_true,if_false,Bool.false_or]
           by_cases d0:h4.length=0
           ·by_cases dw:h5=0
            ·simp only [show (h4.length:Int)=0 from by omega,d0,dw,if_true,decide_true,Bool.true_and]
             subst dw
             exact Ev.bind ei (Ev.now _)
            ·simp only [show (h4.length:Int)=0 from by omega,d0,dw,if_true,if_false,decide_true,decide_false,Bool.true_and,Bool.false_and]
             exact Ev.now _
           ·simp only [show ¬ (h4.length:Int)=0 from by omega,d0,if_false,decide_false,Bool.false_and]
            exact Ev.now _
         have:=rules_s n now hs sn lk h4 z4 h0 h1 h2 h3 h5 h6 h7 _ last h4.length 0 (by omega)
         rw [List.drop_zero] at this
         exact this
        ·simp only [spec_l12HouseOk.j0,show decide ((h4.length:Int) > 40)=true from decide_eq_true (by omega),if_true,c40,decide_false,Bool.false_and]
         exact Ev.now _
      ·have c2':¬ (rdOf ByteArray.empty h3 0).toList=n.toList:=fun e=>c2 (toList_inj.1 e)
       simp only [c2',if_false,c2,decide_false,Bool.false_and]
       exact stop
     ·simp only [show ¬ (h3.length:Int)=1 from by omega,if_false,c1,decide_false,Bool.false_and]
      exact stop
theorem looks_s (hl:lk.length≤1048576) (hz:∀ x ∈ lk,x.f1.size≤1048576) (d:Nat):∀ (i:Nat) (last:Int),i+d=lk.length→0≤last→(i=0→last=0)→(∀ h:i - 1 < lk.length,0 < i→lk[i - 1].f0=last) →
  Ev (fun k=>spec_TripOk.l3 k (i:Int) n now hs sn lk) (looksB now last (lk.drop i)):=by
 induction d with
 | zero=>
  intro i last hi _ _ _
  refine Ev_succ ?_
  simp only [spec_TripOk.l3,show ¬ ((i:Int) < (lk.length:Int)) from by omega,if_false]
  rw [List.drop_of_length_le (by omega)]
  exact Ev.now _
 | succ d ih=>
  intro i last hi h0 hz0 hp
  have hlt:i < lk.length:=by omega
  have w1:wrap64 ((i:Int)+1)=((i+1:Nat):Int):=by rw [w64 (by omega) (by omega)];rfl
  have hz1:=hz _ (List.getElem_mem hlt)
  have hn:=norm_s lk[i].f1 (by omega)
  rw [List.drop_eq_getElem_cons hlt]
  simp only [looksB]
  refine Ev_succ ?_
  simp only [spec_TripOk.l3,show (i:Int) < (lk.length:Int) from by omega,nn i,if_true,rd_MK hlt,btw_s,Option.bind_some]
  by_cases ht:btw 0 lk[i].f0 now=true
  ·have ht2:0≤lk[i].f0∧lk[i].f0≤now:=by
    unfold btw at ht
    simpa using ht
   have next:=ih (i+1) (lk[i].f0) (by omega) ht2.1 (by omega) (fun _ _=>rfl)
   have body:Ev (fun k=>(spec_l11Norm.f k lk[i].f1).bind fun t292=>(if t292=true then (if btw 0 lk[i].f2 3=true then spec_TripOk.l3 k (wrap64 ((i:Int)+1)) n now hs sn lk else some false) else some false)) ((btw 0 lk[i].f2 3 && norm lk[i].f1) && looksB now lk[i].f0 (lk.drop (i+1))):=by
    refine Ev.bind hn ?_
    rw [w1]
    cases norm lk[i].f1 with
    | false=>simp only [Bool.false_eq_true,if_false,Bool.and_false,Bool.false_and];exact Ev.now _
    | true=>
     cases btw 0 lk[i].f2 3 with
     | false=>simp only [Bool.false_eq_true,if_false,if_true,Bool.false_and];exact Ev.now _
     | true=>simp only [if_true,Bool.true_and];exact next
   simp only [ht,if_true]
   by_cases hi0:i=0
   ·have hb:btw last lk[i].f0 now=true:=by rw [hz0 hi0];exact ht
    simp only [show ¬ ((i:Int) > 0) from by omega,if_false,hb,Bool.true_and]
    exact body
   ·have w2:wrap64 ((i:Int) - 1)=((i - 1:Nat):Int):=by rw [w64 (by omega) (by omega)];omega
    have hlt2:i - 1 < lk.length:=by omega
    have hl1:=hp hlt2 (by omega)
    simp only [show ((i:Int) > 0) from by omega,if_true,w2,nn,show ((i - 1:Nat):Int) < (lk.length:Int) from by omega,rd_MK hlt2,hl1]
    by_cases hgt:last > lk[i].f0
    ·have hb:btw last lk[i].f0 now=false:=by unfold btw;simp [show ¬ last≤lk[i].f0 from by omega]
     simp only [hgt,if_true,hb,Bool.false_and]
     exact Ev.now _
    ·have hb:btw last lk[i].f0 now=true:=by unfold btw;simp [show last≤lk[i].f0 from by omega,ht2.2]
     simp only [hgt,if_false,hb,Bool.true_and]
     exact body
  ·have hb:btw last lk[i].f0 now=false:=by
    unfold btw at ht ⊢
    simp only [Bool.and_eq_true,decide_eq_true_eq,not_and] at ht
    by_cases c:last≤lk[i].f0
    ·simp [c,show ¬ lk[i].f0≤now from ht (by omega)]
    ·simp [c]
   simp only [ht,Bool.false_eq_true,if_false,hb,Bool.false_and]
   exact Ev.now _
theorem houses_s (hS:Small n hs sn lk) (hn:sn.all norm=true) (R:Bool) (hR:Ev (fun k=>spec_TripOk.l3 k 0 n now hs sn lk) R) (d:Nat):∀ i:Nat,i+d=hs.length →
  Ev (fun k=>spec_TripOk.l2 k (i:Int) n now hs sn lk) ((((hs.drop i).all fun h=>houseB n h && itemsB h.f0 sn h.f5) && fresh ((hs.take i).map (·.f0)) ((hs.drop i).map (·.f0))) && R):=by
 have hl:=hS.lh
 induction d with
 | zero=>
  intro i hi
  refine Ev_succ ?_
  simp only [spec_TripOk.l2,show ¬ ((i:Int) < (hs.length:Int)) from by omega,if_false]
  rw [List.drop_of_length_le (by omega)]
  simp only [List.all_nil,List.map_nil,fresh,Bool.true_and]
  exact hR
 | succ d ih=>
  intro i hi
  have hlt:i < hs.length:=by omega
  have w1:wrap64 ((i:Int)+1)=((i+1:Nat):Int):=by rw [w64 (by omega) (by omega)];rfl
  have next:=ih (i+1) (by omega)
  refine Ev_succ ?_
  simp only [spec_TripOk.l2,show (i:Int) < (hs.length:Int) from by omega,if_true]
  rw [all_drop hlt,fresh_drop hlt,w1]
  refine Ev.bind (houseOk_s n now hs sn lk hS hn i hlt) ?_
  rw [houseV_eq]
  generalize (hs.drop (i+1)).all (fun h=>houseB n h && itemsB h.f0 sn h.f5)=A at next ⊢
  generalize fresh ((hs.take (i+1)).map (·.f0)) ((hs.drop (i+1)).map (·.f0))=F at next ⊢
  cases (houseB n hs[i] && itemsB hs[i].f0 sn hs[i].f5) with
  | false=>simp only [Bool.false_and,Bool.false_eq_true,if_false];exact Ev.now _
  | true=>
   simp only [Bool.true_and]
   cases hasS ((hs.take i).map (·.f0)) hs[i].f0 with
   | true=>simp only [Bool.not_true,Bool.false_eq_true,if_false,Bool.false_and,Bool.and_false];exact Ev.now _
   | false=>simp only [Bool.not_false,if_true,Bool.true_and];exact next
theorem seen_old (hl:sn.length≤1048576) (i:Nat) (hi:i < sn.length) (R:Bool) (hR:Ev (fun k=>spec_TripOk.l0 k ((i+1:Nat):Int) n now hs sn lk) R) (d:Nat):∀ j:Nat,j+d=i →
  Ev (fun k=>spec_TripOk.l1 k (i:Int) (j:Int) n now hs sn lk) (!(hasS ((sn.take i).drop j) sn[i]) && R):=by
 induction d with
 | zero=>
  intro j hj
  have w1:wrap64 ((i:Int)+1)=((i+1:Nat):Int):=by rw [w64 (by omega) (by omega)];rfl
  refine Ev_succ ?_
  simp only [spec_TripOk.l1,show ¬ ((j:Int) < (i:Int)) from by omega,if_false]
  rw [List.drop_of_length_le (by rw [List.length_take];omega),w1]
  simpa [hasS] using hR
 | succ d ih=>
  intro j hj
  have hlt:j < sn.length:=by omega
  have hlt2:j < (sn.take i).length:=by rw [List.length_take];omega
  have w1:wrap64 ((j:Int)+1)=((j+1:Nat):Int):=by rw [w64 (by omega) (by omega)];rfl
  have next:=ih (j+1) (by omega)
  refine Ev_succ ?_
  simp only [spec_TripOk.l1,show (j:Int) < (i:Int) from by omega,show (j:Int) < (sn.length:Int) from by omega,show (i:Int) < (sn.length:Int) from by omega,nn j,nn i,if_true,rd_S hlt,rd_S hi]
  rw [w1,List.drop_eq_getElem_cons hlt2,List.getElem_take]
  by_cases h:sn[j]=sn[i]
  ·have h':sn[j].toList=sn[i].toList:=by rw [h]
   rw [hasS_cons,show decide (sn[j]=sn[i])=true from by simp [h]]
   simp only [h',if_true,Bool.true_or,Bool.not_true,Bool.false_and]
   exact Ev.now _
  ·have h':¬ sn[j].toList=sn[i].toList:=fun e=>h (toList_inj.1 e)
   simp only [h',if_false]
   rw [hasS_cons,show decide (sn[j]=sn[i])=false from by simp [h],Bool.false_or]
   exact next
theorem seen_s (hl:sn.length≤1048576) (hz:∀ x ∈ sn,x.size≤1048576) (R:Bool) (hR:sn.all norm=true→Ev (fun k=>spec_TripOk.l2 k 0 n now hs sn lk) R) (d:Nat):∀ i:Nat,i+d=sn.length→((sn.take i).all norm=true) →
  Ev (fun k=>spec_TripOk.l0 k (i:Int) n now hs sn lk) (((sn.drop i).all norm && fresh (sn.take i) (sn.drop i)) && R):=by
 induction d with
 | zero=>
  intro i hi hp
  refine Ev_succ ?_
  simp only [spec_TripOk.l0,show ¬ ((i:Int) < (sn.length:Int)) from by omega,if_false]
  rw [List.take_of_length_le (by omega)] at hp
  rw [List.drop_of_length_le (by omega)]
  simp only [List.all_nil,fresh,Bool.true_and]
  exact hR hp
 | succ d ih=>
  intro i hi hp
  have hlt:i < sn.length:=by omega
  have hz1:=hz _ (List.getElem_mem hlt)
  have hf:=fresh_drop hlt (fun x=>x)
  simp only [List.map_id'] at hf
  refine Ev_succ ?_
  simp only [spec_TripOk.l0,show (i:Int) < (sn.length:Int) from by omega,nn i,if_true,rd_S hlt]
  rw [all_drop hlt,hf]
  refine Ev.bind (norm_s sn[i] (by omega)) ?_
  cases hn:norm sn[i] with
  | false=>simp only [Bool.false_eq_true,if_false,Bool.false_and];exact Ev.now _
  | true=>
   simp only [if_true,Bool.true_and]
   have next:=ih (i+1) (by omega) (by rw [List.take_succ_eq_append_getElem hlt,List.all_append,hp];simp [hn])
   have:=seen_old n now hs sn lk hl i hlt _ next i 0 (by omega)
   rw [List.drop_zero] at this
   have e:(!(hasS (sn.take i) sn[i]) && ((sn.drop (i+1)).all norm && fresh (sn.take (i+1)) (sn.drop (i+1)) && R))=((sn.drop (i+1)).all norm && (!(hasS (sn.take i) sn[i]) && fresh (sn.take (i+1)) (sn.drop (i+1))) && R):=by
    cases hasS (sn.take i) sn[i] <;> cases (sn.drop (i+1)).all norm <;> rfl
   rw [e] at this
   exact this
theorem tripOk_s (hS:Small n hs sn lk):Ev (fun k=>spec_TripOk.f k n now hs sn lk) (tripB n now hs sn lk):=by
 have stop:Ev (fun k=>spec_TripOk.j0 k true n now hs sn lk) false:=Ev_succ (by simp only [spec_TripOk.j0,if_true];exact Ev.now _)
 unfold spec_TripOk.f tripB
 refine Ev.bind (name_ev n (by have:=hS.nn;omega)) ?_
 cases isName n with
 | false=>simp only [Bool.false_eq_true,if_false,Bool.false_and];exact stop
 | true=>
  simp only [if_true,btw_s,Option.bind_some,Bool.true_and]
  cases btw 0 now 5000 with
  | false=>simp only [Bool.false_eq_true,if_false,Bool.false_and];exact stop
  | true=>
   simp only [if_true,Bool.true_and]
   by_cases h60:sn.length≤60
   ·simp only [show ¬ ((sn.length:Int) > 60) from by omega,if_false,h60,decide_true,Bool.true_and]
    refine Ev_succ ?_
    by_cases h400:lk.length≤400
    ·simp only [spec_TripOk.j0,show decide ((lk.length:Int) > 400)=false from decide_eq_false (by omega),Bool.false_eq_true,if_false,h400,decide_true,Bool.true_and]
     have e3:=looks_s n now hs sn lk hS.ll hS.k lk.length 0 0 (by omega) (by omega) (fun _=>rfl) (fun _ h=>by omega)
     rw [List.drop_zero] at e3
     have e0:=seen_s n now hs sn lk hS.ls hS.s _ (fun hn=>houses_s n now hs sn lk hS hn _ e3 hs.length 0 (by omega)) sn.length 0 (by omega) (by simp)
     rw [List.drop_zero,List.take_zero,List.drop_zero,List.take_zero,List.map_nil,fresh_nil,fresh_nil] at e0
     have e:(((sn.all norm && decide sn.Nodup) && (((hs.all fun h=>houseB n h && itemsB h.f0 sn h.f5) && decide (hs.map (·.f0)).Nodup) && looksB now 0 lk)))=(seenB sn && (looksB now 0 lk && housesB n sn hs)):=by
      unfold seenB housesB
      cases (sn.all norm && decide sn.Nodup) <;> cases looksB now 0 lk <;> simp
     rw [← e]
     exact e0
    ·simp only [spec_TripOk.j0,show decide ((lk.length:Int) > 400)=true from decide_eq_true (by omega),if_true,h400,decide_false,Bool.false_and,Bool.and_false]
     exact Ev.now _
   ·simp only [show ((sn.length:Int) > 60) from by omega,if_true,h60,decide_false,Bool.false_and]
    exact stop
end
end Go.Proofs.YteepbodnaameiaaGreatDoor.Tr
end
section
namespace Go.Proofs.YteepbodnaameiaaGreatDoor.Tr
open Go.RowKit Go.Proofs.YteepbodnaameiaaGreatDoor.P Go.Proofs.YteepbodnaameiaaGreatDoorW.PrintWords Go.Proofs.YteepbodnaameiaaGreatDoorW.PrintLast Go.Proofs.YteepbodnaameiaaGreatDoorW.PrintMore Go.Proofs.YteepbodnaameiaaGreatDoor.B Go.Proofs.YteepbodnaameiaaGreatDoor.Ad
set_option linter.unusedVariables false
set_option linter.unusedSimpArgs false
theorem small_of {f0:ByteArray} {f2:List LH} {f3:List ByteArray} {f4:List LK} (h:TB 1048576 1048576 f0 f2 f3 f4):Small f0 (f2.map cH) f3 (f4.map cK):=by
 refine ⟨h.n,by rw [List.length_map];exact h.lh,?_,?_,?_,?_,?_,?_,h.ls,h.s,by rw [List.length_map];exact h.lk,?_⟩
 all_goals intro y hy
 all_goals obtain ⟨q,hq,rfl⟩:=List.mem_map.1 hy
 ·exact (h.h q hq).n
 ·exact (h.h q hq).l3
 ·show (q.f3.f1.map cR).length≤_
  rw [List.length_map]
  exact (h.h q hq).l4
 ·intro r hr
  obtain ⟨z,hz,rfl⟩:=List.mem_map.1 hr
  exact (h.h q hq).s4 z hz
 ·show (q.f5.map cI).length≤_
  rw [List.length_map]
  exact (h.h q hq).l7
 ·intro r hr
  obtain ⟨z,hz,rfl⟩:=List.mem_map.1 hr
  exact (h.h q hq).s7 z hz
 ·exact h.k q hq
theorem toT_b {f0:ByteArray} (f1:Int) {f2:List LH} {f3:List ByteArray} {f4:List LK} (h:TB 1048576 1048576 f0 f2 f3 f4):Ev (fun k=>laws_toTrip.f k f0 f1 f2 f3 f4) (f0,f1,f2.map cH,f3,f4.map cK):=
 toT_ev f0 f1 f2 f3 f4 h.lh h.h h.ls h.lk
theorem mx_max (a b:Int):mx a b=max a b:=by unfold mx;split <;> omega
def Kep (hs:List MH) (now p m:Int):Prop:=p=-1∨∃ j:Nat,∃ h:j < hs.length,p=(j:Int)∧m=max hs[j].f1 now
theorem next_l (n:ByteArray) (now:Int) (hs:List MH) (sn:List ByteArray) (lk:List MK) (hl:hs.length≤1048576) (d:Nat):∀ (i:Nat) (p m:Int),i+d=hs.length→Kep hs now p m →
  Ev (fun k=>spec_l12Next.l0 k p (i:Int) n now hs sn lk) (leastF now (hs.drop i) (i:Int) p m).1∧Kep hs now (leastF now (hs.drop i) (i:Int) p m).1 (leastF now (hs.drop i) (i:Int) p m).2:=by
 induction d with
 | zero=>
  intro i p m hi hk
  rw [List.drop_of_length_le (by omega)]
  refine ⟨Ev_succ ?_,hk⟩
  simp only [spec_l12Next.l0,show ¬ ((i:Int) < (hs.length:Int)) from by omega,if_false]
  exact Ev.now _
 | succ d ih=>
  intro i p m hi hk
  have hlt:i < hs.length:=by omega
  have w1:wrap64 ((i:Int)+1)=((i+1:Nat):Int):=by rw [w64 (by omega) (by omega)];rfl
  have w2:(i:Int)+1=((i+1:Nat):Int):=by omega
  have stay:=ih (i+1) p m (by omega) hk
  have turn:=ih (i+1) (i:Int) (max hs[i].f1 now) (by omega) (.inr ⟨i,hlt,rfl,rfl⟩)
  rw [List.drop_eq_getElem_cons hlt]
  simp only [leastF,w2]
  by_cases h0:0 < hs[i].f5.length
  ·by_cases hp:p < 0
   ·rw [if_pos (by simp [h0,hp])]
    refine ⟨Ev_succ ?_,turn.2⟩
    simp only [spec_l12Next.l0,show (i:Int) < (hs.length:Int) from by omega,nn i,if_true,rd_MH hlt,show ((hs[i].f5.length:Int) > 0) from by omega,hp,w1]
    exact turn.1
   ·rcases hk with e|⟨j,hj,rfl,rfl⟩
    ·omega
    ·by_cases hm:max hs[i].f1 now < max hs[j].f1 now
     ·rw [if_pos (by simp [h0,hm])]
      refine ⟨Ev_succ ?_,turn.2⟩
      simp only [spec_l12Next.l0,show (i:Int) < (hs.length:Int) from by omega,nn i,nn j,if_true,rd_MH hlt,rd_MH hj,show ((hs[i].f5.length:Int) > 0) from by omega,hp,if_false,show (j:Int) < (hs.length:Int) from by omega,mx_max,hm,w1]
      exact turn.1
     ·rw [if_neg (by simp [hp,hm])]
      refine ⟨Ev_succ ?_,stay.2⟩
      simp only [spec_l12Next.l0,show (i:Int) < (hs.length:Int) from by omega,nn i,nn j,if_true,rd_MH hlt,rd_MH hj,show ((hs[i].f5.length:Int) > 0) from by omega,hp,if_false,show (j:Int) < (hs.length:Int) from by omega,mx_max,hm,w1]
      exact stay.1
  ·rw [if_neg (by simp [h0])]
   refine ⟨Ev_succ ?_,stay.2⟩
   simp only [spec_l12Next.l0,show (i:Int) < (hs.length:Int) from by omega,nn i,if_true,rd_MH hlt,show ¬ ((hs[i].f5.length:Int) > 0) from by omega,if_false,w1]
   exact stay.1
theorem next_s (n:ByteArray) (now:Int) (hs:List MH) (sn:List ByteArray) (lk:List MK) (hl:hs.length≤1048576) :
  Ev (fun k=>spec_l12Next.f k n now hs sn lk) (leastF now hs 0 (-1) 0).1∧Kep hs now (leastF now hs 0 (-1) 0).1 (leastF now hs 0 (-1) 0).2:=by
 have:=next_l n now hs sn lk hl hs.length 0 (-1) 0 (by omega) (.inl rfl)
 rw [List.drop_zero] at this
 exact this
end Go.Proofs.YteepbodnaameiaaGreatDoor.Tr
end
section
namespace Go.Proofs.YteepbodnaameiaaGreatDoor.Nn
open Go.RowKit Go.Proofs.YteepbodnaameiaaGreatDoor.P Go.Proofs.YteepbodnaameiaaGreatDoorW.PrintWords Go.Proofs.YteepbodnaameiaaGreatDoorW.PrintLast Go.Proofs.YteepbodnaameiaaGreatDoorW.PrintMore Go.Proofs.YteepbodnaameiaaGreatDoor.B Go.Proofs.YteepbodnaameiaaGreatDoor.Ad
set_option linter.unusedVariables false
set_option linter.unusedSimpArgs false
theorem impl_small_l (s:ByteArray) (hs:s.size≤140737488351232) (d:Nat):∀ (k:Nat) (i:Nat),i+d=s.size→d < k →
  impl_allSmallLetters.l0 k s (i:Int)=some (smallFrom s d i):=by
 induction d with
 | zero=>
  intro k i h hk
  obtain ⟨k,rfl⟩:∃ m,k=m+1:=⟨k - 1,by omega⟩
  simp only [impl_allSmallLetters.l0,smallFrom]
  rw [if_neg (by omega)]
 | succ d ih=>
  intro k i h hk
  obtain ⟨k,rfl⟩:∃ m,k=m+1:=⟨k - 1,by omega⟩
  simp only [impl_allSmallLetters.l0,smallFrom]
  rw [if_pos (by omega),if_pos (by omega)]
  by_cases h1:bt s i < 97
  ·rw [if_pos h1,if_pos h1]
  ·rw [if_neg h1,if_neg h1]
   by_cases h2:bt s i > 122
   ·rw [if_pos h2,if_pos h2]
   ·rw [if_neg h2,if_neg h2,w64 (by omega) (by omega)]
    exact ih k (i+1) (by omega) (by omega)
theorem impl_name (s:ByteArray) (hs:s.size≤140737488351232):Ev (fun k=>impl_isName.f k s) (isName s):=by
 unfold impl_isName.f isName isSmall
 by_cases h1:1≤s.size
 ·by_cases h2:s.size≤8
  ·simp only [show (s.size:Int) ≥ 1 from by omega,show (s.size:Int)≤8 from by omega,if_true,h1,h2,decide_true,Bool.true_and]
   refine Ev.bind (a:=smallFrom s s.size 0) ?_ (Ev.now _)
   refine Ev.of (fun k=>impl_allSmallLetters.mono _ k) (k:=s.size+1) ?_
   exact impl_small_l s hs s.size (s.size+1) 0 (by omega) (by omega)
  ·simp only [show (s.size:Int) ≥ 1 from by omega,show ¬ (s.size:Int)≤8 from by omega,if_true,if_false,h2,decide_false,Bool.and_false,Bool.false_and]
   exact Ev.now _
 ·simp only [show ¬ (s.size:Int) ≥ 1 from by omega,if_false,h1,decide_false,Bool.false_and]
  exact Ev.now _
end Go.Proofs.YteepbodnaameiaaGreatDoor.Nn
end
section
namespace Go.Proofs.YteepbodnaameiaaGreatDoor.Tr
open Go.RowKit Go.Proofs.YteepbodnaameiaaGreatDoor.P Go.Proofs.YteepbodnaameiaaGreatDoorW.PrintWords Go.Proofs.YteepbodnaameiaaGreatDoorW.PrintLast Go.Proofs.YteepbodnaameiaaGreatDoorW.PrintMore Go.Proofs.YteepbodnaameiaaGreatDoor.B Go.Proofs.YteepbodnaameiaaGreatDoor.Ad Go.Proofs.YteepbodnaameiaaGreatDoor.Wd
set_option linter.unusedVariables false
set_option linter.unusedSimpArgs false
theorem btw_i (a n b:Int):impl_between.f a n b=some (btw a n b):=by
 unfold impl_between.f btw
 by_cases h:a≤n <;> simp [h]
theorem once_i (l:List ByteArray) (hl:l.length≤1048576) (hs:∀ s ∈ l,s.size≤1048576):Ev (fun k=>impl_allOnce.f k l) (decide l.Nodup):=by
 unfold impl_allOnce.f
 rw [if_pos ⟨by omega,fun s h=>by have:=hs s h;omega⟩]
 exact Ev.now _
theorem index_l (l:List ByteArray) (x:ByteArray) (hl:l.length≤1048576) (d:Nat):∀ i,i+d=l.length→Ev (fun k=>(slices_Index_string_string.l0 k l x (l.length:Int) (i:Int)).bind fun t=>some (decide (t ≥ 0))) (hasS (l.drop i) x):=by
 induction d with
 | zero=>
  intro i hi
  refine Ev_succ ?_
  simp only [slices_Index_string_string.l0,show ¬ ((i:Int) < (l.length:Int)) from by omega,if_false,Option.bind_some]
  rw [List.drop_of_length_le (by omega)]
  exact Ev.now _
 | succ d ih=>
  intro i hi
  have hlt:i < l.length:=by omega
  have w1:wrap64 ((i:Int)+1)=((i+1:Nat):Int):=by rw [w64 (by omega) (by omega)];rfl
  have next:=ih (i+1) (by omega)
  refine Ev_succ ?_
  simp only [slices_Index_string_string.l0,show (i:Int) < (l.length:Int) from by omega,nn i,if_true,rd_S hlt]
  rw [w1]
  unfold hasS at next ⊢
  rw [List.drop_eq_getElem_cons hlt,List.any_cons]
  by_cases h:x.toList=l[i].toList
  ·have e:l[i]=x:=(toList_inj.1 h).symm
   simp only [h,if_true,Option.bind_some,e,decide_true,Bool.true_or]
   rw [show decide ((i:Int) ≥ 0)=true from by simp]
   exact Ev.now _
  ·have e:¬ l[i]=x:=fun e=>h (by rw [e])
   simp only [h,if_false,e,decide_false,Bool.false_or]
   exact next
theorem has_i (l:List ByteArray) (x:ByteArray) (hl:l.length≤1048576):Ev (fun k=>slices_Contains_string_string.f k l x) (hasS l x):=by
 have:=index_l l x hl l.length 0 (by omega)
 rw [List.drop_zero] at this
 exact this
theorem seen_l (l:List ByteArray) (hl:l.length≤1048576) (d:Nat):∀ i,i+d=l.length→Ev (fun k=>impl_seenOk.l0 k l (l.length:Int) (i:Int)) ((l.drop i).all norm):=by
 induction d with
 | zero=>
  intro i hi
  refine Ev_succ ?_
  simp only [impl_seenOk.l0,show ¬ ((i:Int) < (l.length:Int)) from by omega,if_false]
  rw [List.drop_of_length_le (by omega)]
  exact Ev.now _
 | succ d ih=>
  intro i hi
  have hlt:i < l.length:=by omega
  have w1:wrap64 ((i:Int)+1)=((i+1:Nat):Int):=by rw [w64 (by omega) (by omega)];rfl
  have next:=ih (i+1) (by omega)
  refine Ev_succ ?_
  simp only [impl_seenOk.l0,show (i:Int) < (l.length:Int) from by omega,nn i,if_true,rd_S hlt]
  rw [w1,all_drop hlt]
  refine Ev.bind (isAddr_i _) ?_
  cases norm l[i] with
  | true=>simp only [if_true,Bool.true_and];exact next
  | false=>simp only [Bool.false_eq_true,if_false,Bool.false_and];exact Ev.now _
theorem seenOk_i (l:List ByteArray) (hl:l.length≤1048576) (hs:∀ s ∈ l,s.size≤1048576):Ev (fun k=>impl_seenOk.f k l) (decide (l.length≤60) && seenB l):=by
 unfold impl_seenOk.f seenB
 by_cases h:l.length≤60
 ·simp only [show ¬ ((l.length:Int) > 60) from by omega,if_false,h,decide_true,Bool.true_and]
  refine Ev.bind (once_i l hl hs) (Ev_succ ?_)
  cases decide l.Nodup with
  | true=>
   simp only [impl_seenOk.j0,Bool.not_true,Bool.false_eq_true,if_false,Bool.and_true]
   have:=seen_l l hl l.length 0 (by omega)
   rw [List.drop_zero] at this
   exact this
  | false=>
   simp only [impl_seenOk.j0,Bool.not_false,if_true,Bool.and_false]
   exact Ev.now _
 ·simp only [show ((l.length:Int) > 60) from by omega,if_true,h,decide_false,Bool.false_and]
  refine Ev_succ ?_
  simp only [impl_seenOk.j0,if_true]
  exact Ev.now _
theorem looks_l (now:Int) (l:List MK) (hl:l.length≤1048576) (d:Nat):∀ i (last:Int),i+d=l.length→Ev (fun k=>impl_looksOk.l0 k now last l (l.length:Int) (i:Int)) (looksB now last (l.drop i)):=by
 induction d with
 | zero=>
  intro i last hi
  refine Ev_succ ?_
  simp only [impl_looksOk.l0,show ¬ ((i:Int) < (l.length:Int)) from by omega,if_false]
  rw [List.drop_of_length_le (by omega)]
  exact Ev.now _
 | succ d ih=>
  intro i last hi
  have hlt:i < l.length:=by omega
  have w1:wrap64 ((i:Int)+1)=((i+1:Nat):Int):=by rw [w64 (by omega) (by omega)];rfl
  have next:=ih (i+1) (l[i].f0) (by omega)
  rw [List.drop_eq_getElem_cons hlt]
  simp only [looksB]
  refine Ev_succ ?_
  simp only [impl_looksOk.l0,show (i:Int) < (l.length:Int) from by omega,nn i,if_true,rd_MK hlt,btw_i,Option.bind_some]
  cases btw last l[i].f0 now with
  | false=>
   simp only [Bool.false_eq_true,if_false,Bool.false_and]
   refine Ev_succ ?_
   simp only [impl_looksOk.j1,if_true]
   exact Ev.now _
  | true=>
   simp only [if_true,Bool.true_and]
   refine Ev_succ ?_
   cases btw 0 l[i].f2 3 with
   | false=>
    simp only [impl_looksOk.j1,Bool.not_false,if_true,Bool.false_and]
    exact Ev.now _
   | true=>
    simp only [impl_looksOk.j1,Bool.not_true,Bool.false_eq_true,if_false,Bool.true_and]
    refine Ev.bind (isAddr_i _) ?_
    cases norm l[i].f1 with
    | true=>simp only [if_true,Bool.true_and];rw [w1];exact next
    | false=>simp only [Bool.false_eq_true,if_false,Bool.false_and];exact Ev.now _
theorem looksOk_i (now:Int) (l:List MK) (hl:l.length≤1048576):Ev (fun k=>impl_looksOk.f k l now) (decide (l.length≤400) && looksB now 0 l):=by
 unfold impl_looksOk.f
 by_cases h:l.length≤400
 ·simp only [show ¬ ((l.length:Int) > 400) from by omega,if_false,h,decide_true,Bool.true_and]
  have:=looks_l now l hl l.length 0 0 (by omega)
  rw [List.drop_zero] at this
  exact this
 ·simp only [show ((l.length:Int) > 400) from by omega,if_true,h,decide_false,Bool.false_and]
  exact Ev.now _
theorem rules_l (rs:List MR) (hr:rs.length≤1048576) (hz:∀ r ∈ rs,r.f1.size≤1048576) (d:Nat):∀ j:Nat,j+d=rs.length→Ev (fun k=>impl_rulesOk.l0 k rs (rs.length:Int) (j:Int)) (rulesB (rs.drop j)):=by
 induction d with
 | zero=>
  intro j hj
  refine Ev_succ ?_
  simp only [impl_rulesOk.l0,show ¬ ((j:Int) < (rs.length:Int)) from by omega,if_false]
  rw [List.drop_of_length_le (by omega)]
  exact Ev.now _
 | succ d ih=>
  intro j hj
  have hlt:j < rs.length:=by omega
  have e4:wrap64 ((j:Int)+1)=((j+1:Nat):Int):=by rw [w64 (by omega) (by omega)];rfl
  have next:=ih (j+1) (by omega)
  refine Ev_succ ?_
  simp only [impl_rulesOk.l0,show (j:Int) < (rs.length:Int) from by omega,nn j,if_true]
  unfold rulesB at next ⊢
  rw [rd_MR hlt,e4,all_drop hlt]
  have hz2:=hz _ (List.getElem_mem hlt)
  refine Ev.bind (ruleOk_impl _ (by omega)) ?_
  cases ruleOk rs[j].f1 with
  | true=>simp only [if_true,Bool.true_and];exact next
  | false=>simp only [Bool.false_eq_true,if_false,Bool.false_and];exact Ev.now _
theorem rules_i (rs:List MR) (hr:rs.length≤1048576) (hz:∀ r ∈ rs,r.f1.size≤1048576):Ev (fun k=>impl_rulesOk.f k rs) (rulesB rs):=by
 have:=rules_l rs hr hz rs.length 0 (by omega)
 rw [List.drop_zero] at this
 exact this
theorem one_name (l:List ByteArray) (n:ByteArray):decide (l=[n])=(decide (l.length=1) && decide (rdOf ByteArray.empty l 0=n)):=by
 match l with
 | []=>simp
 | [a]=>simp [rdOf]
 | a :: b :: r=>simp
theorem houseOk_i (n:ByteArray) (h:MH) (hh:h.f0.size≤1048576) (hr:h.f3.f1.length≤1048576) (hz:∀ r ∈ h.f3.f1,r.f1.size≤1048576):Ev (fun k=>impl_houseOk.f k h.f0 h.f1 h.f2 h.f3.f0 h.f3.f1 h.f3.f2 h.f4 h.f5 n) (houseB n h):=by
 have stop:Ev (fun k=>impl_houseOk.j0 k n true h.f0 h.f1 h.f2 h.f3.f0 h.f3.f1 h.f3.f2 h.f4 h.f5) false:=Ev_succ (by simp only [impl_houseOk.j0,if_true];exact Ev.now _)
 have stop1:Ev (fun k=>impl_houseOk.j1 k true h.f0 h.f1 h.f2 h.f3.f0 h.f3.f1 h.f3.f2 h.f4 h.f5 h.f3.f0 h.f3.f1 h.f3.f2) false:=Ev_succ (by simp only [impl_houseOk.j1,if_true];exact Ev.now _)
 unfold impl_houseOk.f houseB
 refine Ev.bind (house_i h.f0 (by omega)) ?_
 cases isHouse h.f0 with
 | false=>simp only [Bool.false_eq_true,if_false,Bool.false_and];exact stop
 | true=>
  simp only [if_true,btw_i,Option.bind_some,Bool.true_and]
  cases btw 0 h.f1 5100 with
  | false=>simp only [Bool.false_eq_true,if_false,Bool.false_and];exact stop
  | true=>
   simp only [if_true,Bool.true_and]
   cases btw 0 h.f4 2 with
   | false=>simp only [Bool.not_false,Bool.false_and];exact stop
   | true=>
    simp only [Bool.not_true,Bool.true_and]
    refine Ev_succ ?_
    simp only [impl_houseOk.j0,Bool.false_eq_true,if_false]
    rw [one_name]
    by_cases h1:h.f3.f0.length=1
    ·simp only [show (h.f3.f0.length:Int)=1 from by omega,show (0:Int) < 1 from by omega,if_true,h1,decide_true,Bool.true_and]
     rw [show ((rdOf ByteArray.empty h.f3.f0 0).toList != n.toList) = !(decide (rdOf ByteArray.empty h.f3.f0 0=n)) from by rw [bne,beq_L]]
     cases decide (rdOf ByteArray.empty h.f3.f0 0=n) with
     | false=>simp only [Bool.not_false,Bool.false_and];exact stop1
     | true=>
      simp only [Bool.not_true,Bool.true_and]
      refine Ev_succ ?_
      simp only [impl_houseOk.j1,Bool.false_eq_true,if_false]
      unfold restB
      cases h.f2 with
      | true=>
       simp only [if_true]
       by_cases h40:h.f3.f1.length≤40
       ·simp only [show (h.f3.f1.length:Int)≤40 from by omega,if_true,h40,decide_true,Bool.true_and]
        refine Ev.bind (rules_i _ hr hz) ?_
        cases rulesB h.f3.f1 with
        | true=>simp only [if_true,btw_i,Option.bind_some,Bool.true_and];exact Ev.now _
        | false=>simp only [Bool.false_eq_true,if_false,Bool.false_and];exact Ev.now _
       ·simp only [show ¬ (h.f3.f1.length:Int)≤40 from by omega,if_false,h40,decide_false,Bool.false_and]
        exact Ev.now _
      | false=>
       simp only [Bool.false_eq_true,if_false]
       by_cases h0:h.f3.f1.length=0
       ·simp only [show (h.f3.f1.length:Int)=0 from by omega,if_true,h0,decide_true,Bool.true_and]
        rw [show (h.f3.f2 == 0)=decide (h.f3.f2=0) from rfl]
        exact Ev.now _
       ·simp only [show ¬ (h.f3.f1.length:Int)=0 from by omega,if_false,h0,decide_false,Bool.false_and]
        exact Ev.now _
    ·simp only [show ¬ (h.f3.f0.length:Int)=1 from by omega,if_false,h1,decide_false,Bool.false_and]
     exact stop1
theorem itemsB_le {name:ByteArray} {seen:List ByteArray} {l:List MI} (h:itemsB name seen l=true):l.length≤seen.length:=by
 unfold itemsB at h
 rw [Bool.and_eq_true] at h
 have hn:(l.map (·.f0)).Nodup:=of_decide_eq_true h.2
 have:=List.Nodup.length_le_of_subset hn (l₂:=seen) (fun s hs=>by
  obtain ⟨x,hx,rfl⟩:=List.mem_map.1 hs
  have:=List.all_eq_true.1 h.1 x hx
  unfold itemB at this
  simp only [Bool.and_eq_true] at this
  exact hasS_iff.1 this.2.2.1)
 rwa [List.length_map] at this
theorem todo_l (sn:List ByteArray) (hsl:sn.length≤1048576) (td:List MI) (hl:td.length≤1048576) (hz:∀ x ∈ td,x.f0.size≤1048576) (a0:ByteArray) (a1:Int) (a2:Bool) (a3:List ByteArray) (a4:List MR) (a5 a6:Int) (a7:List MI) (d:Nat):∀ i:Nat,i+d=td.length →
  Ev (fun k=>impl_todoOk.l0 k sn ((td.take i).map (·.f0)) td (td.length:Int) (i:Int) a0 a1 a2 a3 a4 a5 a6 a7) ((td.drop i).all (itemB a0 sn) && decide (td.map (·.f0)).Nodup):=by
 induction d with
 | zero=>
  intro i hi
  refine Ev_succ ?_
  simp only [impl_todoOk.l0,show ¬ ((i:Int) < (td.length:Int)) from by omega,if_false]
  rw [List.drop_of_length_le (by omega),List.take_of_length_le (by omega)]
  simp only [List.all_nil,Bool.true_and]
  exact Ev.bind (once_i _ (by rw [List.length_map];exact hl) (fun s hs=>by obtain ⟨x,hx,rfl⟩:=List.mem_map.1 hs;exact hz x hx)) (Ev.now _)
 | succ d ih=>
  intro i hi
  have hlt:i < td.length:=by omega
  have w1:wrap64 ((i:Int)+1)=((i+1:Nat):Int):=by rw [w64 (by omega) (by omega)];rfl
  have next:=ih (i+1) (by omega)
  rw [← take_map hlt] at next
  have hacc:((td.take i).map (·.f0)).length < 8796093022208:=by rw [List.length_map,List.length_take];omega
  have stop:Ev (fun k=>impl_todoOk.j1 k sn ((td.take i).map (·.f0)) td (td.length:Int) (i:Int) true a0 a1 a2 a3 a4 a5 a6 a7 td[i].f0 td[i].f1) false:=Ev_succ (by simp only [impl_todoOk.j1,if_true];exact Ev.now _)
  refine Ev_succ ?_
  simp only [impl_todoOk.l0,show (i:Int) < (td.length:Int) from by omega,nn i,if_true,rd_MI hlt]
  rw [all_drop hlt]
  unfold itemB
  refine Ev.bind (readAddr_i _) ?_
  cases hn:norm td[i].f0 with
  | false=>
   simp only [Bool.false_eq_true,if_false,none5,Bool.false_and]
   exact stop
  | true=>
   simp only [if_true,Bool.true_and]
   by_cases hh:(readO td[i].f0).1=a0
   ·have hh':(readO td[i].f0).1.toList=a0.toList:=by rw [hh]
    simp only [hh',if_true,hh,decide_true,Bool.true_and]
    refine Ev.bind (has_i sn _ hsl) ?_
    cases hasS sn td[i].f0 with
    | false=>simp only [Bool.not_false,Bool.false_and];exact stop
    | true=>
     simp only [Bool.not_true,Bool.true_and]
     refine Ev_succ ?_
     simp only [impl_todoOk.j1,Bool.false_eq_true,if_false,btw_i,Option.bind_some]
     cases btw 0 td[i].f1 2 with
     | false=>simp only [Bool.false_eq_true,if_false,Bool.false_and];exact Ev.now _
     | true=>
      simp only [if_true,hacc,Bool.true_and]
      rw [w1]
      exact next
   ·have hh':¬ (readO td[i].f0).1.toList=a0.toList:=fun e=>hh (toList_inj.1 e)
    simp only [hh',if_false,hh,decide_false,Bool.false_and]
    exact stop
theorem todoOk_i (sn:List ByteArray) (hsl:sn.length≤1048576) (td:List MI) (hl:td.length≤1048576) (hz:∀ x ∈ td,x.f0.size≤1048576) (a0:ByteArray) (a1:Int) (a2:Bool) (a3:List ByteArray) (a4:List MR) (a5 a6:Int) :
  Ev (fun k=>impl_todoOk.f k a0 a1 a2 a3 a4 a5 a6 td sn) (itemsB a0 sn td):=by
 unfold impl_todoOk.f
 by_cases h:td.length≤sn.length
 ·simp only [show ¬ (td.length:Int) > (sn.length:Int) from by omega,if_false]
  have:=todo_l sn hsl td hl hz a0 a1 a2 a3 a4 a5 a6 td td.length 0 (by omega)
  rw [List.drop_zero,List.take_zero] at this
  exact this
 ·simp only [show (td.length:Int) > (sn.length:Int) from by omega,if_true]
  have:itemsB a0 sn td=false:=by
   cases hb:itemsB a0 sn td with
   | false=>rfl
   | true=>exact absurd (itemsB_le hb) h
  rw [this]
  exact Ev.now _
theorem houses_l (n:ByteArray) (now:Int) (hs:List MH) (sn:List ByteArray) (lk:List MK) (hS:Small n hs sn lk) (d:Nat):∀ i:Nat,i+d=hs.length →
  Ev (fun k=>impl_TripOk.l0 k ((hs.take i).map (·.f0)) hs (hs.length:Int) (i:Int) n now hs sn lk) (((hs.drop i).all fun h=>houseB n h && itemsB h.f0 sn h.f5) && decide (hs.map (·.f0)).Nodup):=by
 have hl:=hS.lh
 induction d with
 | zero=>
  intro i hi
  refine Ev_succ ?_
  simp only [impl_TripOk.l0,show ¬ ((i:Int) < (hs.length:Int)) from by omega,if_false]
  rw [List.drop_of_length_le (by omega),List.take_of_length_le (by omega)]
  simp only [List.all_nil,Bool.true_and]
  exact Ev.bind (once_i _ (by rw [List.length_map];exact hl) (fun s hs'=>by obtain ⟨x,hx,rfl⟩:=List.mem_map.1 hs';exact hS.hn x hx)) (Ev.now _)
 | succ d ih=>
  intro i hi
  have hlt:i < hs.length:=by omega
  have hm:=List.getElem_mem hlt
  have w1:wrap64 ((i:Int)+1)=((i+1:Nat):Int):=by rw [w64 (by omega) (by omega)];rfl
  have next:=ih (i+1) (by omega)
  rw [← take_map hlt] at next
  have hacc:((hs.take i).map (·.f0)).length < 8796093022208:=by rw [List.length_map,List.length_take];omega
  have e1:=houseOk_i n hs[i] (hS.hn _ hm) (hS.h4 _ hm) (hS.s4 _ hm)
  have e2:=todoOk_i sn hS.ls hs[i].f5 (hS.h5 _ hm) (hS.s5 _ hm) hs[i].f0 hs[i].f1 hs[i].f2 hs[i].f3.f0 hs[i].f3.f1 hs[i].f3.f2 hs[i].f4
  refine Ev_succ ?_
  simp only [impl_TripOk.l0,show (i:Int) < (hs.length:Int) from by omega,nn i,if_true,rd_MH hlt]
  rw [all_drop hlt]
  refine Ev.bind e1 ?_
  cases houseB n hs[i] with
  | false=>simp only [Bool.false_eq_true,if_false,Bool.false_and];exact Ev.now _
  | true=>
   simp only [if_true,Bool.true_and]
   refine Ev.bind e2 ?_
   cases itemsB hs[i].f0 sn hs[i].f5 with
   | false=>simp only [Bool.false_eq_true,if_false,Bool.false_and];exact Ev.now _
   | true=>
    simp only [if_true,Bool.true_and,hacc]
    rw [w1]
    exact next
theorem tripOk_i (n:ByteArray) (now:Int) (hs:List MH) (sn:List ByteArray) (lk:List MK) (hS:Small n hs sn lk):Ev (fun k=>impl_TripOk.f k n now hs sn lk) (tripB n now hs sn lk):=by
 have stop:Ev (fun k=>impl_TripOk.j0 k true n now hs sn lk) false:=Ev_succ (by simp only [impl_TripOk.j0,if_true];exact Ev.now _)
 have stop1:Ev (fun k=>impl_TripOk.j1 k true n now hs sn lk) false:=Ev_succ (by simp only [impl_TripOk.j1,if_true];exact Ev.now _)
 unfold impl_TripOk.f tripB
 refine Ev.bind (Nn.impl_name n (by have:=hS.nn;omega)) ?_
 cases isName n with
 | false=>simp only [Bool.false_eq_true,if_false,Bool.false_and];exact stop
 | true=>
  simp only [if_true,btw_i,Option.bind_some,Bool.true_and]
  cases btw 0 now 5000 with
  | false=>simp only [Bool.not_false,Bool.false_and];exact stop
  | true=>
   simp only [Bool.not_true,Bool.true_and]
   refine Ev_succ ?_
   simp only [impl_TripOk.j0,Bool.false_eq_true,if_false]
   refine Ev.bind (seenOk_i sn hS.ls hS.s) ?_
   cases (decide (sn.length≤60) && seenB sn) with
   | false=>simp only [Bool.false_eq_true,if_false,Bool.false_and];exact stop1
   | true=>
    simp only [if_true,Bool.true_and]
    refine Ev.bind (looksOk_i now lk hS.ll) ?_
    cases (decide (lk.length≤400) && looksB now 0 lk) with
    | false=>simp only [Bool.not_false,Bool.false_and];exact stop1
    | true=>
     simp only [Bool.not_true,Bool.true_and]
     refine Ev_succ ?_
     simp only [impl_TripOk.j1,Bool.false_eq_true,if_false]
     have:=houses_l n now hs sn lk hS hs.length 0 (by omega)
     rw [List.drop_zero,List.take_zero] at this
     exact this
end Go.Proofs.YteepbodnaameiaaGreatDoor.Tr
end
section
namespace Go.Proofs.YteepbodnaameiaaGreatDoor.Pure
open Go.RowKit Go.Proofs.YteepbodnaameiaaGreatDoor.P Go.Proofs.YteepbodnaameiaaGreatDoorW.PrintWords Go.Proofs.YteepbodnaameiaaGreatDoorW.PrintLast Go.Proofs.YteepbodnaameiaaGreatDoorW.PrintMore Go.Proofs.YteepbodnaameiaaGreatDoor.B
set_option linter.unusedSimpArgs false
set_option linter.unusedVariables false
theorem FnExactTripNext (f0:ByteArray) (f1:Int) (f2:List Tr.LH) (f3:List ByteArray) (f4:List Tr.LK) (hg:Tr.TB 4611686018427387904 17592186044416 f0 f2 f3 f4) :
  Ev (fun k=>laws_FnExactTripNext.f k f0 f1 f2 f3 f4) true:=by
 unfold laws_FnExactTripNext.f
 obtain ⟨r,hr,hb⟩:=Tr.szT_ev f0 f1 f2 f3 f4 hg
 refine Ev.bind hr ?_
 by_cases hr0:r < 0
 ·simp only [hr0,if_true];exact Ev.now _
 simp only [hr0,if_false]
 have hB:=hb (by omega)
 have hS:=Tr.small_of hB
 have hA:=Tr.toT_b f1 hB
 have h1:=Tr.tripOk_s f0 f1 _ f3 _ hS
 have h2:=Tr.tripOk_i f0 f1 _ f3 _ hS
 have hl:=hS.lh
 generalize f2.map Tr.cH=hs at hS hA h1 h2 hl ⊢
 have hq:Ev (fun k=>laws_eqTrip.f k f0 f1 hs f3 (f4.map Tr.cK) f0 f1 hs f3 (f4.map Tr.cK)) true:=
  Tr.eqT_ev f0 f1 _ f3 _ hS.lh (fun y hy=>⟨hS.h3 y hy,hS.h4 y hy,hS.h5 y hy⟩) hS.ls hS.ll
 have e2:Ev (fun k=>impl_TripNext.f k f0 f1 hs f3 (f4.map Tr.cK)) (if Tr.tripB f0 f1 hs f3 (f4.map Tr.cK)=true then nextF f1 hs else (0,0,false)):=by
  unfold impl_TripNext.f
  refine Ev.bind h2 ?_
  cases Tr.tripB f0 f1 hs f3 (f4.map Tr.cK) with
  | false=>simp only [Bool.false_eq_true,if_false];exact Ev.now _
  | true=>
   simp only [if_true,show hs.length≤4611686018427387904 from by omega]
   exact Ev.now _
 have e1:Ev (fun k=>spec_TripNext.f k f0 f1 hs f3 (f4.map Tr.cK)) (if Tr.tripB f0 f1 hs f3 (f4.map Tr.cK)=true then nextF f1 hs else (0,0,false)):=by
  unfold spec_TripNext.f
  refine Ev.bind h1 ?_
  cases Tr.tripB f0 f1 hs f3 (f4.map Tr.cK) with
  | false=>simp only [Bool.false_eq_true,if_false];exact Ev.now _
  | true=>
   simp only [if_true]
   obtain ⟨en,hk⟩:=Tr.next_s f0 f1 hs f3 (f4.map Tr.cK) hl
   unfold nextF
   refine Ev.bind en ?_
   generalize leastF f1 hs 0 (-1) 0=pm at hk ⊢
   obtain ⟨p,m⟩:=pm
   simp only at hk ⊢
   rcases hk with rfl|⟨j,hj,rfl,rfl⟩
   ·simp only [show ((-1:Int) < 0) from by omega,if_true,show ¬ ((0:Int)≤-1) from by omega,false_and,if_false]
    exact Ev.now _
   ·simp only [show ¬ ((j:Int) < 0) from by omega,if_false,Tr.nn j,if_true,show (j:Int) < (hs.length:Int) from by omega,Tr.rd_MH hj,Tr.mx_max,true_and]
    by_cases hc:max hs[j].f1 f1≤5000
    ·simp only [show ¬ (max hs[j].f1 f1 > 5000) from by omega,if_false,hc,if_true,show max (j:Int) 0=(j:Int) from by omega]
     exact Ev.now _
    ·simp only [show (max hs[j].f1 f1 > 5000) from by omega,if_true,hc,if_false]
     exact Ev.now _
 refine Ev.bind hA (Ev.bind e1 (Ev.bind hA (Ev.bind e2 ?_)))
 simp only [if_true,bne_self_eq_false]
 refine Ev_succ ?_
 simp only [laws_FnExactTripNext.j0,Bool.false_eq_true,if_false]
 refine Ev.bind hA (Ev.bind hq ?_)
 simp only [if_true]
 exact Ev.now _
end Go.Proofs.YteepbodnaameiaaGreatDoor.Pure
end
section
namespace Go.Proofs.YteepbodnaameiaaGreatDoorW.PrintWords
open Go.ChangeShapes Go.WideShapes

end Go.Proofs.YteepbodnaameiaaGreatDoorW.PrintWords
end
section
namespace Go.Proofs.YteepbodnaameiaaGreatDoor.fnExactTripNext
open Go.ChangeShapes Go.WideShapes Go.ChangeAt Go.RowKit
open Go.ChangeMaps (open_string shut_string)
set_option linter.unusedVariables false
theorem own : ownKnob Tryz.prog.godebug = none := by kernel_rfl
theorem laidOut : laidOutB Tryz.prog = true := by kernel_rfl
set_option maxRecDepth 100000 in
theorem lifted (os : Os) (started : os.Started) (H : Type) (enc : TypeId × Value → H) :
  ReturnsInHanded {} Tryz.checked os 5 .any (fun w args => (Rows.fnExactTripNextSpec.pre enc Tryz.prog Tryz.f5 Rows.fnExactTripNextRow.domain false w args ∧ laidMetH Tryz.prog Rows.fnExactTripNextRow.laid w) ∧ sizedMet enc Tryz.prog Tryz.f5 (OpenSpec.ofChange Rows.fnExactTripNextSpec) false w args)
   (Rows.fnExactTripNextSpec.post enc Tryz.prog Tryz.f5 false true false false) := by
 refine returnsInHanded_of_change_and (C := Tryz.checked) (X := fun w _ => laidMetH Tryz.prog Rows.fnExactTripNextRow.laid w) (fun _ _ _ hh h => h.of_heap hh) own started (by kernel_rfl) Tryz.func5
  (ChangeSpec.witness_shaped (enc := enc) (C := Tryz.checked) (os := os) (X := fun w _ => laidMetH Tryz.prog Rows.fnExactTripNextRow.laid w) false (World.laidAll Tryz.prog os Rows.fnExactTripNextRow.laid) #[.agg #[.string ByteArray.empty, .int .i64 0, .slice none 0 0, .slice none 0 0, .slice none 0 0]] 8 (World.laidAll_os _ _ _)
   (World.shaped_of_ZipB (by kernel_rfl) (by kernel_rfl)) (by kernel_rfl) (by kernel_rfl) (by kernel_rfl)
   (by rw [MakeChecks.laidMetH_plain _ _ _ (by kernel_rfl)]; exact laidMet_laidAll _ (by kernel_rfl) (by kernel_rfl))) ?_
 intro W base args ds gs before hval0 hW hcnd hsz0 hL _
 have hsz : (DataW.weightsEach Tryz.prog (Tryz.f5.params.toList ++ Rows.fnExactTripNextSpec.plain.varTypes Tryz.prog) (ds ++ gs)).all (· ≤ reachBytes) = true := hsz0
 have hval : ∀ (j : Nat) t v, Tryz.f5.params[j]? = some t → args[j]? = some v → Value.okWide Tryz.prog W .any base t v := hval0
 have hW' := hW
 obtain ⟨p, q, hA0, hV, rfl, hfz, hnd⟩ := hW
 have hA : DataW.TrodAll enc Tryz.prog W 0 (fun _ => true) true Tryz.f5.params.toList args.toList ds p := hA0
 rw [Tryz.params5] at hA hval hsz
 obtain ⟨v0, vs0, d0, ds0, p0, q0, hargs, rfl, rfl, h0, r0⟩ := trodAll_cons hA
 obtain ⟨rfl, rfl, rfl⟩ := trodAll_nil r0
 obtain rfl : args = #[v0] := by cases args; simp_all
 obtain ⟨rfl, rfl⟩ := trodVars_none hV
 have k0 := h0
 have lt0 : ∀ x ∈ p0, x.block < W.heap.size := by obtain ⟨m, hm⟩ := k0; exact DataW.trod_lt m _ _ _ hm
 have hrb : reachBytes = 140737488351232 := rfl
 obtain ⟨s0, i1, A2, l2, c2, A3, l3, c3, A4, l4, c4, ev, hC2, hl2, hC3, hl3, hC4, hl4, hw⟩ := Tr.trip_open (.inr ⟨base, hval 0 26 v0 rfl rfl⟩) h0
 subst ev
 have hB := hw reachBytes (fun x hx => by
  have g2 := List.all_eq_true.1 hsz _ (DataW.weights_mem_each (j := 0) (t := 26) rfl rfl x hx)
  simpa using g2) (by omega) (by omega)
 obtain ⟨K, hK⟩ := Pure.FnExactTripNext s0 i1 l2 l3 l4 hB
 clear hA0 hval0 hsz0 hsz hw
 refine (P.laws_FnExactTripNext.calls K s0 i1 A2 c2 l2 A3 c3 l3 A4 c4 l4 true W hC2 hl2 hC3 hl3 hC4 hl4 (hK K (Nat.le_refl _))).mono fun e W' ⟨he, bel⟩ => ?_
 subst he
 exact ⟨_, rfl, _, _, _, [], _, [], hW', trodAll_mk1 (shut_bool Tryz.underlying4 _), (trodAll_cons_mk (Below.trod laidOut (by kernel_rfl) (of_decide_eq_true (by kernel_rfl)) k0 bel lt0) trodAll_mk0), rfl, bel.frame _, fun h => by cases h⟩
set_option maxHeartbeats 4000000 in
theorem over : Rows.fnExactTripNextRow.holds Tryz.pinned (OpenSpec.ofChange Rows.fnExactTripNextSpec) :=
 OpenClaim.holds_of_wide 5 Tryz.f5 rfl rfl rfl rfl rfl rfl rfl ⟨rfl, rfl, rfl, rfl, rfl⟩ rfl rfl rfl rfl rfl (by as_aux_lemma => kernel_rfl) Tryz.func5 (by as_aux_lemma => kernel_rfl)
  (of_decide_eq_true (by as_aux_lemma => kernel_rfl)) (by unfold Func.isWrapper; first | (rw [if_pos (by decide +kernel)]; kernel_rfl) | (rw [if_neg (by decide +kernel)]; exact ⟨rfl, rfl⟩))
  (fun os started H enc _ => lifted os started H enc)
theorem card_holds : Rows.FnExactTripNextCardSaid :=
 Claim7.holds_tied_plain_at .later [] [.data, .pinned] true (true, "d13d437e2f56ddbb3f82a4d84a6ee2aef8333220e0d0f9c52e312ae1f317bed3") false over (fun _ h => by cases h) (by as_aux_lemma => kernel_rfl) (fun _ h => by cases h) fnExactTripNext_row_tie rfl ⟨rfl, rfl⟩ (by as_aux_lemma => kernel_rfl) rfl
  (fun f fn hf hfn => by
   obtain rfl : f = 5 := Option.some.inj ((show Tryz.prog.funcNamed "loop.example/pedlar/laws.FnExactTripNext" = some 5 by as_aux_lemma => kernel_rfl).symm.trans hf) |>.symm
   obtain rfl : fn = Tryz.f5 := (Option.some.inj (Tryz.func5.symm.trans hfn)).symm
   exact ⟨by as_aux_lemma => kernel_rfl, fun j t ht => by
    rw [Tryz.params5] at ht
    have hm : t ∈ [26] := by simpa using Array.mem_of_getElem? ht
    have hall : ([26].all fun u => !Tryz.prog.wantsStandIn u) = true := by as_aux_lemma => kernel_rfl
    exact (show Tryz.prog.wantsStandIn t = false by simpa using List.all_eq_true.1 hall t hm)⟩)
  (by as_aux_lemma => kernel_rfl)
#print axioms card_holds
end Go.Proofs.YteepbodnaameiaaGreatDoor.fnExactTripNext
namespace Go.Proofs.YteepbodnaameiaaGreatDoor
theorem fnExactTripNext_holds : Rows.FnExactTripNextCardSaid := fnExactTripNext.card_holds
end Go.Proofs.YteepbodnaameiaaGreatDoor
end
