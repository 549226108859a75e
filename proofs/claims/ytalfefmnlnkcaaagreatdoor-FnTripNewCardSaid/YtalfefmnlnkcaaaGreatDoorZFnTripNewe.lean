/- FnTripNew holds of the given program at every input: A trip begins with what is told. So does a drawn one. No condition. Written by a program of this session (wip/pr.py). -/
import Derived.Test.YtalfefmnlnkcaaaGreatDoorZFnTripNewd
import Derived.Test.YtalfefmnlnkcaaaGreatDoorZFnTripNewb
import Derived.Test.YtalfefmnlnkcaaaGreatDoorZFnTripNewc
import Derived.SizedLaws
import Derived.ChangeSlices
import Derived.Test.YtalfefmnlnkcaaaGreatDoorRows
import Derived.Test.YtalfefmnlnkcaaaGreatDoorCards
import Derived.Test.YtalfefmnlnkcaaaGreatDoorTie
import Derived.LaidMore
import Derived.Lay
import Derived.SevenTiedAt
import Derived.Stop.Joined
import Derived.WalkKit
import Derived.ProofKit
import Derived.OpenShut
import Derived.ShutString
import Derived.ChangeOld
import Derived.Below
import Derived.Test.YtalfefmnlnkcaaaGreatDoorZFnTripNewa

set_option linter.unusedVariables false
set_option linter.unusedSimpArgs false
section
namespace Go.Proofs.YtalfefmnlnkcaaaGreatDoor.Tr
open Go.RowKit Go.Proofs.YtalfefmnlnkcaaaGreatDoor.P Go.Proofs.YtalfefmnlnkcaaaGreatDoorW PrintWords PrintLast PrintMore Go.Proofs.YtalfefmnlnkcaaaGreatDoor.B Go.Proofs.YtalfefmnlnkcaaaGreatDoor.Ad Go.Proofs.YtalfefmnlnkcaaaGreatDoor.Wd
theorem lpHas_l (l:List BA)(s:BA)(hl:l.length≤1000000)(d:Nat):∀(i:Nat),i+d=l.length→Ev (fun k=>laws_lpHas.l0 k l s (i:Int)) (hasS (l.drop i) s):=by
 induction d with
 |zero=>
  intro i hi;rw[List.drop_of_length_le (by omega)];refine Ev_succ ?_;simp only[laws_lpHas.l0,show ¬((i:Int)<(l.length:Int))from by omega,if_false];exact Ev.now _
 |succ d ih=>
  intro i hi;have hlt:i<l.length:=by omega
  have w1:wrap64 ((i:Int)+1)=((i+1:Nat):Int):=by rw[w64 (by omega) (by omega)];rfl
  have next:=ih (i+1) (by omega);rw[dE_ hlt];refine Ev_succ ?_;simp only[laws_lpHas.l0,show(i:Int)<(l.length:Int)from by omega,nn i,if_true,rd_S hlt];rw[w1]
  by_cases hp:l[i]=s
  ·have hp':l[i].toList=s.toList:=by rw[hp]
   simp only[hp',if_true];rw[hasS_iff.2 (by rw[hp];exact List.mem_cons_self)];exact Ev.now _
  ·have hp':¬(l[i].toList=s.toList):=fun e=>hp (toList_inj.1 e)
   simp only[hp',if_false];rw[show hasS (l[i]::l.drop (i+1)) s=hasS (l.drop (i+1)) s from by unfold hasS;rw[List.any_cons,decide_eq_false hp,Bool.false_or]];exact next
theorem lpHas_ev (l:List BA)(s:BA)(hl:l.length≤1000000):Ev (fun k=>laws_lpHas.f k l s) (hasS l s):=lpHas_l l s hl l.length 0 (by omega)
theorem lpIn_l (a b:List BA)(ha:a.length≤1000000)(hb:b.length≤1000000)(h:∀x∈a,x∈b)(d:Nat):∀(i:Nat),i+d=a.length→Ev (fun k=>laws_lpWithin.l0 k a b (i:Int)) true:=by
 induction d with
 |zero=>
  intro i hi;refine Ev_succ ?_;simp only[laws_lpWithin.l0,show ¬((i:Int)<(a.length:Int))from by omega,if_false];exact Ev.now _
 |succ d ih=>
  intro i hi;have hlt:i<a.length:=by omega
  have w1:wrap64 ((i:Int)+1)=((i+1:Nat):Int):=by rw[w64 (by omega) (by omega)];rfl
  have he:=lpHas_ev b a[i] hb;rw[hasS_iff.2 (h a[i] (List.getElem_mem hlt))]at he;refine Ev_succ ?_;simp only[laws_lpWithin.l0,show(i:Int)<(a.length:Int)from by omega,nn i,if_true,rd_S hlt];rw[w1];refine Ev.bind he ?_;simp only[if_true];exact ih (i+1) (by omega)
theorem lpIn_ev (a b:List BA)(ha:a.length≤1000000)(hb:b.length≤1000000)(h:∀x∈a,x∈b):Ev (fun k=>laws_lpWithin.f k a b) true:=lpIn_l a b ha hb h a.length 0 (by omega)
theorem lpOnce_l (a:List BA)(ha:a.length≤1000000)(h:a.Nodup)(d:Nat):∀(i:Nat),i+d=a.length→Ev (fun k=>laws_lpOnce.l0 k a (i:Int)) true:=by
 induction d with
 |zero=>
  intro i hi;refine Ev_succ ?_;simp only[laws_lpOnce.l0,show ¬((i:Int)<(a.length:Int))from by omega,if_false];exact Ev.now _
 |succ d ih=>
  intro i hi;have hlt:i<a.length:=by omega
  have w1:wrap64 ((i:Int)+1)=((i+1:Nat):Int):=by rw[w64 (by omega) (by omega)];rfl
  have hm:a[i] ∉ a.take i:=by
   intro hm;have h2:=h;rw[←List.take_append_drop i a,List.nodup_append]at h2;exact h2.2.2 _ hm a[i] (by rw[dE_ hlt];exact List.mem_cons_self) rfl
  have he:=lpHas_ev (a.take i) a[i] (by rw[lT_];omega);rw[Bool.eq_false_iff.2 (fun e=>hm (hasS_iff.1 e))]at he;refine Ev_succ ?_;simp only[laws_lpOnce.l0,show(i:Int)<(a.length:Int)from by omega,show(i:Int)≤(a.length:Int)from by omega,nn i,if_true,rd_S hlt,tN_];rw[w1];refine Ev.bind he ?_;simp only[bF_,if_false];exact ih (i+1) (by omega)
theorem lpOnce_ev (a:List BA)(ha:a.length≤1000000)(h:a.Nodup):Ev (fun k=>laws_lpOnce.f k a) true:=lpOnce_l a ha h a.length 0 (by omega)
theorem lpIt_l (l:List MI)(hl:l.length≤1048576)(d:Nat):∀(i:Nat),i+d=l.length→Ev (fun k=>laws_lpItems.l0 k l l (i:Int)) true:=by
 induction d with
 |zero=>
  intro i hi;refine Ev_succ ?_;simp only[laws_lpItems.l0,show ¬((i:Int)<(l.length:Int))from by omega,if_false];exact Ev.now _
 |succ d ih=>
  intro i hi;have w1:wrap64 ((i:Int)+1)=((i+1:Nat):Int):=by rw[w64 (by omega) (by omega)];rfl
  refine Ev_succ ?_;simp only[laws_lpItems.l0,show(i:Int)<(l.length:Int)from by omega,nn i,if_true,beq_self_eq_true,Bool.not_true,Bool.or_self,bF_,if_false];rw[w1];exact ih (i+1) (by omega)
theorem lpIt_ev (l:List MI)(hl:l.length≤1048576):Ev (fun k=>laws_lpItems.f k l l) true:=by
 unfold laws_lpItems.f;simp only[if_true];exact lpIt_l l hl l.length 0 (by omega)
theorem lpLooks_nil:Ev (fun k=>laws_lpLooks.f k [] []) true:=by
 unfold laws_lpLooks.f;simp only[if_true];refine Ev_succ ?_;simp only[laws_lpLooks.l0,List.length_nil,show ¬((0:Int)<((0:Nat):Int))from by omega,if_false];exact Ev.now _
theorem lpHz_ev:∀(l:List MH),(∀h∈l,h.f3.f0.length≤1048576∧h.f3.f1.length≤1048576∧h.f5.length≤1048576)→Ev (fun k=>lpHz k l) true
 | [],_=>Ev.now _
 |h::r,hs=>by
  obtain⟨h1,h2,h3⟩:=hs h (List.mem_cons_self ..);unfold lpHz;refine Ev.bind (Lpn.lpGp_ev _ _ _ h1 h2) (Ev.bind (lpIt_ev _ h3) ?_);simp only[and_self,if_true];exact lpHz_ev r (fun x hx=>hs x (List.mem_cons_of_mem _ hx))
theorem lpTrip_ev (nm:BA)(now:Int)(hs:List MH)(sn:List BA)(h1:hs.length≤1048576)(h2:∀h∈hs,h.f3.f0.length≤1048576∧h.f3.f1.length≤1048576∧h.f5.length≤1048576)(h3:sn.length≤1048576):Ev (fun k=>laws_lpTrip.f k nm now hs sn [] nm now hs sn []) true:=by
 unfold laws_lpTrip.f;refine Ev.bind (Lpn.lpT_ev sn h3) (Ev.bind lpLooks_nil (Ev.bind (lpHz_ev hs h2) ?_));simp only[true_and,and_true,show hs.length≤1000000000 from by omega,if_true];exact Ev.now _
end Go.Proofs.YtalfefmnlnkcaaaGreatDoor.Tr
end
section
namespace Go.Proofs.YtalfefmnlnkcaaaGreatDoor.Draw
open Go.RowKit Go.Proofs.YtalfefmnlnkcaaaGreatDoor.P Go.Proofs.YtalfefmnlnkcaaaGreatDoorW PrintWords PrintLast PrintMore Go.Proofs.YtalfefmnlnkcaaaGreatDoor.B
structure Code (b:List Int):Prop where
 byte:∀x∈b,0≤x∧x≤255
 short:b.length≤2000
theorem open_some (l0:List Int)(hw:∀x∈l0,(Lit.int .u8 x).wf=true):∃b,spec_l6Open.f l0=some (b,0)∧Code b:=by
 unfold spec_l6Open.f
 by_cases h:(l0.length:Int)>2000
 ·rw[if_pos h,if_pos (by omega)]
  exact⟨_,rfl,fun x hx=>wf_u8 (hw x (List.mem_of_mem_take hx)),by rw[lT_];omega⟩
 ·rw[if_neg h]
  exact⟨_,rfl,fun x hx=>wf_u8 (hw x hx),by omega⟩
theorem pick_one {b:List Int}(hc:Code b)(k:Nat)(p n:Int)(hp:0≤p)(hp2:p≤1000000000000):
  ∃v,spec_l6Rd_pick.f (k+1) b p n=some (v,p+1)∧0≤v∧(1≤n→v<n):=by
 have hl:=hc.short;have e1:wrap64 (p+1)=p+1:=w64 (by omega) (by omega);have e2:wrap64 (p+1-1)=p:=by rw[w64 (by omega) (by omega)];omega
 unfold spec_l6Rd_pick.f;rw[e1]
 by_cases h1:n<1
 ·rw[if_pos h1]
  exact⟨0,by simp[spec_l6Rd_pick.j0],by omega,by omega⟩
 ·rw[if_neg h1]
  simp only[spec_l6Rd_pick.j0,e2]
  by_cases h2:(b.length:Int)=0
  ·rw[if_pos (by simpa using h2)]
   exact⟨0,rfl,by omega,by omega⟩
  ·rw[if_neg (by simpa using h2)]
   by_cases h3:p<(b.length:Int)
   ·rw[if_pos h3,if_pos hp,if_neg (by omega)]
    have hr:=rd_byte hc.byte p;rw[w64 (by omega) (by omega)];exact⟨_,rfl,(tmod_nn hr.1 (by omega)).1,fun _=>(tmod_nn hr.1 (by omega)).2⟩
   ·rw[if_neg h3,if_neg h2]
    have hq:=tmod_nn (a:=p) (b:=(b.length:Int)) hp (by omega);have ew1:wrap64 (p*7)=p*7:=w64 (by omega) (by omega);have ew2:wrap64 (p*7+3)=p*7+3:=w64 (by omega) (by omega);have hq2:=tmod_nn (a:=p*7+3) (b:=(b.length:Int)) (by omega) (by omega);rw[if_pos hq.1,if_pos hq.2,ew1,ew2,if_pos hq2.1,if_pos hq2.2,if_neg (by omega)];have r1:=rd_byte hc.byte (Int.tmod p (b.length:Int));have r2:=rd_byte hc.byte (Int.tmod (p*7+3) (b.length:Int));generalize rd b (Int.tmod p (b.length:Int))=a1 at r1 ⊢;generalize rd b (Int.tmod (p*7+3) (b.length:Int))=a2 at r2 ⊢;have r3:=tdiv_nn (a:=p) (b:=(b.length:Int)) hp (by omega);generalize Int.tdiv p (b.length:Int)=q at r3 ⊢;have s1:wrap64 a1=a1:=w64 (by omega) (by omega);have s2:wrap64 a2=a2:=w64 (by omega) (by omega);have s3:wrap64 (a1*131)=a1*131:=w64 (by omega) (by omega);have s4:wrap64 (a2*1117)=a2*1117:=w64 (by omega) (by omega);have s5:wrap64 (p*29)=p*29:=w64 (by omega) (by omega);have s6:wrap64 q=q:=w64 (by omega) (by omega);have s7:wrap64 (q*53)=q*53:=w64 (by omega) (by omega);have s8:wrap64 (a1*131+a2*1117)=a1*131+a2*1117:=w64 (by omega) (by omega);have s9:wrap64 (a1*131+a2*1117+p*29)=a1*131+a2*1117+p*29:=w64 (by omega) (by omega);have s10:wrap64 (a1*131+a2*1117+p*29+q*53)=a1*131+a2*1117+p*29+q*53:=w64 (by omega) (by omega);simp only[s1,s2,s3,s4,s5,s6,s7,s8,s9,s10];have hX0:0≤a1*131+a2*1117+p*29+q*53:=by omega
    have hX1:a1*131+a2*1117+p*29+q*53<2^62:=by omega
    generalize a1*131+a2*1117+p*29+q*53=X at hX0 hX1 ⊢;have d:=tdiv_nn (a:=X) (b:=64) hX0 (by omega);have s11:wrap64 (Int.tdiv X 64)=Int.tdiv X 64:=w64 (by omega) (by omega);rw[s11];have z:=xor_nn hX0 hX1 d.1 (by omega);exact⟨_,rfl,(tmod_nn z.1 (by omega)).1,fun _=>(tmod_nn z.1 (by omega)).2⟩
theorem pick_ev {b:List Int}(hc:Code b)(p n:Int)(hp:0≤p)(hp2:p≤1000000000000):
  ∃v,Ev (fun k=>spec_l6Rd_pick.f k b p n) (v,p+1)∧0≤v∧(1≤n→v<n):=by
 obtain⟨v,h,h0,h1⟩:=pick_one hc 0 p n hp hp2;exact⟨v,Ev.of (fun k=>spec_l6Rd_pick.mono _ _ _ k) h,h0,h1⟩
theorem of_ev {b:List Int}(hc:Code b)(p:Int)(l:List BA)(hl:l≠[])(hl2:(l.length:Int)<1000000)(hp:0≤p)(hp2:p≤1000000000000):
  ∃s,Ev (fun k=>spec_l6Rd_of.f k b p l) (s,p+1)∧s∈l:=by
 have hpos:0<l.length:=List.length_pos_iff.2 hl;obtain⟨v,h,h0,h1⟩:=pick_ev hc p (l.length:Int) hp hp2;have hv:=h1 (by omega);refine⟨rdOf bE_ l v,Ev.bind h ?_,?_⟩
 ·simp only[h0,hv,if_true]
  exact Ev.now _
 ·unfold rdOf
  have hlt:v.toNat<l.length:=by omega
  rw[gD_,gE_ hlt];exact List.getElem_mem hlt
end Go.Proofs.YtalfefmnlnkcaaaGreatDoor.Draw
end
section
namespace Go.Proofs.YtalfefmnlnkcaaaGreatDoor.Draw
open Go.RowKit Go.Proofs.YtalfefmnlnkcaaaGreatDoor.P Go.Proofs.YtalfefmnlnkcaaaGreatDoorW PrintWords PrintLast PrintMore Go.Proofs.YtalfefmnlnkcaaaGreatDoor.B Go.Proofs.YtalfefmnlnkcaaaGreatDoor.Ad
theorem of_sz {b:List Int}(hc:Code b)(p:Int)(l:List BA)(N:Nat)(hp:0≤p)(hp2:p≤1000000000000)
  (hl:decide (0<l.length∧l.length<1000000)=true) (hN:(l.all fun s=>decide (s.size≤N))=true):
  ∃s,Ev (fun k=>spec_l6Rd_of.f k b p l) (s,p+1)∧s.size≤N:=by
 have h:=of_decide_eq_true hl;obtain⟨s,h1,h2⟩:=of_ev hc p l (List.length_pos_iff.1 h.1) (by omega) hp hp2;exact⟨s,h1,of_decide_eq_true (List.all_eq_true.1 hN s h2)⟩
theorem body_small {ps:List BA}(h:∀q∈ps,q.size≤6):(body ps).size≤7*ps.length+1:=by
 match ps,h with
 | [],_=>decide
 |p::r,h=>
  have key:∀(r:List BA)(acc:BA),(∀q∈r,q.size≤6)→(r.foldl (fun a q=>(a++⟨#[47]⟩)++q) acc).size≤acc.size+7*r.length:=by
   intro r
   induction r with
   |nil=>intro acc _;simp
   |cons q r ih=>
    intro acc h;have:=ih ((acc++⟨#[47]⟩)++q) (fun x hx=>h x (List.mem_cons_of_mem _ hx));have hq:=h q List.mem_cons_self;have h47:(⟨#[47]⟩:BA).size=1:=rfl;rw[List.foldl_cons];rw[sA_,sA_]at this;simp only[List.length_cons];omega
  have:=key r ((⟨#[47]⟩:BA)++p) (fun x hx=>h x (List.mem_cons_of_mem _ hx));have hz:=h p List.mem_cons_self;have hs:((⟨#[47]⟩:BA)++p).size=1+p.size:=by rw[sA_];rfl
  simp only[body,List.length_cons];omega
theorem addrText_small {house:BA}{ps:List BA}(asks:Bool){ask:BA}(hh:house.size≤3)(hs:∀q∈ps,q.size≤6)(hl:ps.length≤2)(ha:ask.size≤4):(addrText house ps asks ask).size≤25:=by
 have hb:=body_small hs;have h63:(⟨#[63]⟩:BA).size=1:=rfl;have h47:(⟨#[47,47]⟩:BA).size=2:=rfl;unfold addrText textB pathB
 split
 ·split
  ·simp only[sA_];omega
  ·simp only[sA_];omega
 ·exact Nat.zero_le _
theorem addr_l {b:List Int}(hc:Code b)(house:BA)(hh:house.size≤3)(d:Nat):∀(p:Int)(parts:List BA),0≤p→p+d≤100000000000→(∀q∈parts,q.size≤6)→parts.length+d≤2 →
  ∃s p',Ev (fun k=>spec_l71Addr.l0 k (d:Int) b p house parts false ⟨#[]⟩) (s,p')∧s.size≤25∧p≤p'∧p'≤p+d+2:=by
 induction d with
 |zero=>
  intro p parts h0 h1 hs hl;have hP:Parts parts:=⟨by omega,fun q hq=>by have:=hs q hq;omega⟩;obtain⟨v,hv,_,_⟩:=pick_ev hc p 8 h0 (by omega)
  by_cases hv0:v=0
  ·obtain⟨ask,ha,hz⟩:=of_sz hc (p+1) ([(⟨#[]⟩:BA),(⟨#[97]⟩:BA),(⟨#[98,37,51,68]⟩:BA)]:List BA) 4 (by omega) (by omega) (by decide) (by decide)
   refine⟨addrText house parts true ask,p+1+1,Ev.step (f:=fun k=>(spec_l6Rd_pick.f k b p 8).bind fun bt=>if bt.1=0 then((spec_l6Rd_of.f k b bt.2 ([(⟨#[]⟩:BA),(⟨#[97]⟩:BA),(⟨#[98,37,51,68]⟩:BA)]:List BA)).bind fun b2=>(spec_AddrText.f k house parts true b2.1).bind fun t=>some (t,b2.2))else(spec_AddrText.f k house parts false ⟨#[]⟩).bind fun t=>some (t,bt.2)) (fun k=>?_) (Ev.bind hv ?_),addrText_small true hh hs (by omega) hz,by omega,by omega⟩
   ·simp only[spec_l71Addr.l0]
    rw[if_neg (by omega)]
   ·simp only[hv0,if_true]
    exact Ev.bind ha (Ev.bind (addrText_ev house parts true ask hP (by omega) (by omega)) (Ev.now _))
  ·refine⟨addrText house parts false ⟨#[]⟩,p+1,Ev.step (f:=fun k=>(spec_l6Rd_pick.f k b p 8).bind fun bt=>if bt.1=0 then((spec_l6Rd_of.f k b bt.2 ([(⟨#[]⟩:BA),(⟨#[97]⟩:BA),(⟨#[98,37,51,68]⟩:BA)]:List BA)).bind fun b2=>(spec_AddrText.f k house parts true b2.1).bind fun t=>some (t,b2.2))else(spec_AddrText.f k house parts false ⟨#[]⟩).bind fun t=>some (t,bt.2)) (fun k=>?_) (Ev.bind hv ?_),addrText_small false hh hs (by omega) (by decide),by omega,by omega⟩
   ·simp only[spec_l71Addr.l0]
    rw[if_neg (by omega)]
   ·simp only[hv0,if_false]
    exact Ev.bind (addrText_ev house parts false ⟨#[]⟩ hP (by decide) (by omega)) (Ev.now _)
 |succ d ih=>
  intro p parts h0 h1 hs hl;obtain⟨q,hq,hz⟩:=of_sz hc p ([(⟨#[97]⟩:BA),(⟨#[98]⟩:BA),(⟨#[99]⟩:BA),(⟨#[110,111,116,105,99,101]⟩:BA)]:List BA) 6 h0 (by omega) (by decide) (by decide);obtain⟨s,p',h,h2,h3,h4⟩:=ih (p+1) (parts++[q]) (by omega) (by omega) (fun x hx=>by
   rcases List.mem_append.1 hx with hx|hx
   ·exact hs x hx
   ·rw[List.mem_singleton.1 hx];exact hz) (by simp;omega)
  refine⟨s,p',Ev.step (f:=fun k=>(spec_l6Rd_of.f k b p ([(⟨#[97]⟩:BA),(⟨#[98]⟩:BA),(⟨#[99]⟩:BA),(⟨#[110,111,116,105,99,101]⟩:BA)]:List BA)).bind fun bt=>spec_l71Addr.l0 k (d:Int) b bt.2 house (parts++[bt.1]) false ⟨#[]⟩) (fun k=>?_) (Ev.bind hq h),h2,by omega,by omega⟩;simp only[spec_l71Addr.l0];rw[if_pos (by omega),show wrap64 (((d+1:Nat):Int)-1)=(d:Int)from by rw[w64 (by omega) (by omega)];omega]
  congr 1
  funext bt
  rw[if_pos (by omega)]
theorem addr_ev {b:List Int}(hc:Code b)(p:Int)(h0:0≤p)(h1:p≤10000000000):∃s p',Ev (fun k=>spec_l71Addr.f k b p) (s,p')∧s.size≤25∧p≤p'∧p'≤p+10:=by
 obtain⟨v,hv,v0,v1⟩:=pick_ev hc p 4 h0 (by omega);have v2:=v1 (by omega);obtain⟨n,hn,n0,n1⟩:=pick_ev hc (p+1) 3 (by omega) (by omega);have n2:=n1 (by omega);obtain⟨m,rfl⟩:=Int.eq_ofNat_of_zero_le n0;have hh:(rdOf bE_ ([(⟨#[97,98]⟩:BA),(⟨#[99,100]⟩:BA),(⟨#[101]⟩:BA),(⟨#[102,111,120]⟩:BA)]:List BA) v).size≤3:=by
  obtain rfl|rfl|rfl|rfl:v=0∨v=1∨v=2∨v=3:=by omega
  all_goals decide
 obtain⟨s,p',h,h2,h3,h4⟩:=addr_l hc _ hh m (p+1+1) [] (by omega) (by omega) (by simp) (by simp;omega);refine⟨s,p',?_,h2,by omega,by omega⟩;unfold spec_l71Addr.f spec_l71Houses.f;simp only[oB_];refine Ev.bind hv ?_;simp only[v0,show v<(([(⟨#[97,98]⟩:BA),(⟨#[99,100]⟩:BA),(⟨#[101]⟩:BA),(⟨#[102,111,120]⟩:BA)]:List BA).length:Int)from by simp;omega,if_true];exact Ev.bind hn h
theorem where0_ev {b:List Int}(hc:Code b)(p:Int)(h0:0≤p)(h1:p≤1000000):∃s p',Ev (fun k=>spec_l71Where.f k b p []) (s,p')∧s.size≤60∧p≤p'∧p'≤p+20:=by
 obtain⟨s,p',g1,g2,g3,g4⟩:=addr_ev hc p h0 (by omega);refine⟨s,p',?_,by omega,g3,by omega⟩;unfold spec_l71Where.f;simp only[List.length_nil,show ¬(((0:Nat):Int)>0)from by omega,if_false];refine Ev_succ ?_;simp only[spec_l71Where.j0,bF_,if_false];exact Ev.bind g1 (Ev.now _)
theorem seeds0_l {b:List Int}(hc:Code b)(d:Nat):∀(l:List BA)(p:Int),l.length+d≤3→(∀s∈l,s.size≤60)→0≤p→p≤1000+20*(3-d)→d≤3→∃r p',Ev (fun k=>spec_l71Seeds.l0 k [] l (d:Int) b p) (r,p')∧r.length≤4∧(∀s∈r,s.size≤60)∧0≤p'∧p'≤2000:=by
 induction d with
 |zero=>
  intro l p hl hs p0 p1 _;obtain⟨v,hv,v0,v1⟩:=pick_ev hc p 12 p0 (by omega)
  by_cases c:v=0
  ·refine⟨l++[(⟨#[120]⟩:BA)],p+1,Ev_succ ?_,by rw[lA_,List.length_singleton];omega,fun s h=>?_,by omega,by omega⟩
   ·simp only[spec_l71Seeds.l0,show ¬(((0:Nat):Int)>0)from by omega,if_false]
    refine Ev.bind hv ?_;simp only[c,if_true,show l.length<8796093022208 from by omega];exact Ev.now _
   ·rcases List.mem_append.1 h with h|h
    ·exact hs s h
    ·rw[List.mem_singleton.1 h];decide
  ·refine⟨l,p+1,Ev_succ ?_,by omega,hs,by omega,by omega⟩
   simp only[spec_l71Seeds.l0,show ¬(((0:Nat):Int)>0)from by omega,if_false];refine Ev.bind hv ?_;simp only[c,if_false];exact Ev.now _
 |succ d ih=>
  intro l p hl hs p0 p1 hd;obtain⟨s,q,g1,g2,g3,g4⟩:=where0_ev hc p p0 (by omega);obtain⟨r,p',e,e2,e3,e4,e5⟩:=ih (l++[s]) q (by rw[lA_,List.length_singleton];omega) (fun x h=>by rcases List.mem_append.1 h with h|h;exact hs x h;rw[List.mem_singleton.1 h];exact g2) (by omega) (by omega) (by omega);refine⟨r,p',Ev_succ ?_,e2,e3,e4,e5⟩;have w1:wrap64 (((d+1:Nat):Int)-1)=(d:Int):=by rw[w64 (by omega) (by omega)];omega
  simp only[spec_l71Seeds.l0,show(((d+1:Nat):Int)>0)from by omega,if_true];refine Ev.bind g1 ?_;simp only[show l.length<8796093022208 from by omega,if_true];rw[w1];exact e
theorem drawNew_ev (l0:List Int)(hw:∀x∈l0,(Lit.int .u8 x).wf=true):∃nm l,Ev (fun k=>spec_DrawTripNew.f k l0) (nm,l)∧nm.size≤10∧l.length≤13∧∀s∈l,s.size≤60:=by
 obtain⟨b,hb,hc⟩:=open_some l0 hw;obtain⟨v,hv,v0,v1⟩:=pick_ev hc 0 3 (by omega) (by omega);have v2:=v1 (by omega);obtain⟨n,rfl⟩:=Int.eq_ofNat_of_zero_le v0;have w1:wrap64 (1+(n:Int))=((n+1:Nat):Int):=by rw[w64 (by omega) (by omega)];omega
 obtain⟨l,p,e,l1,l2,p0,p1⟩:=seeds0_l hc (n+1) [] (0+1) (by simp;omega) (by simp) (by omega) (by omega) (by omega);have hs:Ev (fun k=>spec_l71Seeds.f k b 0 []) (l,p):=by
  unfold spec_l71Seeds.f;refine Ev.bind hv ?_;rw[w1];exact e
 obtain⟨u,hu,u0,u1⟩:=pick_ev hc p 16 p0 (by omega)
 by_cases c0:u=0
 ·refine⟨⟨#[82,111,118,101,114]⟩,l,?_,by decide,by omega,l2⟩
  unfold spec_DrawTripNew.f;rw[hb];simp only[oB_];refine Ev.bind hs (Ev.bind hu ?_);simp only[c0,if_true];exact Ev.now _
 ·by_cases c1:u=1
  ·refine⟨⟨#[114,111,118,101,114]⟩,List.replicate 13 ⟨#[]⟩,?_,by decide,by simp,fun s h=>by rw[List.eq_of_mem_replicate h];decide⟩
   unfold spec_DrawTripNew.f;rw[hb];simp only[oB_];refine Ev.bind hs (Ev.bind hu ?_);simp only[c0,c1,if_true,if_false,show(13:Nat)≤17592186044416 from by omega,show ¬((1:Int)=0)from by omega];exact Ev.now _
  ·obtain⟨nm,hn,hm⟩:=of_ev hc (p+1) [(⟨#[114,111,118,101,114]⟩:BA),(⟨#[114,111,118,101,114]⟩:BA),(⟨#[115,99,111,117,116]⟩:BA),(⟨#[111,116,104,101,114]⟩:BA)] (by simp) (by simp) (by omega) (by omega)
   refine⟨nm,l,?_,?_,by omega,l2⟩
   ·unfold spec_DrawTripNew.f
    rw[hb];simp only[oB_];refine Ev.bind hs (Ev.bind hu ?_);simp only[c0,c1,if_false];unfold spec_l71Name.f;exact Ev.bind (Ev.bind hn (Ev.now _)) (Ev.now _)
   ·simp only[List.mem_cons,List.not_mem_nil,or_false]at hm
    rcases hm with rfl|rfl|rfl|rfl <;> decide
end Go.Proofs.YtalfefmnlnkcaaaGreatDoor.Draw
end
section
namespace Go.Proofs.YtalfefmnlnkcaaaGreatDoor.Pure
open Go.RowKit Go.Proofs.YtalfefmnlnkcaaaGreatDoor.P Go.Proofs.YtalfefmnlnkcaaaGreatDoorW PrintWords PrintLast PrintMore Go.Proofs.YtalfefmnlnkcaaaGreatDoor.Draw Go.Proofs.YtalfefmnlnkcaaaGreatDoor.B Go.Proofs.YtalfefmnlnkcaaaGreatDoor.Ad Go.Proofs.YtalfefmnlnkcaaaGreatDoor.Wd Go.Proofs.YtalfefmnlnkcaaaGreatDoor.Tr
theorem sum_l (l:List BA)(nm:BA)(hs:List MH)(sn:List BA)(hi:Inv nm hs sn)(hn:isName nm=true)(hz:nm.size≤1048576)(hw:∀x∈sn,x∈l)(hl:l.length≤1000000)(d:Nat):∀(i:Nat)(c:Nat),i+d=hs.length→c+((hs.drop i).map fun h=>h.f5.length).sum=sn.length →
  Ev (fun k=>laws_FnTripNew.l0 k l (c:Int) (i:Int) nm 0 hs sn []) true:=by
 have h1:=hi.ln;have h2:=hi.s60
 induction d with
 |zero=>
  intro i c hid hc;rw[List.drop_of_length_le (by omega)]at hc;refine Ev_succ ?_;simp only[laws_FnTripNew.l0,show ¬((i:Int)<(hs.length:Int))from by omega,if_false];refine Ev.bind (tripOk_i nm 0 hs sn [] (inv_small hi hz)) ?_;rw[inv_ok hi hn];simp only[List.map_nil,List.sum_nil,Nat.add_zero]at hc;simp only[List.length_nil,if_true,show((0:Nat):Int)=0 from rfl,show(c:Int)=(sn.length:Int)from by omega];refine Ev.bind (lpIn_ev sn l (by omega) hl hw) ?_;simp only[if_true];exact Ev.bind (lpOnce_ev sn (by omega) hi.nd) (Ev.now _)
 |succ d ih=>
  intro i c hid hc;have hlt:i<hs.length:=by omega
  have w1:wrap64 ((i:Int)+1)=((i+1:Nat):Int):=by rw[w64 (by omega) (by omega)];rfl
  rw[dE_ hlt,List.map_cons,List.sum_cons]at hc;have w2:wrap64 ((c:Int)+(hs[i].f5.length:Int))=((c+hs[i].f5.length:Nat):Int):=by rw[w64 (by omega) (by omega)];omega
  refine Ev_succ ?_;simp only[laws_FnTripNew.l0,show(i:Int)<(hs.length:Int)from by omega,Tr.nn i,if_true,rd_MH hlt];rw[w1,w2];exact ih (i+1) (c+hs[i].f5.length) (by omega) (by omega)
theorem FnTripNew:laws_FnTripNew.Pure:=by
 intro l0 hm hz hw;refine Ev.rounds ?_;unfold laws_FnTripNew.f
 by_cases h:(l0.length:Int)>1048576
 ·simp only[h,if_true];exact Ev.now _
 simp only[h,if_false];obtain⟨nm,l,hd,nz,ll,lz⟩:=drawNew_ev l0 hw;have lz':∀s∈l,s.size≤1048576:=fun s h=>nT_ (lz s h) (by omega)
 have hs:=tripNew_s nm l (by omega) lz';have hi:=tripNew_i nm l (by omega) lz';refine Ev.bind hd (Ev.bind hs (Ev.bind hi ?_));unfold tripNew
 by_cases c:isName nm=true∧l.length≤12
 ·simp only[c,and_self,if_true,bne_self_eq_false,bF_,if_false]
  have inv:=inv_all l [] [] (inv_nil nm) lz';have hwi:=all_within (nm:=nm) l [] [];obtain⟨h1,e1⟩:∃x,(allF nm l [] []).1=x:=⟨_,rfl⟩;obtain⟨s1,e2⟩:∃x,(allF nm l [] []).2=x:=⟨_,rfl⟩;rw[e1,e2]at inv ⊢;rw[e2]at hwi;have a1:=inv.ln;have a2:=inv.s60;have sm:=inv_small inv (by omega);refine Ev.bind (lpTrip_ev nm 0 h1 s1 (by omega) (fun q hq=>⟨sm.h3 q hq,sm.h4 q hq,sm.h5 q hq⟩) (by omega)) ?_;simp only[if_true,Bool.not_true];refine Ev_succ ?_;simp only[laws_FnTripNew.j0,bF_,if_false];have:=sum_l l nm h1 s1 inv c.1 (by omega) (fun x hx=>(hwi x hx).elim (fun h=>by cases h) id) (by omega) h1.length 0 0 (by omega) (by rw[List.drop_zero,Nat.zero_add];exact inv.sum);exact this
 ·simp only[c,if_false,bne_self_eq_false,bF_]
  refine Ev.bind (lpTrip_ev ⟨#[]⟩ 0 [] [] (by simp) (by simp) (by simp)) ?_;simp only[if_true,Bool.not_false];refine Ev_succ ?_;simp only[laws_FnTripNew.j0,if_true,beq_self_eq_true];exact Ev.bind (lpTrip_ev ⟨#[]⟩ 0 [] [] (by simp) (by simp) (by simp)) (Ev.now _)
end Go.Proofs.YtalfefmnlnkcaaaGreatDoor.Pure
end
section
namespace Go.Proofs.YtalfefmnlnkcaaaGreatDoorW.PrintWords
open Go.ChangeShapes Go.WideShapes
theorem sized_ints {H:Type}{enc:TypeId×Value→H}{P:Program}{W:World}{base:Nat}{spare:Nat→Bool}{held:Bool}{t e:TypeId}{k:IntKind}{a:Option Addr}{len cap:Nat}{d:DataW H}{ps:List MemPlace}{ts:List TypeId}{ds:List (DataW H)}{j:Nat}
  (hsz:(DataW.weightsEach P ts ds).all (·≤reachBytes)=true) (ht:ts[j]?=some t) (hd:ds[j]?=some d) (hu:P.underlying t=some (.slice e)) (he:P.underlying e=some (.int k)) (hc:P.cellsOf e=1) {B:Nat} (hB:P.bytesOf e=B)
  (h:DataW.Trod enc P W base spare held t (.slice a len cap) d ps):len*B≤140737488351232:=by
 obtain⟨fuel,hf⟩:=h;rcases open_ints hu he hc hf with⟨hcs,_⟩|⟨x,l,c,zs,hcs,_,hl,_,hz,hx,_,_⟩
 ·simp[Value.cells]at hcs
  obtain⟨rfl,rfl,rfl⟩:=hcs;simp
 ·simp[Value.cells]at hcs
  obtain⟨rfl,rfl,rfl⟩:=hcs;obtain⟨hx,_⟩:=Prod.mk.inj hx;subst hx;have z:=sized_slice hsz ht hd hu;rw[hB]at z;have hl2:len≤zs.length:=by
   rw[hz]
   split
   ·exact hl
   ·exact lL_ _
  have h1:(lits (H:=H) k (zs.take len)).length+(lits (H:=H) k (zs.drop len)).length=zs.length:=by
   simp[lits];omega
  rw[h1]at z;exact nT_ (mR_ _ hl2) z
end Go.Proofs.YtalfefmnlnkcaaaGreatDoorW.PrintWords
end
section
namespace Go.Proofs.YtalfefmnlnkcaaaGreatDoor.fnTripNew
open Go.ChangeShapes Go.WideShapes Go.ChangeAt Go.RowKit
open Go.ChangeMaps (open_string shut_string)
set_option linter.unusedVariables false
theorem own : ownKnob Tryz.prog.godebug = none := by kernel_rfl
theorem laidOut : laidOutB Tryz.prog = true := by kernel_rfl
def IsRow (k : IntKind) (w : World) (a : Option Addr) (len cap : Nat) (zs : List Int) : Prop :=
 (a = none ∧ len = 0 ∧ cap = 0 ∧ zs = []) ∨
 ∃ x, a = some x ∧ len ≤ cap ∧ cap ≤ maxLen ∧ zs.length = cap ∧ (∀ i, i < zs.length → w.cell? (x.add i) = some (.int k (zs.getD i 0))) ∧ ∀ n ∈ zs, (Lit.int k n).wf = true
set_option maxRecDepth 100000 in
theorem lifted (os : Os) (started : os.Started) (H : Type) (enc : TypeId × Value → H) :
  ReturnsInHanded {} Tryz.checked os 4 .any (fun w args => (Rows.fnTripNewSpec.pre enc Tryz.prog Tryz.f4 Rows.fnTripNewRow.domain false w args ∧ laidMetH Tryz.prog Rows.fnTripNewRow.laid w) ∧ sizedMet enc Tryz.prog Tryz.f4 (OpenSpec.ofChange Rows.fnTripNewSpec) false w args)
   (Rows.fnTripNewSpec.post enc Tryz.prog Tryz.f4 false true false false) := by
 refine returnsInHanded_of_change_and (C := Tryz.checked) (X := fun w _ => laidMetH Tryz.prog Rows.fnTripNewRow.laid w) (fun _ _ _ hh h => h.of_heap hh) own started (by kernel_rfl) Tryz.func4
  (ChangeSpec.witness_shaped (enc := enc) (C := Tryz.checked) (os := os) (X := fun w _ => laidMetH Tryz.prog Rows.fnTripNewRow.laid w) false (World.laidAll Tryz.prog os Rows.fnTripNewRow.laid) #[.slice none 0 0] 8 (World.laidAll_os _ _ _)
   (World.shaped_of_ZipB (by kernel_rfl) (by kernel_rfl)) (by kernel_rfl) (by kernel_rfl) (by kernel_rfl)
   (by rw [MakeChecks.laidMetH_plain _ _ _ (by kernel_rfl)]; exact laidMet_laidAll _ (by kernel_rfl) (by kernel_rfl))) ?_
 intro W base args ds gs before hval0 hW hcnd hsz0 hL _
 have hsz : (DataW.weightsEach Tryz.prog (Tryz.f4.params.toList ++ Rows.fnTripNewSpec.plain.varTypes Tryz.prog) (ds ++ gs)).all (· ≤ reachBytes) = true := hsz0
 have hval : ∀ (j : Nat) t v, Tryz.f4.params[j]? = some t → args[j]? = some v → Value.okWide Tryz.prog W .any base t v := hval0
 have hW' := hW
 obtain ⟨p, q, hA0, hV, rfl, hfz, hnd⟩ := hW
 have hA : DataW.TrodAll enc Tryz.prog W 0 (fun _ => true) true Tryz.f4.params.toList args.toList ds p := hA0
 rw [Tryz.params4] at hA hval hsz
 obtain ⟨v0, vs0, d0, ds0, p0, q0, hargs, rfl, rfl, h0, r0⟩ := trodAll_cons hA
 obtain ⟨rfl, rfl, rfl⟩ := trodAll_nil r0
 obtain rfl : args = #[v0] := by cases args; simp_all
 obtain ⟨rfl, rfl⟩ := trodVars_none hV
 obtain ⟨a0, len0, cap0, rfl⟩ := okWide_slice Tryz.underlying35 (hval 0 35 v0 rfl rfl)
 have k0 := h0
 have lt0 : ∀ x ∈ p0, x.block < W.heap.size := by obtain ⟨m, hm⟩ := k0; exact DataW.trod_lt m _ _ _ hm
 obtain ⟨z0, w0⟩ : ∃ zs, IsRow .u8 W a0 len0 cap0 zs := by
  obtain ⟨fuel, hf⟩ := h0
  rcases open_ints Tryz.underlying35 Tryz.underlying5 (by kernel_rfl) hf with ⟨hcs, _⟩ | ⟨x, l, c, zs, hcs, _, hl, hm, hz, _, hcell, hwz⟩
  ·simp [Value.cells] at hcs
   obtain ⟨rfl, rfl, rfl⟩ := hcs
   exact ⟨[], .inl ⟨rfl, rfl, rfl, rfl⟩⟩
  ·simp [Value.cells] at hcs
   obtain ⟨rfl, rfl, rfl⟩ := hcs
   exact ⟨zs, .inr ⟨_, rfl, hl, hm, by simpa using hz, hcell, hwz⟩⟩
 have y0 : len0 * 1 ≤ 140737488351232 := YtalfefmnlnkcaaaGreatDoorW.PrintWords.sized_ints hsz (j := 0) (t := 35) rfl rfl Tryz.underlying35 Tryz.underlying5 (by kernel_rfl) (by kernel_rfl) h0
 clear hA0 hval0 hsz0 hsz
 refine (P.laws_FnTripNew.walk Pure.FnTripNew a0 len0 cap0 z0 W w0 y0).mono fun e W' ⟨he, bel⟩ => ?_
 subst he
 exact ⟨_, rfl, _, _, _, [], _, [], hW', trodAll_mk1 (shut_bool Tryz.underlying4 _), (trodAll_cons_mk (Below.trod laidOut (by kernel_rfl) (of_decide_eq_true (by kernel_rfl)) k0 bel lt0) trodAll_mk0), rfl, bel.frame _, fun h => by cases h⟩
set_option maxHeartbeats 4000000 in
theorem over : Rows.fnTripNewRow.holds Tryz.pinned (OpenSpec.ofChange Rows.fnTripNewSpec) :=
 OpenClaim.holds_of_wide 4 Tryz.f4 rfl rfl rfl rfl rfl rfl rfl ⟨rfl, rfl, rfl, rfl, rfl⟩ rfl rfl rfl rfl rfl (by as_aux_lemma => kernel_rfl) Tryz.func4 (by as_aux_lemma => kernel_rfl)
  (of_decide_eq_true (by as_aux_lemma => kernel_rfl)) (by unfold Func.isWrapper; first | (rw [if_pos (by decide +kernel)]; kernel_rfl) | (rw [if_neg (by decide +kernel)]; exact ⟨rfl, rfl⟩))
  (fun os started H enc _ => lifted os started H enc)
theorem card_holds : Rows.FnTripNewCardSaid :=
 Claim7.holds_tied_plain_at .later [] [.data, .pinned] true (true, "278572928567bc6f00ee50977f714c8b800eb4589a17b14b87d6d7cff5eacf64") false over (fun _ h => by cases h) (by as_aux_lemma => kernel_rfl) (fun _ h => by cases h) fnTripNew_row_tie rfl ⟨rfl, rfl⟩ (by as_aux_lemma => kernel_rfl) rfl
  (fun f fn hf hfn => by
   obtain rfl : f = 4 := Option.some.inj ((show Tryz.prog.funcNamed "loop.example/pedlar/laws.FnTripNew" = some 4 by as_aux_lemma => kernel_rfl).symm.trans hf) |>.symm
   obtain rfl : fn = Tryz.f4 := (Option.some.inj (Tryz.func4.symm.trans hfn)).symm
   exact ⟨by as_aux_lemma => kernel_rfl, fun j t ht => by
    rw [Tryz.params4] at ht
    have hm : t ∈ [35] := by simpa using Array.mem_of_getElem? ht
    have hall : ([35].all fun u => !Tryz.prog.wantsStandIn u) = true := by as_aux_lemma => kernel_rfl
    exact (show Tryz.prog.wantsStandIn t = false by simpa using List.all_eq_true.1 hall t hm)⟩)
  (by as_aux_lemma => kernel_rfl)
#print axioms card_holds
end Go.Proofs.YtalfefmnlnkcaaaGreatDoor.fnTripNew
namespace Go.Proofs.YtalfefmnlnkcaaaGreatDoor
theorem fnTripNew_holds : Rows.FnTripNewCardSaid := fnTripNew.card_holds
end Go.Proofs.YtalfefmnlnkcaaaGreatDoor
end
