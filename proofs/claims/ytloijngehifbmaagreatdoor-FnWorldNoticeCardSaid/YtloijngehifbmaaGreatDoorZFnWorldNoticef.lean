/- FnWorldNotice holds of the given program at every input: A notice is what stands there. So it is in a drawn world. No condition. Written by a program of this session (wip/pr.py). -/
import Derived.Test.YtloijngehifbmaaGreatDoorZFnWorldNoticed
import Derived.Test.YtloijngehifbmaaGreatDoorZFnWorldNoticee
import Derived.Test.YtloijngehifbmaaGreatDoorZFnWorldNoticec
import Derived.Test.YtloijngehifbmaaGreatDoorZFnWorldNoticeb
import Derived.Lib.IndexAny
import Derived.SizedLaws
import Derived.ChangeSlices
import Derived.Test.YtloijngehifbmaaGreatDoorRows
import Derived.Test.YtloijngehifbmaaGreatDoorCards
import Derived.Test.YtloijngehifbmaaGreatDoorTie
import Derived.LaidMore
import Derived.Lay
import Derived.SevenTiedAt
import Derived.Stop.Joined
import Derived.WalkKit
import Derived.ProofKit
import Derived.OpenShut
import Derived.ShutString
import Derived.ChangeOld
import Derived.Below
import Derived.Test.YtloijngehifbmaaGreatDoorZFnWorldNoticea

set_option linter.unusedVariables false
set_option linter.unusedSimpArgs false
section
namespace Go.Proofs.YtloijngehifbmaaGreatDoor.Ad
open Go.RowKit Go.Proofs.YtloijngehifbmaaGreatDoor.P Go.Proofs.YtloijngehifbmaaGreatDoorW PrintWords PrintLast PrintMore Go.Proofs.YtloijngehifbmaaGreatDoor.B
theorem hex_all:∀n:Nat,n<256→spec_l1Hex.f 2 (n:Int)=some (match hexN (UInt8.ofNat n)with|some x=>(x:Int)|none=>-1):=by decide +kernel
theorem sign_all:∀n:Nat,n<256→(spec_l1Sign.f (n:Int)).map L=some [37,fig (n / 16),fig (n%16)]:=by decide +kernel
theorem hex_ev (c:UInt8):Ev (fun k=>spec_l1Hex.f k (c.toNat:Int)) (match hexN c with|some x=>(x:Int)|none=>-1):=by
 refine Ev.of (fun k=>spec_l1Hex.mono _ k) (k:=2) ?_;have:=hex_all c.toNat c.toNat_lt
 rwa [of_toNat]at this
theorem sign_f (n:Nat)(h:n<256):spec_l1Sign.f (n:Int)=some (ofL [37,fig (n / 16),fig (n%16)]):=by
 have:=sign_all n h;obtain⟨s,hs,e⟩:=Option.map_eq_some_iff.1 this;rw[hs,←e,of_L]
theorem enc_ev (s acc:BA)(i n:Nat)(h:n<256)(hi:i<1000000)(ha:acc.size≤1000000){r:BA×Bool}
  (H:Ev (fun k=>spec_EscNorm.l0 k s (acc++ofL (encN n)) (i+1:Nat)) r):Ev (fun k=>spec_EscNorm.j2 k s acc (i:Int) (n:Int)) r:=by
 refine Ev.step (fun k=>?_) H;have hw:wrap64 ((i:Int)+1)=((i+1:Nat):Int):=by rw[w64 (by omega) (by omega)];omega
 simp only[spec_EscNorm.j2];rw[show((n:Int)%256)=(n:Int)from by omega,plain_all n h];simp only[oB_]
 by_cases hp:plainB (UInt8.ofNat n)=true
 ·have e:=nums_one n h
  rw[show((n:Int)%256)=(n:Int)from by omega]at e;have he:encN n=[UInt8.ofNat n]:=by unfold encN;rw[if_pos hp]
  have hz:=ofL_size [UInt8.ofNat n];rw[if_pos hp,e,if_pos (by simp at hz;omega),hw,he]
 ·have he:encN n=[37,fig (n / 16),fig (n%16)]:=by unfold encN;rw[if_neg hp]
  rw[if_neg hp,sign_f n h];simp only[oB_];have hz:=ofL_size [37,fig (n / 16),fig (n%16)];rw[if_pos (by simp at hz;omega),hw,he]
def escR (acc:BA)(o:Option (List UInt8)):BA×Bool:=match o with
 |some r=>(acc++ofL r,true)
 |none=>(⟨#[]⟩,false)
theorem escR_map (acc:BA)(x:List UInt8)(o:Option (List UInt8)):escR acc (o.map (x++·))=escR (acc++ofL x) o:=by
 cases o with
 |none=>rfl
 |some r=>simp only[escR,Option.map_some,ofL_app,ByteArray.append_assoc]
theorem esc_l (s:BA)(hs:s.size≤60)(n:Nat):∀(i:Nat)(acc:BA),i≤s.size→s.size-i≤n→acc.size≤3*i →
  Ev (fun k=>spec_EscNorm.l0 k s acc (i:Int)) (escR acc (esc ((L s).drop i))):=by
 have hL:=L_size s
 induction n with
 |zero=>
  intro i acc hi hn ha;refine Ev.of (fun k=>spec_EscNorm.mono_l k |>.1 _ _ _) (k:=1) ?_;simp only[spec_EscNorm.l0];rw[if_neg (by omega),List.drop_eq_nil_of_le (by omega)];simp only[esc,escR];rw[app_nil]
 |succ n ih=>
  intro i acc hi hn ha
  by_cases hlt:i<s.size
  ·have hlt':i<(L s).length:=by omega
   rw[drop_at hlt'];have hb:=bt_get s i hlt'
   by_cases hc:(L s)[i]=37
   ·have hb37:bt s i=37:=by rw[hb,hc];rfl
    have w2:wrap64 ((i:Int)+2)=((i+2:Nat):Int):=by rw[w64 (by omega) (by omega)];omega
    have w1:wrap64 ((i:Int)+1)=((i+1:Nat):Int):=by rw[w64 (by omega) (by omega)];omega
    rw[hc]
    by_cases h2:i+2<s.size
    ·have g1:i+1<(L s).length:=by omega
     have g2:i+2<(L s).length:=by omega
     rw[drop_at g1,drop_at g2];have b1:=bt_get s (i+1) g1;have b2:=bt_get s (i+2) g2;have q1:=hex_ev (L s)[i+1];have q2:=hex_ev (L s)[i+2];have l1:=@hexN_lt (L s)[i+1];have l2:=@hexN_lt (L s)[i+2];generalize (L s)[i+1]=ca at b1 q1 l1 ⊢;generalize (L s)[i+2]=cb at b2 q2 l2 ⊢;have e3:i+2+1=i+3:=rfl;have bad:Ev (fun k=>spec_EscNorm.j1 k s acc (i:Int) true) ((⟨#[]⟩:BA),false):=
      Ev.of (fun k=>spec_EscNorm.mono_l k |>.2.2 _ _ _ _) (k:=1) (by simp[spec_EscNorm.j1])
     refine Ev.step (f:=fun k=>(spec_l1Hex.f k (ca.toNat:Int)).bind fun t=>if t<0 then spec_EscNorm.j1 k s acc (i:Int) true else(spec_l1Hex.f k (cb.toNat:Int)).bind fun t2=>spec_EscNorm.j1 k s acc (i:Int) (decide (t2<0))) (fun k=>?_) ?_
     ·simp only[spec_EscNorm.l0]
      rw[if_pos (by omega),if_pos (by omega),if_pos hb37,w2,w1,if_neg (by omega),if_pos (by omega),if_pos (by omega),b1]
      congr 1
      funext t
      by_cases ht:t<0
      ·rw[if_pos ht,if_pos ht]
      ·rw[if_neg ht,if_neg ht,if_pos (by omega),if_pos (by omega),b2]
     ·refine Ev.bind q1 ?_
      cases ha':hexN ca with
      |none=>
       rw[esc_bad1 _ _ ha'];simp only[show((-1:Int)<0)from by omega,if_true];exact bad
      |some x=>
       have hx:=l1 ha';simp only[show ¬((x:Int)<0)from by omega,if_false];refine Ev.bind q2 ?_;cases hb':hexN cb with
       |none=>
        rw[esc_bad2 _ _ hb'];simp only[show decide ((-1:Int)<0)=true from by decide];exact bad
       |some y=>
        have hy:=l2 hb';simp only[show decide ((y:Int)<0)=false from by simp];rw[ha']at q1;rw[hb']at q2;refine Ev.step (f:=fun k=>(spec_l1Hex.f k (ca.toNat:Int)).bind fun t=>(spec_l1Hex.f k (cb.toNat:Int)).bind fun t2=>spec_EscNorm.j2 k s acc ((i+2:Nat):Int) (wrap64 (wrap64 (t*16)+t2))) (fun k=>?_) ?_
        ·simp only[spec_EscNorm.j1]
         rw[if_neg (by simp),w1,w2,if_pos (by omega),if_pos (by omega),b1]
         congr 1
         funext t
         rw[if_pos (by omega),if_pos (by omega),b2]
        ·refine Ev.bind q1 (Ev.bind q2 ?_)
         rw[esc_sign _ ha' hb'];rw[show wrap64 (wrap64 ((x:Int)*16)+(y:Int))=((x*16+y:Nat):Int)from by rw[w64 (n:=(x:Int)*16) (by omega) (by omega),w64 (by omega) (by omega)];omega];refine enc_ev s acc (i+2) (x*16+y) (by omega) (by omega) (by omega) ?_;rw[escR_map];exact ih (i+2+1) _ (by omega) (by omega) (by have z:=ofL_size (encN (x*16+y));have:=encN_len (x*16+y);rw[sA_];omega)
    ·rw[esc_short (by rw[List.length_drop];omega)]
     refine Ev.of (fun k=>spec_EscNorm.mono_l k |>.1 _ _ _) (k:=2) ?_;simp only[spec_EscNorm.l0,spec_EscNorm.j1];rw[if_pos (by omega),if_pos (by omega),if_pos hb37,w2,if_pos (by omega)];rfl
   ·have hb37:¬bt s i=37:=by
     rw[hb];intro e;exact hc (UInt8.toNat_inj.1 (by have:(37:UInt8).toNat=37:=rfl;omega))
    rw[esc_plain _ hc];have hlt8:=(L s)[i].toNat_lt;refine Ev.step (f:=fun k=>spec_EscNorm.j2 k s acc (i:Int) (((L s)[i].toNat:Nat):Int)) (fun k=>?_) ?_
    ·simp only[spec_EscNorm.l0]
     rw[if_pos (by omega),if_pos (by omega),if_neg hb37,hb,w64 (by omega) (by omega)]
    ·refine enc_ev s acc i _ (by omega) (by omega) (by omega) ?_
     rw[escR_map];exact ih (i+1) _ (by omega) (by omega) (by have z:=ofL_size (encN (L s)[i].toNat);have:=encN_len (L s)[i].toNat;rw[sA_];omega)
  ·refine Ev.of (fun k=>spec_EscNorm.mono_l k |>.1 _ _ _) (k:=1) ?_
   simp only[spec_EscNorm.l0];rw[if_neg (by omega),List.drop_eq_nil_of_le (by omega)];simp only[esc,escR];rw[app_nil]
theorem escNorm_ev (s:BA):Ev (fun k=>spec_EscNorm.f k s) (escNorm s):=by
 unfold spec_EscNorm.f escNorm
 by_cases h:s.size>60
 ·simp only[show((s.size:Int)>60)from by omega,if_true,h]
  exact Ev.now _
 ·simp only[show ¬((s.size:Int)>60)from by omega,if_false,h]
  have:=esc_l s (by omega) s.size 0 ⟨#[]⟩ (by omega) (by omega) (lL_ 0);simp only[List.drop_zero]at this;have e:escR (⟨#[]⟩:BA) (esc (L s))=escO (esc (L s)):=by
   unfold escR escO;cases esc (L s)with
   |none=>rfl
   |some r=>simp only[pI_,and_true];apply L_inj;rw[L_app];rfl
  rw[←e];exact this
theorem norm_ev (s:BA):Ev (fun k=>spec_l1Norm.f k s) (isNorm s):=by
 unfold spec_l1Norm.f isNorm;refine Ev.bind (escNorm_ev s) ?_
 by_cases h:(escNorm s).2=true
 ·simp only[h,if_true,tA_]
  exact Ev.now _
 ·simp only[h,if_false,fA_]
  exact Ev.now _
theorem spec_house_l (s:BA)(hs:s.size≤140737488351232)(d:Nat):∀(k:Nat)(i:Nat),i+d=s.size→d<k →
  spec_l1House.l0 k s (i:Int)=some (smallFrom s d i&&(decide (1≤s.size)&&decide (s.size≤5))):=by
 induction d with
 |zero=>
  intro k i h hk;obtain⟨k,rfl⟩:∃m,k=m+1:=⟨k-1,by omega⟩;simp only[spec_l1House.l0,smallFrom,spec_l6In.f];rw[if_neg (by omega)]
  by_cases h1:1≤s.size
  ·rw[if_pos (by omega)];simp[h1];omega
  ·rw[if_neg (by omega)];simp[h1]
 |succ d ih=>
  intro k i h hk;obtain⟨k,rfl⟩:∃m,k=m+1:=⟨k-1,by omega⟩;simp only[spec_l1House.l0,smallFrom];rw[if_pos (by omega),if_pos (by omega)]
  by_cases h1:bt s i<97
  ·rw[if_pos h1,if_pos h1];rfl
  ·rw[if_neg h1,if_neg h1]
   by_cases h2:bt s i>122
   ·rw[if_pos h2,if_pos h2];rfl
   ·rw[if_neg h2,if_neg h2,w64 (by omega) (by omega)]
    exact ih k (i+1) (by omega) (by omega)
theorem house_ev (s:BA)(hs:s.size≤140737488351232):Ev (fun k=>spec_l1House.f k s) (isHouse s):=by
 refine Ev.of (fun k=>spec_l1House.mono _ k) (k:=s.size+1) ?_;unfold spec_l1House.f;have:=spec_house_l s hs s.size (s.size+1) 0 (by omega) (by omega);rw[show((0:Nat):Int)=0 from rfl]at this;rw[this];unfold isHouse isSmall;cases smallFrom s s.size 0 <;> simp
structure Parts (ps:List BA):Prop where
 few:ps.length≤1000
 short:∀p∈ps,p.size≤1048576
def fin (asks:Bool)(ask b:BA):BA:=if asks=true then(b++⟨#[63]⟩)++ask else b
theorem path_end (acc house:BA)(parts:List BA)(asks:Bool)(ask:BA)(i:Nat)(hi:i=parts.length)(ha:acc.size≤2000000000)(hq:ask.size≤1048576):
  Ev (fun k=>spec_l1Path.l0 k acc (i:Int) house parts asks ask) (fin asks ask acc):=by
 refine Ev.of (fun k=>spec_l1Path.mono_l k _ _ _ _ _ _) (k:=1) ?_;simp only[spec_l1Path.l0,fin];rw[if_neg (by omega)]
 by_cases h:asks=true
 ·rw[if_pos h,if_pos h,if_pos (by omega),if_pos (by omega)]
 ·rw[if_neg h,if_neg h]
theorem path_l (house:BA)(parts:List BA)(asks:Bool)(ask:BA)(hP:Parts parts)(hq:ask.size≤1048576)(d:Nat):∀(i:Nat)(acc:BA),i+d=parts.length→1≤i→(acc.size:Int)≤1+(i:Int)*1048577 →
  Ev (fun k=>spec_l1Path.l0 k acc (i:Int) house parts asks ask) (fin asks ask ((parts.drop i).foldl (fun a q=>(a++⟨#[47]⟩)++q) acc)):=by
 have hf:=hP.few
 induction d with
 |zero=>
  intro i acc hi _ ha;rw[List.drop_eq_nil_of_le (by omega)];exact path_end acc house parts asks ask i (by omega) (by omega) hq
 |succ d ih=>
  intro i acc hi h1 ha;have hlt:i<parts.length:=by omega
  have hz:=hP.short parts[i] (List.getElem_mem hlt);rw[dE_ hlt,List.foldl_cons];have h47:(⟨#[47]⟩:BA).size=1:=rfl;have hsz:((acc++(⟨#[47]⟩:BA))++parts[i]).size=acc.size+1+parts[i].size:=by rw[sA_,sA_,h47]
  have f1:(i:Int)<(parts.length:Int):=by omega
  have f2:(i:Int)>0:=by omega
  have f3:acc.size+1≤9223372036854775807:=by omega
  have f4:0≤(i:Int):=by omega
  have f5:acc.size+1+parts[i].size≤9223372036854775807:=by omega
  have hw:wrap64 ((i:Int)+1)=((i+1:Nat):Int):=by rw[w64 (by omega) (by omega)];omega
  have h:=ih (i+1) ((acc++(⟨#[47]⟩:BA))++parts[i]) (by omega) (by omega) (by rw[hsz];omega);refine Ev.step (fun k=>?_) h;simp only[spec_l1Path.l0];rw[if_pos f1,if_pos f2,if_pos f3,if_pos f4,rd_at hlt,if_pos f5,hw]
theorem path_ev (house:BA)(parts:List BA)(asks:Bool)(ask:BA)(hP:Parts parts)(hq:ask.size≤1048576):
  Ev (fun k=>spec_l1Path.f k house parts asks ask) (pathB parts asks ask):=by
 unfold spec_l1Path.f
 match parts,hP with
 | [],hP=>
  have:=path_end ⟨#[47]⟩ house [] asks ask 0 rfl (by decide) hq;exact this
 |p::r,hP=>
  have hz:=hP.short p List.mem_cons_self;have hs:((⟨#[47]⟩:BA)++p).size=1+p.size:=by rw[sA_];rfl
  refine Ev.step (fun k=>?_) (path_l house (p::r) asks ask hP hq r.length 1 ((⟨#[47]⟩:BA)++p) (by simp;omega) (by omega) (by omega));have h47:(⟨#[47]⟩:BA).size=1:=rfl;have hr0:rdOf bE_ (p::r) 0=p:=rfl;simp only[spec_l1Path.l0];have f1:(0:Int)<((p::r).length:Int):=by simp only[List.length_cons];omega
  have f5:(⟨#[47]⟩:BA).size+p.size≤9223372036854775807:=by omega
  rw[if_pos f1,if_neg (by omega),if_pos (by omega),hr0,if_pos f5,w64 (by omega) (by omega)];rfl
theorem path_size (parts:List BA)(asks:Bool)(ask:BA)(hP:Parts parts)(hq:ask.size≤1048576):(pathB parts asks ask).size≤2000000000:=by
 have hf:=hP.few;have hb:((body parts).size:Int)≤1+(parts.length:Int)*1048577:=by
  match parts,hP with
  | [],_=>simp[body];decide
  |p::r,hP=>
   have key:∀(r:List BA)(acc:BA),(∀q∈r,q.size≤1048576)→((r.foldl (fun a q=>(a++⟨#[47]⟩)++q) acc).size:Int)≤(acc.size:Int)+(r.length:Int)*1048577:=by
    intro r
    induction r with
    |nil=>intro acc _;simp
    |cons q r ih=>
     intro acc h;have:=ih ((acc++⟨#[47]⟩)++q) (fun x hx=>h x (List.mem_cons_of_mem _ hx));have hq:=h q List.mem_cons_self;have h47:(⟨#[47]⟩:BA).size=1:=rfl;rw[List.foldl_cons];rw[sA_,sA_]at this;simp only[List.length_cons];omega
   have:=key r ((⟨#[47]⟩:BA)++p) (fun x hx=>hP.short x (List.mem_cons_of_mem _ hx));have hz:=hP.short p List.mem_cons_self;have hs:((⟨#[47]⟩:BA)++p).size=1+p.size:=by rw[sA_];rfl
   simp only[body,List.length_cons];omega
 unfold pathB;have h63:(⟨#[63]⟩:BA).size=1:=rfl
 split
 ·rw[sA_,sA_];omega
 ·omega
theorem text_ev (house:BA)(parts:List BA)(asks:Bool)(ask:BA)(hP:Parts parts)(hq:ask.size≤1048576)(hh:house.size≤1048576):
  Ev (fun k=>spec_l1Text.f k house parts asks ask) (textB house parts asks ask):=by
 unfold spec_l1Text.f;have hz:=path_size parts asks ask hP hq;simp only[show 2+house.size≤9223372036854775807 from by omega,if_true];refine Ev.bind (path_ev house parts asks ask hP hq) ?_;simp only[show 2+house.size+(pathB parts asks ask).size≤9223372036854775807 from by omega,if_true];exact Ev.now _
theorem ok_l (house:BA)(parts:List BA)(asks:Bool)(ask:BA)(hP:Parts parts)(hq:ask.size≤1048576)(hh:house.size≤1048576)(d:Nat):∀(i:Nat),i+d=parts.length →
  Ev (fun k=>spec_AddrOk.l0 k (i:Int) house parts asks ask) ((parts.drop i).all partOk&&decide ((textB house parts asks ask).size≤60)):=by
 have hf:=hP.few
 induction d with
 |zero=>
  intro i hi;rw[List.drop_eq_nil_of_le (by omega)];simp only[List.all_nil,tA_];refine Ev.step (f:=fun k=>(spec_l1Text.f k house parts asks ask).bind fun t=>some (decide ((t.size:Int)≤60))) (fun k=>?_) (Ev.bind (text_ev house parts asks ask hP hq hh) ?_)
  ·simp only[spec_AddrOk.l0]
   rw[if_neg (by omega)]
  ·have e:decide (((textB house parts asks ask).size:Int)≤60)=decide ((textB house parts asks ask).size≤60):=by rw[Bool.eq_iff_iff];simp;omega
   rw[e];exact Ev.now _
 |succ d ih=>
  intro i hi;have hlt:i<parts.length:=by omega
  rw[dE_ hlt,List.all_cons];refine Ev.step (f:=fun k=>(spec_l1Norm.f k parts[i]).bind fun t=>if t=true then(if parts[i].toList=[]then some false else if parts[i].toList=[46]then some false else if parts[i].toList=[46,46]then some false else spec_AddrOk.l0 k ((i+1:Nat):Int) house parts asks ask)else some false) (fun k=>?_) (Ev.bind (norm_ev parts[i]) ?_)
  ·simp only[spec_AddrOk.l0]
   rw[if_pos (by omega),if_pos (by omega),rd_at hlt,w64 (by omega) (by omega)];rfl
  ·by_cases h1:isNorm parts[i]=true
   ·by_cases h2:parts[i].toList=[]
    ·simp only[h1,h2,if_true]
     rw[show partOk parts[i]=false from by simp[partOk,h2]];exact Ev.now _
    ·by_cases h3:parts[i].toList=[46]
     ·simp only[h1,h3,if_true]
      rw[show partOk parts[i]=false from by simp[partOk,h3]];exact Ev.now _
     ·by_cases h4:parts[i].toList=[46,46]
      ·simp only[h1,h4,if_true]
       rw[show partOk parts[i]=false from by simp[partOk,h4]];exact Ev.now _
      ·simp only[h1,h2,h3,h4,if_true,if_false]
       rw[show partOk parts[i]=true from by simp[partOk,h1,h2,h3,h4],tA_];exact ih (i+1) (by omega)
   ·simp only[h1,if_false]
    rw[show partOk parts[i]=false from by simp[partOk,h1]];exact Ev.now _
theorem addrOk_ev (house:BA)(parts:List BA)(asks:Bool)(ask:BA)(hP:Parts parts)(hq:ask.size≤1048576)(hh:house.size≤1048576):
  Ev (fun k=>spec_AddrOk.f k house parts asks ask) (addrOk house parts asks ask):=by
 have hf:=hP.few;have bad:∀r,r=false→Ev (fun k=>spec_AddrOk.j0 k true house parts asks ask) r:=fun r hr=>by
  subst hr;exact Ev.of (fun k=>spec_AddrOk.mono_l k |>.1 _ _ _ _ _) (k:=1) (by simp[spec_AddrOk.j0])
 have good:Ev (fun k=>spec_AddrOk.j0 k false house parts asks ask) (parts.all partOk&&decide ((textB house parts asks ask).size≤60)):=by
  refine Ev.step (fun k=>?_) (by simpa using ok_l house parts asks ask hP hq hh parts.length 0 (by omega));simp[spec_AddrOk.j0]
 unfold spec_AddrOk.f;refine Ev.bind (house_ev house (by omega)) ?_
 by_cases h1:isHouse house=true
 ·simp only[h1,if_true]
  by_cases h2:parts.length≤5
  ·simp only[show ¬((parts.length:Int)>5)from by omega,if_false]
   refine Ev.bind (norm_ev ask) ?_
   by_cases h3:isNorm ask=true
   ·simp only[h3,if_true]
    by_cases h4:asks=true
    ·simp only[h4,if_true]
     rw[h4]at good;rw[show addrOk house parts true ask=(parts.all partOk&&decide ((textB house parts true ask).size≤60))from by simp[addrOk,h1,h2,h3]];exact good
    ·rw[show(fun k=>if asks=true then spec_AddrOk.j0 k false house parts asks ask else spec_AddrOk.j0 k (ask.toList != []) house parts asks ask)=(fun k=>spec_AddrOk.j0 k (ask.toList != []) house parts asks ask)from by funext k;rw[if_neg h4]]
     by_cases h5:ask.toList=[]
     ·obtain rfl:asks=false:=by simpa using h4
      simp only[h5,bne_self_eq_false,bF_,if_false];rw[show addrOk house parts false ask=(parts.all partOk&&decide ((textB house parts false ask).size≤60))from by simp[addrOk,h1,h2,h3,h5]];exact good
     ·rw[show(ask.toList != ([]:List UInt8))=true from by simp[h5]]
      exact bad _ (by simp[addrOk,h4,h5])
   ·simp only[h3,if_false]
    exact bad _ (by simp[addrOk,h3])
  ·simp only[show(parts.length:Int)>5 from by omega,if_true]
   exact bad _ (by simp[addrOk,h2])
 ·simp only[h1,if_false]
  exact bad _ (by simp[addrOk,h1])
theorem addrText_ev (house:BA)(parts:List BA)(asks:Bool)(ask:BA)(hP:Parts parts)(hq:ask.size≤1048576)(hh:house.size≤1048576):
  Ev (fun k=>spec_AddrText.f k house parts asks ask) (addrText house parts asks ask):=by
 unfold spec_AddrText.f addrText;refine Ev.bind (addrOk_ev house parts asks ask hP hq hh) ?_
 by_cases h:addrOk house parts asks ask=true
 ·simp only[h,if_true]
  exact Ev.bind (text_ev house parts asks ask hP hq hh) (Ev.now _)
 ·simp only[h,if_false]
  exact Ev.now _
def ints (l:List UInt8):List Int:=l.map fun c=>(c.toNat:Int)
theorem ints_app (a b:List UInt8):ints (a++b)=ints a++ints b:=by simp[ints]
theorem ints_len (a:List UInt8):(ints a).length=a.length:=by simp[ints]
theorem nums_ints (l:List UInt8):strOfNums (ints l)=ofL l:=by
 unfold strOfNums ofL ints;rw[List.map_map]
 congr 2
 have h:((fun n:Int=>UInt8.ofNat n.toNat) ∘ fun c:UInt8=>(c.toNat:Int))=id:=by funext c;simp
 exact(congrArg (fun f=>List.map f l) h).trans (List.map_id l)
theorem figv_all:∀n:Nat,n<256→impl_figureValue.f (n:Int)=some (match hexN (UInt8.ofNat n)with|some x=>((x:Int),true)|none=>(0,false)):=by decide +kernel
theorem figv (c:UInt8):impl_figureValue.f (c.toNat:Int)=some (match hexN c with|some x=>((x:Int),true)|none=>(0,false)):=by
 have:=figv_all c.toNat c.toNat_lt
 rwa [of_toNat]at this
theorem stands_all:∀n:Nat,n<256→impl_standsForItself.f (n:Int)=some (plainB (UInt8.ofNat n)):=by decide +kernel
def hexT:BA:=⟨#[48,49,50,51,52,53,54,55,56,57,65,66,67,68,69,70]⟩
theorem put_all:∀n:Nat,n<256→(plainB (UInt8.ofNat n)=true→[(n:Int)]=ints (encN n))∧(plainB (UInt8.ofNat n)=false→0≤(n:Int) / 16∧(n:Int) / 16<16∧0≤Go.bits .and .u8 (n:Int) 15∧Go.bits .and .u8 (n:Int) 15<16 ∧
  ([37,bt hexT ((n:Int) / 16),bt hexT (Go.bits .and .u8 (n:Int) 15)]:List Int)=ints (encN n)):=by decide +kernel
theorem sign_i (s:BA)(i:Nat)(hs:s.size≤60)(hi:i<s.size):
  impl_signByte.f s (i:Int)=some (if h:i+2<(L s).length then(match hexN ((L s)[i+1]'(by omega)),hexN ((L s)[i+2]'h)with|some x,some y=>(((x*16+y:Nat):Int),true)|_,_=>(0,false))else(0,false)):=by
 have hL:=L_size s;unfold impl_signByte.f;rw[w64 (n:=(s.size:Int)-i) (by omega) (by omega)]
 by_cases h:i+2<(L s).length
 ·rw[dif_pos h,if_neg (by omega),w64 (n:=(i:Int)+1) (by omega) (by omega),w64 (n:=(i:Int)+2) (by omega) (by omega),if_pos (by omega),if_pos (by omega)]
  have b1:=bt_get s (i+1) (by omega);have b2:=bt_get s (i+2) h;have l1:=@hexN_lt ((L s)[i+1]'(by omega))
  have l2:=@hexN_lt ((L s)[i+2]'h)
  rw[show((i:Int)+1)=((i+1:Nat):Int)from by omega,show((i:Int)+2)=((i+2:Nat):Int)from by omega,b1,b2];generalize (L s)[i+1]'(by omega)=ca at l1 ⊢
  generalize (L s)[i+2]'h=cb at l2 ⊢
  rw[figv ca,figv cb];simp only[oB_];rw[if_pos (by omega),if_pos (by omega)];cases ha:hexN ca with
  |none=>simp
  |some x=>
   cases hb:hexN cb with
   |none=>simp
   |some y=>
    have:=l1 ha;have:=l2 hb;simp only[if_true];rw[w64 (n:=(x:Int)*16) (by omega) (by omega),w64 (by omega) (by omega)]
    congr 2
    omega
 ·rw[dif_neg h,if_pos (by omega)]
theorem enc_i (s:BA)(acc:List UInt8)(n:Nat)(j:Int)(h:n<256)(ha:acc.length≤1000000)(k:Nat):
  ((impl_standsForItself.f (n:Int)).bind fun t=>(if t=true then(if(ints acc).length<140737488355328 then(impl_EscNorm.l0 k s (ints acc++[(n:Int)]) j)else(none))else(if 0≤((n:Int) / 16)then(if((n:Int) / 16)<16 then(if 0≤(Go.bits .and .u8 (n:Int) 15)then(if(Go.bits .and .u8 (n:Int) 15)<16 then((some (([37,bt (⟨#[48,49,50,51,52,53,54,55,56,57,65,66,67,68,69,70]⟩:BA) ((n:Int) / 16),bt (⟨#[48,49,50,51,52,53,54,55,56,57,65,66,67,68,69,70]⟩:BA) (Go.bits .and .u8 (n:Int) 15)]:List Int):List Int)).bind fun y=>(if(ints acc).length+y.length<140737488355328 then(impl_EscNorm.l0 k s (ints acc++y) j)else(none)))else(none))else(none))else(none))else(none))))=impl_EscNorm.l0 k s (ints (acc++encN n)) j:=by
 obtain⟨p1,p2⟩:=put_all n h;rw[stands_all n h];simp only[oB_];have hl:=ints_len acc;cases hp:plainB (UInt8.ofNat n)with
 |true=>rw[if_pos rfl,if_pos (by omega),ints_app,p1 hp]
 |false=>
  obtain⟨q1,q2,q3,q4,q5⟩:=p2 hp;rw[if_neg (by simp),if_pos q1,if_pos q2,if_pos q3,if_pos q4];unfold hexT at q5;rw[q5];have:=encN_len n;have:=ints_len (encN n);rw[if_pos (by omega),ints_app]
theorem esc_i (s:BA)(hs:s.size≤60)(n:Nat):∀(i:Nat)(acc:List UInt8),i≤s.size→s.size-i≤n→acc.length≤3*i →
  Ev (fun k=>impl_EscNorm.l0 k s (ints acc) (i:Int)) (escR (ofL acc) (esc ((L s).drop i))):=by
 have hL:=L_size s
 induction n with
 |zero=>
  intro i acc hi hn ha;refine Ev.of (fun k=>impl_EscNorm.mono_l k |> fun h=>h _ _ _) (k:=1) ?_;simp only[impl_EscNorm.l0];rw[if_neg (by omega),List.drop_eq_nil_of_le (by omega)];simp only[esc,escR];rw[app_nil,nums_ints]
 |succ n ih=>
  intro i acc hi hn ha
  by_cases hlt:i<s.size
  ·have hlt':i<(L s).length:=by omega
   rw[drop_at hlt'];have hb:=bt_get s i hlt'
   by_cases hc:(L s)[i]=37
   ·have hb37:bt s i=37:=by rw[hb,hc];rfl
    have w3:wrap64 (wrap64 ((i:Int)+2)+1)=((i+2+1:Nat):Int):=by rw[w64 (n:=(i:Int)+2) (by omega) (by omega),w64 (by omega) (by omega)];omega
    rw[hc];have sg:=sign_i s i hs hlt;refine Ev_succ ?_;simp only[impl_EscNorm.l0];simp only[show((i:Int)<(s.size:Int))from by omega,show((0:Int)≤(i:Int))from by omega,hb37,if_true,sg,oB_,w3]
    by_cases h2:i+2<(L s).length
    ·have g1:i+1<(L s).length:=by omega
     rw[drop_at g1,drop_at h2];simp only[h2,dif_pos];generalize (L s)[i+1]'g1=ca
     generalize (L s)[i+2]'h2=cb
     cases ha':hexN ca with
     |none=>
      rw[esc_bad1 _ _ ha'];simp only[bF_,if_false];exact Ev.now _
     |some x=>
      cases hb':hexN cb with
      |none=>
       rw[esc_bad2 _ _ hb'];simp only[bF_,if_false];exact Ev.now _
      |some y=>
       have hx:=hexN_lt ha';have hy:=hexN_lt hb';rw[esc_sign _ ha' hb',escR_map];simp only[if_true];refine Ev.congr (fun k=>enc_i s acc (x*16+y) _ (by omega) (by omega) k) ?_;have:=encN_len (x*16+y);rw[←ofL_app];exact ih (i+2+1) _ (by omega) (by omega) (by rw[lA_];omega)
    ·rw[esc_short (by rw[List.length_drop];omega)]
     simp only[h2,dif_neg,not_false_eq_true,bF_,if_false];exact Ev.now _
   ·have hb37:¬bt s i=37:=by
     rw[hb];intro e;exact hc (UInt8.toNat_inj.1 (by have:(37:UInt8).toNat=37:=rfl;omega))
    rw[esc_plain _ hc];have hlt8:=(L s)[i].toNat_lt;have w1:wrap64 ((i:Int)+1)=((i+1:Nat):Int):=by rw[w64 (by omega) (by omega)];omega
    refine Ev_succ ?_;simp only[impl_EscNorm.l0];simp only[show((i:Int)<(s.size:Int))from by omega,show((0:Int)≤(i:Int))from by omega,hb37,if_true,if_false,w1];rw[escR_map];simp only[hb];refine Ev.congr (fun k=>enc_i s acc (L s)[i].toNat _ (by omega) (by omega) k) ?_;have hz:=encN_len (L s)[i].toNat;rw[←ofL_app];refine ih (i+1) _ (by omega) (by omega) ?_;rw[lA_];omega
  ·refine Ev.of (fun k=>impl_EscNorm.mono_l k |> fun h=>h _ _ _) (k:=1) ?_
   simp only[impl_EscNorm.l0];rw[if_neg (by omega),List.drop_eq_nil_of_le (by omega)];simp only[esc,escR];rw[app_nil,nums_ints]
theorem escNorm_i (s:BA):Ev (fun k=>impl_EscNorm.f k s) (escNorm s):=by
 unfold impl_EscNorm.f escNorm
 by_cases h:s.size>60
 ·simp only[show((s.size:Int)>60)from by omega,if_true,h]
  exact Ev.now _
 ·simp only[show ¬((s.size:Int)>60)from by omega,if_false,h]
  have:=esc_i s (by omega) s.size 0 [] (by omega) (by omega) (lL_ 0);simp only[List.drop_zero]at this;have e:escR (ofL []) (esc (L s))=escO (esc (L s)):=by
   unfold escR escO;cases esc (L s)with
   |none=>rfl
   |some r=>simp only[pI_,and_true];apply L_inj;rw[L_app];rfl
  rw[←e];exact this
theorem norm_i (s:BA):Ev (fun k=>impl_isNormal.f k s) (isNorm s):=by
 unfold impl_isNormal.f isNorm;refine Ev.bind (escNorm_i s) ?_
 by_cases h:(escNorm s).2=true
 ·simp only[h,if_true,tA_]
  exact Ev.now _
 ·simp only[h,if_false,fA_]
  exact Ev.now _
theorem small_i (s:BA)(hs:s.size≤140737488351232)(d:Nat):∀(k:Nat)(i:Nat),i+d=s.size→d<k →
  impl_allSmallLetters.l0 k s (i:Int)=some (smallFrom s d i):=by
 induction d with
 |zero=>
  intro k i h hk;obtain⟨k,rfl⟩:∃m,k=m+1:=⟨k-1,by omega⟩;simp only[impl_allSmallLetters.l0,smallFrom];rw[if_neg (by omega)]
 |succ d ih=>
  intro k i h hk;obtain⟨k,rfl⟩:∃m,k=m+1:=⟨k-1,by omega⟩;simp only[impl_allSmallLetters.l0,smallFrom];rw[if_pos (by omega),if_pos (by omega)]
  by_cases h1:bt s i<97
  ·rw[if_pos h1,if_pos h1]
  ·rw[if_neg h1,if_neg h1]
   by_cases h2:bt s i>122
   ·rw[if_pos h2,if_pos h2]
   ·rw[if_neg h2,if_neg h2,w64 (by omega) (by omega)]
    exact ih k (i+1) (by omega) (by omega)
theorem smalls_i (s:BA)(hs:s.size≤140737488351232):Ev (fun k=>impl_allSmallLetters.f k s) (isSmall s):=by
 refine Ev.of (fun k=>impl_allSmallLetters.mono _ k) (k:=s.size+1) ?_;exact small_i s hs s.size (s.size+1) 0 (by omega) (by omega)
theorem house_i (s:BA)(hs:s.size≤140737488351232):Ev (fun k=>impl_isHouse.f k s) (isHouse s):=by
 unfold impl_isHouse.f isHouse
 by_cases h1:1≤s.size
 ·simp only[show((s.size:Int)≥1)from by omega,if_true,h1,decide_true,tA_]
  by_cases h2:s.size≤5
  ·simp only[show((s.size:Int)≤5)from by omega,if_true,h2,decide_true,tA_]
   exact Ev.bind (smalls_i s hs) (Ev.now _)
  ·simp only[show ¬((s.size:Int)≤5)from by omega,if_false,h2,decide_false,fA_]
   exact Ev.now _
 ·simp only[show ¬((s.size:Int)≥1)from by omega,if_false,h1,decide_false,fA_]
  exact Ev.now _
theorem L_fold:∀(r:List BA)(acc:BA),L (r.foldl (fun a q=>(a++⟨#[47]⟩)++q) acc)=L acc++Lib.joinTail [47] (r.map L)
 | [],acc=>by simp[Lib.joinTail]
 |q::r,acc=>by
  rw[List.foldl_cons,L_fold r,L_app,L_app];simp[Lib.joinTail,L]
theorem L_body (ps:List BA):L (body ps)=47::Lib.join (ps.map L) [47]:=by
 cases ps with
 |nil=>rfl
 |cons p r=>
  unfold body;rw[L_fold,List.map_cons,Lib.join_cons,L_app];rfl
theorem body_join (ps:List BA):(⟨#[47]⟩:BA)++ofL (Lib.join (ps.map L) [47])=body ps:=by
 apply L_inj;rw[L_app,L_of,L_body];rfl
theorem join_len (ps:List BA):(Lib.join (ps.map L) [47]).length+1=(body ps).size:=by
 rw[←L_size,L_body];simp
theorem path_i (parts:List BA)(asks:Bool)(ask house:BA)(hP:Parts parts)(hq:ask.size≤1048576):impl_writePath.f house parts asks ask=some (pathB parts asks ask):=by
 have hz:=path_size parts false ask hP hq;have hb:pathB parts false ask=body parts:=rfl;rw[hb]at hz;have hj:=join_len parts;have hf:=hP.few;unfold impl_writePath.f strings_Join.f;have e47:L (⟨#[47]⟩:BA)=[47]:=rfl;rw[e47,if_pos ⟨by omega,by omega⟩];simp only[oB_];have hs:=ofL_size (Lib.join (parts.map L) [47]);rw[if_pos (by omega),body_join]
 by_cases h:asks=true
 ·rw[if_pos h,if_pos (by omega),if_pos (by omega)]
  unfold pathB;rw[if_pos h,ByteArray.append_assoc]
 ·rw[if_neg h]
  unfold pathB;rw[if_neg h]
theorem text_i (house:BA)(parts:List BA)(asks:Bool)(ask:BA)(hP:Parts parts)(hq:ask.size≤1048576)(hh:house.size≤1048576):
  impl_writeAddr.f house parts asks ask=some (textB house parts asks ask):=by
 have hz:=path_size parts asks ask hP hq;unfold impl_writeAddr.f;rw[if_pos (by omega),path_i parts asks ask house hP hq];simp only[oB_];rw[if_pos (by omega)];rfl
def okEnd (house:BA)(parts:List BA)(asks:Bool)(ask:BA):Bool:=isNorm ask&&(asks||ask.toList==[])&&decide ((textB house parts asks ask).size≤60)
theorem ok_i (house:BA)(parts:List BA)(asks:Bool)(ask:BA)(hP:Parts parts)(hq:ask.size≤1048576)(hh:house.size≤1048576)(d:Nat):∀(i:Nat),i+d=parts.length →
  Ev (fun k=>impl_AddrOk.l0 k parts (parts.length:Int) (i:Int) house parts asks ask) ((parts.drop i).all partOk&&okEnd house parts asks ask):=by
 have hf:=hP.few
 induction d with
 |zero=>
  intro i hi;rw[List.drop_eq_nil_of_le (by omega)];simp only[List.all_nil,tA_];refine Ev_succ ?_;simp only[impl_AddrOk.l0];simp only[show ¬((i:Int)<(parts.length:Int))from by omega,if_false,text_i house parts asks ask hP hq hh,oB_];refine Ev.bind (norm_i ask) ?_;unfold okEnd;have e:decide (((textB house parts asks ask).size:Int)≤60)=decide ((textB house parts asks ask).size≤60):=by rw[Bool.eq_iff_iff];simp;omega
  by_cases h3:isNorm ask=true
  ·simp only[h3,if_true,tA_,e]
   by_cases h4:asks=true
   ·simp only[h4,if_true,Bool.true_or,tA_]
    exact Ev.now _
   ·by_cases h5:ask.toList=[]
    ·simp only[h4,if_false,h5,if_true,beq_self_eq_true,Bool.or_true,tA_]
     exact Ev.now _
    ·simp only[h4,if_false,h5,show(ask.toList==([]:List UInt8))=false from by simp[h5],Bool.or_false,fA_]
     exact Ev.now _
  ·simp only[h3,if_false,fA_]
   exact Ev.now _
 |succ d ih=>
  intro i hi;have hlt:i<parts.length:=by omega
  rw[dE_ hlt,List.all_cons];refine Ev_succ ?_;simp only[impl_AddrOk.l0];have w1:wrap64 ((i:Int)+1)=((i+1:Nat):Int):=by rw[w64 (by omega) (by omega)];omega
  simp only[show((i:Int)<(parts.length:Int))from by omega,show((0:Int)≤(i:Int))from by omega,if_true,rd_at hlt,w1]
  by_cases h2:parts[i].toList=[]
  ·simp only[h2,if_true]
   rw[show partOk parts[i]=false from by simp[partOk,h2]];exact Ev.now _
  ·by_cases h3:parts[i].toList=[46]
   ·simp only[h2,h3,if_true,if_false]
    rw[show partOk parts[i]=false from by simp[partOk,h3]]
    first|exact Ev.now _|simpa using Ev.now _
   ·by_cases h4:parts[i].toList=[46,46]
    ·simp only[h2,h3,h4,if_true,if_false]
     rw[show partOk parts[i]=false from by simp[partOk,h4]]
     first|exact Ev.now _|simpa using Ev.now _
    ·simp only[h2,h3,h4,if_false]
     refine Ev.bind (norm_i parts[i]) ?_
     by_cases h1:isNorm parts[i]=true
     ·simp only[h1,if_true]
      rw[show partOk parts[i]=true from by simp[partOk,h1,h2,h3,h4],tA_];exact ih (i+1) (by omega)
     ·simp only[h1,if_false]
      rw[show partOk parts[i]=false from by simp[partOk,h1]];exact Ev.now _
theorem okEnd_is (house:BA)(parts:List BA)(asks:Bool)(ask:BA):addrOk house parts asks ask=(isHouse house&&decide (parts.length≤5)&&(parts.all partOk&&okEnd house parts asks ask)):=by
 unfold addrOk okEnd;cases isHouse house <;> cases decide (parts.length≤5) <;> cases isNorm ask <;> cases (asks||ask.toList==[]) <;> cases parts.all partOk <;> rfl
theorem addrOk_i (house:BA)(parts:List BA)(asks:Bool)(ask:BA)(hP:Parts parts)(hq:ask.size≤1048576)(hh:house.size≤1048576):
  Ev (fun k=>impl_AddrOk.f k house parts asks ask) (addrOk house parts asks ask):=by
 have hf:=hP.few;have bad:Ev (fun k=>impl_AddrOk.j0 k true house parts asks ask) false:=Ev_succ (by simp only[impl_AddrOk.j0,if_true];exact Ev.now _);unfold impl_AddrOk.f;rw[okEnd_is];refine Ev.bind (house_i house (by omega)) ?_
 by_cases h1:isHouse house=true
 ·simp only[h1,if_true,tA_]
  by_cases h2:parts.length≤5
  ·rw[show decide ((parts.length:Int)>5)=false from by simp;omega]
   simp only[h2,decide_true,tA_];refine Ev_succ ?_;simp only[impl_AddrOk.j0,bF_,if_false];have:=ok_i house parts asks ask hP hq hh parts.length 0 (by omega)
   simpa using this
  ·rw[show decide ((parts.length:Int)>5)=true from by simp;omega]
   simp only[h2,decide_false,fA_];exact bad
 ·simp only[h1,if_false,fA_]
  exact bad
end Go.Proofs.YtloijngehifbmaaGreatDoor.Ad
end
section
namespace Go.Proofs.YtloijngehifbmaaGreatDoor.Ad
open Go.RowKit Go.Proofs.YtloijngehifbmaaGreatDoorW PrintWords Go.Proofs.YtloijngehifbmaaGreatDoor.B
abbrev A5:=BA×List BA×Bool×BA×Bool
def none5:A5:=((⟨#[]⟩:BA),([]:List BA),false,(⟨#[]⟩:BA),false)
def escAll:List BA→Option (List BA)
 | []=>some []
 |q::qs=>if(escNorm q).2=true then(escAll qs).map ((escNorm q).1 :: ·)else none
def clean1 (acc:List BA)(p:BA):List BA:=
 if p.toList=[]then acc else if p.toList=[46]then acc else if p.toList=[46,46]then acc.take (acc.length-1)else acc++[p]
def pathClean (ps:List BA):List BA:=ps.foldl clean1 []
def wayO (house:BA)(base:List BA)(way:BA):A5:=
 match escAll ((splitL 47 (L (cutB 63 way).1)).map ofL)with
 |none=>none5
 |some ps=>if(escNorm (cutB 63 way).2.1).2=true then(if addrOk house (pathClean (base++ps)) (cutB 63 way).2.2 (escNorm (cutB 63 way).2.1).1=true then(house,pathClean (base++ps),(cutB 63 way).2.2,(escNorm (cutB 63 way).2.1).1,true)else none5)else none5
def houseL:List UInt8→List UInt8×List UInt8
 | []=>([],[])
 |x::xs=>if x=47∨x=63 then([],x::xs)else(x::(houseL xs).1,(houseL xs).2)
def wholeO (rest:BA):A5:=wayO (smallB (ofL (houseL (L rest)).1)) [] (ofL (houseL (L rest)).2)
def readO (raw:BA):A5:=
 if raw.size>60 then none5 else if(cutB 35 raw).1.size<2 then none5 else if(L (cutB 35 raw).1).take 2=[47,47]then wholeO ((cutB 35 raw).1.extract 2 (cutB 35 raw).1.size)else none5
def Fine (a:A5):Prop:=a=none5∨(a.2.2.2.2=true∧addrOk a.1 a.2.1 a.2.2.1 a.2.2.2.1=true)
theorem fine_none:Fine none5:=Or.inl rfl
theorem fine_way (h:BA)(b:List BA)(w:BA):Fine (wayO h b w):=by
 unfold wayO
 split
 ·exact fine_none
 ·split
  ·split
   ·rename_i hh
    exact Or.inr ⟨rfl,hh⟩
   ·exact fine_none
  ·exact fine_none
theorem fine_read (raw:BA):Fine (readO raw):=by
 unfold readO
 split
 ·exact fine_none
 ·split
  ·exact fine_none
  ·split
   ·exact fine_way _ _ _
   ·exact fine_none
theorem isHouse_size {s:BA}(h:isHouse s=true):s.size≤5:=by
 unfold isHouse at h;simp only[aE_,decide_eq_true_eq]at h;exact h.1.2
theorem clean1_mem {acc:List BA}{p x:BA}(h:x∈clean1 acc p):x∈acc∨x=p:=by
 unfold clean1 at h
 split at h
 ·exact Or.inl h
 ·split at h
  ·exact Or.inl h
  ·split at h
   ·exact Or.inl (List.mem_of_mem_take h)
   ·rcases List.mem_append.1 h with h|h
    ·exact Or.inl h
    ·exact Or.inr (List.mem_singleton.1 h)
theorem clean1_len (acc:List BA)(p:BA):(clean1 acc p).length≤acc.length+1:=by
 unfold clean1
 split
 ·omega
 ·split
  ·omega
  ·split
   ·rw[lT_];omega
   ·simp
theorem cleanF_mem:∀ {ps acc:List BA} {x:BA},x∈ps.foldl clean1 acc→x∈acc∨x∈ps
 | [],acc,x,h=>Or.inl h
 |p::ps,acc,x,h=>by
  rw[List.foldl_cons]at h;rcases cleanF_mem h with h|h
  ·rcases clean1_mem h with h|h
   ·exact Or.inl h
   ·exact Or.inr (by rw[h];exact List.mem_cons_self)
  ·exact Or.inr (List.mem_cons_of_mem _ h)
theorem cleanF_len:∀(ps acc:List BA),(ps.foldl clean1 acc).length≤acc.length+ps.length
 | [],acc=>by simp
 |p::ps,acc=>by
  rw[List.foldl_cons];have:=cleanF_len ps (clean1 acc p);have:=clean1_len acc p;simp only[List.length_cons];omega
end Go.Proofs.YtloijngehifbmaaGreatDoor.Ad
end
section
namespace Go.Proofs.YtloijngehifbmaaGreatDoor.Ad
open Go.RowKit Go.Proofs.YtloijngehifbmaaGreatDoorW PrintWords Go.Proofs.YtloijngehifbmaaGreatDoor.B
set_option maxHeartbeats 8000000
set_option maxRecDepth 100000
def nx (s:List UInt8)(P:Nat→Bool)(c:UInt8):Nat→Bool
 |0=>c==42&&P 0
 |j+1=>if c=42 then P (j+1)||nx s P c j else P j&&(decide (j<s.length)&&s.getD j 0==c)
def fin0 (s:List UInt8)(ends:Bool)(P:Nat→Bool):Bool:=if ends then P s.length else(List.range (s.length+1)).any P
def dp (s:List UInt8)(ends:Bool)(b:List UInt8):Bool:=fin0 s ends (b.foldl (nx s) (fun j=>j==0))
def fnd (s q:List UInt8):Nat→Nat→Option Nat
 |0,_=>none
 |d+1,i=>if i+q.length≤s.length then(if(s.drop i).take q.length=q then some i else fnd s q d (i+1))else none
def gr (s:List UInt8)(ends:Bool):List (List UInt8)→Nat→Bool
 | [],a=>!ends||a==s.length
 |q::qs,a=>if ends=true∧qs=[]then decide (a+q.length≤s.length)&&s.drop (s.length-q.length)==q else
   match fnd s q (s.length+1-a) a with
   |none=>false
   |some k=>gr s ends qs (k+q.length)
theorem fin0_any {s:List UInt8}{P:Nat→Bool}:fin0 s false P=true↔∃j,j≤s.length∧P j=true:=by
 unfold fin0;rw[if_neg (by simp),List.any_eq_true];constructor
 ·rintro⟨j,h1,h2⟩;exact⟨j,(by have:=List.mem_range.1 h1;omega),h2⟩
 ·rintro⟨j,h1,h2⟩;exact⟨j,List.mem_range.2 (by omega),h2⟩
end Go.Proofs.YtloijngehifbmaaGreatDoor.Ad
end
section
namespace Go.Proofs.YtloijngehifbmaaGreatDoor.Ad
open Go.RowKit Go.Proofs.YtloijngehifbmaaGreatDoor.P Go.Proofs.YtloijngehifbmaaGreatDoorW PrintWords PrintLast PrintMore Go.Proofs.YtloijngehifbmaaGreatDoor.B
theorem index_cut (c:UInt8):∀l:List UInt8,Lib.indexByte l c=if(cutL c l).2.2=true then(((cutL c l).1.length:Nat):Int)else -1
 | []=>rfl
 |x::xs=>by
  unfold Lib.indexByte cutL
  by_cases h:x=c
  ·subst h;simp
  ·have hb:(x==c)=false:=by simp[h]
   simp only[hb,h,if_false,bF_,index_cut c xs]
   by_cases h2:(cutL c xs).2.2=true
   ·simp only[h2,if_true]
    have:((((cutL c xs).1.length:Nat):Int) == -1)=false:=by simp
    rw[this];simp
   ·simp only[h2,if_false,bF_]
    rfl
theorem cut_parts {c:UInt8}{s:BA}(h:(cutL c (L s)).2.2=true):
  s.extract 0 (cutL c (L s)).1.length=ofL (cutL c (L s)).1∧s.extract ((cutL c (L s)).1.length+1) s.size=ofL (cutL c (L s)).2.1∧(cutL c (L s)).1.length+1≤s.size:=by
 have e:=cutL_true h;have hn:=(cutL_len (c:=c) (L s)).2 h;rw[L_size]at hn;generalize (cutL c (L s)).1=a at *
 generalize (cutL c (L s)).2.1=b at *
 have e':s.data.toList=a++c::b:=e;refine⟨?_,?_,by omega⟩
 ·apply L_inj
  rw[L_ext,L_of,e'];simp
 ·apply L_inj
  have:(a++c::b).drop (a.length+1)=b:=by rw[List.drop_append];simp
  rw[L_ext,L_of,e',this,List.take_of_length_le (by omega)]
theorem cut_i (s:BA)(c:UInt8)(hs:s.size≤140737488351232):strings_Cut.f s ⟨#[c]⟩=some (cutB c s):=by
 have e1:L (⟨#[c]⟩:BA)=[c]:=rfl;have e2:(⟨#[c]⟩:BA).size=1:=rfl;unfold strings_Cut.f stringslite_Cut.f stringslite_Index.f cutB;rw[e1];simp only[oB_,index_cut,e2]
 by_cases h:(cutL c (L s)).2.2=true
 ·obtain⟨h1,h2,h3⟩:=cut_parts h
  simp only[h,if_true];rw[if_pos (by omega),if_pos (by omega),if_pos (by omega),w64 (by omega) (by omega),if_pos (by omega),if_pos (by omega)];simp only[oB_,tN_];rw[h1,show(((cutL c (L s)).1.length:Int)+((1:Nat):Int)).toNat=(cutL c (L s)).1.length+1 from by omega,h2]
 ·simp only[h,if_false,bF_]
  rw[if_neg (by decide)];obtain⟨g1,g2⟩:=cutL_false (c:=c) (l:=L s) (by simpa using h);simp only[oB_,g1,g2,of_L]
  first|done|rfl
theorem count_cut_false {c:UInt8}:∀ {l:List UInt8},Lib.countByte l c=0→(cutL c l).2.2=false
 | [],_=>rfl
 |x::xs,h=>by
  unfold Lib.countByte at h;unfold cutL
  by_cases e:x=c
  ·subst e;simp at h
  ·rw[if_neg e]
   have h':Lib.countByte xs c=0:=by unfold Lib.countByte;rw[List.count_cons]at h;omega
   exact count_cut_false h'
theorem count_cut_true {c:UInt8}{m:Nat}:∀ {l:List UInt8},Lib.countByte l c=m+1→(cutL c l).2.2=true∧Lib.countByte (cutL c l).2.1 c=m
 | [],h=>by simp[Lib.countByte]at h
 |x::xs,h=>by
  unfold Lib.countByte at h;unfold cutL
  by_cases e:x=c
  ·subst e
   rw[if_pos rfl];refine⟨rfl,?_⟩;unfold Lib.countByte;rw[List.count_cons_self]at h;exact Nat.succ.inj h
  ·rw[if_neg e]
   have h':Lib.countByte xs c=m+1:=by
    unfold Lib.countByte;rw[List.count_cons_of_ne e]at h;exact h
   exact count_cut_true h'
theorem w64n0 (a:Nat)(h:a<4611686018427387904):wrap64 ((a:Int)+0)=(a:Int):=by rw[w64 (by omega) (by omega)];omega
theorem w64n1 (a:Nat)(h:a<4611686018427387904):wrap64 ((a:Int)+1)=((a+1:Nat):Int):=by rw[w64 (by omega) (by omega)];omega
theorem w64n2 (a:Nat)(h:a<4611686018427387904):wrap64 ((a:Int)+((1:Nat):Int))=((a+1:Nat):Int):=by rw[w64 (by omega) (by omega)];omega
theorem w64b {n m:Nat}(h:n+1≤m)(hm:m≤1000000000):n<4611686018427387904:=by omega
theorem w64d {n m:Nat}(h:n+m≤2000000000):n<4611686018427387904:=by omega
theorem ci_lt (a m:Nat):(a:Int)<((a+(m+1):Nat):Int):=by omega
theorem ci_neg (n:Nat):¬((n:Int)<0):=by omega
theorem ci_nn (n:Nat):(0:Int)≤(n:Int):=by omega
theorem ci_le {n s:Nat}(h:n+1≤s):(n:Int)≤(s:Int):=by omega
theorem ci_le1 {n s:Nat}(h:n+1≤s):((n+1:Nat):Int)≤(s:Int):=by omega
theorem ci_l6 {a m l:Nat}(h:l=a+(m+2)):(a:Int)<(l:Int):=by omega
theorem set_mid (a:List BA)(m:Nat)(p e:BA):(a++List.replicate (m+1) e).set a.length p=(a++[p])++List.replicate m e:=by
 rw[List.set_append_right _ _ (lL_ _),Nat.sub_self,List.replicate_succ,l0_,List.append_assoc];rfl
theorem take_mid (a b:List BA)(p:BA):((a++[p])++b).take (a.length+1)=a++[p]:=by
 rw[List.take_append_of_le_length (by simp)];exact List.take_of_length_le (by simp)
theorem split_li (c:UInt8):∀(m:Nat)(s:BA)(a:List BA),Lib.countByte (L s) c=m→s.size≤1000000000→a.length+m≤2000000000 →
  Ev (fun k=>strings_genSplit.l0 k s ⟨#[c]⟩ 0 ((a.length+m:Nat):Int) (a++List.replicate (m+1) (⟨#[]⟩:BA)) (a.length:Int)) (a++(splitL c (L s)).map ofL):=by
 intro m;have e1:L (⟨#[c]⟩:BA)=[c]:=rfl;have e2:(⟨#[c]⟩:BA).size=1:=rfl
 induction m with
 |zero=>
  intro s a hc hs ha;have hf:=count_cut_false hc;obtain⟨g1,g2⟩:=cutL_false hf;rw[splitL_eq,hf];refine Ev_succ ?_;simp only[strings_genSplit.l0];have hl:(a++List.replicate (0+1) (⟨#[]⟩:BA)).length=a.length+1:=by simp
  have hw:wrap64 ((a.length:Int)+1)=((a.length+1:Nat):Int):=by rw[w64 (by omega) (by omega)];omega
  simp only[show ¬((a.length:Int)<((a.length+0:Nat):Int))from by omega,if_false,hl,show((0:Int)≤(a.length:Int))from by omega,show((a.length:Int)<((a.length+1:Nat):Int))from by omega,if_true,hw,
   show((0:Int)≤((a.length+1:Nat):Int))from by omega,tN_,Int.le_refl]
  rw[set_mid,take_mid];simp only[bF_,if_false,List.map_cons,List.map_nil,g1,of_L];exact Ev.now _
 |succ m ih=>
  intro s a hc hs ha;obtain⟨ht,hc'⟩:=count_cut_true hc;obtain⟨h1,h2,h3⟩:=cut_parts ht;have hix:Lib.indexByte (L s) c=(((cutL c (L s)).1.length:Nat):Int):=by rw[index_cut,if_pos ht]
  rw[splitL_eq,if_pos ht];have hz:(ofL (cutL c (L s)).2.1).size≤1000000000:=by
   have:=(cutL_len (c:=c) (L s)).1;rw[L_size]at this;rw[ofL_size];omega
  have key:=ih (ofL (cutL c (L s)).2.1) (a++[ofL (cutL c (L s)).1]) (by rw[L_of];exact hc') hz (by simp;omega);rw[L_of]at key;rw[List.map_cons,show a++ofL (cutL c (L s)).1::List.map ofL (splitL c (cutL c (L s)).2.1)=a++[ofL (cutL c (L s)).1]++List.map ofL (splitL c (cutL c (L s)).2.1)from by simp];generalize (cutL c (L s)).1.length=n at h1 h2 h3 hix;rw[show(cutL c (L s)).2.1=L (s.extract (n+1) s.size)from by rw[h2,L_of]];rw[←h1]at key ⊢;rw[←h2]at key;clear hz h1 h2 hc' ht hc;have hl:(a++List.replicate (m+1+1) (⟨#[]⟩:BA)).length=a.length+(m+2):=by simp
  have hl2:(a++[s.extract 0 n]).length=a.length+1:=by simp
  rw[hl2]at key;refine Ev.step (fun k=>?_) key;have c1:=ci_lt a.length m;have c2:=ci_neg n;have c3:=ci_nn n;have c4:=ci_le h3;have c5:=ci_nn a.length;have c6:=ci_l6 hl;have c7:=ci_nn (n+1);have c8:=ci_le1 h3;have hw:wrap64 ((a.length:Int)+1)=((a.length+1:Nat):Int):=w64n1 a.length (w64d ha);have hw0:wrap64 ((n:Int)+0)=(n:Int):=w64n0 n (w64b h3 hs);have hw1:wrap64 ((n:Int)+((1:Nat):Int))=((n+1:Nat):Int):=w64n2 n (w64b h3 hs);simp only[strings_genSplit.l0,strings_Index.f,stringslite_Index.f];rw[if_pos c1,hix,oB_,oB_];rw[if_neg c2,hw0,if_pos c3,if_pos c4,if_pos c5,if_pos c6,e2,hw1,if_pos c7,if_pos c8,hw];simp only[tN_];rw[set_mid,show a.length+1+m=a.length+(m+1)from by rw[Nat.add_assoc,Nat.add_comm 1 m]]
theorem split_i (s:BA)(c:UInt8)(hs:s.size≤1000000000):Ev (fun k=>strings_Split.f k s ⟨#[c]⟩) ((splitL c (L s)).map ofL):=by
 have e1:L (⟨#[c]⟩:BA)=[c]:=rfl;have hcnt:Lib.countByte (L s) c≤s.size:=by rw[←L_size];exact List.count_le_length
 unfold strings_Split.f strings_genSplit.f strings_Count.f;have en:¬((⟨#[c]⟩:BA).toList=([]:List UInt8)):=by rw[toList_nil];show ¬(1=0);omega
 rw[e1];simp only[show ¬((-1:Int)=0)from by omega,if_false,en,show((-1:Int)<0)from by omega,if_true,oB_];refine Ev.bind (a:=(splitL c (L s)).map ofL) ?_ (Ev.now _);refine Ev_succ ?_;have hw:wrap64 (((Lib.countByte (L s) c:Nat):Int)+1)=((Lib.countByte (L s) c+1:Nat):Int):=by rw[w64 (by omega) (by omega)];omega
 have hw2:wrap64 ((s.size:Int)+1)=((s.size+1:Nat):Int):=by rw[w64 (by omega) (by omega)];omega
 have hm:mn ((Lib.countByte (L s) c+1:Nat):Int) ((s.size+1:Nat):Int)=((Lib.countByte (L s) c+1:Nat):Int):=by unfold mn;split <;> omega
 have hw3:wrap64 (((Lib.countByte (L s) c+1:Nat):Int)-1)=((0+Lib.countByte (L s) c:Nat):Int):=by rw[w64 (by omega) (by omega)];omega
 simp only[strings_genSplit.j0,hw,hw2,hm,show((0:Int)≤((Lib.countByte (L s) c+1:Nat):Int))from by omega,if_true,tN_,show Lib.countByte (L s) c+1≤17592186044416 from by omega,hw3];have:=split_li c (Lib.countByte (L s) c) s [] rfl hs (by simp;omega)
 simpa using this

theorem fine_parts {a:A5}(h:Fine a):Parts a.2.1∧a.1.size≤60∧a.2.2.2.1.size≤60:=by
 rcases h with rfl|⟨_,h⟩
 ·exact⟨⟨by simp[none5],by simp[none5]⟩,Nat.zero_le _,Nat.zero_le _⟩
 ·unfold addrOk at h
  simp only[aE_,decide_eq_true_eq]at h;obtain⟨⟨⟨⟨⟨h1,h2⟩,h3⟩,h4⟩,h5⟩,h6⟩:=h;refine⟨⟨by omega,fun p hp=>?_⟩,?_,?_⟩
  ·have:=List.all_eq_true.1 h5 p hp
   unfold partOk at this;simp only[aE_]at this;have:=isNorm_size this.1.1.1;omega
  ·have:=isHouse_size h1;omega
  ·exact isNorm_size h3
theorem clean_l (ps:List BA)(hl:ps.length≤1000000)(d:Nat):∀(i:Nat)(acc:List BA),i+d=ps.length→acc.length≤i →
  Ev (fun k=>spec_PathClean.l0 k ps acc (i:Int)) ((ps.drop i).foldl clean1 acc):=by
 induction d with
 |zero=>
  intro i acc hi ha;have n1:¬((i:Int)<(ps.length:Int)):=by omega
  rw[List.drop_eq_nil_of_le (by omega)];refine Ev_succ ?_;simp only[spec_PathClean.l0,n1,if_false];exact Ev.now _
 |succ d ih=>
  intro i acc hi ha;have hi':i<ps.length:=by omega
  have f1:(i:Int)<(ps.length:Int):=by omega
  have f2:(0:Int)≤(i:Int):=by omega
  have e1:wrap64 ((i:Int)+1)=((i+1:Nat):Int):=by rw[w64 (by omega) (by omega)];rfl
  have hr:=rd_at hi';rw[dE_ hi',List.foldl_cons];generalize ps[i]=p at hr ⊢;have hc:=clean1_len acc p;have ih':=ih (i+1) (clean1 acc p) (by omega) (by omega);refine Ev_succ ?_;simp only[spec_PathClean.l0,f1,f2,if_true,hr];unfold clean1 at ih' ⊢
  by_cases h1:p.toList=[]
  ·simp only[h1,if_true]at ih' ⊢
   refine Ev_succ ?_;simp only[spec_PathClean.j1,if_true,e1];exact ih'
  ·simp only[h1,if_false]at ih' ⊢
   refine Ev_succ ?_
   by_cases h2:p.toList=[46]
   ·simp only[h2,if_true]at ih' ⊢
    simp only[spec_PathClean.j1,beq_self_eq_true,if_true,e1];exact ih'
   ·have h2':(p.toList==[46])=false:=by simpa using h2
    simp only[h2,if_false]at ih' ⊢;simp only[spec_PathClean.j1,h2',bF_,if_false,f1,f2,if_true,hr,e1]
    by_cases h3:p.toList=[46,46]
    ·have m:mx (wrap64 ((acc.length:Int)-1)) 0=((acc.length-1:Nat):Int):=by
      rw[w64 (by omega) (by omega)];unfold mx;split <;> omega
     have g1:(0:Int)≤((acc.length-1:Nat):Int):=by omega
     have g2:((acc.length-1:Nat):Int)≤(acc.length:Int):=by omega
     simp only[h3,if_true]at ih' ⊢;simp only[m,g1,g2,if_true,tN_];exact ih'
    ·have g3:acc.length<8796093022208:=by omega
     simp only[h3,if_false]at ih' ⊢;simp only[g3,if_true];exact ih'
theorem clean_ev (ps:List BA)(hl:ps.length≤1000000):Ev (fun k=>spec_PathClean.f k ps) (pathClean ps):=
 clean_l ps hl ps.length 0 [] (by omega) (by simp)
def wayE (house:BA)(asks:Bool)(ask:BA)(ps:List BA):A5:=
 if(escNorm ask).2=true then(if addrOk house (pathClean ps) asks (escNorm ask).1=true then(house,pathClean ps,asks,(escNorm ask).1,true)else none5)else none5
theorem way_l (house ask:BA)(asks:Bool)(base:List BA)(b0:Bool)(a0:BA)(hh:house.size≤100000)(ls:List BA)(hl:ls.length≤900)(d:Nat):
  ∀(i:Nat)(acc:List BA),i+d=ls.length→acc.length≤i+50→(∀p∈acc,p.size≤1048576) →
  Ev (fun k=>spec_l1Way.l0 k ask asks acc ls (i:Int) house base b0 a0) (match escAll (ls.drop i)with|none=>none5|some ps=>wayE house asks ask (acc++ps)):=by
 induction d with
 |zero=>
  intro i acc hi ha hp;have n1:¬((i:Int)<(ls.length:Int)):=by omega
  rw[List.drop_eq_nil_of_le (by omega)];refine Ev_succ ?_;simp only[spec_l1Way.l0,n1,if_false,escAll,List.append_nil];refine Ev.bind (escNorm_ev ask) (Ev.bind (clean_ev acc (by omega)) ?_);have hz:=escNorm_size ask;unfold wayE
  by_cases h1:(escNorm ask).2=true
  ·simp only[h1,if_true]
   have hP:Parts (pathClean acc):=⟨by have:=cleanF_len acc [];unfold pathClean;simp only[List.length_nil]at this;omega,fun p hq=>by
    rcases cleanF_mem hq with h|h
    ·cases h
    ·exact hp p h⟩
   refine Ev.bind (addrOk_ev house (pathClean acc) asks (escNorm ask).1 hP (by omega) (by omega)) ?_
   by_cases h2:addrOk house (pathClean acc) asks (escNorm ask).1=true
   ·simp only[h2,if_true];exact Ev.now _
   ·simp only[h2,if_false];exact Ev.now _
  ·simp only[h1,if_false];exact Ev.now _
 |succ d ih=>
  intro i acc hi ha hp;have hi':i<ls.length:=by omega
  have f1:(i:Int)<(ls.length:Int):=by omega
  have f2:(0:Int)≤(i:Int):=by omega
  have e1:wrap64 ((i:Int)+1)=((i+1:Nat):Int):=by rw[w64 (by omega) (by omega)];rfl
  have hr:=rd_at hi';rw[dE_ hi'];generalize ls[i]=p at hr ⊢;have hz:=escNorm_size p;refine Ev_succ ?_;simp only[spec_l1Way.l0,f1,f2,if_true,hr,e1];refine Ev.bind (escNorm_ev p) ?_;unfold escAll
  by_cases h1:(escNorm p).2=true
  ·have g3:acc.length<8796093022208:=by omega
   simp only[h1,if_true,g3];have ih':=ih (i+1) (acc++[(escNorm p).1]) (by omega) (by simp;omega) (fun x hx=>by
    rcases List.mem_append.1 hx with h|h
    ·exact hp x h
    ·rw[List.mem_singleton.1 h];omega)
   cases he:escAll (ls.drop (i+1))with
   |none=>rw[he]at ih';exact ih'
   |some ps=>
    rw[he]at ih';simp only[Option.map_some]
    simpa using ih'
  ·simp only[h1,if_false];exact Ev.now _
theorem cutB_size (c:UInt8)(s:BA):(cutB c s).1.size≤s.size∧(cutB c s).2.1.size≤s.size:=by
 have:=(cutL_len (c:=c) (L s)).1;rw[L_size]at this;unfold cutB;constructor
 ·show(ofL _).size≤_;rw[ofL_size];omega
 ·show(ofL _).size≤_;rw[ofL_size];omega
theorem way_ev (house:BA)(base:List BA)(b0:Bool)(a0 way:BA)(hh:house.size≤100000)(hb:base.length≤50)(hp:∀p∈base,p.size≤1048576)(hw:way.size≤800):
  Ev (fun k=>spec_l1Way.f k house base b0 a0 way) (wayO house base way):=by
 unfold spec_l1Way.f wayO;refine Ev.bind (cut_ev way 63 (by omega)) ?_;have hc:=cutB_size 63 way;have g:([]:List BA).length+base.length<8796093022208:=by simp;omega
 simp only[oB_,g,if_true,List.nil_append];refine Ev.bind (split_ev (cutB 63 way).1 47 (by omega)) ?_;have hl:=splitL_len 47 (L (cutB 63 way).1);rw[L_size]at hl;have:=way_l house (cutB 63 way).2.1 (cutB 63 way).2.2 base b0 a0 hh ((splitL 47 (L (cutB 63 way).1)).map ofL) (by rw[List.length_map];omega) _ 0 base (Nat.zero_add _) (by omega) hp;rw[List.drop_zero]at this;exact this
theorem house_l (s h:BA)(hs:s.size≤800):∀(l:List UInt8)(i:Nat),(L s).drop i=l→h=s →
  Ev (fun k=>spec_l1Whole.l0 k s h (⟨#[]⟩:BA) (i:Int)) (wayO (smallB (ofL ((L s).take i++(houseL l).1))) [] (ofL (houseL l).2))
 | [],i,h',e=>by
  have:=bt_end h';have n1:¬((i:Int)<(s.size:Int)):=by omega
  have eq:(L s).take i=L s:=List.take_of_length_le (by rw[L_size];omega);subst e;refine Ev_succ ?_;simp only[spec_l1Whole.l0,n1,if_false,houseL,eq,List.append_nil,of_L,spec_l1Small.f,show h.size≤140737488351232 from by omega,if_true,oB_];refine Ev.bind (way_ev (smallB h) [] false _ _ (by unfold smallB;rw[ofL_size,List.length_map,L_size];omega) (by simp) (by simp) (by decide)) ?_;exact Ev.now _
 |x::xs,i,h',e=>by
  obtain⟨hi,hb,hd⟩:=bt_at h';have e1:wrap64 ((i:Int)+1)=((i+1:Nat):Int):=by rw[w64 (by omega) (by omega)];rfl
  have f1:(i:Int)<(s.size:Int):=by omega
  have f2:(0:Int)≤(i:Int):=by omega
  have f3:(i:Int)≤(s.size:Int):=by omega
  have c1:((x.toNat:Int)=47)↔x=47:=u8_eq (b:=47);have c2:((x.toNat:Int)=63)↔x=63:=u8_eq (b:=63);have x1:s.extract 0 i=ofL ((L s).take i):=by apply L_inj;rw[L_ext,L_of];simp
  have x2:s.extract i s.size=ofL (x::xs):=by
   apply L_inj;rw[L_ext,L_of,h',List.take_of_length_le];rw[←h',List.length_drop,L_size];omega
  have z1:(ofL ((L s).take i)).size≤800:=by rw[ofL_size,lT_,L_size];omega
  have z2:(ofL (x::xs)).size≤800:=by rw[ofL_size,←h',List.length_drop,L_size];omega
  have fin:Ev (fun k=>(spec_l1Way.f k (smallB (ofL ((L s).take i))) ([]:List BA) false (⟨#[]⟩:BA) (ofL (x::xs))).bind fun bt204=>(some (bt204.1,bt204.2.1,bt204.2.2.1,bt204.2.2.2.1,bt204.2.2.2.2))) (wayO (smallB (ofL ((L s).take i++[]))) [] (ofL (x::xs))):=by
   rw[List.append_nil];refine Ev.bind (way_ev _ [] false _ _ (by unfold smallB;rw[ofL_size,List.length_map,L_size];omega) (by simp) (by simp) z2) ?_;exact Ev.now _
  refine Ev_succ ?_;simp only[spec_l1Whole.l0,f1,f2,f3,if_true,hb,c1,c2,e1,tN_,x1,x2,spec_l1Small.f,show(ofL ((L s).take i)).size≤140737488351232 from by omega,oB_];unfold houseL
  by_cases h1:x=47
  ·simp only[h1,if_true,true_or]
   rw[h1]at fin;exact fin
  ·by_cases h2:x=63
   ·simp only[h1,h2,if_true,if_false,or_true,show ¬((63:UInt8)=47)from by decide]
    rw[h2]at fin;exact fin
   ·simp only[h1,h2,if_false,or_self]
    have:=house_l s h hs xs (i+1) hd e;have ht:(L s).take (i+1)++(houseL xs).1=(L s).take i++(x::(houseL xs).1):=by
     have hl:i<(L s).length:=by rw[L_size];exact hi
     have:(L s)[i]=x:=by
      have hd2:(L s).drop i=(L s)[i]::(L s).drop (i+1):=dE_ hl;rw[h']at hd2;injection hd2 with h1 h2;exact h1.symm
     rw[List.take_succ_eq_append_getElem hl,this];simp
    rw[ht]at this;exact this
theorem whole_ev (s:BA)(hs:s.size≤800):Ev (fun k=>spec_l1Whole.f k s) (wholeO s):=by
 have:=house_l s s hs (L s) 0 rfl rfl;simp only[List.take_zero,List.nil_append]at this;exact this
theorem read_ev (raw:BA)(hs:raw.size≤140737488351232):Ev (fun k=>spec_AddrRead.f k raw) (readO raw):=by
 unfold spec_AddrRead.f readO;refine Ev.bind (cut_ev raw 35 hs) ?_;have hc:=(cutB_size 35 raw).1;generalize (cutB 35 raw).1=c at hc ⊢
 by_cases h1:raw.size>60
 ·have n1:(raw.size:Int)>60:=by omega
  simp only[n1,h1,if_true];exact Ev.now _
 ·have n1:¬(raw.size:Int)>60:=by omega
  simp only[n1,h1,if_false]
  by_cases h2:c.size<2
  ·have n2:(c.size:Int)<2:=by omega
   simp only[n2,h2,if_true];exact Ev.now _
  ·have n2:¬(c.size:Int)<2:=by omega
   have n3:(2:Int)≤(c.size:Int):=by omega
   have hx:((c.extract 0 2).toList=[47,47])↔((L c).take 2=[47,47]):=by
    rw[Lib.toList_data]
    show L (c.extract 0 2)=_↔_
    rw[L_ext];simp
   simp only[n2,h2,n3,if_true,if_false,show(0:Int)≤2 from by omega,hx]
   by_cases h3:(L c).take 2=[47,47]
   ·simp only[h3,if_true]
    have hz:(c.extract 2 c.size).size≤800:=by rw[ByteArray.size_extract];omega
    generalize c.extract 2 c.size=z at hz ⊢;exact Ev.bind (whole_ev z hz) (Ev.now _)
   ·simp only[h3,if_false];exact Ev.now _
theorem clean_li (ps:List BA)(hl:ps.length≤1000000)(d:Nat):∀(i:Nat)(acc:List BA),i+d=ps.length→acc.length≤i →
  Ev (fun k=>impl_PathClean.l0 k acc ps (ps.length:Int) (i:Int)) ((ps.drop i).foldl clean1 acc):=by
 induction d with
 |zero=>
  intro i acc hi ha;rw[List.drop_eq_nil_of_le (by omega)];refine Ev_succ ?_;simp only[impl_PathClean.l0,show ¬((i:Int)<(ps.length:Int))from by omega,if_false];exact Ev.now _
 |succ d ih=>
  intro i acc hi ha;have hlt:i<ps.length:=by omega
  have hr:=rd_at hlt;have w1:=w64n1 i (by omega);have f1:(i:Int)<(ps.length:Int):=by omega
  have f2:=ci_nn i;rw[dE_ hlt,List.foldl_cons];generalize ps[i]=p at hr ⊢;have next:∀acc',acc'.length≤i+1→acc'=clean1 acc p→Ev (fun k=>impl_PathClean.l0 k acc' ps (ps.length:Int) ((i+1:Nat):Int)) ((ps.drop (i+1)).foldl clean1 (clean1 acc p)):=fun acc' h1 h2=>by
   rw[←h2];exact ih (i+1) acc' (by omega) h1
  refine Ev_succ ?_;simp only[impl_PathClean.l0,f1,f2,if_true];rw[hr]
  by_cases h1:p.toList=[]
  ·simp only[h1,if_true]
   refine Ev_succ ?_;simp only[impl_PathClean.j1];simp only[show(([]:List UInt8)==[])=true from rfl,if_true];rw[w1];exact next acc (by omega) (by unfold clean1;rw[if_pos h1])
  ·simp only[h1,if_false]
   by_cases h2:p.toList=[46]
   ·refine Ev_succ ?_
    simp only[impl_PathClean.j1];simp only[h2,show(([46]:List UInt8)==[46])=true from rfl,if_true];rw[w1];exact next acc (by omega) (by unfold clean1;rw[if_neg h1,if_pos h2])
   ·refine Ev_succ ?_
    simp only[impl_PathClean.j1];simp only[show(p.toList==([46]:List UInt8))=false from by simp[h2],bF_,if_false]
    by_cases h3:p.toList=[46,46]
    ·simp only[h3,if_true]
     have hc:clean1 acc p=acc.take (acc.length-1):=by unfold clean1;rw[if_neg h1,if_neg h2,if_pos h3]
     by_cases h4:acc.length=0
     ·simp only[show ¬((acc.length:Int)>0)from by omega,if_false]
      rw[w1];exact next acc (by omega) (by rw[hc,List.length_eq_zero_iff.1 h4];rfl)
     ·have w2:wrap64 ((acc.length:Int)-1)=((acc.length-1:Nat):Int):=by rw[w64 (by omega) (by omega)];omega
      simp only[show((acc.length:Int)>0)from by omega,if_true];rw[w2];simp only[show((0:Int)≤((acc.length-1:Nat):Int))from by omega,show(((acc.length-1:Nat):Int)≤(acc.length:Int))from by omega,if_true,tN_];rw[w1];exact next _ (by rw[lT_];omega) hc.symm
    ·simp only[h3,if_false,show acc.length<8796093022208 from by omega,if_true]
     rw[w1];exact next _ (by simp;omega) (by unfold clean1;rw[if_neg h1,if_neg h2,if_neg h3])
theorem clean_i (ps:List BA)(hl:ps.length≤1000000):Ev (fun k=>impl_PathClean.f k ps) (pathClean ps):=
 clean_li ps hl ps.length 0 [] (by omega) (by simp)
def wayI (house:BA)(asks:Bool)(ask:BA)(ps:List BA):A5:=if addrOk house (pathClean ps) asks ask=true then(house,pathClean ps,asks,ask,true)else none5
theorem way_li (house ask:BA)(asks:Bool)(hh:house.size≤100000)(hq:ask.size≤1048576)(ls:List BA)(hl:ls.length≤900)(d:Nat):
  ∀(i:Nat)(acc:List BA),i+d=ls.length→acc.length≤50+i→(∀p∈acc,p.size≤1048576) →
  Ev (fun k=>impl_readWay.l0 k house ask asks acc ls (ls.length:Int) (i:Int)) (match escAll (ls.drop i)with|none=>none5|some ps=>wayI house asks ask (acc++ps)):=by
 induction d with
 |zero=>
  intro i acc hi ha hp;rw[List.drop_eq_nil_of_le (by omega)];refine Ev_succ ?_;simp only[impl_readWay.l0,show ¬((i:Int)<(ls.length:Int))from by omega,if_false,escAll,List.append_nil];refine Ev.bind (clean_i acc (by omega)) ?_;unfold wayI;have hP:Parts (pathClean acc):=⟨by have:=cleanF_len acc [];unfold pathClean;simp only[List.length_nil]at this;omega,fun p hq=>by
   rcases cleanF_mem hq with h|h
   ·cases h
   ·exact hp p h⟩
  refine Ev.bind (addrOk_i house (pathClean acc) asks ask hP (by omega) (by omega)) ?_
  by_cases h2:addrOk house (pathClean acc) asks ask=true
  ·simp only[h2,if_true];exact Ev.now _
  ·simp only[h2,if_false];exact Ev.now _
 |succ d ih=>
  intro i acc hi ha hp;have hi':i<ls.length:=by omega
  have f1:(i:Int)<(ls.length:Int):=by omega
  have f2:=ci_nn i;have e1:=w64n1 i (by omega);have hr:=rd_at hi';rw[dE_ hi'];generalize ls[i]=p at hr ⊢;have hz:=escNorm_size p;refine Ev_succ ?_;simp only[impl_readWay.l0,f1,f2,if_true,hr,e1];refine Ev.bind (escNorm_i p) ?_;unfold escAll
  by_cases h1:(escNorm p).2=true
  ·have g3:acc.length<8796093022208:=by omega
   simp only[h1,if_true,g3];have ih':=ih (i+1) (acc++[(escNorm p).1]) (by omega) (by simp;omega) (fun x hx=>by
    rcases List.mem_append.1 hx with h|h
    ·exact hp x h
    ·rw[List.mem_singleton.1 h];omega)
   cases he:escAll (ls.drop (i+1))with
   |none=>rw[he]at ih';exact ih'
   |some ps=>
    rw[he]at ih';simp only[Option.map_some]
    simpa using ih'
  ·simp only[h1,if_false];exact Ev.now _
theorem way_i (house:BA)(base:List BA)(way:BA)(hh:house.size≤100000)(hb:base.length≤50)(hp:∀p∈base,p.size≤1048576)(hw:way.size≤800):
  Ev (fun k=>impl_readWay.f k house base way) (wayO house base way):=by
 unfold impl_readWay.f wayO;have hc:=cutB_size 63 way;rw[cut_i way 63 (by omega)];simp only[oB_];have hz:=escNorm_size (cutB 63 way).2.1;refine Ev.bind (escNorm_i (cutB 63 way).2.1) ?_
 by_cases h1:(escNorm (cutB 63 way).2.1).2=true
 ·simp only[h1,if_true,slices_Clone_string_string.f,show base.length*16≤140737488355328 from by omega,oB_]
  refine Ev.bind (split_i (cutB 63 way).1 47 (by omega)) ?_;have hl:=splitL_len 47 (L (cutB 63 way).1);rw[L_size]at hl;have:=way_li house (escNorm (cutB 63 way).2.1).1 (cutB 63 way).2.2 hh (by omega) ((splitL 47 (L (cutB 63 way).1)).map ofL) (by rw[List.length_map];omega) _ 0 base (Nat.zero_add _) (by omega) hp;rw[List.drop_zero]at this;exact this
 ·simp only[h1,if_false]
  generalize escAll ((splitL 47 (L (cutB 63 way).1)).map ofL)=o;cases o <;> exact Ev.now _
theorem any_house:∀l:List UInt8,(Lib.indexAny l [47,63]=-1→houseL l=(l,[]))∧(∀n:Nat,Lib.indexAny l [47,63]=(n:Int)→houseL l=(l.take n,l.drop n)∧n≤l.length)
 | []=>⟨fun _=>rfl,fun n h=>by unfold Lib.indexAny at h;omega⟩
 |x::xs=>by
  obtain⟨i1,i2⟩:=any_house xs;unfold Lib.indexAny houseL
  by_cases h:x=47∨x=63
  ·have hc:([47,63]:List UInt8).contains x=true:=by rcases h with h|h <;> subst h <;> decide
   rw[if_pos h,if_pos hc];refine⟨fun e=>by omega,fun n e=>?_⟩;obtain rfl:n=0:=by omega
   exact⟨rfl,Nat.zero_le _⟩
  ·have hc:¬([47,63]:List UInt8).contains x=true:=by
    simp only[List.contains_cons,List.contains_nil,Bool.or_false,Bool.or_eq_true,beq_iff_eq];exact h
   rw[if_neg h,if_neg hc];have hge:=Lib.indexAny_ge [47,63] xs
   by_cases h2:Lib.indexAny xs [47,63]=-1
   ·have hb:(Lib.indexAny xs [47,63] == -1)=true:=by simp[h2]
    rw[if_pos hb];refine⟨fun _=>by rw[i1 h2],fun n e=>by omega⟩
   ·have hb:¬(Lib.indexAny xs [47,63] == -1)=true:=by simp[h2]
    rw[if_neg hb];refine⟨fun e=>by omega,fun n e=>?_⟩;obtain⟨m,hm⟩:∃m:Nat,Lib.indexAny xs [47,63]=(m:Int):=⟨(Lib.indexAny xs [47,63]).toNat,by omega⟩;obtain⟨g1,g2⟩:=i2 m hm;obtain rfl:n=m+1:=by omega
    rw[g1];exact⟨rfl,by simp only[List.length_cons];omega⟩
def wholeI (s:BA):A5:=if s.size<2 then none5 else if(L s).take 2=[47,47]then wholeO (s.extract 2 s.size)else none5
theorem prefix_i (s:BA)(hs:s.size≤800):stringslite_HasPrefix.f s ⟨#[47,47]⟩=some (decide (2≤s.size)&&decide ((L s).take 2=[47,47])):=by
 unfold stringslite_HasPrefix.f;have e2:(⟨#[47,47]⟩:BA).size=2:=rfl;rw[e2]
 by_cases h:2≤s.size
 ·rw[if_pos (by omega),if_pos (by omega),if_pos (by omega)]
  have hx:(s.extract 0 2).toList=(L s).take 2:=by rw[Lib.toList_data];show L (s.extract 0 2)=_;rw[L_ext];simp
  have hy:(⟨#[47,47]⟩:BA).toList=[47,47]:=by rw[Lib.toList_data]
  simp only[tN_,hx,hy,h,decide_true,tA_]
  congr 1
  rw[Bool.eq_iff_iff];simp
 ·rw[if_neg (by omega)]
  simp[h]
theorem whole_i (s:BA)(hs:s.size≤800):Ev (fun k=>impl_readWhole.f k s) (wholeI s):=by
 unfold impl_readWhole.f strings_CutPrefix.f stringslite_CutPrefix.f wholeI;have e2:(⟨#[47,47]⟩:BA).size=2:=rfl;rw[prefix_i s hs,e2];simp only[oB_]
 by_cases h:2≤s.size
 ·by_cases h3:(L s).take 2=[47,47]
  ·simp only[h,h3,decide_true,tA_,if_true,show ¬(s.size<2)from by omega,if_false]
   rw[if_pos (by omega),if_pos (by omega)];simp only[oB_,if_true,tN_];have hz:(s.extract 2 s.size).size≤800:=by rw[ByteArray.size_extract];omega
   generalize s.extract 2 s.size=z at hz;unfold strings_IndexAny.f wholeO;have ez:L (⟨#[47,63]⟩:BA)=[47,63]:=rfl;rw[ez,if_pos ⟨rfl,by omega⟩];obtain⟨a1,a2⟩:=any_house (L z);have hge:=Lib.indexAny_ge [47,63] (L z)
   by_cases hi:Lib.indexAny (L z) [47,63]=-1
   ·have hH:=a1 hi
    rw[hH];have x1:z.extract 0 ((z.size:Int)).toNat=z:=by apply L_inj;rw[L_ext,tN_,List.drop_zero];exact List.take_of_length_le (by rw[Nat.sub_zero];exact Nat.le_of_eq (L_size z))
    have x2:z.extract ((z.size:Int)).toNat z.size=ofL []:=by apply L_inj;rw[L_ext,L_of,tN_,Nat.sub_self];exact List.take_zero
    rw[of_L];refine Ev.congr (f:=fun k=>(impl_readWay.f k (smallB z) [] (ofL [])).bind fun b=>some (b.1,b.2.1,b.2.2.1,b.2.2.2.1,b.2.2.2.2)) (fun k=>?_) ?_
    ·rw[hi,oB_,if_pos (by omega),if_pos (by omega),if_pos (by omega)]
     first|rw[x1,x2]|(simp only[tN_]at x1 x2;rw[x1,x2])
     unfold impl_smallLetters.f;rw[if_pos (by omega),oB_]
    refine Ev.bind (way_i (smallB z) [] (ofL []) (by unfold smallB;rw[ofL_size,List.length_map,L_size];omega) (by simp) (by simp) (by decide)) ?_;exact Ev.now _
   ·obtain⟨n,hn⟩:∃n:Nat,Lib.indexAny (L z) [47,63]=(n:Int):=⟨(Lib.indexAny (L z) [47,63]).toNat,by omega⟩
    obtain⟨hH,hle⟩:=a2 n hn;rw[L_size]at hle;rw[hH];have x1:z.extract 0 ((n:Int)).toNat=ofL ((L z).take n):=by apply L_inj;rw[L_ext,L_of];simp
    have x2:z.extract ((n:Int)).toNat z.size=ofL ((L z).drop n):=by
     apply L_inj;rw[L_ext,L_of,tN_];exact List.take_of_length_le (by rw[List.length_drop,L_size];exact lL_ _)
    have s1:(ofL ((L z).take n)).size≤800:=by rw[ofL_size,lT_,L_size];omega
    have s2:(ofL ((L z).drop n)).size≤800:=by rw[ofL_size,List.length_drop,L_size];omega
    generalize ofL ((L z).take n)=y at s1 x1 ⊢;refine Ev.congr (f:=fun k=>(impl_readWay.f k (smallB y) [] (ofL ((L z).drop n))).bind fun b=>some (b.1,b.2.1,b.2.2.1,b.2.2.2.1,b.2.2.2.2)) (fun k=>?_) ?_
    ·rw[hn,oB_,if_neg (by omega),if_pos (by omega),if_pos (by omega),x1,x2]
     unfold impl_smallLetters.f;rw[if_pos (by omega),oB_]
    refine Ev.bind (way_i (smallB y) [] _ (by unfold smallB;rw[ofL_size,List.length_map,L_size];omega) (by simp) (by simp) s2) ?_;exact Ev.now _
  ·simp only[h,h3,decide_true,decide_false,Bool.and_false,bF_,if_false,oB_,show ¬(s.size<2)from by omega]
   exact Ev.now _
 ·simp only[h,decide_false,fA_,bF_,if_false,oB_,show s.size<2 from by omega,if_true]
  exact Ev.now _
theorem read_i (raw:BA):Ev (fun k=>impl_AddrRead.f k raw) (readO raw):=by
 unfold impl_AddrRead.f readO
 by_cases h:raw.size>60
 ·simp only[show((raw.size:Int)>60)from by omega,if_true,h]
  exact Ev.now _
 ·simp only[show ¬((raw.size:Int)>60)from by omega,if_false,h]
  have hc:=cutB_size 35 raw;rw[cut_i raw 35 (by omega)];simp only[oB_];refine Ev.bind (whole_i (cutB 35 raw).1 (by omega)) ?_;exact Ev.now _
def ruleHas (p s:BA):Bool:=ruleOk p&&decide (s.size≤60)&&dp (L s) (endsD p) (L (bodyD p))
structure Rp (s:BA)(P:Nat→Bool)(l:List Bool):Prop where
 len:l.length=s.size+1
 at_:∀j,j≤s.size→l.getD j false=P j
theorem rd_nat (l:List Bool)(j:Nat):rdOf false l (j:Int)=l.getD j false:=by unfold rdOf;rw[tN_]
theorem getD_set (l:List Bool)(i j:Nat)(v:Bool)(hi:i<l.length):(l.set i v).getD j false=if j=i then v else l.getD j false:=by
 rw[gD_,gD_,List.getElem?_set]
 by_cases e:i=j
 ·subst e;simp[hi]
 ·rw[if_neg e,if_neg (Ne.symm e)]
theorem has_in (s b:BA)(ends:Bool)(i:Nat)(c:UInt8)(P:Nat→Bool)(hs:s.size≤60)(hi:i<b.size)(hc:bt b (i:Int)=(c.toNat:Int))(l:List Bool)(hl:Rp s P l){r:Bool}
  (H:∀x,Rp s (nx (L s) P c) x→Ev (fun k=>impl_RuleHas.l0 k s b ends x (wrap64 ((i:Int)+1))) r) (d:Nat):
  ∀(j:Nat)(x:List Bool),j+d=s.size+1→x.length=s.size+1→(∀m,m<j→x.getD m false=nx (L s) P c m) →
  Ev (fun k=>impl_RuleHas.l1 k s b ends l (i:Int) x ((s.size+1:Nat):Int) (j:Int)) r:=by
 induction d with
 |zero=>
  intro j x hj hx hm;have n1:¬((j:Int)<((s.size+1:Nat):Int)):=by omega
  refine Ev_succ ?_;simp only[impl_RuleHas.l1,n1,if_false];exact H x ⟨hx,fun m h=>hm m (by omega)⟩
 |succ d ih=>
  intro j x hj hx hm;have f1:(j:Int)<((s.size+1:Nat):Int):=by omega
  have f2:(0:Int)≤(i:Int):=by omega
  have f3:(i:Int)<(b.size:Int):=by omega
  have f4:(0:Int)≤(j:Int):=by omega
  have f5:(j:Int)<(l.length:Int):=by rw[hl.len];exact f1
  have f6:(j:Int)<(x.length:Int):=by rw[hx];exact f1
  have e1:wrap64 ((j:Int)+1)=((j+1:Nat):Int):=by rw[w64 (by omega) (by omega)];rfl
  have step:∀v,v=nx (L s) P c j→Ev (fun k=>impl_RuleHas.l1 k s b ends l (i:Int) (x.set ((j:Int)).toNat v) ((s.size+1:Nat):Int) ((j+1:Nat):Int)) r:=by
   intro v hv;refine ih (j+1) _ (by omega) (by rw[List.length_set];exact hx) (fun m hlt=>?_);rw[tN_,getD_set _ _ _ _ (by omega)]
   by_cases e:m=j
   ·rw[if_pos e,hv,e]
   ·rw[if_neg e];exact hm m (by omega)
  have hP:rdOf false l (j:Int)=P j:=by rw[rd_nat];exact hl.at_ j (by omega)
  have c42:((c.toNat:Int)=42)↔c=42:=u8_eq (b:=42);refine Ev_succ ?_;simp only[impl_RuleHas.l1,f1,f2,f3,f4,f5,f6,if_true,hc,c42,e1,hP];cases j with
  |zero=>
   have g1:¬((((0:Nat):Int))>0):=by omega
   simp only[g1,if_false]
   by_cases e:c=42
   ·simp only[e,if_true]
    by_cases e2:P 0=true
    ·simp only[e2,if_true]
     exact step true (by simp[nx,e,e2])
    ·simp only[e2,if_false]
     exact step false (by simp[nx,e,e2])
   ·simp only[e,if_false]
    exact step false (by simp[nx,e])
  |succ j=>
   have g1:((j+1:Nat):Int)>0:=by omega
   have g2:wrap64 (((j+1:Nat):Int)-1)=(j:Int):=by rw[w64 (by omega) (by omega)];omega
   have g3:(0:Int)≤(j:Int):=by omega
   have g4:(j:Int)<(x.length:Int):=by omega
   have g5:(j:Int)<(l.length:Int):=by omega
   have g6:(j:Int)<(s.size:Int):=by omega
   have hP':rdOf false l (j:Int)=P j:=by rw[rd_nat];exact hl.at_ j (by omega)
   have hX:rdOf false x (j:Int)=nx (L s) P c j:=by rw[rd_nat];exact hm j (by omega)
   have hb:(bt s (j:Int)==(c.toNat:Int))=((L s).getD j 0==c):=by
    rw[bt_L,Bool.eq_iff_iff,beq_iff_eq,beq_iff_eq];exact u8_eq
   have hj':j<(L s).length:=by rw[L_size];omega
   simp only[g1,g2,g3,g4,g5,g6,if_true,hP',hX,hb]
   by_cases e:c=42
   ·simp only[e,if_true]
    by_cases e2:P (j+1)=true
    ·simp only[e2,if_true]
     exact step true (by simp[nx,e,e2])
    ·simp only[e2,if_false]
     rw[e]at step;exact step _ (by simp[nx,e2])
   ·simp only[e,if_false]
    by_cases e2:P j=true
    ·simp only[e2,if_true]
     exact step _ (by simp only[nx,if_neg e,e2,hj',decide_true,tA_])
    ·simp only[e2,if_false]
     exact step false (by simp[nx,if_neg e,e2])
theorem index_l (l:List Bool)(hl:l.length≤1000)(d:Nat):∀i:Nat,i+d=l.length →
  ∃t:Int,Ev (fun k=>slices_Index_bool_bool.l0 k l true (l.length:Int) (i:Int)) t∧(t≥0↔∃j,i≤j∧j<l.length∧l.getD j false=true):=by
 induction d with
 |zero=>
  intro i hi;have n1:¬((i:Int)<(l.length:Int)):=by omega
  refine⟨-1,Ev_succ ?_,?_⟩
  ·simp only[slices_Index_bool_bool.l0,n1,if_false];exact Ev.now _
  ·constructor
   ·intro h;omega
   ·rintro⟨j,h1,h2,_⟩;omega
 |succ d ih=>
  intro i hi;have f1:(i:Int)<(l.length:Int):=by omega
  have f2:(0:Int)≤(i:Int):=by omega
  have e1:wrap64 ((i:Int)+1)=((i+1:Nat):Int):=by rw[w64 (by omega) (by omega)];rfl
  by_cases h:l.getD i false=true
  ·refine⟨(i:Int),Ev_succ ?_,?_⟩
   ·simp only[slices_Index_bool_bool.l0,f1,f2,if_true,rd_nat,h,beq_self_eq_true];exact Ev.now _
   ·exact⟨fun _=>⟨i,lL_ _,by omega,h⟩,fun _=>by omega⟩
  ·obtain⟨t,h1,h2⟩:=ih (i+1) (by omega)
   have h':l.getD i false=false:=by simpa using h
   refine⟨t,Ev_succ ?_,?_⟩
   ·simp only[slices_Index_bool_bool.l0,f1,f2,if_true,rd_nat,h',e1]
    simpa using h1
   ·rw[h2]
    constructor
    ·rintro⟨j,p1,p2,p3⟩;exact⟨j,by omega,p2,p3⟩
    ·rintro⟨j,p1,p2,p3⟩
     by_cases e:j=i
     ·subst e;exact absurd p3 h
     ·exact⟨j,by omega,p2,p3⟩
theorem has_out (s b:BA)(ends:Bool)(hs:s.size≤60)(hb:b.size≤1000):∀(q:List UInt8)(i:Nat)(P:Nat→Bool)(l:List Bool),(L b).drop i=q→Rp s P l →
  Ev (fun k=>impl_RuleHas.l0 k s b ends l (i:Int)) (fin0 (L s) ends (q.foldl (nx (L s)) P))
 | [],i,P,l,h,hl=>by
  have:=bt_end h;have n1:¬((i:Int)<(b.size:Int)):=by omega
  refine Ev_succ ?_;simp only[impl_RuleHas.l0,n1,if_false,List.foldl_nil];cases ends with
  |true=>
   have f1:(0:Int)≤(s.size:Int):=by omega
   have f2:(s.size:Int)<(l.length:Int):=by rw[hl.len];omega
   have:rdOf false l (s.size:Int)=P s.size:=by rw[rd_nat];exact hl.at_ _ (lL_ _)
   simp only[f1,f2,if_true,this,fin0,L_size];exact Ev.now _
  |false=>
   obtain⟨t,h1,h2⟩:=index_l l (by rw[hl.len];omega) l.length 0 (by omega);simp only[bF_,if_false];have hc:Ev (fun k=>slices_Contains_bool_bool.f k l true) (decide (t≥0)):=by
    unfold slices_Contains_bool_bool.f slices_Index_bool_bool.f;exact Ev.bind h1 (Ev.now _)
   have e:decide (t≥0)=fin0 (L s) false P:=by
    rw[Bool.eq_iff_iff,decide_eq_true_eq,h2,fin0_any,L_size,hl.len];constructor
    ·rintro⟨j,_,p2,p3⟩;exact⟨j,by omega,by rw[←hl.at_ j (by omega)];exact p3⟩
    ·rintro⟨j,p2,p3⟩;exact⟨j,by omega,by omega,by rw[hl.at_ j (by omega)];exact p3⟩
   rw[←e];exact Ev.bind hc (Ev.now _)
 |c::q,i,P,l,h,hl=>by
  obtain⟨hi,hc,hd⟩:=bt_at h;have f1:(i:Int)<(b.size:Int):=by omega
  have w1:wrap64 ((s.size:Int)+1)=((s.size+1:Nat):Int):=by rw[w64 (by omega) (by omega)];rfl
  have f2:(0:Int)≤((s.size+1:Nat):Int):=by omega
  have f3:s.size+1≤281474976710656:=by omega
  have e1:wrap64 ((i:Int)+1)=((i+1:Nat):Int):=by rw[w64 (by omega) (by omega)];rfl
  refine Ev_succ ?_;simp only[impl_RuleHas.l0,f1,w1,f2,tN_,f3,if_true,oB_,List.length_replicate];refine has_in s b ends i c P hs hi hc l hl (fun x hx=>?_) (s.size+1) 0 _ (by omega) (by rw[List.length_replicate]) (fun m hm=>absurd hm (by omega));rw[e1];exact has_out s b ends hs hb q (i+1) _ x hd hx
theorem has_impl (p s:BA)(hp:p.size≤140737488351232)(hs:s.size≤140737488351232):Ev (fun k=>impl_RuleHas.f k p s) (ruleHas p s):=by
 unfold impl_RuleHas.f ruleHas;refine Ev.bind (ruleOk_impl p hp) ?_
 by_cases h:ruleOk p=true
 ·simp only[h,if_true,tA_]
  refine Ev_succ ?_
  by_cases h2:s.size≤60
  ·have hp16:p.size≤16:=by
    unfold ruleOk at h;simp only[aE_,decide_eq_true_eq]at h;exact h.1.1.2
   have n2:¬((s.size:Int)>60):=by omega
   have w1:wrap64 ((s.size:Int)+1)=((s.size+1:Nat):Int):=by rw[w64 (by omega) (by omega)];rfl
   have f2:(0:Int)≤((s.size+1:Nat):Int):=by omega
   have f3:s.size+1≤281474976710656:=by omega
   have f4:(0:Int)<((s.size+1:Nat):Int):=by omega
   have cut:strings_CutSuffix.f p (⟨#[36]⟩:BA)=some (bodyD p,endsD p):=by
    simp only[strings_CutSuffix.f,stringslite_CutSuffix.f,suf_f p hp,oB_,bodyD,sz36]
    by_cases h:endsD p=true
    ·have:=ends_size h
     have w:wrap64 ((p.size:Int)-((1:Nat):Int))=((p.size-1:Nat):Int):=by rw[w64 (by omega) (by omega)];omega
     rw[if_pos h,if_pos h,w,if_pos (by omega),if_pos (by omega),tN_,h];rfl
    ·have h':endsD p=false:=by simpa using h
     rw[if_neg h,if_neg h,h'];rfl
   simp only[impl_RuleHas.j0,n2,decide_false,bF_,if_false,cut,oB_,w1,f2,tN_,f3,if_true,List.length_replicate,f4,h2,decide_true,tA_];refine has_out s (bodyD p) (endsD p) h2 (by have:=body_size p;omega) (L (bodyD p)) 0 _ _ rfl ⟨by rw[List.length_set,List.length_replicate],fun j hj=>?_⟩;rw[show(0:Int).toNat=0 from rfl,getD_set _ _ _ _ (by rw[List.length_replicate];omega)]
   by_cases e:j=0
   ·subst e;rfl
   ·rw[if_neg e,gD_,List.getElem?_replicate,if_pos (by omega)]
    simp[e]
  ·have n2:(s.size:Int)>60:=by omega
   simp only[impl_RuleHas.j0,n2,decide_true,if_true,h2,decide_false,fA_];exact Ev.now _
 ·have h':ruleOk p=false:=by simpa using h
  simp only[h',bF_,if_false,fA_];refine Ev_succ ?_;simp only[impl_RuleHas.j0,if_true];exact Ev.now _
abbrev SR:=S93
def letStep (s:BA)(st:Nat×Bool)(r:SR):Nat×Bool:=
 if ruleHas r.f1 s=true then(if r.f1.size>st.1 then(r.f1.size,r.f0)else if r.f1.size=st.1 then(st.1,st.2||r.f0)else st)else st
theorem letStep_le {s:BA}{st:Nat×Bool}{r:SR}(h:st.1≤1000000)(hz:r.f1.size≤1000000):(letStep s st r).1≤1000000:=by
 unfold letStep
 split
 ·split
  ·exact hz
  ·split
   ·exact h
   ·exact h
 ·exact h
def lets (rs:List SR)(s:BA):Bool:=(rs.foldl (letStep s) (0,true)).2
theorem rdR {l:List SR}{i:Nat}(h:i<l.length):rd_T93 l (i:Int)=l[i]:=by
 unfold rd_T93;rw[gD_,tN_,gE_ h];rfl
theorem lets_impl_l (rs:List SR)(s:BA)(hs:s.size≤140737488351232)(hl:rs.length≤1000000)(hp:∀r∈rs,r.f1.size≤1000000)(d:Nat):∀(i:Nat)(st:Nat×Bool),i+d=rs.length→st.1≤1000000 →
  Ev (fun k=>impl_RuleLets.l0 k s (st.1:Int) st.2 rs (rs.length:Int) (i:Int)) ((rs.drop i).foldl (letStep s) st).2:=by
 induction d with
 |zero=>
  intro i st hi hb;have n1:¬((i:Int)<(rs.length:Int)):=by omega
  rw[List.drop_eq_nil_of_le (by omega)];refine Ev_succ ?_;simp only[impl_RuleLets.l0,n1,if_false];exact Ev.now _
 |succ d ih=>
  intro i st hi hb;have hi':i<rs.length:=by omega
  have f1:(i:Int)<(rs.length:Int):=by omega
  have f2:(0:Int)≤(i:Int):=by omega
  have e1:wrap64 ((i:Int)+1)=((i+1:Nat):Int):=by rw[w64 (by omega) (by omega)];rfl
  have hr:=rdR hi';have hz:=hp rs[i] (List.getElem_mem hi');rw[dE_ hi',List.foldl_cons];generalize rs[i]=r at hr hz ⊢;have ih':=ih (i+1) (letStep s st r) (by omega) (letStep_le hb hz);refine Ev_succ ?_;simp only[impl_RuleLets.l0,f1,f2,if_true,hr,e1];refine Ev.bind (has_impl r.f1 s (by omega) hs) ?_;unfold letStep at ih' ⊢
  by_cases h1:ruleHas r.f1 s=true
  ·simp only[h1,if_true]at ih' ⊢
   by_cases h2:r.f1.size>st.1
   ·have n2:(r.f1.size:Int)>(st.1:Int):=by omega
    simp only[h2,n2,if_true]at ih' ⊢;exact ih'
   ·have n2:¬(r.f1.size:Int)>(st.1:Int):=by omega
    simp only[h2,n2,if_false]at ih' ⊢
    by_cases h3:r.f1.size=st.1
    ·have n3:(r.f1.size:Int)=(st.1:Int):=by omega
     simp only[h3,n3,if_true]at ih' ⊢
     by_cases h4:st.2=true
     ·simp only[h4,if_true,Bool.true_or]at ih' ⊢
      exact ih'
     ·have h5:st.2=false:=by simpa using h4
      simp only[h5,bF_,if_false,Bool.false_or]at ih' ⊢;exact ih'
    ·have n3:¬(r.f1.size:Int)=(st.1:Int):=by omega
     simp only[h3,n3,if_false]at ih' ⊢;exact ih'
  ·simp only[h1,if_false]at ih' ⊢
   exact ih'
theorem lets_impl (rs:List SR)(s:BA)(hs:s.size≤140737488351232)(hl:rs.length≤1000000)(hp:∀r∈rs,r.f1.size≤1000000):Ev (fun k=>impl_RuleLets.f k rs s) (lets rs s):=
 lets_impl_l rs s hs hl hp rs.length 0 (0,true) (by omega) (by simp)
end Go.Proofs.YtloijngehifbmaaGreatDoor.Ad
end
section
namespace Go.Proofs.YtloijngehifbmaaGreatDoor.Nf
open Go.RowKit Go.Proofs.YtloijngehifbmaaGreatDoor.P Go.Proofs.YtloijngehifbmaaGreatDoorW PrintWords PrintLast PrintMore Go.Proofs.YtloijngehifbmaaGreatDoor.B Go.Proofs.YtloijngehifbmaaGreatDoor.Ad
theorem nn (i:Nat):(0:Int)≤(i:Int):=by omega
theorem rd_ge {l:List Ge}{i:Nat}(h:i<l.length):rd_T32 l (i:Int)=l[i]:=by
 simp[rd_T32,List.getD,gE_ h]
theorem rd_str {l:List BA}{i:Nat}(h:i<l.length):rdOf bE_ l (i:Int)=l[i]:=by
 simp[rdOf,List.getD,gE_ h]
theorem has_any (x:BA)(l:List BA):Lib.containsS l x=l.any fun s=>s.toList==x.toList:=by
 rw[Bool.eq_iff_iff,Lib.containsS_iff,List.any_eq_true];constructor
 ·intro h;exact⟨x,h,by simp⟩
 ·rintro⟨s,hs,e⟩
  rw[beq_iff_eq]at e;rw[←toList_inj.1 e];exact hs
structure Fine (n:List Ge):Prop where
 few:n.length≤1000000000
 names:∀g∈n,g.f0.length≤1000000000
 rules:sumR n≤1000000000
theorem names_l (n:List Ge)(x:BA)(some_:Bool)(i:Nat)(ns:List BA)(rs:List Re)(w:Int)(hi:i<n.length)(hf:n.length≤1000000000)(hn:n[i].f0.length≤1000000000)(hb:rs.length+n[i].f1.length≤1000000000)
  (R:List BA×List Re×Int×Bool)
  (hT:hasN x n[i]=true→Ev (fun k=>spec_l2Of.l0 k n x true ((i+1:Nat):Int) ns (rs++n[i].f1) (mx w n[i].f2)) R)
  (hF:hasN x n[i]=false→Ev (fun k=>spec_l2Of.l0 k n x some_ ((i+1:Nat):Int) ns rs w) R) (d:Nat):
  ∀(j:Nat)(b:Bool),j+d=n[i].f0.length→(b||(n[i].f0.drop j).any fun s=>s.toList==x.toList)=hasN x n[i]→Ev (fun k=>spec_l2Of.l1 k n x some_ (i:Int) b (j:Int) ns rs w) R:=by
 have w1:wrap64 ((i:Int)+1)=((i+1:Nat):Int):=by rw[w64 (by omega) (by omega)];rfl
 induction d with
 |zero=>
  intro j b hj hb2;rw[List.drop_of_length_le (by omega),List.any_nil,Bool.or_false]at hb2;refine Ev_succ ?_;simp only[spec_l2Of.l1,nn i,show(i:Int)<(n.length:Int)from by omega,if_true,rd_ge hi,show ¬((j:Int)<(n[i].f0.length:Int))from by omega,if_false,w1];cases b with
  |true=>
   simp only[if_true,show rs.length+n[i].f1.length<5864062014805 from by omega];exact hT hb2.symm
  |false=>
   simp only[bF_,if_false];exact hF hb2.symm
 |succ d ih=>
  intro j b hj hb2;have hlt:j<n[i].f0.length:=by omega
  have w2:wrap64 ((j:Int)+1)=((j+1:Nat):Int):=by rw[w64 (by omega) (by omega)];rfl
  rw[dE_ hlt,List.any_cons]at hb2;refine Ev_succ ?_;simp only[spec_l2Of.l1,nn i,nn j,show(i:Int)<(n.length:Int)from by omega,if_true,rd_ge hi,show(j:Int)<(n[i].f0.length:Int)from by omega,w2,rd_str hlt];cases b with
  |true=>
   simp only[if_true];exact ih (j+1) true (by omega) (by rw[←hb2,Bool.true_or,Bool.true_or])
  |false=>
   simp only[bF_,if_false];exact ih (j+1) _ (by omega) (by rw[←hb2,Bool.false_or])
theorem groups_l (n:List Ge)(x:BA)(hf:Fine n)(ns:List BA)(d:Nat):∀(i:Nat)(b:Bool)(rs:List Re)(w:Int),i+d=n.length→rs.length+sumR (n.drop i)≤1000000000 →
  Ev (fun k=>spec_l2Of.l0 k n x b (i:Int) ns rs w) (ns,(toldF x (n.drop i) rs w).1,(toldF x (n.drop i) rs w).2,b||(n.drop i).any (hasN x)):=by
 induction d with
 |zero=>
  intro i b rs w hi _;rw[List.drop_of_length_le (by omega)];refine Ev_succ ?_;simp only[spec_l2Of.l0,show ¬((i:Int)<(n.length:Int))from by omega,if_false,toldF,List.any_nil,Bool.or_false];exact Ev.now _
 |succ d ih=>
  intro i b rs w hi hs;have hlt:i<n.length:=by omega
  rw[dE_ hlt]at hs ⊢;simp only[sumR,List.map_cons,List.sum_cons]at hs;have hs2:rs.length+(n[i].f1.length+sumR (n.drop (i+1)))≤1000000000:=hs;refine Ev_succ ?_;simp only[spec_l2Of.l0,show(i:Int)<(n.length:Int)from by omega,if_true];refine names_l n x b i ns rs w hlt hf.few (hf.names _ (List.getElem_mem hlt)) (by omega) _ (fun h=>?_) (fun h=>?_) n[i].f0.length 0 false (by omega) (by rw[Bool.false_or,List.drop_zero];exact(has_any x _).symm)
  ·have:=ih (i+1) true (rs++n[i].f1) (mx w n[i].f2) (by omega) (by rw[lA_];omega)
   simp only[toldF,h,if_true,List.any_cons,Bool.true_or,Bool.or_true]at this ⊢;exact this
  ·have:=ih (i+1) b rs w (by omega) (by omega)
   simp only[toldF,h,bF_,if_false,List.any_cons,Bool.false_or]at this ⊢;exact this
theorem of_ev (n:List Ge)(x:BA)(hf:Fine n):Ev (fun k=>spec_l2Of.f k n x) ([x],(toldF x n [] 0).1,(toldF x n [] 0).2,n.any (hasN x)):=by
 have h:=groups_l n x hf [x] n.length 0 false [] 0 (by omega) (by rw[List.drop_zero,List.length_nil,Nat.zero_add];exact hf.rules);rw[List.drop_zero,Bool.false_or]at h;exact h
def forG (n:List Ge)(x:BA):List BA×List Re×Int:=([x],(toldF (askF n x) n [] 0).1,(toldF (askF n x) n [] 0).2)
theorem for_s (n:List Ge)(x:BA)(hf:Fine n):Ev (fun k=>spec_NoticeFor.f k n x) (forG n x):=by
 unfold spec_NoticeFor.f forG askF;refine Ev.bind (of_ev n x hf) ?_
 by_cases h:n.any (hasN x)=true
 ·simp only[h,if_true]
  exact Ev.now _
 ·simp only[h,if_false]
  exact Ev.bind (of_ev n _ hf) (Ev.now _)
theorem for_i (n:List Ge)(x:BA)(hf:Fine n):Ev (fun k=>impl_NoticeFor.f k n x) (forG n x):=by
 exact⟨0,fun k _=>if_pos ⟨hf.few,hf.names,hf.rules⟩⟩
theorem told_len (x:BA):∀(n:List Ge)(rs:List Re)(w:Int),(toldF x n rs w).1.length≤rs.length+sumR n
 | [],rs,w=>by simp[toldF,sumR]
 |g::r,rs,w=>by
  have e:sumR (g::r)=g.f1.length+sumR r:=by simp[sumR]
  unfold toldF
  split
  ·have:=told_len x r (rs++g.f1) (mx w g.f2)
   rw[lA_]at this;omega
  ·have:=told_len x r rs w
   omega
theorem fine_nil:Fine []:=⟨by simp,(fun g hg=>by cases hg),by simp[sumR]⟩
end Go.Proofs.YtloijngehifbmaaGreatDoor.Nf
end
section
namespace Go.Proofs.YtloijngehifbmaaGreatDoor.Nn
open Go.RowKit Go.Proofs.YtloijngehifbmaaGreatDoor.P Go.Proofs.YtloijngehifbmaaGreatDoorW PrintWords PrintLast PrintMore Go.Proofs.YtloijngehifbmaaGreatDoor.B Go.Proofs.YtloijngehifbmaaGreatDoor.Ad
def gname (s:BA):Bool:=s.toList==[42]||isName s
theorem impl_small_l (s:BA)(hs:s.size≤140737488351232)(d:Nat):∀(k:Nat)(i:Nat),i+d=s.size→d<k →
  impl_allSmallLetters.l0 k s (i:Int)=some (smallFrom s d i):=by
 induction d with
 |zero=>
  intro k i h hk;obtain⟨k,rfl⟩:∃m,k=m+1:=⟨k-1,by omega⟩;simp only[impl_allSmallLetters.l0,smallFrom];rw[if_neg (by omega)]
 |succ d ih=>
  intro k i h hk;obtain⟨k,rfl⟩:∃m,k=m+1:=⟨k-1,by omega⟩;simp only[impl_allSmallLetters.l0,smallFrom];rw[if_pos (by omega),if_pos (by omega)]
  by_cases h1:bt s i<97
  ·rw[if_pos h1,if_pos h1]
  ·rw[if_neg h1,if_neg h1]
   by_cases h2:bt s i>122
   ·rw[if_pos h2,if_pos h2]
   ·rw[if_neg h2,if_neg h2,w64 (by omega) (by omega)]
    exact ih k (i+1) (by omega) (by omega)
theorem impl_name (s:BA)(hs:s.size≤140737488351232):Ev (fun k=>impl_isName.f k s) (isName s):=by
 unfold impl_isName.f isName isSmall
 by_cases h1:1≤s.size
 ·by_cases h2:s.size≤8
  ·simp only[show(s.size:Int)≥1 from by omega,show(s.size:Int)≤8 from by omega,if_true,h1,h2,decide_true,tA_]
   refine Ev.bind (a:=smallFrom s s.size 0) ?_ (Ev.now _);refine Ev.of (fun k=>impl_allSmallLetters.mono _ k) (k:=s.size+1) ?_;exact impl_small_l s hs s.size (s.size+1) 0 (by omega) (by omega)
  ·simp only[show(s.size:Int)≥1 from by omega,show ¬(s.size:Int)≤8 from by omega,if_true,if_false,h2,decide_false,Bool.and_false,fA_]
   exact Ev.now _
 ·simp only[show ¬(s.size:Int)≥1 from by omega,if_false,h1,decide_false,fA_]
  exact Ev.now _
theorem impl_gname (s:BA)(hs:s.size≤140737488351232):Ev (fun k=>impl_isGroupName.f k s) (gname s):=by
 unfold impl_isGroupName.f gname
 by_cases h:s.toList=([42]:List UInt8)
 ·simp only[h,if_true,beq_self_eq_true,Bool.true_or]
  exact Ev.now _
 ·simp only[h,if_false,bN_.mpr h,Bool.false_or]
  exact Ev.bind (impl_name s hs) (Ev.now _)
end Go.Proofs.YtloijngehifbmaaGreatDoor.Nn
end
section
namespace Go.Proofs.YtloijngehifbmaaGreatDoor.Rn
open Go.RowKit Go.Proofs.YtloijngehifbmaaGreatDoor.P Go.Proofs.YtloijngehifbmaaGreatDoorW PrintWords PrintLast PrintMore Go.Proofs.YtloijngehifbmaaGreatDoor.B Go.Proofs.YtloijngehifbmaaGreatDoor.Ad Go.Proofs.YtloijngehifbmaaGreatDoor.Nn
def numFrom (s:BA):Nat→Nat→Int→Int
 |0,_,n=>n
 |d+1,i,n=>if bt s i<48 then 0 else if bt s i>57 then 0 else numFrom s d (i+1) (mn (wrap64 ((wrap64 (n*10))+(((bt s i)-48)%256))) 20)
def numP (s:BA):Int:=numFrom s s.size 0 0
theorem mn_le (a b:Int):mn a b≤b:=by unfold mn;split <;> omega
theorem num_bound (s:BA):∀(d i:Nat)(n:Int),0≤n→n≤20→0≤numFrom s d i n∧numFrom s d i n≤20
 |0,_,n,h0,h1=>⟨h0,h1⟩
 |d+1,i,n,h0,h1=>by
  unfold numFrom
  by_cases c1:bt s i<48
  ·rw[if_pos c1];omega
  ·rw[if_neg c1]
   by_cases c2:bt s i>57
   ·rw[if_pos c2];omega
   ·rw[if_neg c2]
    have e1:wrap64 (n*10)=n*10:=w64 (by omega) (by omega);have e2:wrap64 (n*10+((bt s i-48)%256))=n*10+((bt s i-48)%256):=w64 (by omega) (by omega);refine num_bound s d (i+1) _ ?_ (mn_le _ _);rw[e1,e2];unfold mn
    split <;> omega
theorem numP_bound (s:BA):0≤numP s∧numP s≤20:=num_bound s _ _ 0 (by omega) (by omega)
theorem num_s (s:BA)(hs:s.size≤140737488351232)(d:Nat):∀(k i:Nat)(n:Int),i+d=s.size→d<k→spec_l2Num.l0 k s 20 n (i:Int)=some (numFrom s d i n):=by
 induction d with
 |zero=>
  intro k i n h hk;obtain⟨k,rfl⟩:∃m,k=m+1:=⟨k-1,by omega⟩;simp only[spec_l2Num.l0,numFrom];rw[if_neg (by omega)]
 |succ d ih=>
  intro k i n h hk;obtain⟨k,rfl⟩:∃m,k=m+1:=⟨k-1,by omega⟩;simp only[spec_l2Num.l0,numFrom];rw[if_pos (by omega),if_pos (by omega)]
  by_cases h1:bt s i<48
  ·rw[if_pos h1,if_pos h1]
  ·rw[if_neg h1,if_neg h1]
   by_cases h2:bt s i>57
   ·rw[if_pos h2,if_pos h2]
   ·rw[if_neg h2,if_neg h2,w64 (n:=(i:Int)+1) (by omega) (by omega)]
    exact ih k (i+1) _ (by omega) (by omega)
theorem num_i (s:BA)(hs:s.size≤140737488351232)(d:Nat):∀(k i:Nat)(n:Int),i+d=s.size→d<k→impl_readWait.l0 k s n (i:Int)=some (numFrom s d i n):=by
 induction d with
 |zero=>
  intro k i n h hk;obtain⟨k,rfl⟩:∃m,k=m+1:=⟨k-1,by omega⟩;simp only[impl_readWait.l0,numFrom];rw[if_neg (by omega)]
 |succ d ih=>
  intro k i n h hk;obtain⟨k,rfl⟩:∃m,k=m+1:=⟨k-1,by omega⟩;simp only[impl_readWait.l0,numFrom];rw[if_pos (by omega),if_pos (by omega)]
  by_cases h1:bt s i<48
  ·rw[if_pos h1,if_pos h1]
  ·rw[if_neg h1,if_neg h1]
   by_cases h2:bt s i>57
   ·rw[if_pos h2,if_pos h2]
   ·rw[if_neg h2,if_neg h2,w64 (n:=(i:Int)+1) (by omega) (by omega)]
    exact ih k (i+1) _ (by omega) (by omega)
theorem num_spec (s:BA)(hs:s.size≤140737488351232):Ev (fun k=>spec_l2Num.f k s 20) (numP s):=
 Ev.of (fun k=>spec_l2Num.mono _ _ k) (k:=s.size+1) (num_s s hs s.size (s.size+1) 0 0 (by omega) (by omega))
theorem num_impl (s:BA)(hs:s.size≤140737488351232):Ev (fun k=>impl_readWait.f k s) (numP s):=
 Ev.of (fun k=>impl_readWait.mono _ k) (k:=s.size+1) (num_i s hs s.size (s.size+1) 0 0 (by omega) (by omega))
def wordRL (x1 x2:BA):Option RL:=
 if x1.toList=([99,97,108,108,101,114]:List UInt8)then(if gname x2=true then some (.caller x2)else none)
 else if x1.toList=([108,101,116]:List UInt8)then(if ruleOk x2=true then some (.rule true x2)else none)
 else if x1.toList=([98,97,114]:List UInt8)then(if ruleOk x2=true then some (.rule false x2)else none)
 else if x1.toList=([119,97,105,116]:List UInt8)then some (.wait (numP x2))
 else none
def lineRL (s:BA):Option RL:=wordRL (cutB 32 s).1 (cutB 32 s).2.1
theorem cut_size (s:BA):(cutB 32 s).2.1.size≤s.size:=by
 have:=(cutL_len (c:=32) (L s)).1;rw[L_size]at this
 show(ofL (cutL 32 (L s)).2.1).size≤_
 rw[←L_size,L_of];omega
theorem word_impl (x1 x2:BA)(hs:x2.size≤140737488351232):Ev (fun k=>impl_readLine.g k x1 x2) (wordRL x1 x2):=by
 unfold impl_readLine.g wordRL
 by_cases c1:x1.toList=([99,97,108,108,101,114]:List UInt8)
 ·simp only[c1,if_true];exact Ev.bind (impl_gname x2 hs) (Ev.now _)
 simp only[c1,if_false]
 by_cases c2:x1.toList=([108,101,116]:List UInt8)
 ·simp only[c2,if_true];exact Ev.bind (ruleOk_impl x2 hs) (Ev.now _)
 simp only[c2,if_false]
 by_cases c3:x1.toList=([98,97,114]:List UInt8)
 ·simp only[c3,if_true];exact Ev.bind (ruleOk_impl x2 hs) (Ev.now _)
 simp only[c3,if_false]
 by_cases c4:x1.toList=([119,97,105,116]:List UInt8)
 ·simp only[c4,if_true];exact Ev.bind (num_impl x2 hs) (Ev.now _)
 simp only[c4,if_false];exact Ev.now _
theorem line_impl (s:BA)(hs:s.size≤1000000000):Ev (fun k=>impl_readLine.f k s) (lineRL s):=by
 unfold impl_readLine.f;rw[cut_i s 32 (by omega)];simp only[oB_];exact word_impl _ _ (by have:=cut_size s;omega)
structure Ok (gs:List Gp)(b:Bool)(n:Nat):Prop where
 few:gs.length≤n
 names:∀g∈gs,g.f0.length≤n
 begun:gs.length≠0→(lastG gs).f1.length≠0→b=true
 form:∀g∈gs,g.f0.length≠0∧g.f1.length≤6∧0≤g.f2∧g.f2≤20∧∀r∈g.f1,ruleOk r.f1=true
theorem last_mem {gs:List Gp}(h:gs.length≠0):lastG gs∈gs:=by
 unfold lastG;rw[gD_,gE_ (by omega)];exact List.getElem_mem _
theorem last_set {gs:List Gp}(h:gs.length≠0)(x:Gp):lastG (gs.set (gs.length-1) x)=x:=by
 unfold lastG;rw[List.length_set,gD_,List.getElem?_set_self (by omega)];rfl
theorem last_app (gs:List Gp)(x:Gp):lastG (gs++[x])=x:=by
 unfold lastG;rw[lA_,List.length_singleton,gD_,List.getElem?_append_right (by omega)];simp
theorem word_good {x1 x2:BA}{x:RL}(h:wordRL x1 x2=some x):match x with|.caller _=>True|.rule _ p=>ruleOk p=true|.wait n=>0≤n∧n≤20:=by
 unfold wordRL at h
 split at h
 ·split at h
  ·obtain rfl:=oJ_ h;trivial
  ·cases h
 ·split at h
  ·split at h
   ·rename_i hr;obtain rfl:=oJ_ h;exact hr
   ·cases h
  ·split at h
   ·split at h
    ·rename_i hr;obtain rfl:=oJ_ h;exact hr
    ·cases h
   ·split at h
    ·obtain rfl:=oJ_ h;exact numP_bound x2
    ·cases h
theorem Ok.set {gs:List Gp}{b b':Bool}{n:Nat}(h:Ok gs b n)(h0:gs.length≠0)(x:Gp)(hx0:x.f0.length≤n+1)(hb:x.f1.length≠0→b'=true)
  (hf:x.f0.length≠0∧x.f1.length≤6∧0≤x.f2∧x.f2≤20∧∀r∈x.f1,ruleOk r.f1=true):Ok (gs.set (gs.length-1) x) b' (n+1):=by
 refine⟨by rw[List.length_set];have:=h.few;omega,fun g hg=>?_,fun _=>by rw[last_set h0];exact hb,fun g hg=>?_⟩
 ·rcases List.mem_or_eq_of_mem_set hg with hg|rfl
  ·have:=h.names g hg;omega
  ·exact hx0
 ·rcases List.mem_or_eq_of_mem_set hg with hg|rfl
  ·exact h.form g hg
  ·exact hf
theorem Ok.up {gs:List Gp}{b:Bool}{n:Nat}(h:Ok gs b n):Ok gs b (n+1):=⟨by have:=h.few;omega,fun g hg=>by have:=h.names g hg;omega,h.begun,h.form⟩
theorem Ok.take {gs:List Gp}{b:Bool}{n:Nat}(h:Ok gs b n){x1 x2:BA}{x:RL}(hx:wordRL x1 x2=some x):Ok (takeF gs b x).1 (takeF gs b x).2 (n+1):=by
 have hg:=word_good hx;have hf:=h.few;cases x with
 |caller y=>
  simp only[takeF]
  by_cases c:b=true∨gs.length=0
  ·simp only[c,if_true]
   refine⟨by rw[lA_,List.length_singleton];omega,fun g hg=>?_,fun _ hl=>by rw[last_app]at hl;simp at hl,fun g hg=>?_⟩
   ·rcases List.mem_append.1 hg with hg|hg
    ·have:=h.names g hg;omega
    ·rw[List.mem_singleton.1 hg];simp
   ·rcases List.mem_append.1 hg with hg|hg
    ·exact h.form g hg
    ·rw[List.mem_singleton.1 hg];simp
  ·simp only[c,if_false]
   have h0:gs.length≠0:=fun e=>c (.inr e)
   have hm:=last_mem h0;have hn:=h.names _ hm;obtain⟨f1,f2,f3,f4,f5⟩:=h.form _ hm;exact h.set h0 _ (by simp only[lA_,List.length_singleton];omega) (fun hl=>h.begun h0 hl) ⟨by simp,f2,f3,f4,f5⟩
 |rule l p=>
  simp only[takeF]
  by_cases h0:gs.length=0
  ·simp only[h0,if_true];exact h.up
  ·simp only[h0,if_false]
   have hm:=last_mem h0;have hn:=h.names _ hm;obtain⟨f1,f2,f3,f4,f5⟩:=h.form _ hm
   by_cases h6:(lastG gs).f1.length<6
   ·simp only[h6,if_true]
    refine h.set h0 _ (show(lastG gs).f0.length≤n+1 by omega) (fun _=>rfl) ⟨f1,by simp only[lA_,List.length_singleton];omega,f3,f4,fun r hr=>?_⟩;rcases List.mem_append.1 hr with hr|hr
    ·exact f5 r hr
    ·rw[List.mem_singleton.1 hr];exact hg
   ·simp only[h6,if_false]
    exact⟨by omega,fun g hg=>by have:=h.names g hg;omega,fun _ _=>rfl,h.form⟩
 |wait m=>
  simp only[takeF]
  by_cases h0:gs.length=0
  ·simp only[h0,if_true];exact h.up
  ·simp only[h0,if_false]
   have hm:=last_mem h0;have hn:=h.names _ hm;obtain⟨f1,f2,f3,f4,f5⟩:=h.form _ hm;exact h.set h0 _ (show(lastG gs).f0.length≤n+1 by omega) (fun _=>rfl) ⟨f1,f2,hg.1,hg.2,f5⟩
def stepRL (gs:List Gp)(b:Bool):Option RL→List Gp×Bool
 |none=>(gs,b)
 |some x=>takeF gs b x
theorem lineName_ev (x1 x2:BA)(hs:x2.size≤140737488351232):Ev (fun k=>lineName k x1 x2) (decide (x1.toList=([99,97,108,108,101,114]:List UInt8))&&gname x2):=by
 unfold lineName gname
 by_cases c1:x1.toList=([99,97,108,108,101,114]:List UInt8)
 ·simp only[c1,if_true,decide_true,tA_]
  by_cases c2:x2.toList=([42]:List UInt8)
  ·simp only[c2,if_true,beq_self_eq_true,Bool.true_or];exact Ev.now _
  ·simp only[c2,if_false,bN_.mpr c2,Bool.false_or];exact name_ev x2 hs
 ·simp only[c1,if_false,decide_false,fA_];exact Ev.now _
theorem lineRule_ev (x1 x2:BA)(m:Nat):Ev (fun k=>lineRule k x1 x2 m) (decide (x1.toList=([108,101,116]:List UInt8)∨x1.toList=([98,97,114]:List UInt8))&&(ruleOk x2&&decide (m<6))):=by
 unfold lineRule
 by_cases c1:x1.toList=([108,101,116]:List UInt8)∨x1.toList=([98,97,114]:List UInt8)
 ·simp only[c1,if_true,decide_true,tA_];exact Ev.bind (ruleOk_spec x2) (Ev.now _)
 ·simp only[c1,if_false,decide_false,fA_];exact Ev.now _
theorem line_spec (x1 x2:BA)(hs:x2.size≤140737488351232)(gs:List Gp)(b:Bool)(n:Nat)(h:Ok gs b n)(hn:n<100000):Ev (fun k=>spec_l2Line.f k gs x1 x2 b) (stepRL gs b (wordRL x1 x2)):=by
 have hf:=h.few;unfold spec_l2Line.f;simp only[show gs.length<1000000 from by omega,if_true];refine Ev.bind (lineName_ev x1 x2 hs) ?_;unfold wordRL
 by_cases c1:x1.toList=([99,97,108,108,101,114]:List UInt8)
 ·have k2:¬(x1.toList=([108,101,116]:List UInt8)∨x1.toList=([98,97,114]:List UInt8)):=by rw[c1];decide
  have k3:¬x1.toList=([119,97,105,116]:List UInt8):=by rw[c1];decide
  simp only[c1,decide_true,tA_,if_true];cases hg:gname x2 with
  |true=>
   simp only[if_true,stepRL,takeF]
   by_cases c:b=true∨gs.length=0
   ·simp only[c,if_true];exact Ev.now _
   ·have h0:gs.length≠0:=fun e=>c (.inr e)
    have hb:b=false:=by cases b <;> simp_all
    have:=h.names _ (last_mem h0);subst hb;simp only[c,if_false,show(lastG gs).f0.length<1000000 from by omega,if_true];exact Ev.now _
  |false=>
   simp only[bF_,if_false,stepRL]
   by_cases h0:gs.length=0
   ·simp only[h0,if_true];exact Ev.now _
   ·simp only[h0,if_false]
    have hr:=lineRule_ev x1 x2 (lastG gs).f1.length;rw[decide_eq_false k2,fA_]at hr;refine Ev.bind hr ?_;rw[c1]at k3;simp only[bF_,if_false,k3];exact Ev.now _
 ·simp only[c1,decide_false,fA_,bF_,if_false]
  by_cases c2:x1.toList=([108,101,116]:List UInt8)∨x1.toList=([98,97,114]:List UInt8)
  ·have k3:¬x1.toList=([119,97,105,116]:List UInt8):=by rcases c2 with c2|c2 <;> (rw[c2];decide)
   have e:(if x1.toList=([108,101,116]:List UInt8)then(if ruleOk x2=true then some (RL.rule true x2)else none)
     else if x1.toList=([98,97,114]:List UInt8)then(if ruleOk x2=true then some (RL.rule false x2)else none)
     else if x1.toList=([119,97,105,116]:List UInt8)then some (RL.wait (numP x2))else none)=(if ruleOk x2=true then some (RL.rule (x1.toList==([108,101,116]:List UInt8)) x2)else none):=by
    by_cases c3:x1.toList=([108,101,116]:List UInt8)
    ·simp only[c3,if_true,beq_self_eq_true]
    ·have c4:x1.toList=([98,97,114]:List UInt8):=c2.resolve_left c3
     simp only[c4,if_true];rw[if_neg (by decide)];rfl
   rw[e]
   by_cases h0:gs.length=0
   ·simp only[h0,if_true]
    cases ruleOk x2 with
    |true=>simp only[if_true,stepRL,takeF,h0];exact Ev.now _
    |false=>simp only[bF_,if_false,stepRL];exact Ev.now _
   ·simp only[h0,if_false]
    have hr:=lineRule_ev x1 x2 (lastG gs).f1.length;rw[decide_eq_true c2,tA_]at hr;refine Ev.bind hr ?_;cases hk:ruleOk x2 with
    |true=>
     simp only[if_true,stepRL,takeF,h0,if_false,tA_]
     by_cases h6:(lastG gs).f1.length<6
     ·simp only[h6,decide_true,if_true];exact Ev.now _
     ·have hb:=h.begun h0 (by omega)
      subst hb;simp only[h6,decide_false,bF_,if_false,k3];exact Ev.now _
    |false=>
     simp only[bF_,if_false,stepRL,fA_,k3];exact Ev.now _
  ·have c3:¬x1.toList=([108,101,116]:List UInt8):=fun e=>c2 (.inl e)
   have c4:¬x1.toList=([98,97,114]:List UInt8):=fun e=>c2 (.inr e)
   simp only[c3,c4,if_false]
   by_cases h0:gs.length=0
   ·simp only[h0,if_true]
    by_cases c5:x1.toList=([119,97,105,116]:List UInt8)
    ·simp only[c5,if_true,stepRL,takeF,h0];exact Ev.now _
    ·simp only[c5,if_false,stepRL];exact Ev.now _
   ·simp only[h0,if_false]
    have hr:=lineRule_ev x1 x2 (lastG gs).f1.length;rw[decide_eq_false c2,fA_]at hr;refine Ev.bind hr ?_;simp only[bF_,if_false]
    by_cases c5:x1.toList=([119,97,105,116]:List UInt8)
    ·simp only[c5,if_true,stepRL,takeF,h0,if_false]
     exact Ev.bind (num_spec x2 hs) (Ev.now _)
    ·simp only[c5,if_false,stepRL];exact Ev.now _
def readRL:List BA→List Gp→Bool→List Gp
 | [],gs,_=>gs
 |s::r,gs,b=>readRL r (stepRL gs b (lineRL s)).1 (stepRL gs b (lineRL s)).2
theorem Ok.step {gs:List Gp}{b:Bool}{n:Nat}(h:Ok gs b n)(s:BA):Ok (stepRL gs b (lineRL s)).1 (stepRL gs b (lineRL s)).2 (n+1):=by
 cases e:lineRL s with
 |none=>exact h.up
 |some x=>exact h.take e
theorem read_ok:∀(ls:List BA)(gs:List Gp)(b:Bool)(n:Nat),Ok gs b n→∃b',Ok (readRL ls gs b) b' (n+ls.length)
 | [],gs,b,n,h=>⟨b,h⟩
 |s::r,gs,b,n,h=>by
  obtain⟨b',hb⟩:=read_ok r _ _ _ (h.step s);exact⟨b',by rw[List.length_cons,show n+(r.length+1)=n+1+r.length from by omega];exact hb⟩
theorem read_spec:∀(ls:List BA)(gs:List Gp)(b:Bool)(n:Nat),Ok gs b n→n+ls.length<100000→(∀s∈ls,s.size≤1000000000)→Ev (fun k=>sLoop k ls gs b) (readRL ls gs b)
 | [],gs,b,n,h,hn,hs=>Ev.now _
 |s::r,gs,b,n,h,hn,hs=>by
  rw[List.length_cons]at hn;have hz:=hs s List.mem_cons_self;have hc:=cut_size s;simp only[sLoop];refine Ev.bind (cut_ev s 32 (by omega)) ?_;refine Ev.bind (line_spec _ _ (by omega) gs b n h (by omega)) ?_;exact read_spec r _ _ (n+1) (h.step s) (by omega) (fun x hx=>hs x (List.mem_cons_of_mem _ hx))
theorem read_impl:∀(ls:List BA)(gs:List Gp)(b:Bool)(n:Nat),Ok gs b n→n+ls.length<100000→(∀s∈ls,s.size≤1000000000)→Ev (fun k=>iLoop k ls gs b) (readRL ls gs b)
 | [],gs,b,n,h,hn,hs=>Ev.now _
 |s::r,gs,b,n,h,hn,hs=>by
  rw[List.length_cons]at hn;have hz:=hs s List.mem_cons_self;have hf:=h.few;have next:=read_impl r _ _ (n+1) (h.step s) (by omega) (fun x hx=>hs x (List.mem_cons_of_mem _ hx));simp only[iLoop,readRL];refine Ev.bind (line_impl s hz) ?_;cases e:lineRL s with
  |none=>rw[e]at next;exact next
  |some x=>
   rw[e]at next;have hl:(lastG gs).f0.length<1000000:=by
    by_cases h0:gs.length=0
    ·have:gs=[]:=List.length_eq_zero_iff.1 h0
     subst this;decide
    ·have:=h.names _ (last_mem h0);omega
   simp only[show gs.length<1000000 from by omega,hl,and_self,if_true];exact next
theorem Ok.none:Ok [] false 0:=⟨lL_ _,(fun g hg=>by cases hg),fun h=>absurd rfl h,(fun g hg=>by cases hg)⟩
def linesOfT (t:BA):List BA:=((splitL 10 (L t)).map ofL).take 40
def noticeOf (t:BA):List Gp:=readRL (linesOfT t) [] false
theorem lines_size (t:BA):∀s∈linesOfT t,s.size≤t.size:=by
 intro s hs;obtain⟨p,hp,rfl⟩:=List.mem_map.1 (List.mem_of_mem_take hs);have:=splitL_mem 10 (L t) p hp;rw[L_size]at this;rw[←L_size,L_of];exact this
theorem lines_few (t:BA):(linesOfT t).length≤40:=by unfold linesOfT;rw[lT_];omega
theorem split_few (t:BA):((splitL 10 (L t)).map ofL).length≤t.size+1:=by
 have:=splitL_len 10 (L t);rw[L_size]at this;rw[List.length_map];exact this
theorem notice_spec (t:BA)(ht:t.size≤100000000):Ev (fun k=>spec_NoticeRead.f k t) (noticeOf t):=by
 unfold spec_NoticeRead.f;have:=split_few t;have h40:=lines_few t;refine Ev.bind (split_ev t 10 (by omega)) ?_;simp only[show((splitL 10 (L t)).map ofL).length≤1000000000 from by omega,if_true];exact read_spec (linesOfT t) [] false 0 Ok.none (by omega) (fun s hs=>by have:=lines_size t s hs;omega)
theorem notice_impl (t:BA)(ht:t.size≤100000000):Ev (fun k=>impl_NoticeRead.f k t) (noticeOf t):=by
 unfold impl_NoticeRead.f;have:=split_few t;have h40:=lines_few t;refine Ev.bind (split_i t 10 (by omega)) ?_;simp only[show((splitL 10 (L t)).map ofL).length≤1000000000 from by omega,if_true];exact read_impl (linesOfT t) [] false 0 Ok.none (by omega) (fun s hs=>by have:=lines_size t s hs;omega)
theorem notice_form (t:BA):∃b,Ok (noticeOf t) b 40:=by
 obtain⟨b,hb⟩:=read_ok (linesOfT t) [] false 0 Ok.none;have h40:=lines_few t;exact⟨b,by have:=hb.few;show(readRL (linesOfT t) [] false).length≤40;omega,(fun g hg=>by have:=hb.names g hg;omega),hb.begun,hb.form⟩
end Go.Proofs.YtloijngehifbmaaGreatDoor.Rn
end
section
namespace Go.Proofs.YtloijngehifbmaaGreatDoor.Wd
open Go.RowKit Go.Proofs.YtloijngehifbmaaGreatDoor.P Go.Proofs.YtloijngehifbmaaGreatDoorW PrintWords PrintLast PrintMore Go.Proofs.YtloijngehifbmaaGreatDoor.B Go.Proofs.YtloijngehifbmaaGreatDoor.Ad
def norm (s:BA):Bool:=(readO s).2.2.2.2&&(textB (readO s).1 (readO s).2.1 (readO s).2.2.1 (readO s).2.2.2.1).toList==s.toList
theorem readAddr_i (s:BA):Ev (fun k=>impl_readAddress.f k s) (if norm s=true then((readO s).1,(readO s).2.1,(readO s).2.2.1,(readO s).2.2.2.1,true)else none5):=by
 unfold impl_readAddress.f;refine Ev.bind (read_i s) ?_;have hF:=fine_read s;obtain⟨q1,q2,q3⟩:=fine_parts hF;unfold norm
 by_cases h:(readO s).2.2.2.2=true
 ·have ht:=text_i (readO s).1 (readO s).2.1 (readO s).2.2.1 (readO s).2.2.2.1 q1 (by omega) (by omega)
  simp only[h,if_true,ht,oB_,tA_]
  by_cases h2:(textB (readO s).1 (readO s).2.1 (readO s).2.2.1 (readO s).2.2.2.1).toList=s.toList
  ·simp only[h2,if_true,beq_self_eq_true]
   exact Ev.now _
  ·simp only[h2,if_false,bN_.mpr h2,bF_]
   exact Ev.now _
 ·have h':(readO s).2.2.2.2=false:=by simpa using h
  simp only[h',fA_,bF_,if_false];exact Ev.now _
theorem isAddr_i (s:BA):Ev (fun k=>impl_isAddress.f k s) (norm s):=by
 unfold impl_isAddress.f;refine Ev.bind (readAddr_i s) ?_
 by_cases h:norm s=true
 ·rw[if_pos h,h];exact Ev.now _
 ·rw[if_neg h]
  have h':norm s=false:=by simpa using h
  rw[h'];exact Ev.now _
theorem norm_s (s:BA)(hs:s.size≤140737488351232):Ev (fun k=>spec_l11Norm.f k s) (norm s):=by
 unfold spec_l11Norm.f;refine Ev.bind (read_ev s hs) ?_;have hF:=fine_read s;obtain⟨q1,q2,q3⟩:=fine_parts hF;unfold norm
 by_cases h:(readO s).2.2.2.2=true
 ·simp only[h,if_true,tA_]
  have ho:addrOk (readO s).1 (readO s).2.1 (readO s).2.2.1 (readO s).2.2.2.1=true:=by
   rcases hF with e|e
   ·rw[e]at h;cases h
   ·exact e.2
  refine Ev.bind (addrText_ev _ _ _ _ q1 (by omega) (by omega)) ?_;unfold addrText;rw[if_pos ho];exact Ev.now _
 ·have h':(readO s).2.2.2.2=false:=by simpa using h
  simp only[h',fA_,bF_,if_false];exact Ev.now _
abbrev Pg:=S57
def pgOk (p:Pg):Bool:=norm p.f0&&decide (p.f1.size≤300)&&decide (0≤p.f3)&&decide (p.f3≤9)&&(p.f2.toList==[]||norm p.f2&&p.f1.toList==[])
theorem pageOk_i (p:Pg):Ev (fun k=>impl_pageOk.f k p.f0 p.f1 p.f2 p.f3) (pgOk p):=by
 unfold impl_pageOk.f pgOk;refine Ev.bind (isAddr_i p.f0) ?_;cases norm p.f0 with
 |false=>simp only[fA_,bF_,if_false];exact Ev.now _
 |true=>
  simp only[if_true,tA_]
  by_cases h1:(p.f1.size:Int)>300
  ·simp only[h1,if_true,show ¬p.f1.size≤300 from by omega,decide_false,fA_];exact Ev.now _
  ·simp only[h1,if_false,show p.f1.size≤300 from by omega,decide_true,tA_]
   by_cases h2:p.f3<0
   ·simp only[h2,if_true,show ¬0≤p.f3 from by omega,decide_false,fA_];exact Ev.now _
   ·simp only[h2,if_false,show 0≤p.f3 from by omega,decide_true,tA_]
    by_cases h3:p.f3>9
    ·simp only[h3,if_true,show ¬p.f3≤9 from by omega,decide_false,fA_];exact Ev.now _
    ·simp only[h3,if_false,show p.f3≤9 from by omega,decide_true,tA_]
     by_cases h4:p.f2.toList=([]:List UInt8)
     ·simp only[h4,if_true,beq_self_eq_true,Bool.true_or];exact Ev.now _
     ·simp only[h4,if_false,bN_.mpr h4,Bool.false_or]
      refine Ev.bind (isAddr_i p.f2) ?_;cases norm p.f2 with
      |false=>simp only[fA_,bF_,if_false];exact Ev.now _
      |true=>simp only[if_true,tA_];exact Ev.now _
theorem pagesOk_i:∀(l:List Pg),(∀p∈l,p.f0.size≤9223372036854775807)→Ev (fun k=>pagesOk k l) (l.all pgOk)
 | [],_=>by simp only[pagesOk,List.all_nil];exact Ev.now _
 |p::r,h=>by
  simp only[pagesOk,h p (List.mem_cons_self ..),if_true,List.all_cons];refine Ev.bind (pageOk_i p) ?_;cases pgOk p with
  |false=>simp only[fA_,bF_,if_false];exact Ev.now _
  |true=>simp only[if_true,tA_];exact pagesOk_i r (fun q hq=>h q (List.mem_cons_of_mem _ hq))
def fresh:List Pg→Bool
 | []=>true
 |p::r=>!(r.any fun q=>decide (q.f0=p.f0))&&fresh r
theorem at_any (a:BA):∀(r:List Pg),(pageAtR a r).isSome=r.any fun q=>decide (q.f0=a)
 | []=>rfl
 |p::r=>by
  unfold pageAtR
  by_cases h:p.f0=a
  ·simp[h]
  ·simp[h,at_any a r]
theorem size_fresh:∀(r:List Pg),Maps.size (mapR r)≤r.length∧(Maps.size (mapR r)=r.length↔fresh r=true)
 | []=>⟨lL_ _,by simp[fresh,mapR,Maps.size]⟩
 |p::r=>by
  obtain⟨h1,h2⟩:=size_fresh r;rw[mapR_size,at_any];unfold fresh;cases hb:(r.any fun q=>decide (q.f0=p.f0))with
  |true=>simp only[if_true,Bool.not_true,fA_,List.length_cons];exact⟨by omega,by constructor <;> intro h <;> first|omega|cases h⟩
  |false=>simp only[bF_,if_false,Bool.not_false,tA_,List.length_cons];exact⟨by omega,by rw[←h2];omega⟩
def worldOk (l:List Pg):Bool:=decide (l.length≤12)&&l.all pgOk&&fresh l.reverse
theorem made_i (l:List Pg)(h:∀p∈l,p.f0.size≤9223372036854775807):Ev (fun k=>(impl_worldOf.f k l).bind fun t=>if t=true then some ((Maps.size (mapD l):Int)==(l.length:Int))else some false) (worldOk l):=by
 unfold impl_worldOf.f worldOk
 by_cases h12:12<l.length
 ·simp only[h12,if_true,oB_,bF_,if_false,show ¬l.length≤12 from by omega,decide_false,fA_]
  exact Ev.now _
 ·simp only[h12,if_false,show l.length≤12 from by omega,decide_true,tA_]
  refine Ev.bind (pagesOk_i l h) ?_;cases l.all pgOk with
  |false=>simp only[bF_,if_false,fA_];exact Ev.now _
  |true=>
   simp only[if_true,tA_];have:=(size_fresh l.reverse).2;rw[List.length_reverse]at this;have e:((Maps.size (mapD l):Int)==(l.length:Int))=fresh l.reverse:=by
    unfold mapD;rw[Bool.eq_iff_iff,←this];simp;omega
   rw[e];exact Ev.now _
theorem made2 (l:List Pg)(h:∀p∈l,p.f0.size≤9223372036854775807):∃b,Ev (fun k=>impl_worldOf.f k l) b∧(b=false→worldOk l=false)∧(b=true→((Maps.size (mapD l):Int)==(l.length:Int))=worldOk l):=by
 obtain⟨K,hK⟩:=made_i l h;obtain⟨b,hb,hb2⟩:=oE_.mp (hK K (lL_ _));refine⟨b,Ev.of (fun k=>impl_worldOf.mono l k) hb,fun e=>?_,fun e=>?_⟩
 ·subst e
  rw[if_neg (by decide)]at hb2;exact(oJ_ hb2).symm
 ·subst e
  rw[if_pos rfl]at hb2;exact oJ_ hb2
theorem rd_pg {l:List Pg}{i:Nat}(h:i<l.length):rd_T57 l (i:Int)=l[i]:=by
 simp[rd_T57,List.getD,gE_ h]
def restOk (l:List Pg):Nat→Nat→Bool
 |0,_=>decide (l.length≤12)
 |d+1,i=>pgOk (rd_T57 l (i:Int)) && !((l.take i).any fun q=>decide (q.f0=(rd_T57 l (i:Int)).f0))&&restOk l d (i+1)
theorem inner_s (l:List Pg)(i:Nat)(hi:i<l.length)(hl:l.length≤1048576)(R:Bool)(hR:Ev (fun k=>spec_WorldOk.l0 k l ((i+1:Nat):Int)) R)(d:Nat):∀(j:Nat),j+d=i →
  Ev (fun k=>spec_WorldOk.l1 k l (i:Int) (j:Int)) (!(((l.take i).drop j).any fun q=>decide (q.f0=(rd_T57 l (i:Int)).f0))&&R):=by
 induction d with
 |zero=>
  intro j hj;obtain rfl:j=i:=by omega
  have w1:wrap64 ((j:Int)+1)=((j+1:Nat):Int):=by rw[w64 (by omega) (by omega)];rfl
  refine Ev_succ ?_;simp only[spec_WorldOk.l1,show ¬((j:Int)<(j:Int))from by omega,if_false];rw[w1,List.drop_of_length_le (by rw[lT_];omega)]
  simpa using hR
 |succ d ih=>
  intro j hj;have hjl:j<l.length:=by omega
  have w1:wrap64 ((j:Int)+1)=((j+1:Nat):Int):=by rw[w64 (by omega) (by omega)];rfl
  have hd:(l.take i).drop j=l[j]::(l.take i).drop (j+1):=by
   rw[dE_ (by rw[lT_];omega)]
   congr 1
   simp
  refine Ev_succ ?_;simp only[spec_WorldOk.l1,show(j:Int)<(i:Int)from by omega,ci_nn j,ci_nn i,show(j:Int)<(l.length:Int)from by omega,show(i:Int)<(l.length:Int)from by omega,if_true];rw[w1,hd,rd_pg hjl,List.any_cons]
  by_cases he:l[j].f0.toList=(rd_T57 l (i:Int)).f0.toList
  ·simp only[he,if_true,decide_eq_true (toList_inj.1 he),Bool.true_or,Bool.not_true,fA_]
   exact Ev.now _
  ·simp only[he,if_false,decide_eq_false (fun e=>he (toList_inj.2 e)),Bool.false_or]
   exact ih (j+1) (by omega)
theorem outer_s (l:List Pg)(hl:l.length≤1048576)(hs:∀p∈l,p.f0.size≤140737488351232∧p.f2.size≤140737488351232)(d:Nat):∀(i:Nat),i+d=l.length→Ev (fun k=>spec_WorldOk.l0 k l (i:Int)) (restOk l d i):=by
 induction d with
 |zero=>
  intro i hi;refine Ev_succ ?_;simp only[spec_WorldOk.l0,show ¬((i:Int)<(l.length:Int))from by omega,if_false,restOk];have e:decide ((l.length:Int)≤12)=decide (l.length≤12):=by rw[Bool.eq_iff_iff];simp;omega
  rw[e];exact Ev.now _
 |succ d ih=>
  intro i hi;have hlt:i<l.length:=by omega
  have hr:=rd_pg hlt;have hm:=hs _ (List.getElem_mem hlt);have stop:Ev (fun k=>spec_WorldOk.j1 k l (i:Int) true) false:=Ev_succ (by simp only[spec_WorldOk.j1,if_true];exact Ev.now _);have go:Ev (fun k=>spec_WorldOk.j1 k l (i:Int) false) (!((l.take i).any fun q=>decide (q.f0=(rd_T57 l (i:Int)).f0))&&restOk l d (i+1)):=by
   refine Ev_succ ?_;simp only[spec_WorldOk.j1,bF_,if_false];have:=inner_s l i hlt hl _ (ih (i+1) (by omega)) i 0 (by omega)
   simpa using this
  unfold restOk pgOk;refine Ev_succ ?_;simp only[spec_WorldOk.l0,show(i:Int)<(l.length:Int)from by omega,ci_nn i,if_true];rw[hr];rw[hr]at go;refine Ev.bind (norm_s _ hm.1) ?_;generalize l[i]=p at go hm ⊢;cases norm p.f0 with
  |false=>simp only[fA_,bF_,if_false];exact stop
  |true=>
   simp only[if_true,tA_]
   by_cases h1:(p.f1.size:Int)>300
   ·simp only[h1,if_true,show ¬p.f1.size≤300 from by omega,decide_false,fA_];exact stop
   ·simp only[h1,if_false,show p.f1.size≤300 from by omega,decide_true,tA_]
    have hin:spec_l6In.f p.f3 0 9=some (decide (0≤p.f3)&&decide (p.f3≤9)):=by
     unfold spec_l6In.f
     by_cases ha:0≤p.f3 <;> by_cases hb:p.f3≤9 <;> simp[ha,hb]
    rw[hin];simp only[oB_]
    by_cases h23:(decide (0≤p.f3)&&decide (p.f3≤9))=true
    ·simp only[h23,if_true,tA_]
     by_cases h4:p.f2.toList=([]:List UInt8)
     ·simp only[h4,if_true,beq_self_eq_true,Bool.true_or,tA_];exact go
     ·simp only[h4,if_false,bN_.mpr h4,Bool.false_or]
      by_cases h5:p.f1.toList=([]:List UInt8)
      ·simp only[h5,if_true,beq_self_eq_true,Bool.and_true]
       refine Ev.bind (norm_s _ hm.2) ?_;cases norm p.f2 with
       |false=>simp only[Bool.not_false,fA_];exact stop
       |true=>simp only[Bool.not_true,tA_];exact go
      ·simp only[h5,if_false,bN_.mpr h5,Bool.and_false,fA_];exact stop
    ·have h23':(decide (0≤p.f3)&&decide (p.f3≤9))=false:=by simpa using h23
     simp only[h23',bF_,if_false,fA_];exact stop
theorem rest_world (l:List Pg)(d:Nat):∀(i:Nat),i+d=l.length→fresh (l.take i).reverse=true→restOk l d i=(decide (l.length≤12)&&(l.drop i).all pgOk&&fresh l.reverse):=by
 induction d with
 |zero=>
  intro i hi hf;obtain rfl:i=l.length:=by omega
  rw[List.take_length]at hf;simp[restOk,hf]
 |succ d ih=>
  intro i hi hf;have hlt:i<l.length:=by omega
  have ht:(l.take (i+1)).reverse=l[i]::(l.take i).reverse:=by
   rw[List.take_succ_eq_append_getElem hlt,List.reverse_append];rfl
  rw[dE_ hlt,List.all_cons];unfold restOk;rw[rd_pg hlt];cases ha:((l.take i).any fun q=>decide (q.f0=l[i].f0))with
  |false=>
   rw[ih (i+1) (by omega) (by rw[ht];unfold fresh;rw[List.any_reverse,ha,hf];rfl)];cases pgOk l[i] <;> simp
  |true=>
   have hn:fresh l.reverse=false:=by
    have e:l.reverse=(l.drop (i+1)).reverse++(l.take (i+1)).reverse:=by rw[←List.reverse_append,List.take_append_drop]
    rw[e,ht];generalize (l.drop (i+1)).reverse=x
    induction x with
    |nil=>simp only[List.nil_append];unfold fresh;rw[List.any_reverse,ha];rfl
    |cons y x ih2=>simp only[List.cons_append];unfold fresh;rw[ih2,Bool.and_false]
   simp[hn]
theorem worldOk_s (l:List Pg)(hl:l.length≤1048576)(hs:∀p∈l,p.f0.size≤140737488351232∧p.f2.size≤140737488351232):Ev (fun k=>spec_WorldOk.f k l) (worldOk l):=by
 unfold spec_WorldOk.f;have h:=outer_s l hl hs l.length 0 (by omega);rw[rest_world l l.length 0 (by omega) (by simp[fresh])]at h;rw[List.drop_zero]at h;exact h
theorem at_find (a:BA):∀(r:List Pg),pageAtR a r=r.find? fun q=>decide (q.f0=a)
 | []=>rfl
 |p::r=>by
  unfold pageAtR
  by_cases h:p.f0=a
  ·simp[h]
  ·simp[h,at_find a r]
theorem fresh_one:∀ {r:List Pg},fresh r=true→∀p∈r,∀q∈r,p.f0=q.f0→p=q
 |x::r,h,p,hp,q,hq,e=>by
  unfold fresh at h;simp only[aE_,Bool.not_eq_true',List.any_eq_false,decide_eq_true_eq]at h;rcases List.mem_cons.1 hp with e1|hp'
  ·rcases List.mem_cons.1 hq with e2|hq'
   ·rw[e1,e2]
   ·exact absurd (by rw[←e,e1]) (h.1 q hq')
  ·rcases List.mem_cons.1 hq with e2|hq'
   ·exact absurd (by rw[e,e2]) (h.1 p hp')
   ·exact fresh_one h.2 p hp' q hq' e
theorem at_first {l:List Pg}(h:fresh l.reverse=true)(a:BA):pageAtR a l.reverse=l.find? fun q=>decide (q.f0=a):=by
 rw[at_find];cases h1:l.reverse.find? fun q=>decide (q.f0=a)with
 |none=>
  symm
  rw[List.find?_eq_none]at h1 ⊢;exact fun x hx=>h1 x (List.mem_reverse.2 hx)
 |some p=>
  have hp:=List.mem_of_find?_eq_some h1;have ep:p.f0=a:=by simpa using List.find?_some h1
  cases h2:l.find? fun q=>decide (q.f0=a)with
  |none=>
   rw[List.find?_eq_none]at h2;exact absurd (decide_eq_true ep) (h2 p (List.mem_reverse.1 hp))
  |some q=>
   have hq:=List.mem_of_find?_eq_some h2;have eq:q.f0=a:=by simpa using List.find?_some h2
   rw[fresh_one h p hp q (List.mem_reverse.2 hq) (ep.trans eq.symm)]
def atO (l:List Pg)(a:BA):BA×BA×BA×Int×Bool:=
 match l.find? fun q=>decide (q.f0=a)with
 |some p=>(p.f0,p.f1,p.f2,p.f3,true)
 |none=>((⟨#[]⟩:BA),(⟨#[]⟩:BA),(⟨#[]⟩:BA),0,false)
theorem at_l (l:List Pg)(hl:l.length≤1048576)(a:BA)(d:Nat):∀(i:Nat),i+d=l.length→Ev (fun k=>spec_l11At.l0 k l a (i:Int)) (atO (l.drop i) a):=by
 induction d with
 |zero=>
  intro i hi;refine Ev_succ ?_;simp only[spec_l11At.l0,show ¬((i:Int)<(l.length:Int))from by omega,if_false];rw[List.drop_of_length_le (by omega)];exact Ev.now _
 |succ d ih=>
  intro i hi;have hlt:i<l.length:=by omega
  have w1:wrap64 ((i:Int)+1)=((i+1:Nat):Int):=by rw[w64 (by omega) (by omega)];rfl
  have next:=ih (i+1) (by omega);refine Ev_succ ?_;simp only[spec_l11At.l0,show(i:Int)<(l.length:Int)from by omega,ci_nn i,if_true];rw[w1,rd_pg hlt,dE_ hlt];generalize l[i]=p at *
  by_cases he:p.f0.toList=a.toList
  ·simp only[he,if_true,atO,List.find?_cons,decide_eq_true (toList_inj.1 he)]
   exact Ev.now _
  ·simp only[he,if_false,atO,List.find?_cons,decide_eq_false (fun e=>he (toList_inj.2 e))]
   exact next
theorem get_s (l:List Pg)(hl:l.length≤1048576)(hf:fresh l.reverse=true)(a:BA)(t:Int)(h0:¬t<0):Ev (fun k=>spec_l11Get.f k l a t) (getF l a t):=by
 unfold getF;rw[at_first hf];have hA:=at_l l hl a l.length 0 (by omega);rw[List.drop_zero]at hA;unfold spec_l11Get.f spec_l11At.f;unfold atO at hA;cases hq:l.find? fun q=>decide (q.f0=a)with
 |none=>
  rw[hq]at hA;refine Ev.bind hA ?_;simp only[bF_,if_false];exact Ev.now _
 |some p=>
  rw[hq]at hA;refine Ev.bind hA ?_;simp only[h0,if_false,if_true]
  by_cases h3:t<p.f3
  ·simp only[h3,if_true];exact Ev.now _
  ·by_cases h2:p.f2.toList=([]:List UInt8)
   ·simp only[h3,if_false,h2,if_true];exact Ev.now _
   ·simp only[h3,if_false,h2];exact Ev.now _
end Go.Proofs.YtloijngehifbmaaGreatDoor.Wd
end
section
namespace Go.Proofs.YtloijngehifbmaaGreatDoor.Wn
open Go.RowKit Go.Proofs.YtloijngehifbmaaGreatDoor.P Go.Proofs.YtloijngehifbmaaGreatDoorW PrintWords PrintLast PrintMore Go.Proofs.YtloijngehifbmaaGreatDoor.B Go.Proofs.YtloijngehifbmaaGreatDoor.Ad Go.Proofs.YtloijngehifbmaaGreatDoor.Wd
theorem sum_le (b:Nat):∀n:List Ge,(∀g∈n,g.f1.length≤b)→sumR n≤n.length*b
 | [],_=>by simp[sumR]
 |g::r,h=>by
  have h1:=h g List.mem_cons_self;have h2:=sum_le b r (fun q hq=>h q (List.mem_cons_of_mem _ hq));have e:sumR (g::r)=g.f1.length+sumR r:=by simp[sumR]
  rw[e,List.length_cons,Nat.succ_mul];omega
theorem fine_of (t:BA):Nf.Fine (Rn.noticeOf t):=by
 obtain⟨b,ho⟩:=Rn.notice_form t;have hfew:=ho.few;refine⟨by omega,fun g hg=>by have:=ho.names g hg;omega,?_⟩;have:=sum_le 6 (Rn.noticeOf t) (fun g hg=>(ho.form g hg).2.1);have:(Rn.noticeOf t).length*6≤40*6:=mR_ _ hfew;omega
def sayG (q:Int×BA)(x:BA):List BA×List Re×Int:=if q.1=1 then Nf.forG (Rn.noticeOf q.2) x else if q.1=3 then barredF x else Nf.forG [] x
theorem say_i (q:Int×BA)(x:BA)(h:q.1=1→q.2.size≤100000000):Ev (fun k=>sayF k q x) (sayG q x):=by
 unfold sayF sayG
 by_cases c1:q.1=1
 ·simp only[c1,if_true]
  exact Ev.bind (Rn.notice_impl _ (h c1)) (Nf.for_i _ x (fine_of _))
 ·simp only[c1,if_false]
  by_cases c3:q.1=3
  ·simp only[c3,if_true];exact Ev.now _
  ·simp only[c3,if_false]
   exact Nf.for_i _ x Nf.fine_nil
theorem say_s (q:Int×BA)(x:BA)(h:q.1=1→q.2.size≤100000000):Ev (fun k=>spec_l11Said.f k q.1 q.2 x) (sayG q x):=by
 unfold spec_l11Said.f sayG
 by_cases c1:q.1=1
 ·simp only[c1,if_true]
  exact Ev.bind (Rn.notice_spec _ (h c1)) (Ev.bind (Nf.for_s _ x (fine_of _)) (Ev.now _))
 ·simp only[c1,if_false]
  by_cases c3:q.1=3
  ·simp only[c3,if_true,spec_l11Barred.f,oB_];exact Ev.now _
  ·simp only[c3,if_false]
   exact Ev.bind (Nf.for_s _ x Nf.fine_nil) (Ev.now _)
def noticeA (h:BA):BA:=((⟨#[47,47]⟩:BA)++h)++(⟨#[47,110,111,116,105,99,101]⟩:BA)
theorem noticeA_size (h:BA):(noticeA h).size=h.size+9:=by
 have e1:(⟨#[47,47]⟩:BA).size=2:=rfl;have e2:(⟨#[47,110,111,116,105,99,101]⟩:BA).size=7:=rfl;unfold noticeA;rw[sA_,sA_,e1,e2];omega
theorem fresh_of {l:List Pg}(h:worldOk l=true):fresh l.reverse=true:=by
 unfold worldOk at h;simp only[aE_]at h;exact h.2
theorem got_size {l:List Pg}(h:worldOk l=true)(a:BA)(t:Int):(getF l a t).1=1→(getF l a t).2.size≤100000000:=by
 unfold worldOk at h;simp only[aE_]at h;unfold getF;rw[at_find];cases hq:l.reverse.find? fun q=>decide (q.f0=a)with
 |none=>intro _;exact Nat.zero_le _
 |some p=>
  have hp:=List.mem_reverse.1 (List.mem_of_find?_eq_some hq);have hk:=List.all_eq_true.1 h.1.2 p hp;unfold pgOk at hk;simp only[aE_,decide_eq_true_eq]at hk;simp only
  split
  ·intro _;exact Nat.zero_le _
  ·split
   ·intro _;exact Nat.zero_le _
   ·split
    ·intro _
     show p.f1.size≤_
     omega
    ·intro hc;cases hc
def noticeW (l:List Pg)(h x:BA):List BA×List Re×Int:=if(worldOk l&&(isHouse h&&isName x))=true then sayG (getF l (noticeA h) 2) x else([],[],0)
theorem noticeW_s (l:List Pg)(hl:l.length≤1048576)(hs:∀p∈l,p.f0.size≤140737488351232∧p.f2.size≤140737488351232)(h x:BA)(hh:h.size≤140737488351232)(hx:x.size≤140737488351232):Ev (fun k=>spec_WorldNotice.f k l h x) (noticeW l h x):=by
 unfold spec_WorldNotice.f noticeW;have none_:Ev (fun k=>spec_WorldNotice.j0 k l h x true) (([]:List BA),([]:List Re),(0:Int)):=by
  refine Ev_succ ?_;simp only[spec_WorldNotice.j0,if_true];exact Ev.now _
 refine Ev.bind (worldOk_s l hl hs) ?_
 by_cases h1:worldOk l=true
 ·simp only[h1,if_true,tA_]
  refine Ev.bind (house_ev h hh) ?_
  by_cases h2:isHouse h=true
  ·simp only[h2,if_true,tA_]
   refine Ev.bind (name_ev x hx) ?_
   by_cases h3:isName x=true
   ·simp only[h3,if_true,Bool.not_true]
    refine Ev_succ ?_;have hd:spec_l11Door.f h=some (noticeA h):=by
     unfold spec_l11Door.f noticeA;rw[if_pos (by omega),if_pos (by omega)]
    simp only[spec_WorldNotice.j0,bF_,if_false,hd,oB_,spec_l11Last.f];have hg:=get_s l hl (fresh_of h1) (noticeA h) 2 (by omega);refine Ev.bind (Ev.bind hg (Ev.now _)) ?_;exact Ev.bind (say_s _ x (got_size h1 _ _)) (Ev.now _)
   ·simp only[h3,bF_,if_false,Bool.not_false]
    exact none_
  ·simp only[h2,bF_,if_false,fA_]
   exact none_
 ·simp only[h1,bF_,if_false,fA_]
  exact none_
theorem said_i (l:List Pg)(h x:BA)(hk:worldOk l=true)(hh:h.size≤140737488351232):Ev (fun k=>saidF k l h x) (sayG (getF l (noticeA h) 2) x):=by
 unfold saidF;have hd:impl_noticeAddr.f h=some (noticeA h):=by
  unfold impl_noticeAddr.f noticeA;rw[if_pos (by omega),if_pos (by omega)]
 have hz:=noticeA_size h;simp only[hd,oB_,show(noticeA h).size≤9223372036854775807 from by omega,if_true];exact say_i _ x (got_size hk _ _)
theorem noticeW_i (l:List Pg)(hs:∀p∈l,p.f0.size≤9223372036854775807)(h x:BA)(hh:h.size≤140737488351232)(hx:x.size≤140737488351232):Ev (fun k=>impl_WorldNotice.f k l h x) (noticeW l h x):=by
 unfold impl_WorldNotice.f noticeW;obtain⟨b,hb,b0,b1⟩:=made2 l hs;refine Ev.bind hb ?_;cases b with
 |false=>
  simp only[b0 rfl,bF_,if_false,fA_];exact Ev.now _
 |true=>
  simp only[if_true,b1 rfl]
  by_cases h1:worldOk l=true
  ·simp only[h1,if_true,tA_]
   refine Ev.bind (house_i h hh) ?_
   by_cases h2:isHouse h=true
   ·simp only[h2,if_true,tA_]
    refine Ev.bind (Nn.impl_name x hx) ?_
    by_cases h3:isName x=true
    ·simp only[h3,if_true]
     exact said_i l h x h1 hh
    ·simp only[h3,bF_,if_false]
     exact Ev.now _
   ·simp only[h2,bF_,if_false,fA_]
    exact Ev.now _
  ·simp only[h1,bF_,if_false,fA_]
   exact Ev.now _
theorem for_len (n:List Ge)(x:BA):(Nf.forG n x).1.length=1∧(Nf.forG n x).2.1.length≤sumR n:=by
 refine⟨rfl,?_⟩;have:=Nf.told_len (askF n x) n [] 0;rw[List.length_nil,Nat.zero_add]at this;exact this
theorem say_len (q:Int×BA)(x:BA):(sayG q x).1.length=1∧(sayG q x).2.1.length≤240:=by
 unfold sayG
 split
 ·obtain⟨a,b⟩:=for_len (Rn.noticeOf q.2) x
  obtain⟨_,ho⟩:=Rn.notice_form q.2;have:=sum_le 6 (Rn.noticeOf q.2) (fun g hg=>(ho.form g hg).2.1);have:(Rn.noticeOf q.2).length*6≤40*6:=mR_ _ ho.few;exact⟨a,by omega⟩
 ·split
  ·exact⟨rfl,by show 1≤240;omega⟩
  ·obtain⟨a,b⟩:=for_len [] x
   exact⟨a,by simp[sumR]at b;rw[b];simp⟩
theorem noticeW_len (l:List Pg)(h x:BA):(noticeW l h x).1.length≤1∧(noticeW l h x).2.1.length≤240:=by
 unfold noticeW
 split
 ·obtain⟨a,b⟩:=say_len (getF l (noticeA h) 2) x
  exact⟨by omega,b⟩
 ·exact⟨by simp,by simp⟩
end Go.Proofs.YtloijngehifbmaaGreatDoor.Wn
end
section
namespace Go.Proofs.YtloijngehifbmaaGreatDoor.Draw
open Go.RowKit Go.Proofs.YtloijngehifbmaaGreatDoor.P Go.Proofs.YtloijngehifbmaaGreatDoorW PrintWords PrintLast PrintMore Go.Proofs.YtloijngehifbmaaGreatDoor.B
structure Code (b:List Int):Prop where
 byte:∀x∈b,0≤x∧x≤255
 short:b.length≤2000
theorem open_some (l0:List Int)(hw:∀x∈l0,(Lit.int .u8 x).wf=true):∃b,spec_l6Open.f l0=some (b,0)∧Code b:=by
 unfold spec_l6Open.f
 by_cases h:(l0.length:Int)>2000
 ·rw[if_pos h,if_pos (by omega)]
  exact⟨_,rfl,fun x hx=>wf_u8 (hw x (List.mem_of_mem_take hx)),by rw[lT_];omega⟩
 ·rw[if_neg h]
  exact⟨_,rfl,fun x hx=>wf_u8 (hw x hx),by omega⟩
theorem pick_one {b:List Int}(hc:Code b)(k:Nat)(p n:Int)(hp:0≤p)(hp2:p≤1000000000000):
  ∃v,spec_l6Rd_pick.f (k+1) b p n=some (v,p+1)∧0≤v∧(1≤n→v<n):=by
 have hl:=hc.short;have e1:wrap64 (p+1)=p+1:=w64 (by omega) (by omega);have e2:wrap64 (p+1-1)=p:=by rw[w64 (by omega) (by omega)];omega
 unfold spec_l6Rd_pick.f;rw[e1]
 by_cases h1:n<1
 ·rw[if_pos h1]
  exact⟨0,by simp[spec_l6Rd_pick.j0],by omega,by omega⟩
 ·rw[if_neg h1]
  simp only[spec_l6Rd_pick.j0,e2]
  by_cases h2:(b.length:Int)=0
  ·rw[if_pos (by simpa using h2)]
   exact⟨0,rfl,by omega,by omega⟩
  ·rw[if_neg (by simpa using h2)]
   by_cases h3:p<(b.length:Int)
   ·rw[if_pos h3,if_pos hp,if_neg (by omega)]
    have hr:=rd_byte hc.byte p;rw[w64 (by omega) (by omega)];exact⟨_,rfl,(tmod_nn hr.1 (by omega)).1,fun _=>(tmod_nn hr.1 (by omega)).2⟩
   ·rw[if_neg h3,if_neg h2]
    have hq:=tmod_nn (a:=p) (b:=(b.length:Int)) hp (by omega);have ew1:wrap64 (p*7)=p*7:=w64 (by omega) (by omega);have ew2:wrap64 (p*7+3)=p*7+3:=w64 (by omega) (by omega);have hq2:=tmod_nn (a:=p*7+3) (b:=(b.length:Int)) (by omega) (by omega);rw[if_pos hq.1,if_pos hq.2,ew1,ew2,if_pos hq2.1,if_pos hq2.2,if_neg (by omega)];have r1:=rd_byte hc.byte (Int.tmod p (b.length:Int));have r2:=rd_byte hc.byte (Int.tmod (p*7+3) (b.length:Int));generalize rd b (Int.tmod p (b.length:Int))=a1 at r1 ⊢;generalize rd b (Int.tmod (p*7+3) (b.length:Int))=a2 at r2 ⊢;have r3:=tdiv_nn (a:=p) (b:=(b.length:Int)) hp (by omega);generalize Int.tdiv p (b.length:Int)=q at r3 ⊢;have s1:wrap64 a1=a1:=w64 (by omega) (by omega);have s2:wrap64 a2=a2:=w64 (by omega) (by omega);have s3:wrap64 (a1*131)=a1*131:=w64 (by omega) (by omega);have s4:wrap64 (a2*1117)=a2*1117:=w64 (by omega) (by omega);have s5:wrap64 (p*29)=p*29:=w64 (by omega) (by omega);have s6:wrap64 q=q:=w64 (by omega) (by omega);have s7:wrap64 (q*53)=q*53:=w64 (by omega) (by omega);have s8:wrap64 (a1*131+a2*1117)=a1*131+a2*1117:=w64 (by omega) (by omega);have s9:wrap64 (a1*131+a2*1117+p*29)=a1*131+a2*1117+p*29:=w64 (by omega) (by omega);have s10:wrap64 (a1*131+a2*1117+p*29+q*53)=a1*131+a2*1117+p*29+q*53:=w64 (by omega) (by omega);simp only[s1,s2,s3,s4,s5,s6,s7,s8,s9,s10];have hX0:0≤a1*131+a2*1117+p*29+q*53:=by omega
    have hX1:a1*131+a2*1117+p*29+q*53<2^62:=by omega
    generalize a1*131+a2*1117+p*29+q*53=X at hX0 hX1 ⊢;have d:=tdiv_nn (a:=X) (b:=64) hX0 (by omega);have s11:wrap64 (Int.tdiv X 64)=Int.tdiv X 64:=w64 (by omega) (by omega);rw[s11];have z:=xor_nn hX0 hX1 d.1 (by omega);exact⟨_,rfl,(tmod_nn z.1 (by omega)).1,fun _=>(tmod_nn z.1 (by omega)).2⟩
theorem pick_ev {b:List Int}(hc:Code b)(p n:Int)(hp:0≤p)(hp2:p≤1000000000000):
  ∃v,Ev (fun k=>spec_l6Rd_pick.f k b p n) (v,p+1)∧0≤v∧(1≤n→v<n):=by
 obtain⟨v,h,h0,h1⟩:=pick_one hc 0 p n hp hp2;exact⟨v,Ev.of (fun k=>spec_l6Rd_pick.mono _ _ _ k) h,h0,h1⟩
theorem of_ev {b:List Int}(hc:Code b)(p:Int)(l:List BA)(hl:l≠[])(hl2:(l.length:Int)<1000000)(hp:0≤p)(hp2:p≤1000000000000):
  ∃s,Ev (fun k=>spec_l6Rd_of.f k b p l) (s,p+1)∧s∈l:=by
 have hpos:0<l.length:=List.length_pos_iff.2 hl;obtain⟨v,h,h0,h1⟩:=pick_ev hc p (l.length:Int) hp hp2;have hv:=h1 (by omega);refine⟨rdOf bE_ l v,Ev.bind h ?_,?_⟩
 ·simp only[h0,hv,if_true]
  exact Ev.now _
 ·unfold rdOf
  have hlt:v.toNat<l.length:=by omega
  rw[gD_,gE_ hlt];exact List.getElem_mem hlt
end Go.Proofs.YtloijngehifbmaaGreatDoor.Draw
end
section
namespace Go.Proofs.YtloijngehifbmaaGreatDoor.Draw
open Go.RowKit Go.Proofs.YtloijngehifbmaaGreatDoor.P Go.Proofs.YtloijngehifbmaaGreatDoorW PrintWords PrintLast PrintMore Go.Proofs.YtloijngehifbmaaGreatDoor.B Go.Proofs.YtloijngehifbmaaGreatDoor.Ad
theorem of_sz {b:List Int}(hc:Code b)(p:Int)(l:List BA)(N:Nat)(hp:0≤p)(hp2:p≤1000000000000)
  (hl:decide (0<l.length∧l.length<1000000)=true) (hN:(l.all fun s=>decide (s.size≤N))=true):
  ∃s,Ev (fun k=>spec_l6Rd_of.f k b p l) (s,p+1)∧s.size≤N:=by
 have h:=of_decide_eq_true hl;obtain⟨s,h1,h2⟩:=of_ev hc p l (List.length_pos_iff.1 h.1) (by omega) hp hp2;exact⟨s,h1,of_decide_eq_true (List.all_eq_true.1 hN s h2)⟩
theorem body_small {ps:List BA}(h:∀q∈ps,q.size≤6):(body ps).size≤7*ps.length+1:=by
 match ps,h with
 | [],_=>decide
 |p::r,h=>
  have key:∀(r:List BA)(acc:BA),(∀q∈r,q.size≤6)→(r.foldl (fun a q=>(a++⟨#[47]⟩)++q) acc).size≤acc.size+7*r.length:=by
   intro r
   induction r with
   |nil=>intro acc _;simp
   |cons q r ih=>
    intro acc h;have:=ih ((acc++⟨#[47]⟩)++q) (fun x hx=>h x (List.mem_cons_of_mem _ hx));have hq:=h q List.mem_cons_self;have h47:(⟨#[47]⟩:BA).size=1:=rfl;rw[List.foldl_cons];rw[sA_,sA_]at this;simp only[List.length_cons];omega
  have:=key r ((⟨#[47]⟩:BA)++p) (fun x hx=>h x (List.mem_cons_of_mem _ hx));have hz:=h p List.mem_cons_self;have hs:((⟨#[47]⟩:BA)++p).size=1+p.size:=by rw[sA_];rfl
  simp only[body,List.length_cons];omega
theorem addrText_small {house:BA}{ps:List BA}(asks:Bool){ask:BA}(hh:house.size≤3)(hs:∀q∈ps,q.size≤6)(hl:ps.length≤2)(ha:ask.size≤4):(addrText house ps asks ask).size≤25:=by
 have hb:=body_small hs;have h63:(⟨#[63]⟩:BA).size=1:=rfl;have h47:(⟨#[47,47]⟩:BA).size=2:=rfl;unfold addrText textB pathB
 split
 ·split
  ·simp only[sA_];omega
  ·simp only[sA_];omega
 ·exact Nat.zero_le _
theorem addr_l {b:List Int}(hc:Code b)(house:BA)(hh:house.size≤3)(d:Nat):∀(p:Int)(parts:List BA),0≤p→p+d≤100000000000→(∀q∈parts,q.size≤6)→parts.length+d≤2 →
  ∃s p',Ev (fun k=>spec_l71Addr.l0 k (d:Int) b p house parts false ⟨#[]⟩) (s,p')∧s.size≤25∧p≤p'∧p'≤p+d+2:=by
 induction d with
 |zero=>
  intro p parts h0 h1 hs hl;have hP:Parts parts:=⟨by omega,fun q hq=>by have:=hs q hq;omega⟩;obtain⟨v,hv,_,_⟩:=pick_ev hc p 8 h0 (by omega)
  by_cases hv0:v=0
  ·obtain⟨ask,ha,hz⟩:=of_sz hc (p+1) ([(⟨#[]⟩:BA),(⟨#[97]⟩:BA),(⟨#[98,37,51,68]⟩:BA)]:List BA) 4 (by omega) (by omega) (by decide) (by decide)
   refine⟨addrText house parts true ask,p+1+1,Ev.step (f:=fun k=>(spec_l6Rd_pick.f k b p 8).bind fun bt=>if bt.1=0 then((spec_l6Rd_of.f k b bt.2 ([(⟨#[]⟩:BA),(⟨#[97]⟩:BA),(⟨#[98,37,51,68]⟩:BA)]:List BA)).bind fun b2=>(spec_AddrText.f k house parts true b2.1).bind fun t=>some (t,b2.2))else(spec_AddrText.f k house parts false ⟨#[]⟩).bind fun t=>some (t,bt.2)) (fun k=>?_) (Ev.bind hv ?_),addrText_small true hh hs (by omega) hz,by omega,by omega⟩
   ·simp only[spec_l71Addr.l0]
    rw[if_neg (by omega)]
   ·simp only[hv0,if_true]
    exact Ev.bind ha (Ev.bind (addrText_ev house parts true ask hP (by omega) (by omega)) (Ev.now _))
  ·refine⟨addrText house parts false ⟨#[]⟩,p+1,Ev.step (f:=fun k=>(spec_l6Rd_pick.f k b p 8).bind fun bt=>if bt.1=0 then((spec_l6Rd_of.f k b bt.2 ([(⟨#[]⟩:BA),(⟨#[97]⟩:BA),(⟨#[98,37,51,68]⟩:BA)]:List BA)).bind fun b2=>(spec_AddrText.f k house parts true b2.1).bind fun t=>some (t,b2.2))else(spec_AddrText.f k house parts false ⟨#[]⟩).bind fun t=>some (t,bt.2)) (fun k=>?_) (Ev.bind hv ?_),addrText_small false hh hs (by omega) (by decide),by omega,by omega⟩
   ·simp only[spec_l71Addr.l0]
    rw[if_neg (by omega)]
   ·simp only[hv0,if_false]
    exact Ev.bind (addrText_ev house parts false ⟨#[]⟩ hP (by decide) (by omega)) (Ev.now _)
 |succ d ih=>
  intro p parts h0 h1 hs hl;obtain⟨q,hq,hz⟩:=of_sz hc p ([(⟨#[97]⟩:BA),(⟨#[98]⟩:BA),(⟨#[99]⟩:BA),(⟨#[110,111,116,105,99,101]⟩:BA)]:List BA) 6 h0 (by omega) (by decide) (by decide);obtain⟨s,p',h,h2,h3,h4⟩:=ih (p+1) (parts++[q]) (by omega) (by omega) (fun x hx=>by
   rcases List.mem_append.1 hx with hx|hx
   ·exact hs x hx
   ·rw[List.mem_singleton.1 hx];exact hz) (by simp;omega)
  refine⟨s,p',Ev.step (f:=fun k=>(spec_l6Rd_of.f k b p ([(⟨#[97]⟩:BA),(⟨#[98]⟩:BA),(⟨#[99]⟩:BA),(⟨#[110,111,116,105,99,101]⟩:BA)]:List BA)).bind fun bt=>spec_l71Addr.l0 k (d:Int) b bt.2 house (parts++[bt.1]) false ⟨#[]⟩) (fun k=>?_) (Ev.bind hq h),h2,by omega,by omega⟩;simp only[spec_l71Addr.l0];rw[if_pos (by omega),show wrap64 (((d+1:Nat):Int)-1)=(d:Int)from by rw[w64 (by omega) (by omega)];omega]
  congr 1
  funext bt
  rw[if_pos (by omega)]
theorem addr_ev {b:List Int}(hc:Code b)(p:Int)(h0:0≤p)(h1:p≤10000000000):∃s p',Ev (fun k=>spec_l71Addr.f k b p) (s,p')∧s.size≤25∧p≤p'∧p'≤p+10:=by
 obtain⟨v,hv,v0,v1⟩:=pick_ev hc p 4 h0 (by omega);have v2:=v1 (by omega);obtain⟨n,hn,n0,n1⟩:=pick_ev hc (p+1) 3 (by omega) (by omega);have n2:=n1 (by omega);obtain⟨m,rfl⟩:=Int.eq_ofNat_of_zero_le n0;have hh:(rdOf bE_ ([(⟨#[97,98]⟩:BA),(⟨#[99,100]⟩:BA),(⟨#[101]⟩:BA),(⟨#[102,111,120]⟩:BA)]:List BA) v).size≤3:=by
  obtain rfl|rfl|rfl|rfl:v=0∨v=1∨v=2∨v=3:=by omega
  all_goals decide
 obtain⟨s,p',h,h2,h3,h4⟩:=addr_l hc _ hh m (p+1+1) [] (by omega) (by omega) (by simp) (by simp;omega);refine⟨s,p',?_,h2,by omega,by omega⟩;unfold spec_l71Addr.f spec_l71Houses.f;simp only[oB_];refine Ev.bind hv ?_;simp only[v0,show v<(([(⟨#[97,98]⟩:BA),(⟨#[99,100]⟩:BA),(⟨#[101]⟩:BA),(⟨#[102,111,120]⟩:BA)]:List BA).length:Int)from by simp;omega,if_true];exact Ev.bind hn h
theorem ref_j {b:List Int}(hc:Code b)(x:Int)(y:Bool)(p:Int)(h0:0≤p)(h1:p≤10000000000):∃s p',Ev (fun k=>spec_l71Ref.j0 k x y b p) (s,p')∧s.size≤25∧p≤p'∧p'≤p+10:=by
 by_cases hy:y=true
 ·obtain⟨s,p',h,h2,h3,h4⟩:=addr_ev hc p h0 h1
  refine⟨s,p',Ev.step (f:=fun k=>(spec_l71Addr.f k b p).bind fun bt=>some (bt.1,bt.2)) (fun k=>?_) (Ev.bind h (Ev.now _)),h2,h3,h4⟩;simp only[spec_l71Ref.j0];rw[if_pos hy]
 by_cases x2:x=2
 ·obtain⟨s,h,hz⟩:=of_sz hc p (([(⟨#[97]⟩:BA),(⟨#[98]⟩:BA),(⟨#[97,47,98]⟩:BA),(⟨#[99,47,46,46,47,98]⟩:BA),(⟨#[]⟩:BA),(⟨#[120,47,46,47,99]⟩:BA)]:List BA)) 9 h0 (by omega) (by decide) (by decide)
  have h47:(⟨#[47]⟩:BA).size=1:=rfl;refine⟨(⟨#[47]⟩:BA)++s,p+1,Ev.step (f:=fun k=>(spec_l6Rd_of.f k b p (([(⟨#[97]⟩:BA),(⟨#[98]⟩:BA),(⟨#[97,47,98]⟩:BA),(⟨#[99,47,46,46,47,98]⟩:BA),(⟨#[]⟩:BA),(⟨#[120,47,46,47,99]⟩:BA)]:List BA))).bind fun bt=>if 1+bt.1.size≤9223372036854775807 then some ((⟨#[47]⟩:BA)++bt.1,bt.2)else none) (fun k=>?_) (Ev.bind h ?_),by rw[sA_];omega,by omega,by omega⟩
  ·simp only[spec_l71Ref.j0]
   rw[if_neg hy,if_pos x2]
  ·simp only[show 1+s.size≤9223372036854775807 from by omega,if_true]
   exact Ev.now _
 by_cases x3:x=3
 ·obtain⟨s,h,hz⟩:=of_sz hc p (([(⟨#[46,46]⟩:BA),(⟨#[46,46,47,99]⟩:BA),(⟨#[46,46,47,46,46,47,46,46]⟩:BA),(⟨#[46]⟩:BA),(⟨#[46,47,97]⟩:BA)]:List BA)) 9 h0 (by omega) (by decide) (by decide)
  refine⟨s,p+1,Ev.step (fun k=>?_) (Ev.bind (f:=fun k bt=>some (bt.1,bt.2)) h (Ev.now _)),by omega,by omega,by omega⟩;simp only[spec_l71Ref.j0];rw[if_neg hy,if_neg x2,if_pos x3]
 by_cases x4:x=4
 ·obtain⟨s,h,hz⟩:=of_sz hc p (([(⟨#[63,97]⟩:BA),(⟨#[63]⟩:BA),(⟨#[35,116,111,112]⟩:BA),(⟨#[]⟩:BA),(⟨#[97,35,98]⟩:BA),(⟨#[98,63,97]⟩:BA)]:List BA)) 9 h0 (by omega) (by decide) (by decide)
  refine⟨s,p+1,Ev.step (fun k=>?_) (Ev.bind (f:=fun k bt=>some (bt.1,bt.2)) h (Ev.now _)),by omega,by omega,by omega⟩;simp only[spec_l71Ref.j0];rw[if_neg hy,if_neg x2,if_neg x3,if_pos x4]
 by_cases x5:x=5
 ·obtain⟨s,h,hz⟩:=of_sz hc p (([(⟨#[47,47,65,66,47,97]⟩:BA),(⟨#[47,47,99,100]⟩:BA),(⟨#[47,47,99,100,63,120]⟩:BA),(⟨#[47,47,97,98,47,37,54,49]⟩:BA),(⟨#[47,47,116,111,111,108,111,110,103,47,97]⟩:BA),(⟨#[47,47,97,49,47,98]⟩:BA),(⟨#[47,47,47,97]⟩:BA)]:List BA)) 20 h0 (by omega) (by decide) (by decide)
  refine⟨s,p+1,Ev.step (fun k=>?_) (Ev.bind (f:=fun k bt=>some (bt.1,bt.2)) h (Ev.now _)),by omega,by omega,by omega⟩;simp only[spec_l71Ref.j0];rw[if_neg hy,if_neg x2,if_neg x3,if_neg x4,if_pos x5]
 ·obtain⟨s,h,hz⟩:=of_sz hc p (([(⟨#[97]⟩:BA),(⟨#[98]⟩:BA),(⟨#[99]⟩:BA),(⟨#[97,47,98]⟩:BA)]:List BA)) 9 h0 (by omega) (by decide) (by decide)
  refine⟨s,p+1,Ev.step (fun k=>?_) (Ev.bind (f:=fun k bt=>some (bt.1,bt.2)) h (Ev.now _)),by omega,by omega,by omega⟩;simp only[spec_l71Ref.j0];rw[if_neg hy,if_neg x2,if_neg x3,if_neg x4,if_neg x5]
theorem ref_ev {b:List Int}(hc:Code b)(p:Int)(h0:0≤p)(h1:p≤1000000000):∃s p',Ev (fun k=>spec_l71Ref.f k b p) (s,p')∧s.size≤25∧p≤p'∧p'≤p+20:=by
 obtain⟨v,hv,v0,v1⟩:=pick_ev hc p 8 h0 (by omega)
 by_cases hv0:v=0
 ·obtain⟨s,p',h,h2,h3,h4⟩:=ref_j hc v (v==0) (p+1) (by omega) (by omega)
  refine⟨s,p',?_,h2,by omega,by omega⟩;unfold spec_l71Ref.f;refine Ev.bind hv ?_;simp only[if_pos hv0];exact h
 ·obtain⟨s,p',h,h2,h3,h4⟩:=ref_j hc v (v==1) (p+1) (by omega) (by omega)
  refine⟨s,p',?_,h2,by omega,by omega⟩;unfold spec_l71Ref.f;refine Ev.bind hv ?_;simp only[if_neg hv0];exact h
theorem page_l {b:List Int}(hc:Code b)(d:Nat):∀(p:Int)(t:BA),0≤p→p+50*d≤1000000000→t.size+60*d≤300 →
  ∃s p',Ev (fun k=>spec_l71Page.l0 k t (d:Int) b p) (s,p')∧s.size≤300∧p≤p'∧p'≤p+50*d:=by
 induction d with
 |zero=>
  intro p t h0 h1 ht;refine⟨t,p,Ev.of (fun k=>spec_l71Page.mono_l k _ _ _ _) (k:=1) ?_,by omega,by omega,by omega⟩;simp only[spec_l71Page.l0];rw[if_neg (by omega)]
 |succ d ih=>
  intro p t h0 h1 ht;have hw:wrap64 (((d+1:Nat):Int)-1)=(d:Int):=by rw[w64 (by omega) (by omega)];omega
  have hpos:((d+1:Nat):Int)>0:=by omega
  obtain⟨v,hv,v0,v1⟩:=pick_ev hc p 9 h0 (by omega);obtain⟨r1,p1,hr1,z1,a1,b1⟩:=ref_ev hc (p+1) (by omega) (by omega);obtain⟨r2,p2,hr2,z2,a2,b2⟩:=ref_ev hc p1 (by omega) (by omega);have s40:(⟨#[40]⟩:BA).size=1:=rfl;have s60:(⟨#[60]⟩:BA).size=1:=rfl;have s62:(⟨#[62]⟩:BA).size=1:=rfl;have s6241:(⟨#[62,41]⟩:BA).size=2:=rfl;have s6033:(⟨#[60,33]⟩:BA).size=2:=rfl;have s6064:(⟨#[60,64]⟩:BA).size=2:=rfl
  by_cases c0:v=0
  ·obtain⟨s,p',h,h2,h3,h4⟩:=ih p2 (((((t++(⟨#[40]⟩:BA))++r1)++(⟨#[60]⟩:BA))++r2)++(⟨#[62,41]⟩:BA)) (by omega) (by omega) (by simp only[sA_];omega)
   refine⟨s,p',Ev_succ ?_,h2,by omega,by omega⟩;simp only[spec_l71Page.l0,hpos,hw,if_true];refine Ev.bind hv ?_;simp only[c0,if_true,show t.size+1≤9223372036854775807 from by omega];refine Ev.bind hr1 ?_;simp only[show t.size+1+r1.size≤9223372036854775807 from by omega,show t.size+1+r1.size+1≤9223372036854775807 from by omega,if_true];refine Ev.bind hr2 ?_;simp only[show t.size+1+r1.size+1+r2.size≤9223372036854775807 from by omega,show t.size+1+r1.size+1+r2.size+2≤9223372036854775807 from by omega,if_true];exact h
  by_cases c1:v=1
  ·obtain⟨s,p',h,h2,h3,h4⟩:=ih p1 (((t++(⟨#[60,33]⟩:BA))++r1)++(⟨#[62]⟩:BA)) (by omega) (by omega) (by simp only[sA_];omega)
   refine⟨s,p',Ev_succ ?_,h2,by omega,by omega⟩;simp only[spec_l71Page.l0,hpos,hw,if_true];refine Ev.bind hv ?_;simp only[c0,c1,if_true,if_false,show t.size+2≤9223372036854775807 from by omega];refine Ev.bind hr1 ?_;simp only[show t.size+2+r1.size≤9223372036854775807 from by omega,show t.size+2+r1.size+1≤9223372036854775807 from by omega,if_true];exact h
  by_cases c2:v=2
  ·obtain⟨s,p',h,h2,h3,h4⟩:=ih p1 (((t++(⟨#[60,64]⟩:BA))++r1)++(⟨#[62]⟩:BA)) (by omega) (by omega) (by simp only[sA_];omega)
   refine⟨s,p',Ev_succ ?_,h2,by omega,by omega⟩;simp only[spec_l71Page.l0,hpos,hw,if_true];refine Ev.bind hv ?_;simp only[c0,c1,c2,if_true,if_false,show t.size+2≤9223372036854775807 from by omega];refine Ev.bind hr1 ?_;simp only[show t.size+2+r1.size≤9223372036854775807 from by omega,show t.size+2+r1.size+1≤9223372036854775807 from by omega,if_true];exact h
  by_cases c3:v=3
  ·obtain⟨q,hq,hz⟩:=of_sz hc (p+1) (([(⟨#[116,101,120,116,32]⟩:BA),(⟨#[60]⟩:BA),(⟨#[62]⟩:BA),(⟨#[40]⟩:BA),(⟨#[41]⟩:BA),(⟨#[60,97]⟩:BA)]:List BA)) 5 (by omega) (by omega) (by decide) (by decide)
   obtain⟨s,p',h,h2,h3,h4⟩:=ih (p+1+1) (t++q) (by omega) (by omega) (by simp only[sA_];omega);refine⟨s,p',Ev_succ ?_,h2,by omega,by omega⟩;simp only[spec_l71Page.l0,hpos,hw,if_true];refine Ev.bind hv ?_;simp only[c0,c1,c2,c3,if_true,if_false];refine Ev.bind hq ?_;simp only[show t.size+q.size≤9223372036854775807 from by omega,if_true];exact h
  ·obtain⟨s,p',h,h2,h3,h4⟩:=ih p1 (((t++(⟨#[60]⟩:BA))++r1)++(⟨#[62]⟩:BA)) (by omega) (by omega) (by simp only[sA_];omega)
   refine⟨s,p',Ev_succ ?_,h2,by omega,by omega⟩;simp only[spec_l71Page.l0,hpos,hw,if_true];refine Ev.bind hv ?_;simp only[c0,c1,c2,c3,if_true,if_false,show t.size+1≤9223372036854775807 from by omega];refine Ev.bind hr1 ?_;simp only[show t.size+1+r1.size≤9223372036854775807 from by omega,show t.size+1+r1.size+1≤9223372036854775807 from by omega,if_true];exact h
theorem page_ev {b:List Int}(hc:Code b)(p:Int)(h0:0≤p)(h1:p≤100000000):∃s p',Ev (fun k=>spec_l71Page.f k b p) (s,p')∧s.size≤300∧p≤p'∧p'≤p+300:=by
 obtain⟨v,hv,v0,v1⟩:=pick_ev hc p 5 h0 (by omega);have v2:=v1 (by omega);obtain⟨n,rfl⟩:=Int.eq_ofNat_of_zero_le v0;obtain⟨s,p',h,h2,h3,h4⟩:=page_l hc n (p+1) ⟨#[]⟩ (by omega) (by omega) (by have:(⟨#[]⟩:BA).size=0:=rfl;omega);refine⟨s,p',?_,h2,by omega,by omega⟩;unfold spec_l71Page.f;exact Ev.bind hv h
abbrev SRd:=S93
theorem rule_ev {b:List Int}(hc:Code b)(p:Int)(h0:0≤p)(h1:p≤10000000000):∃s,Ev (fun k=>spec_l71Rule.f k b p) (s,p+1)∧s.size≤7:=by
 obtain⟨s,hs,hz⟩:=of_sz hc p (([(⟨#[47]⟩:BA),(⟨#[47,97]⟩:BA),(⟨#[47,98]⟩:BA),(⟨#[47,97,47]⟩:BA),(⟨#[47,42,98]⟩:BA),(⟨#[47,97,36]⟩:BA),(⟨#[47,99]⟩:BA),(⟨#[47,42,63]⟩:BA),(⟨#[47,97,47,98]⟩:BA),(⟨#[47,42,47,98,36]⟩:BA),(⟨#[47,36]⟩:BA),(⟨#[47,98,42,99]⟩:BA),(⟨#[47,110,111,116,105,99,101]⟩:BA),(⟨#[47,42]⟩:BA)]:List BA)) 7 h0 (by omega) (by decide) (by decide);exact⟨s,Ev.bind hs (Ev.now _),hz⟩
theorem rules_l {b:List Int}(hc:Code b)(d:Nat):∀(p:Int)(rs:List SRd),0≤p→p+2*d≤10000000000→rs.length+d≤1000→(∀r∈rs,r.f1.size≤7) →
  ∃x p',Ev (fun k=>spec_l71Rules.l0 k rs (d:Int) b p) (x,p')∧x.length≤rs.length+d∧(∀r∈x,r.f1.size≤7)∧p≤p'∧p'≤p+2*d:=by
 induction d with
 |zero=>
  intro p rs h0 h1 h2 h3;refine⟨rs,p,Ev_succ ?_,by omega,h3,by omega,by omega⟩;have n1:¬(((0:Nat):Int)>0):=by omega
  simp only[spec_l71Rules.l0,n1,if_false];exact Ev.now _
 |succ d ih=>
  intro p rs h0 h1 h2 h3;obtain⟨v,hv,_,_⟩:=pick_ev hc p 2 h0 (by omega);obtain⟨s,hs,hz⟩:=rule_ev hc (p+1) (by omega) (by omega);obtain⟨x,p',hx,g1,g2,g3,g4⟩:=ih (p+1+1) (rs++[⟨(v==0),s⟩]) (by omega) (by omega) (by simp;omega) (fun r hr=>by
   rcases List.mem_append.1 hr with h|h
   ·exact h3 r h
   ·rw[List.mem_singleton.1 h];exact hz)
  refine⟨x,p',Ev_succ ?_,by simp only[lA_,List.length_singleton]at g1;omega,g2,by omega,by omega⟩;have n1:(((d+1:Nat):Int)>0):=by omega
  have e1:wrap64 (((d+1:Nat):Int)-1)=(d:Int):=by rw[w64 (by omega) (by omega)];omega
  have n2:rs.length<5864062014805:=by omega
  simp only[spec_l71Rules.l0,n1,if_true,e1,n2];exact Ev.bind hv (Ev.bind hs hx)
theorem rules_ev {b:List Int}(hc:Code b)(p:Int)(h0:0≤p)(h1:p≤1000000000):∃x p',Ev (fun k=>spec_l71Rules.f k b p) (x,p')∧x.length≤4∧(∀r∈x,r.f1.size≤7)∧p≤p'∧p'≤p+20:=by
 obtain⟨v,hv,v0,v1⟩:=pick_ev hc p 5 h0 (by omega);have v2:=v1 (by omega);obtain⟨m,rfl⟩:=Int.eq_ofNat_of_zero_le v0;obtain⟨x,p',hx,g1,g2,g3,g4⟩:=rules_l hc m (p+1) [] (by omega) (by omega) (by simp;omega) (by simp);exact⟨x,p',Ev.bind hv hx,by simp only[List.length_nil]at g1;omega,g2,by omega,by omega⟩
abbrev SGd:=S32
def Gd (g:SGd):Prop:=g.f0.length≤2∧(∀n∈g.f0,n.size≤6)∧g.f1.length≤4∧(∀r∈g.f1,r.f1.size≤7)∧0≤g.f2∧g.f2≤6
theorem gd_app {x:List SGd}{g:SGd}(h:∀q∈x,Gd q)(hg:Gd g):∀q∈x++[g],Gd q:=by
 intro q hq;rcases List.mem_append.1 hq with hq|hq
 ·exact h q hq
 ·rw[List.mem_singleton.1 hq];exact hg
theorem groups_l {b:List Int}(hc:Code b)(d:Nat):∀(p:Int)(x:List SGd),0≤p→p+100*d+10≤100000000→x.length+d≤10→(∀g∈x,Gd g) →
  ∃y p',Ev (fun k=>spec_l71Groups.l0 k x (d:Int) b p) (y,p')∧y.length≤x.length+d+1∧(∀g∈y,Gd g)∧p≤p'∧p'≤p+100*d+10:=by
 induction d with
 |zero=>
  intro p x h0 h1 hl hx;obtain⟨v,hv,v0,v1⟩:=pick_ev hc p 24 h0 (by omega);have hl':x.length<2513169434916:=by omega
  have n0:¬(((0:Nat):Int)>0):=by omega
  by_cases c0:v=0
  ·refine⟨x++[⟨[(⟨#[120]⟩:BA)],[],0⟩],p+1,Ev_succ ?_,by simp,gd_app hx ⟨by decide,by decide,by decide,by simp,by decide,by decide⟩,by omega,by omega⟩
   simp only[spec_l71Groups.l0,n0,if_false];refine Ev.bind hv ?_;simp only[c0,if_true,hl'];exact Ev.now _
  by_cases c1:v=1
  ·refine⟨x++[⟨[],[],2⟩],p+1,Ev_succ ?_,by simp,gd_app hx ⟨by decide,by simp,by decide,by simp,by decide,by decide⟩,by omega,by omega⟩
   simp only[spec_l71Groups.l0,n0,if_false];refine Ev.bind hv ?_;simp only[c0,c1,if_true,if_false,hl'];exact Ev.now _
  by_cases c2:v=2
  ·refine⟨x++[⟨[(⟨#[88]⟩:BA)],[],2⟩],p+1,Ev_succ ?_,by simp,gd_app hx ⟨by decide,by decide,by decide,by simp,by decide,by decide⟩,by omega,by omega⟩
   simp only[spec_l71Groups.l0,n0,if_false];refine Ev.bind hv ?_;simp only[c0,c1,c2,if_true,if_false,hl'];exact Ev.now _
  ·refine⟨x,p+1,Ev_succ ?_,by omega,hx,by omega,by omega⟩
   simp only[spec_l71Groups.l0,n0,if_false];refine Ev.bind hv ?_;simp only[c0,c1,c2,if_false];exact Ev.now _
 |succ d ih=>
  intro p x h0 h1 hl hx;have hl':x.length<2513169434916:=by omega
  have n1:(((d+1:Nat):Int)>0):=by omega
  have e1:wrap64 (((d+1:Nat):Int)-1)=(d:Int):=by rw[w64 (by omega) (by omega)];omega
  obtain⟨s,hs,hz⟩:=of_sz hc p ([(⟨#[42]⟩:BA),(⟨#[114,111,118,101,114]⟩:BA),(⟨#[115,99,111,117,116]⟩:BA)]:List BA) 6 h0 (by omega) (by decide) (by decide);obtain⟨rs,p1,hr,r1,r2,a1,b1⟩:=rules_ev hc (p+1) (by omega) (by omega);obtain⟨v,hv,v0,v1⟩:=pick_ev hc p1 4 (by omega) (by omega);obtain⟨u,hu,u0,u1⟩:=pick_ev hc (p1+1) 3 (by omega) (by omega);obtain⟨t,ht,t0,t1⟩:=pick_ev hc (p1+1+1) 4 (by omega) (by omega);have v2:=v1 (by omega);have u2:=u1 (by omega);have hm:0≤v*u∧v*u≤6:=by
   obtain rfl|rfl|rfl:u=0∨u=1∨u=2:=by omega
   all_goals omega
  have hw:wrap64 (v*u)=v*u:=w64 (by omega) (by omega);have tail:∀(ns:List BA)(q:Int),ns.length≤2→(∀n∈ns,n.size≤6)→0≤q→q≤p+40 →
    ∃y p',Ev (fun k=>if(rs.length:Int)>0 then(if x.length<2513169434916 then(spec_l71Groups.l0 k (x++[(⟨ns,rs,wrap64 (v*u)⟩:SGd)]) (wrap64 (((d+1:Nat):Int)-1)) b q)else none)else(if wrap64 (v*u)>0 then(if x.length<2513169434916 then(spec_l71Groups.l0 k (x++[(⟨ns,rs,wrap64 (v*u)⟩:SGd)]) (wrap64 (((d+1:Nat):Int)-1)) b q)else none)else(spec_l71Groups.l0 k x (wrap64 (((d+1:Nat):Int)-1)) b q))) (y,p')∧y.length≤x.length+(d+1)+1∧(∀g∈y,Gd g)∧q≤p'∧p'≤q+100*d+10:=by
   intro ns q k1 k2 q0 q1;rw[hw,e1];have hg:Gd ⟨ns,rs,v*u⟩:=⟨k1,k2,r1,r2,hm.1,hm.2⟩;obtain⟨y,p',g1,g2,g3,g4,g5⟩:=ih q (x++[⟨ns,rs,v*u⟩]) q0 (by omega) (by simp;omega) (gd_app hx hg);obtain⟨y2,p2',f1,f2,f3,f4,f5⟩:=ih q x q0 (by omega) (by omega) hx;rw[lA_,List.length_singleton]at g2
   by_cases c:(rs.length:Int)>0
   ·refine⟨y,p',?_,by omega,g3,g4,g5⟩
    simp only[c,if_true,hl'];exact g1
   ·by_cases c2:v*u>0
    ·refine⟨y,p',?_,by omega,g3,g4,g5⟩
     simp only[c,c2,if_true,if_false,hl'];exact g1
    ·refine⟨y2,p2',?_,by omega,f3,f4,f5⟩
     simp only[c,c2,if_false];exact f1
  by_cases c:t=0
  ·obtain⟨s2,hs2,hz2⟩:=of_sz hc (p1+1+1+1) ([(⟨#[42]⟩:BA),(⟨#[114,111,118,101,114]⟩:BA),(⟨#[120]⟩:BA)]:List BA) 6 (by omega) (by omega) (by decide) (by decide)
   obtain⟨y,p',g1,g2,g3,g4,g5⟩:=tail [s,s2] (p1+1+1+1+1) (by simp) (by simp[hz,hz2]) (by omega) (by omega);refine⟨y,p',Ev_succ ?_,g2,g3,by omega,by omega⟩;simp only[spec_l71Groups.l0,n1,if_true];refine Ev.bind hs ?_;simp only[oB_];refine Ev.bind hr (Ev.bind hv (Ev.bind hu (Ev.bind ht ?_)));simp only[c,if_true];refine Ev.bind hs2 ?_;simp only[List.length_singleton,show(1:Nat)<8796093022208 from by omega,if_true,oB_,List.singleton_append];exact g1
  ·obtain⟨y,p',g1,g2,g3,g4,g5⟩:=tail [s] (p1+1+1+1) (by simp) (by simp[hz]) (by omega) (by omega)
   refine⟨y,p',Ev_succ ?_,g2,g3,by omega,by omega⟩;simp only[spec_l71Groups.l0,n1,if_true];refine Ev.bind hs ?_;simp only[oB_];refine Ev.bind hr (Ev.bind hv (Ev.bind hu (Ev.bind ht ?_)));simp only[c,if_false];exact g1
theorem groups_ev {b:List Int}(hc:Code b)(p:Int)(h0:0≤p)(h1:p≤10000000):∃y p',Ev (fun k=>spec_l71Groups.f k b p) (y,p')∧y.length≤4∧(∀g∈y,Gd g)∧p≤p'∧p'≤p+400:=by
 obtain⟨v,hv,v0,v1⟩:=pick_ev hc p 4 h0 (by omega);have v2:=v1 (by omega);obtain⟨m,rfl⟩:=Int.eq_ofNat_of_zero_le v0;obtain⟨y,p',g1,g2,g3,g4,g5⟩:=groups_l hc m (p+1) [] (by omega) (by omega) (by simp;omega) (by simp);exact⟨y,p',Ev.bind hv g1,by simp only[List.length_nil]at g2;omega,g3,by omega,by omega⟩
end Go.Proofs.YtloijngehifbmaaGreatDoor.Draw
end
section
namespace Go.Proofs.YtloijngehifbmaaGreatDoor.Nt
open Go.RowKit Go.Proofs.YtloijngehifbmaaGreatDoor.P Go.Proofs.YtloijngehifbmaaGreatDoorW PrintWords PrintLast PrintMore Go.Proofs.YtloijngehifbmaaGreatDoor.B Go.Proofs.YtloijngehifbmaaGreatDoor.Ad
abbrev Gp:=S32
abbrev Ru:=S93
structure Sm (n:List Gp):Prop where
 few:n.length≤1048576
 names:∀g∈n,g.f0.length≤1048576∧∀s∈g.f0,s.size≤1048576
 rules:∀g∈n,g.f1.length≤1048576
def gname (s:BA):Bool:=s.toList==[42]||isName s
def groupOk (g:Gp):Bool:=decide (g.f0.length≠0)&&(decide (g.f1.length≠0)||decide (g.f2≠0))&&decide (g.f1.length≤6)&&(decide (0≤g.f2)&&decide (g.f2≤20))&&g.f0.all gname&&g.f1.all fun r=>ruleOk r.f1
def linesOf (n:List Gp):Nat:=(n.map fun g=>g.f0.length+g.f1.length+1).sum
def noticeOk (n:List Gp):Bool:=n.all groupOk&&decide (linesOf n≤40)
theorem rd_gp {l:List Gp}{i:Nat}(h:i<l.length):rd_T32 l (i:Int)=l[i]:=by
 simp[rd_T32,List.getD,gE_ h]
theorem rd_ru {l:List Ru}{i:Nat}(h:i<l.length):rd_T93 l (i:Int)=l[i]:=by
 simp[rd_T93,List.getD,gE_ h]
theorem Sm.get {n:List Gp}(h:Sm n){i:Nat}(hi:i<n.length):n[i].f0.length≤1048576∧(∀s∈n[i].f0,s.size≤1048576)∧n[i].f1.length≤1048576:=
 ⟨(h.names _ (List.getElem_mem hi)).1,(h.names _ (List.getElem_mem hi)).2,h.rules _ (List.getElem_mem hi)⟩
theorem ok_rules (n:List Gp)(ns:List BA)(rs:List Ru)(wt:Int)(hn:ns.length≤1048576)(hr:rs.length≤1048576)(c i:Nat)(hc:c≤1000000000000000)(hi:i≤1048576)(R:Bool)
  (hR:Ev (fun k=>spec_NoticeOk.l0 k n ((c+(ns.length+rs.length+1):Nat):Int) ((i+1:Nat):Int)) R) (d:Nat):∀j,j+d=rs.length →
  Ev (fun k=>spec_NoticeOk.l2 k n (c:Int) (i:Int) (j:Int) ns rs wt) (((rs.drop j).all fun r=>ruleOk r.f1)&&R):=by
 induction d with
 |zero=>
  intro j hj;have e1:wrap64 ((c:Int)+(ns.length:Int))=((c+ns.length:Nat):Int):=by rw[w64 (by omega) (by omega)];omega
  have e2:wrap64 (((c+ns.length:Nat):Int)+(rs.length:Int))=((c+ns.length+rs.length:Nat):Int):=by rw[w64 (by omega) (by omega)];omega
  have e3:wrap64 (((c+ns.length+rs.length:Nat):Int)+1)=((c+(ns.length+rs.length+1):Nat):Int):=by rw[w64 (by omega) (by omega)];omega
  have e4:wrap64 ((i:Int)+1)=((i+1:Nat):Int):=by rw[w64 (by omega) (by omega)];rfl
  refine Ev_succ ?_;simp only[spec_NoticeOk.l2,show ¬((j:Int)<(rs.length:Int))from by omega,if_false];rw[e1,e2,e3,e4,List.drop_of_length_le (by omega)]
  simpa using hR
 |succ d ih=>
  intro j hj;have hlt:j<rs.length:=by omega
  have e4:wrap64 ((j:Int)+1)=((j+1:Nat):Int):=by rw[w64 (by omega) (by omega)];rfl
  refine Ev_succ ?_;simp only[spec_NoticeOk.l2,show(j:Int)<(rs.length:Int)from by omega,show(0:Int)≤(j:Int)from by omega,if_true];rw[rd_ru hlt,e4,dE_ hlt,List.all_cons];refine Ev.bind (ruleOk_spec _) ?_;cases ruleOk rs[j].f1 with
  |true=>simp only[if_true,tA_];exact ih (j+1) (by omega)
  |false=>simp only[bF_,if_false,fA_];exact Ev.now _
theorem ok_names (n:List Gp)(ns:List BA)(rs:List Ru)(wt:Int)(hn:ns.length≤1048576)(hs:∀s∈ns,s.size≤1048576)(c i:Nat)(R:Bool)
  (hR:Ev (fun k=>spec_NoticeOk.l2 k n (c:Int) (i:Int) 0 ns rs wt) R) (d:Nat):∀j,j+d=ns.length →
  Ev (fun k=>spec_NoticeOk.l1 k n (c:Int) (i:Int) (j:Int) ns rs wt) ((ns.drop j).all gname&&R):=by
 induction d with
 |zero=>
  intro j hj;refine Ev_succ ?_;simp only[spec_NoticeOk.l1,show ¬((j:Int)<(ns.length:Int))from by omega,if_false];rw[List.drop_of_length_le (by omega)]
  simpa using hR
 |succ d ih=>
  intro j hj;have hlt:j<ns.length:=by omega
  have e4:wrap64 ((j:Int)+1)=((j+1:Nat):Int):=by rw[w64 (by omega) (by omega)];rfl
  refine Ev_succ ?_;simp only[spec_NoticeOk.l1,show(j:Int)<(ns.length:Int)from by omega,show(0:Int)≤(j:Int)from by omega,if_true];rw[rd_at hlt,e4,dE_ hlt,List.all_cons];have next:=ih (j+1) (by omega);have hz:=hs _ (List.getElem_mem hlt);unfold gname at next ⊢
  by_cases h42:ns[j].toList=([42]:List UInt8)
  ·simp only[h42,if_true,beq_self_eq_true,Bool.true_or,tA_];exact next
  ·simp only[h42,if_false,bN_.mpr h42,Bool.false_or]
   refine Ev.bind (name_ev _ (by omega)) ?_;cases isName ns[j]with
   |true=>simp only[if_true,tA_];exact next
   |false=>simp only[bF_,if_false,fA_];exact Ev.now _
theorem l6In_some (x lo hi:Int):spec_l6In.f x lo hi=some (decide (lo≤x)&&decide (x≤hi)):=by
 unfold spec_l6In.f
 by_cases h:x≥lo
 ·simp[h]
 ·simp[h]
theorem ok_outer (n:List Gp)(hn:Sm n)(d:Nat):∀(i c:Nat),i+d=n.length→c≤2097153*i →
  Ev (fun k=>spec_NoticeOk.l0 k n (c:Int) (i:Int)) ((n.drop i).all groupOk&&decide (c+linesOf (n.drop i)≤40)):=by
 have hf:=hn.few
 induction d with
 |zero=>
  intro i c hi hc;refine Ev_succ ?_;simp only[spec_NoticeOk.l0,show ¬((i:Int)<(n.length:Int))from by omega,if_false];rw[List.drop_of_length_le (by omega)];simp only[List.all_nil,tA_,linesOf,List.map_nil,List.sum_nil,Nat.add_zero];rw[show(decide (c≤40))=decide ((c:Int)≤40)from by simp;omega];exact Ev.now _
 |succ d ih=>
  intro i c hi hc;have hlt:i<n.length:=by omega
  obtain⟨s1,s2,s3⟩:=hn.get hlt;have next:=ih (i+1) (c+(n[i].f0.length+n[i].f1.length+1)) (by omega) (by omega);rw[dE_ hlt,List.all_cons];have hL:linesOf (n[i]::n.drop (i+1))=(n[i].f0.length+n[i].f1.length+1)+linesOf (n.drop (i+1)):=by unfold linesOf;rw[List.map_cons,List.sum_cons]
  rw[hL];rw[show c+(n[i].f0.length+n[i].f1.length+1)+linesOf (n.drop (i+1))=c+((n[i].f0.length+n[i].f1.length+1)+linesOf (n.drop (i+1)))from by omega]at next;generalize decide (c+((n[i].f0.length+n[i].f1.length+1)+linesOf (n.drop (i+1)))≤40)=D at next ⊢;generalize (n.drop (i+1)).all groupOk=E at next ⊢;refine Ev_succ ?_;simp only[spec_NoticeOk.l0,show(i:Int)<(n.length:Int)from by omega,show(0:Int)≤(i:Int)from by omega,if_true];rw[rd_gp hlt];generalize n[i]=g at *
  obtain⟨ns,rs,wt⟩:=g;simp only at s1 s2 s3 next ⊢;have go:Ev (fun k=>spec_NoticeOk.j1 k n (c:Int) (i:Int) false ns rs wt) (ns.all gname&&((rs.all fun r=>ruleOk r.f1)&&(E&&D))):=by
   refine Ev_succ ?_;simp only[spec_NoticeOk.j1,bF_,if_false];have h2:=ok_rules n ns rs wt s1 s3 c i (by omega) (by omega) _ next rs.length 0 (by omega);rw[List.drop_zero]at h2;have h1:=ok_names n ns rs wt s1 s2 c i _ h2 ns.length 0 (by omega);rw[List.drop_zero]at h1;exact h1
  have stop:Ev (fun k=>spec_NoticeOk.j1 k n (c:Int) (i:Int) true ns rs wt) false:=Ev_succ (by simp only[spec_NoticeOk.j1,if_true];exact Ev.now _);unfold groupOk;simp only
  by_cases h0:ns.length=0
  ·simp only[show((ns.length:Int)=0)from by omega,if_true,h0,ne_eq,not_true,decide_false,fA_];exact stop
  ·simp only[show ¬((ns.length:Int)=0)from by omega,if_false,h0,ne_eq,not_false_iff,decide_true,tA_]
   have tail:Ev (fun k=>if(rs.length:Int)>6 then(spec_NoticeOk.j1 k n (c:Int) (i:Int) true ns rs wt)else((spec_l6In.f wt 0 20).bind fun t=>(spec_NoticeOk.j1 k n (c:Int) (i:Int) (!t) ns rs wt)))
     ((decide (rs.length≤6)&&(decide (0≤wt)&&decide (wt≤20))&&ns.all gname&&rs.all fun r=>ruleOk r.f1)&&E&&D):=by
    by_cases h6:rs.length≤6
    ·simp only[show ¬((rs.length:Int)>6)from by omega,if_false,h6,decide_true,tA_,l6In_some,oB_]
     cases (decide (0≤wt)&&decide (wt≤20))with
     |true=>simp only[Bool.not_true,tA_];simpa [Bool.and_assoc]using go
     |false=>simp only[Bool.not_false,fA_];exact stop
    ·simp only[show((rs.length:Int)>6)from by omega,if_true,h6,decide_false,fA_];exact stop
   by_cases h1:rs.length=0
   ·have b1:decide (rs.length≠0)=false:=by simp[h1]
    have i1:(rs.length:Int)=0:=by omega
    rw[show decide (¬rs.length=0)=false from b1]
    by_cases hw:wt=0
    ·subst hw
     simp only[i1,if_true,not_true,decide_false,Bool.or_self,fA_];exact stop
    ·simp only[if_pos i1,if_neg hw,hw,not_false_iff,decide_true,Bool.or_true,tA_];exact tail
   ·have i1:¬(rs.length:Int)=0:=by omega
    simp only[if_neg i1,h1,not_false_iff,decide_true,Bool.true_or,tA_];exact tail
theorem noticeOk_ev (n:List Gp)(hn:Sm n):Ev (fun k=>spec_NoticeOk.f k n) (noticeOk n):=by
 have h:=ok_outer n hn n.length 0 0 (by omega) (by omega);rw[List.drop_zero,Nat.zero_add]at h;exact h
def decB (n:Nat):BA:=if n<10 then ofL [UInt8.ofNat (48+n)]else ofL [UInt8.ofNat (48+n / 10),UInt8.ofNat (48+n%10)]
theorem dec_all:∀n:Nat,n<100→(spec_l6Dec.f 3 (n:Int)).map L=some (L (decB n)):=by decide +kernel
theorem dec_ev (n:Nat)(h:n<100):Ev (fun k=>spec_l6Dec.f k (n:Int)) (decB n):=by
 have:=dec_all n h;cases hq:spec_l6Dec.f 3 (n:Int)with
 |none=>rw[hq]at this;cases this
 |some v=>
  rw[hq]at this;simp only[Option.map_some,oI_]at this;rw[L_inj this]at hq;exact Ev.of (fun k=>spec_l6Dec.mono _ k) hq
theorem dec_size (n:Nat):(decB n).size≤2:=by
 unfold decB
 split
 ·exact Nat.le_succ 1
 ·exact lL_ 2
def nameT (a s:BA):BA:=((a++(⟨#[99,97,108,108,101,114,32]⟩:BA))++s)++(⟨#[10]⟩:BA)
def ruleT (a:BA)(r:Ru):BA:=((a++(if r.f0=true then(⟨#[108,101,116,32]⟩:BA)else(⟨#[98,97,114,32]⟩:BA)))++r.f1)++(⟨#[10]⟩:BA)
def waitT (a:BA)(w:Int):BA:=if w>0 then((a++(⟨#[119,97,105,116,32]⟩:BA))++decB w.toNat)++(⟨#[10]⟩:BA)else a
def groupT (a:BA)(g:Gp):BA:=waitT (g.f1.foldl ruleT (g.f0.foldl nameT a)) g.f2
def noticeT (n:List Gp):BA:=if noticeOk n=true then n.foldl groupT (⟨#[]⟩:BA)else(⟨#[]⟩:BA)
theorem sz10:(⟨#[10]⟩:BA).size=1:=rfl
theorem nameT_size (a s:BA):(nameT a s).size=a.size+7+s.size+1:=by
 have:(⟨#[99,97,108,108,101,114,32]⟩:BA).size=7:=rfl;unfold nameT;simp only[sA_,sz10];omega
theorem ruleT_size (a:BA)(r:Ru):(ruleT a r).size=a.size+4+r.f1.size+1:=by
 have h1:(⟨#[108,101,116,32]⟩:BA).size=4:=rfl;have h2:(⟨#[98,97,114,32]⟩:BA).size=4:=rfl;unfold ruleT;split <;> (simp only[sA_,sz10];omega)
theorem gname_size {s:BA}(h:gname s=true):s.size≤8:=by
 unfold gname at h;rcases(Bool.or_eq_true _ _).mp h with h|h
 ·have:=(beq_iff_eq.1 h)
  rw[Lib.toList_data]at this;have h2:=L_size s;rw[show L s=[42]from this]at h2;simp at h2;omega
 ·unfold isName at h
  simp only[aE_,decide_eq_true_eq]at h;omega
theorem ruleOk_size {s:BA}(h:ruleOk s=true):s.size≤16:=by
 unfold ruleOk at h;simp only[aE_,decide_eq_true_eq]at h;omega
theorem names_size:∀(ns:List BA)(a:BA),ns.all gname=true→(ns.foldl nameT a).size≤a.size+24*ns.length
 | [],a,_=>by simp
 |s::r,a,h=>by
  rw[List.all_cons,aE_]at h;have:=names_size r (nameT a s) h.2;have h1:=gname_size h.1;rw[nameT_size]at this;rw[List.foldl_cons,List.length_cons];omega
theorem rules_size:∀(rs:List Ru)(a:BA),(rs.all fun r=>ruleOk r.f1)=true→(rs.foldl ruleT a).size≤a.size+24*rs.length
 | [],a,_=>by simp
 |s::r,a,h=>by
  rw[List.all_cons,aE_]at h;have:=rules_size r (ruleT a s) h.2;have h1:=ruleOk_size h.1;rw[ruleT_size]at this;rw[List.foldl_cons,List.length_cons];omega
theorem waitT_size (a:BA)(w:Int):(waitT a w).size≤a.size+8:=by
 unfold waitT;have h5:(⟨#[119,97,105,116,32]⟩:BA).size=5:=rfl;have:=dec_size w.toNat
 split
 ·simp only[sA_,sz10];omega
 ·omega
theorem groupOk_parts {g:Gp}(h:groupOk g=true):(g.f0.all gname=true)∧((g.f1.all fun r=>ruleOk r.f1)=true)∧0≤g.f2∧g.f2≤20∧g.f0.length≠0∧(g.f1.length≠0∨g.f2≠0)∧g.f1.length≤6:=by
 unfold groupOk at h;simp only[aE_,Bool.or_eq_true,decide_eq_true_eq]at h;obtain⟨⟨⟨⟨⟨h1,h2⟩,h3⟩,h4⟩,h5⟩,h6⟩:=h;exact⟨h5,h6,h4.1,h4.2,h1,h2,h3⟩
theorem group_size {g:Gp}(a:BA)(h:groupOk g=true):(groupT a g).size≤a.size+24*(g.f0.length+g.f1.length+1):=by
 obtain⟨h1,h2,_⟩:=groupOk_parts h;have e1:=names_size g.f0 a h1;have e2:=rules_size g.f1 (g.f0.foldl nameT a) h2;have e3:=waitT_size (g.f1.foldl ruleT (g.f0.foldl nameT a)) g.f2;unfold groupT;omega
theorem text_names (n:List Gp)(i:Nat)(hi:i<n.length)(hok:n[i].f0.all gname=true)(hl:n[i].f0.length≤1048576)(R:BA)(d:Nat):∀(j:Nat)(a:BA),j+d=n[i].f0.length→a.size+24*d≤1000000000000000 →
  Ev (fun k=>spec_NoticeText.l2 k n ((n[i].f0.drop j).foldl nameT a) (i:Int) 0) R→Ev (fun k=>spec_NoticeText.l1 k n a (i:Int) (j:Int)) R:=by
 induction d with
 |zero=>
  intro j a hj ha hR;rw[List.drop_of_length_le (by omega)]at hR;refine Ev_succ ?_;simp only[spec_NoticeText.l1,show(0:Int)≤(i:Int)from by omega,show(i:Int)<(n.length:Int)from by omega,if_true];rw[rd_gp hi];simp only[show ¬((j:Int)<(n[i].f0.length:Int))from by omega,if_false];exact hR
 |succ d ih=>
  intro j a hj ha hR;have hlt:j<n[i].f0.length:=by omega
  have e4:wrap64 ((j:Int)+1)=((j+1:Nat):Int):=by rw[w64 (by omega) (by omega)];rfl
  rw[dE_ hlt,List.foldl_cons]at hR;have hz:=gname_size (List.all_eq_true.1 hok _ (List.getElem_mem hlt));refine Ev_succ ?_;simp only[spec_NoticeText.l1,show(0:Int)≤(i:Int)from by omega,show(i:Int)<(n.length:Int)from by omega,if_true];rw[rd_gp hi];simp only[show((j:Int)<(n[i].f0.length:Int))from by omega,show(0:Int)≤(j:Int)from by omega,if_true];rw[rd_at hlt,e4];simp only[show a.size+7≤9223372036854775807 from by omega,show a.size+7+n[i].f0[j].size≤9223372036854775807 from by omega,show a.size+7+n[i].f0[j].size+1≤9223372036854775807 from by omega,if_true];exact ih (j+1) (nameT a n[i].f0[j]) (by omega) (by rw[nameT_size];omega) hR
theorem text_rules (n:List Gp)(i:Nat)(hi:i<n.length)(hok:groupOk n[i]=true)(hl:n[i].f1.length≤1048576)(hq:n.length≤1048576)(R:BA)(d:Nat):∀(j:Nat)(a:BA),j+d=n[i].f1.length→a.size+24*(d+1)≤1000000000000000 →
  Ev (fun k=>spec_NoticeText.l0 k n (waitT ((n[i].f1.drop j).foldl ruleT a) n[i].f2) ((i+1:Nat):Int)) R→Ev (fun k=>spec_NoticeText.l2 k n a (i:Int) (j:Int)) R:=by
 obtain⟨_,hrs,w0,w1,_⟩:=groupOk_parts hok;have ei:wrap64 ((i:Int)+1)=((i+1:Nat):Int):=by rw[w64 (by omega) (by omega)];rfl
 induction d with
 |zero=>
  intro j a hj ha hR;rw[List.drop_of_length_le (by omega)]at hR;refine Ev_succ ?_;simp only[spec_NoticeText.l2,show(0:Int)≤(i:Int)from by omega,show(i:Int)<(n.length:Int)from by omega,if_true];rw[rd_gp hi];simp only[show ¬((j:Int)<(n[i].f1.length:Int))from by omega,if_false];rw[ei];rw[List.foldl_nil]at hR;unfold waitT at hR
  by_cases hw:n[i].f2>0
  ·simp only[hw,if_true]at hR ⊢
   obtain⟨m,hm⟩:=Int.eq_ofNat_of_zero_le w0;have hd:=dec_ev m (by omega);have hds:=dec_size m;rw[hm,tN_]at hR;rw[hm];simp only[show a.size+5≤9223372036854775807 from by omega,if_true];refine Ev.bind hd ?_;simp only[show a.size+5+(decB m).size≤9223372036854775807 from by omega,show a.size+5+(decB m).size+1≤9223372036854775807 from by omega,if_true];exact hR
  ·simp only[hw,if_false]at hR ⊢
   exact hR
 |succ d ih=>
  intro j a hj ha hR;have hlt:j<n[i].f1.length:=by omega
  have e4:wrap64 ((j:Int)+1)=((j+1:Nat):Int):=by rw[w64 (by omega) (by omega)];rfl
  rw[dE_ hlt,List.foldl_cons]at hR;have hz:=ruleOk_size (List.all_eq_true.1 hrs _ (List.getElem_mem hlt));have next:=ih (j+1) (ruleT a n[i].f1[j]) (by omega) (by rw[ruleT_size];omega) hR;refine Ev_succ ?_;simp only[spec_NoticeText.l2,show(0:Int)≤(i:Int)from by omega,show(i:Int)<(n.length:Int)from by omega,if_true];rw[rd_gp hi];simp only[show((j:Int)<(n[i].f1.length:Int))from by omega,show(0:Int)≤(j:Int)from by omega,if_true];rw[rd_ru hlt,e4];unfold ruleT at next;simp only[show a.size+4≤9223372036854775807 from by omega,show a.size+4+n[i].f1[j].f1.size≤9223372036854775807 from by omega,show a.size+4+n[i].f1[j].f1.size+1≤9223372036854775807 from by omega,if_true]
  by_cases hb:n[i].f1[j].f0=true
  ·simp only[hb,if_true]at next ⊢;exact next
  ·simp only[hb,bF_,if_false]at next ⊢;exact next
theorem text_outer (n:List Gp)(hn:Sm n)(d:Nat):∀(i:Nat)(a:BA),i+d=n.length→a.size≤24*2097153*i→((n.drop i).all groupOk)=true →
  Ev (fun k=>spec_NoticeText.l0 k n a (i:Int)) ((n.drop i).foldl groupT a):=by
 have hf:=hn.few
 induction d with
 |zero=>
  intro i a hi ha hk;refine Ev_succ ?_;simp only[spec_NoticeText.l0,show ¬((i:Int)<(n.length:Int))from by omega,if_false];rw[List.drop_of_length_le (by omega)];exact Ev.now _
 |succ d ih=>
  intro i a hi ha hk;have hlt:i<n.length:=by omega
  obtain⟨s1,s2,s3⟩:=hn.get hlt;rw[dE_ hlt,List.all_cons,aE_]at hk;rw[dE_ hlt,List.foldl_cons];have hg:=group_size a hk.1;have next:=ih (i+1) (groupT a n[i]) (by omega) (by omega) hk.2;have e1:=names_size n[i].f0 a (groupOk_parts hk.1).1;refine Ev_succ ?_;simp only[spec_NoticeText.l0,show(i:Int)<(n.length:Int)from by omega,if_true];refine text_names n i hlt (groupOk_parts hk.1).1 s1 _ n[i].f0.length 0 a (by omega) (by omega) ?_;rw[List.drop_zero];refine text_rules n i hlt hk.1 s3 hf _ n[i].f1.length 0 _ (by omega) (by omega) ?_;rw[List.drop_zero];exact next
theorem noticeT_ev (n:List Gp)(hn:Sm n):Ev (fun k=>spec_NoticeText.f k n) (noticeT n):=by
 unfold spec_NoticeText.f noticeT;refine Ev.bind (noticeOk_ev n hn) ?_
 by_cases h:noticeOk n=true
 ·simp only[h,if_true]
  have hk:n.all groupOk=true:=by
   unfold noticeOk at h;rw[aE_]at h;exact h.1
  have:=text_outer n hn n.length 0 ⟨#[]⟩ (by omega) (by have:(⟨#[]⟩:BA).size=0:=rfl;omega) (by rw[List.drop_zero];exact hk);rw[List.drop_zero]at this;exact this
 ·simp only[h,bF_,if_false];exact Ev.now _
end Go.Proofs.YtloijngehifbmaaGreatDoor.Nt
end
section
namespace Go.Proofs.YtloijngehifbmaaGreatDoor.Draw
open Go.RowKit Go.Proofs.YtloijngehifbmaaGreatDoor.P Go.Proofs.YtloijngehifbmaaGreatDoorW PrintWords PrintLast PrintMore Go.Proofs.YtloijngehifbmaaGreatDoor.B Go.Proofs.YtloijngehifbmaaGreatDoor.Ad Go.Proofs.YtloijngehifbmaaGreatDoor.Wd
def Pgd (p:Pg):Prop:=p.f0.size≤60∧p.f1.size≤300∧p.f2.size≤60
theorem pgd_app {x:List Pg}{g:Pg}(h:∀q∈x,Pgd q)(hg:Pgd g):∀q∈x++[g],Pgd q:=by
 intro q hq;rcases List.mem_append.1 hq with hq|hq
 ·exact h q hq
 ·rw[List.mem_singleton.1 hq];exact hg
theorem at_some {x:List Pg}{a:BA}(h:(atO x a).2.2.2.2=true):x≠[]:=by
 rintro rfl;simp[atO]at h
theorem small_of {n:List SGd}(hl:n.length≤4)(h:∀g∈n,Gd g):Nt.Sm n:=
 ⟨by omega,fun g hg=>by obtain⟨h1,h2,_⟩:=h g hg;exact⟨by omega,fun s hs=>by have:=h2 s hs;omega⟩,fun g hg=>by obtain⟨_,_,h3,_⟩:=h g hg;omega⟩
theorem world_l1 {b:List Int}(hc:Code b)(d:Nat):∀(p:Int)(x:List Pg),0≤p→p+400*d≤90000000→x.length+d≤100→(∀q∈x,Pgd q)→(x≠[]∨1≤d) →
  ∃y p',Ev (fun k=>spec_l71World.l1 k x (d:Int) b p) (y,p')∧y≠[]∧y.length≤x.length+d∧(∀q∈y,Pgd q)∧p≤p'∧p'≤p+400*d:=by
 induction d with
 |zero=>
  intro p x h0 h1 hl hx hn;refine⟨x,p,Ev_succ ?_,by rcases hn with h|h;exact h;omega,by omega,hx,by omega,by omega⟩;have n0:¬(((0:Nat):Int)>0):=by omega
  simp only[spec_l71World.l1,n0,if_false];exact Ev.now _
 |succ d ih=>
  intro p x h0 h1 hl hx hn;have n1:(((d+1:Nat):Int)>0):=by omega
  have e1:wrap64 (((d+1:Nat):Int)-1)=(d:Int):=by rw[w64 (by omega) (by omega)];omega
  obtain⟨s,p1,hs,sz,a1,b1⟩:=addr_ev hc p h0 (by omega);obtain⟨t,p2,ht,tz,a2,b2⟩:=page_ev hc p1 (by omega) (by omega);obtain⟨v,hv,v0,v1⟩:=pick_ev hc p2 7 (by omega) (by omega);have v2:=v1 (by omega);obtain⟨u,hu,u0,u1⟩:=pick_ev hc (p2+1) 8 (by omega) (by omega);have hA:=at_l x (by omega) s x.length 0 (by omega);rw[List.drop_zero]at hA;have hA':Ev (fun k=>spec_l11At.f k x s) (atO x s):=hA;have tail:∀(q:Int)(pg:Pg)(B:Prop)[Decidable B],B→Pgd pg→0≤q→q≤p+330 →
    ∃y p',Ev (fun k=>(spec_l11At.f k x s).bind fun bt=>if bt.2.2.2.2=true then(spec_l71World.l1 k x (wrap64 (((d+1:Nat):Int)-1)) b q)else(if B then(if x.length<2513169434916 then(spec_l71World.l1 k (x++[pg]) (wrap64 (((d+1:Nat):Int)-1)) b q)else none)else(spec_l71World.l1 k x (wrap64 (((d+1:Nat):Int)-1)) b q))) (y,p')∧y≠[]∧y.length≤x.length+(d+1)∧(∀q∈y,Pgd q)∧q≤p'∧p'≤q+400*d:=by
   intro q pg B _ hB hpg q0 q1;rw[e1]
   by_cases hf:(atO x s).2.2.2.2=true
   ·obtain⟨y,p',g1,g2,g3,g4,g5,g6⟩:=ih q x q0 (by omega) (by omega) hx (.inl (at_some hf))
    refine⟨y,p',Ev.bind hA' ?_,g2,by omega,g4,g5,g6⟩;simp only[hf,if_true];exact g1
   ·obtain⟨y,p',g1,g2,g3,g4,g5,g6⟩:=ih q (x++[pg]) q0 (by omega) (by simp;omega) (pgd_app hx hpg) (.inl (by simp))
    rw[lA_,List.length_singleton]at g3;refine⟨y,p',Ev.bind hA' ?_,g2,by omega,g4,g5,g6⟩;simp only[hf,bF_,if_false,if_pos hB,show x.length<2513169434916 from by omega,if_true];exact g1
  have h7:v<(([0,0,0,0,1,2,4]:List Int).length:Int):=by simp;omega
  by_cases c:u=0
  ·obtain⟨s2,p3,hs2,sz2,a3,b3⟩:=addr_ev hc (p2+1+1) (by omega) (by omega)
   obtain⟨y,p',g1,g2,g3,g4,g5,g6⟩:=tail p3 ⟨s,⟨#[]⟩,s2,rd [0,0,0,0,1,2,4] v⟩ ((0:Int)≤300) (by decide) ⟨by simp only;omega,Nat.zero_le _,by simp only;omega⟩ (by omega) (by omega);refine⟨y,p',Ev_succ ?_,g2,g3,g4,by omega,by omega⟩;simp only[spec_l71World.l1,n1,if_true];refine Ev.bind hs (Ev.bind ht ?_);simp only[oB_];refine Ev.bind hv ?_;simp only[v0,h7,if_true];refine Ev.bind hu ?_;simp only[c,if_true];exact Ev.bind hs2 g1
  ·obtain⟨y,p',g1,g2,g3,g4,g5,g6⟩:=tail (p2+1+1) ⟨s,t,⟨#[]⟩,rd [0,0,0,0,1,2,4] v⟩ ((t.size:Int)≤300) (by omega) ⟨by simp only;omega,by simp only;omega,Nat.zero_le _⟩ (by omega) (by omega)
   refine⟨y,p',Ev_succ ?_,g2,g3,g4,by omega,by omega⟩;simp only[spec_l71World.l1,n1,if_true];refine Ev.bind hs (Ev.bind ht ?_);simp only[oB_];refine Ev.bind hv ?_;simp only[v0,h7,if_true];refine Ev.bind hu ?_;simp only[c,if_false];exact g1
abbrev T4:List BA:=[(⟨#[97,98]⟩:BA),(⟨#[99,100]⟩:BA),(⟨#[101]⟩:BA),(⟨#[102,111,120]⟩:BA)]
theorem t4_size (i:Nat)(h:i<4):(rdOf bE_ T4 (i:Int)).size≤3:=by
 obtain rfl|rfl|rfl|rfl:i=0∨i=1∨i=2∨i=3:=by omega
 all_goals decide
theorem world_l0 {b:List Int}(hc:Code b)(d:Nat):∀(i:Nat)(p:Int)(x:List Pg),i+d=4→0≤p→p+500*d+4000≤9000000→x.length≤i→(∀q∈x,Pgd q) →
  ∃y p',Ev (fun k=>spec_l71World.l0 k x T4 (i:Int) b p) (y,p')∧y≠[]∧y.length≤12∧(∀q∈y,Pgd q)∧p≤p'∧p'≤p+500*d+4000:=by
 induction d with
 |zero=>
  intro i p x hi h0 h1 hl hx;obtain⟨v,hv,v0,v1⟩:=pick_ev hc p 7 h0 (by omega);have v2:=v1 (by omega);obtain⟨m,rfl⟩:=Int.eq_ofNat_of_zero_le v0;obtain⟨y,p',g1,g2,g3,g4,g5,g6⟩:=world_l1 hc (2+m) (p+1) x (by omega) (by omega) (by omega) hx (.inr (by omega));refine⟨y,p',Ev_succ ?_,g2,by omega,g4,by omega,by omega⟩;simp only[spec_l71World.l0,show ¬((i:Int)<4)from by omega,if_false];refine Ev.bind hv ?_;simp only;rw[show wrap64 (2+(m:Int))=((2+m:Nat):Int)from by rw[w64 (by omega) (by omega)];omega];exact g1
 |succ d ih=>
  intro i p x hi h0 h1 hl hx;have e4:wrap64 ((i:Int)+1)=((i+1:Nat):Int):=by rw[w64 (by omega) (by omega)];rfl
  have i4:(i:Int)<4:=by omega
  have i4':(i:Int)<(T4.length:Int):=by simp[T4];omega
  have hz:=t4_size i (by omega);obtain⟨v,hv,v0,v1⟩:=pick_ev hc p 2 h0 (by omega)
  by_cases c:v=0
  ·obtain⟨n,p1,hn,nl,ng,a1,b1⟩:=groups_ev hc (p+1) (by omega) (by omega)
   have hT:=Nt.noticeT_ev n (small_of nl ng);obtain⟨u,hu,u0,u1⟩:=pick_ev hc p1 6 (by omega) (by omega);have u2:=u1 (by omega);obtain⟨r,hr,_,_⟩:=pick_ev hc (p1+1) 12 (by omega) (by omega);have h6:u<(([0,0,0,1,2,5]:List Int).length:Int):=by simp;omega
   have s2:(⟨#[47,47]⟩:BA).size=2:=rfl;have s7:(⟨#[47,110,111,116,105,99,101]⟩:BA).size=7:=rfl;have hza:(((⟨#[47,47]⟩:BA)++(rdOf bE_ T4 (i:Int)))++(⟨#[47,110,111,116,105,99,101]⟩:BA)).size≤60:=by
    simp only[sA_];omega
   have tail:∀(q:Int)(pg:Pg)(B:Prop)[Decidable B],(B→Pgd pg)→0≤q→q≤p+450 →
     ∃y p',Ev (fun k=>if B then(if x.length<2513169434916 then(spec_l71World.l0 k (x++[pg]) T4 (wrap64 ((i:Int)+1)) b q)else none)else(spec_l71World.l0 k x T4 (wrap64 ((i:Int)+1)) b q)) (y,p')∧y≠[]∧y.length≤12∧(∀q∈y,Pgd q)∧q≤p'∧p'≤q+500*d+4000:=by
    intro q pg B _ hpg q0 q1;rw[e4]
    by_cases hB:B
    ·obtain⟨y,p',g1,g2,g3,g4,g5,g6⟩:=ih (i+1) q (x++[pg]) (by omega) q0 (by omega) (by simp;omega) (pgd_app hx (hpg hB))
     refine⟨y,p',?_,g2,g3,g4,g5,g6⟩;simp only[if_pos hB,show x.length<2513169434916 from by omega,if_true];exact g1
    ·obtain⟨y,p',g1,g2,g3,g4,g5,g6⟩:=ih (i+1) q x (by omega) q0 (by omega) (by omega) hx
     refine⟨y,p',?_,g2,g3,g4,g5,g6⟩;simp only[if_neg hB];exact g1
   have ci:(0:Int)≤(i:Int):=by omega
   by_cases c2:r=0
   ·obtain⟨s2',p3,hs2,sz2,a3,b3⟩:=addr_ev hc (p1+1+1) (by omega) (by omega)
    obtain⟨y,p',g1,g2,g3,g4,g5,g6⟩:=tail p3 ⟨((⟨#[47,47]⟩:BA)++(rdOf bE_ T4 (i:Int)))++(⟨#[47,110,111,116,105,99,101]⟩:BA),⟨#[]⟩,s2',rd [0,0,0,1,2,5] u⟩ ((0:Int)≤300) (fun _=>⟨hza,Nat.zero_le _,by simp only;omega⟩) (by omega) (by omega);refine⟨y,p',Ev_succ ?_,g2,g3,g4,by omega,by omega⟩;simp only[spec_l71World.l0,i4,if_true];refine Ev.bind hv ?_;simp only[c,if_true,ci,i4',show 2+(rdOf bE_ T4 (i:Int)).size≤9223372036854775807 from by omega,show 2+(rdOf bE_ T4 (i:Int)).size+7≤9223372036854775807 from by omega];refine Ev.bind hn (Ev.bind hT ?_);simp only[oB_];refine Ev.bind hu ?_;simp only[u0,h6,if_true];refine Ev.bind hr ?_;simp only[c2,if_true];exact Ev.bind hs2 g1
   ·obtain⟨y,p',g1,g2,g3,g4,g5,g6⟩:=tail (p1+1+1) ⟨((⟨#[47,47]⟩:BA)++(rdOf bE_ T4 (i:Int)))++(⟨#[47,110,111,116,105,99,101]⟩:BA),Nt.noticeT n,⟨#[]⟩,rd [0,0,0,1,2,5] u⟩ (((Nt.noticeT n).size:Int)≤300) (fun h=>⟨hza,by simp only;omega,Nat.zero_le _⟩) (by omega) (by omega)
    refine⟨y,p',Ev_succ ?_,g2,g3,g4,by omega,by omega⟩;simp only[spec_l71World.l0,i4,if_true];refine Ev.bind hv ?_;simp only[c,if_true,ci,i4',show 2+(rdOf bE_ T4 (i:Int)).size≤9223372036854775807 from by omega,show 2+(rdOf bE_ T4 (i:Int)).size+7≤9223372036854775807 from by omega];refine Ev.bind hn (Ev.bind hT ?_);simp only[oB_];refine Ev.bind hu ?_;simp only[u0,h6,if_true];refine Ev.bind hr ?_;simp only[c2,if_false];exact g1
  ·obtain⟨y,p',g1,g2,g3,g4,g5,g6⟩:=ih (i+1) (p+1) x (by omega) (by omega) (by omega) (by omega) hx
   refine⟨y,p',Ev_succ ?_,g2,g3,g4,by omega,by omega⟩;simp only[spec_l71World.l0,i4,if_true];refine Ev.bind hv ?_;simp only[c,if_false];rw[e4];exact g1
theorem world_ev {b:List Int}(hc:Code b)(p:Int)(h0:0≤p)(h1:p≤1000000):∃y p',Ev (fun k=>spec_l71World.f k b p) (y,p')∧y≠[]∧y.length≤12∧(∀q∈y,Pgd q)∧p≤p'∧p'≤p+6000:=by
 obtain⟨y,p',g1,g2,g3,g4,g5,g6⟩:=world_l0 hc 4 0 p [] rfl h0 (by omega) (by simp) (by simp);refine⟨y,p',?_,g2,g3,g4,g5,by omega⟩;unfold spec_l71World.f spec_l71Houses.f;exact g1
theorem off_l {b:List Int}(d:Nat):∀(i:Nat)(x:List Pg)(p:Int),i+d=12→x.length≤12+i→(∀q∈x,Pgd q) →
  ∃y,Ev (fun k=>spec_l71Off.l0 k x (i:Int) b p) (y,p)∧y.length≤24∧(∀q∈y,Pgd q)∧(x≠[]→y≠[]):=by
 induction d with
 |zero=>
  intro i x p hi hl hx;refine⟨x,Ev_succ ?_,by omega,hx,id⟩;simp only[spec_l71Off.l0,show ¬((i:Int)<12)from by omega,if_false];exact Ev.now _
 |succ d ih=>
  intro i x p hi hl hx;have hd:=Nt.dec_ev i (by omega);have hds:=Nt.dec_size i;have s6:(⟨#[47,47,97,98,47,122]⟩:BA).size=6:=rfl;have e4:wrap64 ((i:Int)+1)=((i+1:Nat):Int):=by rw[w64 (by omega) (by omega)];rfl
  obtain⟨y,g1,g2,g3,g4⟩:=ih (i+1) (x++[⟨(⟨#[47,47,97,98,47,122]⟩:BA)++Nt.decB i,⟨#[]⟩,⟨#[]⟩,0⟩]) p (by omega) (by simp;omega) (pgd_app hx ⟨by simp only[sA_];omega,Nat.zero_le _,Nat.zero_le _⟩);refine⟨y,Ev_succ ?_,g2,g3,fun _=>g4 (by simp)⟩;simp only[spec_l71Off.l0,show(i:Int)<12 from by omega,if_true];refine Ev.bind hd ?_;simp only[show 6+(Nt.decB i).size≤9223372036854775807 from by omega,show x.length<2513169434916 from by omega,if_true];rw[e4];exact g1
theorem off_ev {b:List Int}(hc:Code b)(p:Int)(h0:0≤p)(h1:p≤1000000):∃y p',Ev (fun k=>spec_l71Off.f k b p) (y,p')∧y≠[]∧y.length≤24∧(∀q∈y,Pgd q)∧p≤p'∧p'≤p+7000:=by
 obtain⟨w,p1,hw,wn,wl,wg,a1,b1⟩:=world_ev hc p h0 h1;obtain⟨v,hv,_,_⟩:=pick_ev hc p1 16 (by omega) (by omega);have hpos:0<w.length:=List.length_pos_iff.2 wn;have l0:(0:Int)<(w.length:Int):=by omega
 have llt:w.length<2513169434916:=by omega
 have hg0:Pgd (rd_T57 w 0):=by
  have:=rd_pg (l:=w) (i:=0) hpos;rw[show((0:Nat):Int)=0 from rfl]at this;rw[this];exact wg _ (List.getElem_mem hpos)
 obtain⟨z1,z2,z3⟩:=hg0;have hset:∀(g:Pg),Pgd g→∀q∈w.set (0:Int).toNat g,Pgd q:=fun g hg q hq=>by
  rcases List.mem_or_eq_of_mem_set hq with h|h
  ·exact wg q h
  ·rw[h];exact hg
 have hne:∀g:Pg,w.set (0:Int).toNat g≠[]:=fun g e=>by
  have:=congrArg List.length e;simp at this;exact wn this
 unfold spec_l71Off.f
 by_cases c:v>0
 ·refine⟨w,p1+1,Ev.bind hw (Ev.bind hv ?_),wn,by omega,wg,by omega,by omega⟩
  simp only[c,if_true];exact Ev.now _
 obtain⟨u,hu,_,_⟩:=pick_ev hc (p1+1) 5 (by omega) (by omega)
 by_cases c0:u=0
 ·refine⟨w++[rd_T57 w 0],p1+1+1,Ev.bind hw (Ev.bind hv ?_),by simp,by simp;omega,pgd_app wg ⟨z1,z2,z3⟩,by omega,by omega⟩
  simp only[c,if_false];refine Ev.bind hu ?_;simp only[c0,l0,llt,if_true];exact Ev.now _
 by_cases c1:u=1
 ·refine⟨w.set (0:Int).toNat ⟨(rd_T57 w 0).f0,(rd_T57 w 0).f1,(rd_T57 w 0).f2,10⟩,p1+1+1,Ev.bind hw (Ev.bind hv ?_),hne _,by simp;omega,hset _ ⟨z1,z2,z3⟩,by omega,by omega⟩
  simp only[c,if_false];refine Ev.bind hu ?_;simp only[c0,c1,l0,if_true,if_false];exact Ev.now _
 by_cases c2:u=2
 ·obtain⟨s,hs,sz⟩:=of_sz hc (p1+1+1) ([(⟨#[47,47,65,66,47,97]⟩:BA),(⟨#[]⟩:BA),(⟨#[47,47,97,98]⟩:BA)]:List BA) 6 (by omega) (by omega) (by decide) (by decide)
  refine⟨w.set (0:Int).toNat ⟨s,(rd_T57 w 0).f1,(rd_T57 w 0).f2,(rd_T57 w 0).f3⟩,p1+1+1+1,Ev.bind hw (Ev.bind hv ?_),hne _,by simp;omega,hset _ ⟨by simp only;omega,z2,z3⟩,by omega,by omega⟩;simp only[c,if_false];refine Ev.bind hu ?_;simp only[c0,c1,c2,if_true,if_false];refine Ev.bind hs ?_;simp only[l0,if_true];exact Ev.now _
 by_cases c3:u=3
 ·refine⟨w.set (0:Int).toNat ⟨(rd_T57 w 0).f0,(rd_T57 w 0).f1,(⟨#[120]⟩:BA),(rd_T57 w 0).f3⟩,p1+1+1,Ev.bind hw (Ev.bind hv ?_),hne _,by simp;omega,hset _ ⟨z1,z2,by show(⟨#[120]⟩:BA).size≤60;decide⟩,by omega,by omega⟩
  simp only[c,if_false];refine Ev.bind hu ?_;simp only[c0,c1,c2,c3,l0,if_true,if_false];exact Ev.now _
 ·obtain⟨y,g1,g2,g3,g4⟩:=off_l (b:=b) 12 0 w (p1+1+1) rfl (by omega) wg
  refine⟨y,p1+1+1,Ev.bind hw (Ev.bind hv ?_),g4 wn,g2,g3,by omega,by omega⟩;simp only[c,if_false];refine Ev.bind hu ?_;simp only[c0,c1,c2,c3,if_false];exact g1
end Go.Proofs.YtloijngehifbmaaGreatDoor.Draw
end
section
namespace Go.Proofs.YtloijngehifbmaaGreatDoor.Lpn
open Go.RowKit Go.Proofs.YtloijngehifbmaaGreatDoor.P Go.Proofs.YtloijngehifbmaaGreatDoorW PrintWords PrintLast PrintMore Go.Proofs.YtloijngehifbmaaGreatDoor.B
abbrev Rq:=S93
theorem nn (i:Nat):(0:Int)≤(i:Int):=by omega
theorem lpT_l (l:List BA)(hl:l.length≤1048576)(d:Nat):∀(i:Nat),i+d=l.length→Ev (fun k=>laws_lpTexts.l0 k l l (i:Int)) true:=by
 induction d with
 |zero=>
  intro i hi;refine Ev_succ ?_;simp only[laws_lpTexts.l0,show ¬((i:Int)<(l.length:Int))from by omega,if_false];exact Ev.now _
 |succ d ih=>
  intro i hi;have w1:wrap64 ((i:Int)+1)=((i+1:Nat):Int):=by rw[w64 (by omega) (by omega)];rfl
  refine Ev_succ ?_;simp only[laws_lpTexts.l0,show(i:Int)<(l.length:Int)from by omega,nn i,if_true,ne_eq,not_true,bne_self_eq_false,bF_,if_false];rw[w1];exact ih (i+1) (by omega)
theorem lpT_ev (l:List BA)(hl:l.length≤1048576):Ev (fun k=>laws_lpTexts.f k l l) true:=by
 unfold laws_lpTexts.f;simp only[if_true];exact lpT_l l hl l.length 0 (by omega)
theorem lpR_l (l:List Rq)(hl:l.length≤1048576)(d:Nat):∀(i:Nat),i+d=l.length→Ev (fun k=>laws_lpRules.l0 k l l (i:Int)) true:=by
 induction d with
 |zero=>
  intro i hi;refine Ev_succ ?_;simp only[laws_lpRules.l0,show ¬((i:Int)<(l.length:Int))from by omega,if_false];exact Ev.now _
 |succ d ih=>
  intro i hi;have w1:wrap64 ((i:Int)+1)=((i+1:Nat):Int):=by rw[w64 (by omega) (by omega)];rfl
  refine Ev_succ ?_;simp only[laws_lpRules.l0,show(i:Int)<(l.length:Int)from by omega,nn i,if_true,beq_self_eq_true,Bool.not_true,Bool.or_self,bF_,if_false];rw[w1];exact ih (i+1) (by omega)
theorem lpR_ev (l:List Rq)(hl:l.length≤1048576):Ev (fun k=>laws_lpRules.f k l l) true:=by
 unfold laws_lpRules.f;simp only[if_true];exact lpR_l l hl l.length 0 (by omega)
theorem lpGp_ev (f0:List BA)(f1:List Rq)(f2:Int)(h0:f0.length≤1048576)(h1:f1.length≤1048576):Ev (fun k=>laws_lpGroup.f k f0 f1 f2 f0 f1 f2) true:=by
 unfold laws_lpGroup.f;simp only[if_true];refine Ev.bind (lpT_ev f0 h0) ?_;simp only[if_true];exact Ev.bind (lpR_ev f1 h1) (Ev.now _)
end Go.Proofs.YtloijngehifbmaaGreatDoor.Lpn
end
section
namespace Go.Proofs.YtloijngehifbmaaGreatDoor.Pure
open Go.RowKit Go.Proofs.YtloijngehifbmaaGreatDoor.P Go.Proofs.YtloijngehifbmaaGreatDoorW PrintWords PrintLast PrintMore Go.Proofs.YtloijngehifbmaaGreatDoor.Draw Go.Proofs.YtloijngehifbmaaGreatDoor.B Go.Proofs.YtloijngehifbmaaGreatDoor.Ad Go.Proofs.YtloijngehifbmaaGreatDoor.Wd
theorem drawNoticeW_ev (l0:List Int)(hw:∀x∈l0,(Lit.int .u8 x).wf=true):∃w h x,Ev (fun k=>spec_DrawWorldNotice.f k l0) (w,h,x)∧w.length≤24∧(∀q∈w,Pgd q)∧h.size≤3∧x.size≤6:=by
 obtain⟨b,hb,hc⟩:=open_some l0 hw;obtain⟨w,p1,h1,_,wl,wg,a1,b1⟩:=off_ev hc 0 (by omega) (by omega);obtain⟨h,h2,hz⟩:=of_sz hc p1 (([(⟨#[97,98]⟩:BA),(⟨#[99,100]⟩:BA),(⟨#[101]⟩:BA),(⟨#[102,111,120]⟩:BA),(⟨#[65,66]⟩:BA),(⟨#[122,122]⟩:BA)]:List BA)) 3 (by omega) (by omega) (by decide) (by decide);obtain⟨x,h3,xz⟩:=of_sz hc (p1+1) (([(⟨#[114,111,118,101,114]⟩:BA),(⟨#[114,111,118,101,114]⟩:BA),(⟨#[115,99,111,117,116]⟩:BA),(⟨#[111,116,104,101,114]⟩:BA)]:List BA)) 6 (by omega) (by omega) (by decide) (by decide);refine⟨w,h,x,?_,wl,wg,hz,xz⟩;unfold spec_DrawWorldNotice.f spec_l71Name.f;rw[hb];simp only[oB_];exact Ev.bind h1 (Ev.bind h2 (Ev.bind (Ev.bind h3 (Ev.now _)) (Ev.now _)))
theorem bars_all:lets [(⟨false,(⟨#[47]⟩:BA)⟩:SR)] (⟨#[47]⟩:BA)=false∧lets [(⟨false,(⟨#[47]⟩:BA)⟩:SR)] (⟨#[47,97,47,98]⟩:BA)=false:=by decide +kernel
theorem said_of {l:List Pg}{h x:BA}(hn:¬(Wn.noticeW l h x).1.length=0):worldOk l=true∧Wn.noticeW l h x=Wn.sayG (getF l (Wn.noticeA h) 2) x:=by
 unfold Wn.noticeW at hn ⊢
 split at hn
 ·rename_i hk
  rw[if_pos hk];rw[aE_]at hk;exact⟨hk.1,rfl⟩
 ·exact absurd rfl hn
theorem got_i (l:List Pg)(hs:∀p∈l,p.f0.size≤9223372036854775807)(a:BA)(ha:a.size≤9223372036854775807)(t:Int)(hk:worldOk l=true):Ev (fun k=>impl_WorldGet.f k l a t) (getF l a t):=by
 unfold impl_WorldGet.f;simp only[ha,if_true];obtain⟨b,hb,n1,n2⟩:=made2 l hs;refine Ev.bind hb ?_;cases b with
 |false=>rw[n1 rfl]at hk;cases hk
 |true=>
  rw[n2 rfl,hk];simp only[if_true];exact Ev.now _
theorem FnWorldNotice:laws_FnWorldNotice.Pure:=by
 intro l0 _ _ hw;obtain⟨w,h,x,hd,wl,wg,hz,xz⟩:=drawNoticeW_ev l0 hw;have b1:∀p∈w,p.f0.size≤140737488351232∧p.f2.size≤140737488351232:=fun p hp=>by obtain⟨h1,h2,h3⟩:=wg p hp;omega
 have b2:∀p∈w,p.f0.size≤9223372036854775807:=fun p hp=>by obtain⟨h1,h2,h3⟩:=wg p hp;omega
 suffices Ev (fun k=>laws_FnWorldNotice.f k l0) true by
  obtain⟨K,hK⟩:=this;exact⟨K,hK K (lL_ _)⟩
 unfold laws_FnWorldNotice.f
 by_cases hb:(l0.length:Int)>1048576
 ·simp only[hb,if_true];exact Ev.now _
 simp only[hb,if_false];have gs:=Wn.noticeW_s w (by omega) b1 h x (by omega) (by omega);have gi:=Wn.noticeW_i w b2 h x (by omega) (by omega);have gl:=Wn.noticeW_len w h x;have he:=Lpn.lpGp_ev (Wn.noticeW w h x).1 (Wn.noticeW w h x).2.1 (Wn.noticeW w h x).2.2 (by omega) (by omega);refine Ev.bind hd (Ev.bind gi (Ev.bind gs (Ev.bind he ?_)));simp only[if_true];refine Ev_succ ?_
 by_cases hn:(Wn.noticeW w h x).1.length=0
 ·have e:(((Wn.noticeW w h x).1.length:Int)==0)=true:=by rw[beq_iff_eq];omega
  simp only[laws_FnWorldNotice.j0,e,if_true];exact Ev.bind gs (Ev.bind he (Ev.now _))
 ·have e:(((Wn.noticeW w h x).1.length:Int)==0)=false:=by rw[bN_];omega
  obtain⟨hk,hsay⟩:=said_of hn;have ha:=Wn.noticeA_size h;have hg:=got_i w b2 (Wn.noticeA h) (by omega) 2 hk;have hq:=Wn.got_size hk (Wn.noticeA h) 2;simp only[laws_FnWorldNotice.j0,e,bF_,if_false,show 2+h.size≤9223372036854775807 from by omega,show 2+h.size+7≤9223372036854775807 from by omega,if_true];refine Ev.bind hg ?_;rw[hsay]at he ⊢;clear hsay hn e gs gi gl;generalize getF w (Wn.noticeA h) 2=q at *
  by_cases c1:q.1=1
  ·have e1:Wn.sayG q x=Nf.forG (Rn.noticeOf q.2) x:=by unfold Wn.sayG;rw[if_pos c1]
   rw[e1]at he ⊢;simp only[c1,if_true];exact Ev.bind (Rn.notice_impl _ (hq c1)) (Ev.bind (Nf.for_i _ x (Wn.fine_of _)) (Ev.bind he (Ev.now _)))
  ·simp only[c1,if_false]
   by_cases c3:q.1=3
   ·have e1:Wn.sayG q x=barredF x:=by unfold Wn.sayG;rw[if_neg c1,if_pos c3]
    rw[e1];simp only[c3,if_true];have r1:=lets_impl [(⟨false,(⟨#[47]⟩:BA)⟩:SR)] (⟨#[47]⟩:BA) (by decide) (by decide) (by decide);have r2:=lets_impl [(⟨false,(⟨#[47]⟩:BA)⟩:SR)] (⟨#[47,97,47,98]⟩:BA) (by decide) (by decide) (by decide);rw[show lets [(⟨false,(⟨#[47]⟩:BA)⟩:SR)] (⟨#[47]⟩:BA)=false from bars_all.1]at r1;rw[show lets [(⟨false,(⟨#[47]⟩:BA)⟩:SR)] (⟨#[47,97,47,98]⟩:BA)=false from bars_all.2]at r2;refine Ev.bind r1 ?_;simp only[bF_,if_false];exact Ev.bind r2 (Ev.now _)
   ·have e1:Wn.sayG q x=Nf.forG [] x:=by unfold Wn.sayG;rw[if_neg c1,if_neg c3]
    rw[e1];simp only[c3,if_false];exact Ev.now _
end Go.Proofs.YtloijngehifbmaaGreatDoor.Pure
end
section
namespace Go.Proofs.YtloijngehifbmaaGreatDoorW.PrintWords
open Go.ChangeShapes Go.WideShapes
theorem sized_ints {H:Type}{enc:TypeId×Value→H}{P:Program}{W:World}{base:Nat}{spare:Nat→Bool}{held:Bool}{t e:TypeId}{k:IntKind}{a:Option Addr}{len cap:Nat}{d:DataW H}{ps:List MemPlace}{ts:List TypeId}{ds:List (DataW H)}{j:Nat}
  (hsz:(DataW.weightsEach P ts ds).all (·≤reachBytes)=true) (ht:ts[j]?=some t) (hd:ds[j]?=some d) (hu:P.underlying t=some (.slice e)) (he:P.underlying e=some (.int k)) (hc:P.cellsOf e=1) {B:Nat} (hB:P.bytesOf e=B)
  (h:DataW.Trod enc P W base spare held t (.slice a len cap) d ps):len*B≤140737488351232:=by
 obtain⟨fuel,hf⟩:=h;rcases open_ints hu he hc hf with⟨hcs,_⟩|⟨x,l,c,zs,hcs,_,hl,_,hz,hx,_,_⟩
 ·simp[Value.cells]at hcs
  obtain⟨rfl,rfl,rfl⟩:=hcs;simp
 ·simp[Value.cells]at hcs
  obtain⟨rfl,rfl,rfl⟩:=hcs;obtain⟨hx,_⟩:=Prod.mk.inj hx;subst hx;have z:=sized_slice hsz ht hd hu;rw[hB]at z;have hl2:len≤zs.length:=by
   rw[hz]
   split
   ·exact hl
   ·exact lL_ _
  have h1:(lits (H:=H) k (zs.take len)).length+(lits (H:=H) k (zs.drop len)).length=zs.length:=by
   simp[lits];omega
  rw[h1]at z;exact nT_ (mR_ _ hl2) z
end Go.Proofs.YtloijngehifbmaaGreatDoorW.PrintWords
end
section
namespace Go.Proofs.YtloijngehifbmaaGreatDoor.fnWorldNotice
open Go.ChangeShapes Go.WideShapes Go.ChangeAt Go.RowKit
open Go.ChangeMaps (open_string shut_string)
set_option linter.unusedVariables false
theorem own : ownKnob Tryz.prog.godebug = none := by kernel_rfl
theorem laidOut : laidOutB Tryz.prog = true := by kernel_rfl
def IsRow (k : IntKind) (w : World) (a : Option Addr) (len cap : Nat) (zs : List Int) : Prop :=
 (a = none ∧ len = 0 ∧ cap = 0 ∧ zs = []) ∨
 ∃ x, a = some x ∧ len ≤ cap ∧ cap ≤ maxLen ∧ zs.length = cap ∧ (∀ i, i < zs.length → w.cell? (x.add i) = some (.int k (zs.getD i 0))) ∧ ∀ n ∈ zs, (Lit.int k n).wf = true
set_option maxRecDepth 100000 in
theorem lifted (os : Os) (started : os.Started) (H : Type) (enc : TypeId × Value → H) :
  ReturnsInHanded {} Tryz.checked os 5 .any (fun w args => (Rows.fnWorldNoticeSpec.pre enc Tryz.prog Tryz.f5 Rows.fnWorldNoticeRow.domain false w args ∧ laidMetH Tryz.prog Rows.fnWorldNoticeRow.laid w) ∧ sizedMet enc Tryz.prog Tryz.f5 (OpenSpec.ofChange Rows.fnWorldNoticeSpec) false w args)
   (Rows.fnWorldNoticeSpec.post enc Tryz.prog Tryz.f5 false true false false) := by
 refine returnsInHanded_of_change_and (C := Tryz.checked) (X := fun w _ => laidMetH Tryz.prog Rows.fnWorldNoticeRow.laid w) (fun _ _ _ hh h => h.of_heap hh) own started (by kernel_rfl) Tryz.func5
  (ChangeSpec.witness_shaped (enc := enc) (C := Tryz.checked) (os := os) (X := fun w _ => laidMetH Tryz.prog Rows.fnWorldNoticeRow.laid w) false (World.laidAll Tryz.prog os Rows.fnWorldNoticeRow.laid) #[.slice none 0 0] 8 (World.laidAll_os _ _ _)
   (World.shaped_of_ZipB (by kernel_rfl) (by kernel_rfl)) (by kernel_rfl) (by kernel_rfl) (by kernel_rfl)
   (by rw [MakeChecks.laidMetH_plain _ _ _ (by kernel_rfl)]; exact laidMet_laidAll _ (by kernel_rfl) (by kernel_rfl))) ?_
 intro W base args ds gs before hval0 hW hcnd hsz0 hL _
 have hsz : (DataW.weightsEach Tryz.prog (Tryz.f5.params.toList ++ Rows.fnWorldNoticeSpec.plain.varTypes Tryz.prog) (ds ++ gs)).all (· ≤ reachBytes) = true := hsz0
 have hval : ∀ (j : Nat) t v, Tryz.f5.params[j]? = some t → args[j]? = some v → Value.okWide Tryz.prog W .any base t v := hval0
 have hW' := hW
 obtain ⟨p, q, hA0, hV, rfl, hfz, hnd⟩ := hW
 have hA : DataW.TrodAll enc Tryz.prog W 0 (fun _ => true) true Tryz.f5.params.toList args.toList ds p := hA0
 rw [Tryz.params5] at hA hval hsz
 obtain ⟨v0, vs0, d0, ds0, p0, q0, hargs, rfl, rfl, h0, r0⟩ := trodAll_cons hA
 obtain ⟨rfl, rfl, rfl⟩ := trodAll_nil r0
 obtain rfl : args = #[v0] := by cases args; simp_all
 obtain ⟨rfl, rfl⟩ := trodVars_none hV
 obtain ⟨a0, len0, cap0, rfl⟩ := okWide_slice Tryz.underlying37 (hval 0 37 v0 rfl rfl)
 have k0 := h0
 have lt0 : ∀ x ∈ p0, x.block < W.heap.size := by obtain ⟨m, hm⟩ := k0; exact DataW.trod_lt m _ _ _ hm
 obtain ⟨z0, w0⟩ : ∃ zs, IsRow .u8 W a0 len0 cap0 zs := by
  obtain ⟨fuel, hf⟩ := h0
  rcases open_ints Tryz.underlying37 Tryz.underlying5 (by kernel_rfl) hf with ⟨hcs, _⟩ | ⟨x, l, c, zs, hcs, _, hl, hm, hz, _, hcell, hwz⟩
  ·simp [Value.cells] at hcs
   obtain ⟨rfl, rfl, rfl⟩ := hcs
   exact ⟨[], .inl ⟨rfl, rfl, rfl, rfl⟩⟩
  ·simp [Value.cells] at hcs
   obtain ⟨rfl, rfl, rfl⟩ := hcs
   exact ⟨zs, .inr ⟨_, rfl, hl, hm, by simpa using hz, hcell, hwz⟩⟩
 have y0 : len0 * 1 ≤ 140737488351232 := YtloijngehifbmaaGreatDoorW.PrintWords.sized_ints hsz (j := 0) (t := 37) rfl rfl Tryz.underlying37 Tryz.underlying5 (by kernel_rfl) (by kernel_rfl) h0
 clear hA0 hval0 hsz0 hsz
 refine (P.laws_FnWorldNotice.walk Pure.FnWorldNotice a0 len0 cap0 z0 W w0 y0).mono fun e W' ⟨he, bel⟩ => ?_
 subst he
 exact ⟨_, rfl, _, _, _, [], _, [], hW', trodAll_mk1 (shut_bool Tryz.underlying4 _), (trodAll_cons_mk (Below.trod laidOut (by kernel_rfl) (of_decide_eq_true (by kernel_rfl)) k0 bel lt0) trodAll_mk0), rfl, bel.frame _, fun h => by cases h⟩
set_option maxHeartbeats 4000000 in
theorem over : Rows.fnWorldNoticeRow.holds Tryz.pinned (OpenSpec.ofChange Rows.fnWorldNoticeSpec) :=
 OpenClaim.holds_of_wide 5 Tryz.f5 rfl rfl rfl rfl rfl rfl rfl ⟨rfl, rfl, rfl, rfl, rfl⟩ rfl rfl rfl rfl rfl (by as_aux_lemma => kernel_rfl) Tryz.func5 (by as_aux_lemma => kernel_rfl)
  (of_decide_eq_true (by as_aux_lemma => kernel_rfl)) (by unfold Func.isWrapper; first | (rw [if_pos (by decide +kernel)]; kernel_rfl) | (rw [if_neg (by decide +kernel)]; exact ⟨rfl, rfl⟩))
  (fun os started H enc _ => lifted os started H enc)
theorem card_holds : Rows.FnWorldNoticeCardSaid :=
 Claim7.holds_tied_plain_at .later [] [.data, .pinned] true (true, "1ef083c4003365797996df66185b189109dab195f9b856b84c42690569850767") true over (fun _ h => by cases h) (by as_aux_lemma => kernel_rfl) (fun _ h => by cases h) fnWorldNotice_row_tie rfl ⟨rfl, rfl⟩ (by as_aux_lemma => kernel_rfl) rfl
  (fun f fn hf hfn => by
   obtain rfl : f = 5 := Option.some.inj ((show Tryz.prog.funcNamed "loop.example/pedlar/laws.FnWorldNotice" = some 5 by as_aux_lemma => kernel_rfl).symm.trans hf) |>.symm
   obtain rfl : fn = Tryz.f5 := (Option.some.inj (Tryz.func5.symm.trans hfn)).symm
   exact ⟨by as_aux_lemma => kernel_rfl, fun j t ht => by
    rw [Tryz.params5] at ht
    have hm : t ∈ [37] := by simpa using Array.mem_of_getElem? ht
    have hall : ([37].all fun u => !Tryz.prog.wantsStandIn u) = true := by as_aux_lemma => kernel_rfl
    exact (show Tryz.prog.wantsStandIn t = false by simpa using List.all_eq_true.1 hall t hm)⟩)
  (by as_aux_lemma => kernel_rfl)
#print axioms card_holds
end Go.Proofs.YtloijngehifbmaaGreatDoor.fnWorldNotice
namespace Go.Proofs.YtloijngehifbmaaGreatDoor
theorem fnWorldNotice_holds : Rows.FnWorldNoticeCardSaid := fnWorldNotice.card_holds
end Go.Proofs.YtloijngehifbmaaGreatDoor
end
