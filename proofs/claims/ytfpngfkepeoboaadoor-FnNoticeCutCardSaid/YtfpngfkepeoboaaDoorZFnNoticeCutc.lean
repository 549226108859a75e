/- FnNoticeCut holds of the given program at every input: Two notices are written one behind the other. So are drawn ones. No condition. Written by a program of this session (wip/pr.py). -/
import Derived.Test.YtfpngfkepeoboaaDoorZFnNoticeCutb
import Derived.Test.YtfpngfkepeoboaaDoorZFnNoticeCuta
import Derived.Laws.BitsLemmas
import Derived.Lib.Strings
import Derived.Deep.RegionHeld3
import Derived.Shelf.Strings.BuilderK
import Derived.Lib.IndexAny
import Derived.SizedLaws
import Derived.ChangeSlices
import Derived.Test.YtfpngfkepeoboaaDoorRows
import Derived.Test.YtfpngfkepeoboaaDoorCards
import Derived.Test.YtfpngfkepeoboaaDoorTie
import Derived.LaidMore
import Derived.Lay
import Derived.SevenTiedAt
import Derived.Stop.Joined
import Derived.WalkKit
import Derived.ProofKit
import Derived.OpenShut
import Derived.ShutString
import Derived.ChangeOld
import Derived.Below

section
namespace Go.Proofs.YtfpngfkepeoboaaDoor.P
open Go.RowKit Go.Proofs.YtfpngfkepeoboaaDoorW.PrintWords Go.Proofs.YtfpngfkepeoboaaDoorW.PrintLast Go.Proofs.YtfpngfkepeoboaaDoorW.PrintMore
attribute [local go_sem] max2_int min2_int max_two min_two max_three min_three max_four min_four
set_option linter.unusedVariables false
set_option linter.unusedSimpArgs false
set_option maxHeartbeats 8000000
set_option maxRecDepth 100000
def laws_lpGroups.l0:Nat→List (S40)→List (S40)→Int→Option (Bool)
 | 0,_,_,_=>none
 | k+1,x0,x1,x5=>if x5 < (x0.length:Int) then (if 0≤x5 then (if x5 < (x1.length:Int) then ((laws_lpGroup.f k ((rd_T40 x0 x5).f0) ((rd_T40 x0 x5).f1) ((rd_T40 x0 x5).f2) ((rd_T40 x1 x5).f0) ((rd_T40 x1 x5).f1) ((rd_T40 x1 x5).f2)).bind fun t268=>(if t268=true then (laws_lpGroups.l0 k x0 x1 (wrap64 (x5+1))) else (some false))) else (none)) else (none)) else (some true)
def laws_lpGroups.f (k:Nat) (l0:List (S40)) (l1:List (S40)):Option (Bool):=if (l0.length:Int)=(l1.length:Int) then (laws_lpGroups.l0 k l0 l1 0) else (some false)
def laws_lpGroups.T6:Bool×List (List Nat×List Nat):=(true,[([],[]),([],[]),([0,1],[0,1]),([2],[2]),([],[]),([],[]),([4,5],[4,5]),([6],[6]),([3,7],[3,7]),([8],[8])])
def laws_lpGroups.B6:List Nat:=[0,0,3,7,0,0,48,112,255,511]
theorem laws_lpGroups.tab6:rtab .any (opsOf Tryd.f9 6)=laws_lpGroups.T6:=by kernel_rfl
theorem laws_lpGroups.bits6:waitsOk laws_lpGroups.T6.2 laws_lpGroups.B6=true:=by kernel_rfl
theorem laws_lpGroups.calls (k:Nat) (A0:Option Addr) (c0:Nat) (l0:List (S40)) (A1:Option Addr) (c1:Nat) (l1:List (S40)) (r:Bool) (w:World) (hr0:Kd.C k40 w A0 l0.length l0) (hc0:l0.length≤c0) (hr1:Kd.C k40 w A1 l1.length l1) (hc1:l1.length≤c1) (h:laws_lpGroups.f k l0 l1=some r) :
  Calls Tryd.prog 9 #[.slice A0 l0.length c0,.slice A1 l1.length c1] w fun e w'=>e=.returned (.bool r)∧Below w.heap.size w w':=by
 have hu40:=Tryd.underlying40;have HR0:=A_ hr0;have HC0:=A_ hc0;clear hr0 hc0;have HR1:=A_ hr1;have HC1:=A_ hc1;clear hr1 hc1;have HB:=A_ (Below.refl w.heap.size w);unfold laws_lpGroups.f at h
 have H:=h;clear h;replace H:=iteE H;rcases H with ⟨c3,H⟩|⟨c3,H⟩
 ·obtain ⟨c3b0,c3b1⟩:=eqT c3
  have c3b2:(l0.length == l1.length)=true:=by first|simpa using c3|(simp at c3 ⊢;omega)
  clear c3;have H':=A_ H;clear H;go_enter Tryd.func9,Tryd.ntmps9;go_wp2
  go_loopg [5] k (fun kq v5 w'=>∃ (x5_1:Int),v5=.int .i64 x5_1∧Aside0 (laws_lpGroups.l0 kq l0 l1 x5_1=some r)∧Aside0 (kq≤k)∧Aside0 (Below w.heap.size w w'))
  case atStart=>exact ⟨(0),zz2,H',⟨Nat.le_refl _⟩,⟨(zz12 HB)⟩⟩
  case round=>
   clear H';obtain ⟨x5_1,rfl,HA,HK1,HB⟩:=hrel;cases gk with
   | zero=>exact absurd HA.out (by simp [laws_lpGroups.l0])
   | succ k1=>
    obtain ⟨H⟩:=HA;simp only [laws_lpGroups.l0] at H
    replace H:=iteEd H;rcases H with ⟨c4b0,H⟩|⟨c4b0,H⟩
    ·replace H:=iteNd H
     obtain ⟨c5b0,H⟩:=H;replace H:=iteNd H;obtain ⟨c6b0,H⟩:=H;replace H:=bindA H;obtain ⟨t268,A7,H⟩:=H;have HF8:=A_ H;clear H;try go_wp2
     replace HB:=A_ (below_drew1 HB.out);obtain ⟨⟨ad266,A266_0,c266_0,A266_1,c266_1,e266,hx266_0,hx266_1,hx266_2,hl266_0,hi266_0,hl266_1,hi266_1⟩,p266,q266⟩:=atB (at_T40 HR0.out x5_1);have hw266_2:=hx266_2;have hw266_1:=hx266_1;have hw266_0:=hx266_0;cases e266
     obtain ⟨hx266_0,hx266_1,hx266_2⟩:=cb3 HB hx266_0 hx266_1 hx266_2;have HR266_0:=A_ hi266_0;have HC266_0:=A_ hl266_0;clear hi266_0 hl266_0;have HR266_1:=A_ hi266_1;have HC266_1:=A_ hl266_1;clear hi266_1 hl266_1;obtain ⟨⟨ad267,A267_0,c267_0,A267_1,c267_1,e267,hx267_0,hx267_1,hx267_2,hl267_0,hi267_0,hl267_1,hi267_1⟩,p267,q267⟩:=atB (at_T40 HR1.out x5_1);have hw267_2:=hx267_2;have hw267_1:=hx267_1;have hw267_0:=hx267_0;cases e267
     obtain ⟨hx267_0,hx267_1,hx267_2⟩:=cb3 HB hx267_0 hx267_1 hx267_2;have HR267_0:=A_ hi267_0;have HC267_0:=A_ hl267_0;clear hi267_0 hl267_0;have HR267_1:=A_ hi267_1;have HC267_1:=A_ hl267_1;clear hi267_1 hl267_1;refine start_ (n:=10) (S:=fun w'=>w'.cell? (ad266.add ((x5_1).toNat * 3))=some (.slice A266_0 ((rd_T40 l0 x5_1).f0).length c266_0)∧w'.cell? ⟨(ad266.add ((x5_1).toNat * 3)).block,(ad266.add ((x5_1).toNat * 3)).off+1,none⟩=some (.slice A266_1 ((rd_T40 l0 x5_1).f1).length c266_1)∧w'.cell? ⟨(ad266.add ((x5_1).toNat * 3)).block,(ad266.add ((x5_1).toNat * 3)).off+2,none⟩=some (.int .i64 ((rd_T40 l0 x5_1).f2))∧w'.cell? (ad267.add ((x5_1).toNat * 3))=some (.slice A267_0 ((rd_T40 l1 x5_1).f0).length c267_0)∧w'.cell? ⟨(ad267.add ((x5_1).toNat * 3)).block,(ad267.add ((x5_1).toNat * 3)).off+1,none⟩=some (.slice A267_1 ((rd_T40 l1 x5_1).f1).length c267_1)∧w'.cell? ⟨(ad267.add ((x5_1).toNat * 3)).block,(ad267.add ((x5_1).toNat * 3)).off+2,none⟩=some (.int .i64 ((rd_T40 l1 x5_1).f2))) (ds:=[]) #[yF,yF,yF,yF,yF,yF,yF,yF,yF,yF] (by kernel_rfl) rfl rfl ⟨((HB.out.cell (World.block_lt_of_cell? w _ hw266_0)).trans hw266_0),((HB.out.cell (World.block_lt_of_cell? w _ hw266_1)).trans hw266_1),((HB.out.cell (World.block_lt_of_cell? w _ hw266_2)).trans hw266_2),((HB.out.cell (World.block_lt_of_cell? w _ hw267_0)).trans hw267_0),((HB.out.cell (World.block_lt_of_cell? w _ hw267_1)).trans hw267_1),((HB.out.cell (World.block_lt_of_cell? w _ hw267_2)).trans hw267_2)⟩ (fun hHeld=>?_);refine with_tabW laws_lpGroups.tab6 laws_lpGroups.bits6 (fun HT_ HW_=>?_);generalize wr.drew=w9 at HB HR266_0 HR266_1 HR267_0 HR267_1 hx266_0 hx266_1 hx266_2 hx267_0 hx267_1 hx267_2 hHeld ⊢;refine pureZ 0 (some 17) #[yT,yF,yF,yF,yF,yF,yF,yF,yF,yF] ?_;refine pureZ 1 (some 18) #[yT,yT,yF,yF,yF,yF,yF,yF,yF,yF] ?_;refine pureZ 2 (some 19) #[yT,yT,yT,yF,yF,yF,yF,yF,yF,yF] ?_;refine pureZ 4 (some 21) #[yT,yT,yT,yF,yT,yF,yF,yF,yF,yF] ?_;refine pureZ 5 (some 22) #[yT,yT,yT,yF,yT,yT,yF,yF,yF,yF] ?_;refine pureZ 6 (some 23) #[yT,yT,yT,yF,yT,yT,yT,yF,yF,yF] ?_;refine takeZ6 3 (some 20) #[yT,yT,yT,yT,yT,yT,yT,yF,yF,yF] hHeld ?_;refine takeZ6 7 (some 24) #[yT,yT,yT,yT,yT,yT,yT,yT,yF,yF] hHeld ?_;refine oneZ 8 (some 25) #[yT,yT,yT,yT,yT,yT,yT,yT,yT,yF] (fun K hK=>?_);refine goes_ Tryd.func21 (by kernel_rfl) rfl #[.agg #[.slice A266_0 ((rd_T40 l0 x5_1).f0).length c266_0,.slice A266_1 ((rd_T40 l0 x5_1).f1).length c266_1,.int .i64 ((rd_T40 l0 x5_1).f2)],.agg #[.slice A267_0 ((rd_T40 l1 x5_1).f0).length c267_0,.slice A267_1 ((rd_T40 l1 x5_1).f1).length c267_1,.int .i64 ((rd_T40 l1 x5_1).f2)]] (by rfl) rfl rfl zz14 ?_;with_reducible refine (laws_lpGroup.calls k1 _ _ ((rd_T40 l0 x5_1).f0) _ _ ((rd_T40 l0 x5_1).f1) ((rd_T40 l0 x5_1).f2) _ _ ((rd_T40 l1 x5_1).f0) _ _ ((rd_T40 l1 x5_1).f1) ((rd_T40 l1 x5_1).f2) t268 _ ?side1 ?side2 ?side3 ?side4 ?side5 ?side6 ?side7 ?side8 A7.out).mono ?_
     (case side1=>exact (zz77 HR266_0 HB))
     (case side2=>exact HC266_0.out)
     (case side3=>exact (zz77 HR266_1 HB))
     (case side4=>exact HC266_1.out)
     (case side5=>exact (zz77 HR267_0 HB))
     (case side6=>exact HC267_0.out)
     (case side7=>exact (zz77 HR267_1 HB))
     (case side8=>exact HC267_1.out)
     rintro e w10 ⟨rfl,hb⟩;refine ⟨_,rfl,?_⟩;replace HB:=A_ (bS (zz12 HB) hb);(try clear hb)
     (try clear hb2)
     (try clear hk)
     (try clear hi)
     refine hK.out _ _ ⟨((HB.out.cell (World.block_lt_of_cell? w _ hw266_0)).trans hw266_0),((HB.out.cell (World.block_lt_of_cell? w _ hw266_1)).trans hw266_1),((HB.out.cell (World.block_lt_of_cell? w _ hw266_2)).trans hw266_2),((HB.out.cell (World.block_lt_of_cell? w _ hw267_0)).trans hw267_0),((HB.out.cell (World.block_lt_of_cell? w _ hw267_1)).trans hw267_1),((HB.out.cell (World.block_lt_of_cell? w _ hw267_2)).trans hw267_2)⟩ (fun hHeld=>?_);clear hK K;refine nZ 25 ?_;refine pureZ 9 (some 26) #[yT,yT,yT,yT,yT,yT,yT,yT,yT,yT] ?_;refine done_ (done_of HT_.out (by kernel_rfl)) ?_;go_upto_if 26 with (fail)
     obtain ⟨H⟩:=HF8;replace H:=iteB H;rcases H with ⟨rfl,H⟩|⟨rfl,H⟩
     ·have H':=A_ H
      clear H;go_wp2
      go_roundg k1
      case measure=>have:=HK1.out;omega
      case rel=>exact ⟨(wrap64 (x5_1+1)),zz2,H',⟨(zz18 HK1)⟩,⟨(zz12 HB)⟩⟩
     ·obtain rfl:=sI H
      go_wp2
      go_ret
      exact ⟨zz8,(zz12 HB)⟩
    ·obtain rfl:=sI H
     go_wp2
     go_ret
     exact ⟨zz8,(zz12 HB)⟩
 ·obtain ⟨c3b0,c3b1⟩:=eqF c3
  have c3b2:(l0.length == l1.length)=false:=by first|simpa using c3|(simp at c3 ⊢;omega)
  obtain rfl:=sI H;go_enter Tryd.func9,Tryd.ntmps9;go_wp2
  go_ret
  exact ⟨zz8,(zz12 HB)⟩
end Go.Proofs.YtfpngfkepeoboaaDoor.P
end
section
namespace Go.Proofs.YtfpngfkepeoboaaDoor.B
open Go.RowKit Go.Proofs.YtfpngfkepeoboaaDoorW.PrintWords Go.Proofs.YtfpngfkepeoboaaDoorW.PrintLast Go.Proofs.YtfpngfkepeoboaaDoorW.PrintMore
set_option linter.unusedVariables false
set_option linter.unusedSimpArgs false
theorem w64 {n:Int} (h0:-9223372036854775808≤n) (h1:n < 9223372036854775808):wrap64 n=n:=by
 unfold wrap64;omega
theorem tmod_nn {a b:Int} (h0:0≤a) (h1:0 < b):0≤Int.tmod a b∧Int.tmod a b < b:=
 ⟨Int.tmod_nonneg _ h0,Int.tmod_lt_of_pos _ h1⟩
theorem tdiv_nn {a b:Int} (h0:0≤a) (h1:0 < b):0≤Int.tdiv a b∧Int.tdiv a b≤a:=by
 rw [Int.tdiv_eq_ediv_of_nonneg h0]
 exact ⟨Int.ediv_nonneg h0 (by omega),Int.ediv_le_self _ h0⟩
theorem xor_nn {a b:Int} (h0:0≤a) (h1:a < 2 ^ 62) (h2:0≤b) (h3:b < 2 ^ 62) :
  0≤Go.bits .xor .i64 a b∧Go.bits .xor .i64 a b < 2 ^ 62:=by
 obtain ⟨x,rfl⟩:=Int.eq_ofNat_of_zero_le h0
 obtain ⟨y,rfl⟩:=Int.eq_ofNat_of_zero_le h2
 have hx:x < 2 ^ 62:=by exact_mod_cast h1
 have hy:y < 2 ^ 62:=by exact_mod_cast h3
 have hx':x % 2 ^ IntKind.i64.bits=x:=Nat.mod_eq_of_lt (Nat.lt_of_lt_of_le hx (by decide))
 have hy':y % 2 ^ IntKind.i64.bits=y:=Nat.mod_eq_of_lt (Nat.lt_of_lt_of_le hy (by decide))
 have hz:x ^^^ y < 2 ^ 62:=Nat.xor_lt_two_pow hx hy
 have e:Go.bits .xor .i64 (x:Int) (y:Int)=((x ^^^ y:Nat):Int):=by
  simp only [Go.bits,BitVec.ofInt_natCast,BitVec.toNat_xor,BitVec.toNat_ofNat,hx',hy']
  rw [IntKind.wrap_i64]
  have:((x ^^^ y:Nat):Int) < 2 ^ 62:=by exact_mod_cast hz
  omega
 rw [e]
 exact ⟨Int.natCast_nonneg _,by exact_mod_cast hz⟩
theorem rd_byte {b:List Int} (hb:∀ x ∈ b,0≤x∧x≤255) (i:Int):0≤rd b i∧rd b i≤255:=by
 unfold rd
 rw [List.getD_eq_getElem?_getD]
 cases h:b[i.toNat]? with
 | none=>simp
 | some v=>simpa using hb v (List.mem_of_getElem? h)
theorem wf_u8 {x:Int} (h:(Lit.int .u8 x).wf=true):0≤x∧x≤255:=by
 simp [Lit.wf,IntKind.min,IntKind.max,IntKind.signed,IntKind.bits] at h
 omega
abbrev L (s:ByteArray):List UInt8:=s.data.toList
theorem L_size (s:ByteArray):(L s).length=s.size:=(Lib.size_eq s).symm
theorem L_app (a b:ByteArray):L (a++b)=L a++L b:=by simp [L]
theorem L_ext (s:ByteArray) (a b:Nat):L (s.extract a b)=((L s).drop a).take (b - a):=Lib.extract_data s a b
theorem L_inj {a b:ByteArray} (h:L a=L b):a=b:=by
 cases a;cases b;congr 1;exact Array.toList_inj.1 h
theorem toList_inj {a b:ByteArray}:a.toList=b.toList↔a=b:=by
 rw [Lib.toList_data,Lib.toList_data];exact ⟨fun h=>L_inj h,fun h=>by rw [h]⟩
theorem toList_nil {a:ByteArray}:a.toList=([]:List UInt8)↔a.size=0:=by
 rw [Lib.toList_data,Lib.size_eq];exact List.length_eq_zero_iff.symm
theorem bt_L (s:ByteArray) (i:Nat):bt s i=(((L s).getD i 0).toNat:Int):=by
 unfold bt
 simp only [Int.toNat_natCast]
 split
 ·rename_i h
  rw [List.getD_eq_getElem?_getD,List.getElem?_eq_getElem (by rw [L_size];exact h)]
  simp [L]
  rfl
 ·rename_i h
  rw [List.getD_eq_getElem?_getD,List.getElem?_eq_none (by rw [L_size];omega)]
  rfl
theorem Ev_succ {α:Type} {g:Nat→Option α} {r:α} (h:Ev (fun k=>g (k+1)) r):Ev g r:=Ev.step (f:=fun k=>g (k+1)) (fun _=>rfl) h
end Go.Proofs.YtfpngfkepeoboaaDoor.B
end
section
namespace Go.Proofs.YtfpngfkepeoboaaDoor.Ad
open Go.RowKit Go.Proofs.YtfpngfkepeoboaaDoorW.PrintWords Go.Proofs.YtfpngfkepeoboaaDoor.B
set_option linter.unusedVariables false
set_option linter.unusedSimpArgs false
abbrev ofL (l:List UInt8):ByteArray:=⟨l.toArray⟩
theorem L_of (l:List UInt8):L (ofL l)=l:=by simp [L]
theorem of_L (s:ByteArray):ofL (L s)=s:=by apply L_inj;simp [L]
theorem ofL_size (l:List UInt8):(ofL l).size=l.length:=by rw [← L_size,L_of]
def plainB (c:UInt8):Bool:=(decide (97≤c.toNat) && decide (c.toNat≤122)) || (decide (48≤c.toNat) && decide (c.toNat≤57)) || c.toNat == 46 || c.toNat == 45
def body:List ByteArray→ByteArray
 | []=>⟨#[47]⟩
 | p :: r=>r.foldl (fun a q=>(a++⟨#[47]⟩)++q) ((⟨#[47]⟩:ByteArray)++p)
def smallFrom (s:ByteArray):Nat→Nat→Bool
 | 0,_=>true
 | d+1,i=>if bt s i < 97 then false else if bt s i > 122 then false else smallFrom s d (i+1)
def isSmall (s:ByteArray):Bool:=smallFrom s s.size 0
def sm (b:UInt8):UInt8:=if 65≤b.toNat∧b.toNat≤90 then b+32 else b
def smallB (s:ByteArray):ByteArray:=ofL ((L s).map sm)
end Go.Proofs.YtfpngfkepeoboaaDoor.Ad
end
section
namespace Go.Proofs.YtfpngfkepeoboaaDoor.P
open Go.RowKit Go.Proofs.YtfpngfkepeoboaaDoorW.PrintWords Go.Proofs.YtfpngfkepeoboaaDoorW.PrintLast Go.Proofs.YtfpngfkepeoboaaDoorW.PrintMore Go.Proofs.YtfpngfkepeoboaaDoor.B Go.Proofs.YtfpngfkepeoboaaDoor.Ad
set_option linter.unusedVariables false
set_option linter.unusedSimpArgs false
set_option maxHeartbeats 8000000
set_option maxRecDepth 100000
def stringslite_Index.f (a0:ByteArray) (a1:ByteArray):Option (Int):=match L a1 with
 | [c]=>some (Lib.indexByte (L a0) c)
 | _=>none
theorem one_of_L {a:ByteArray} {c:UInt8} (h:L a=[c]):a=⟨#[c]⟩:=L_inj (by rw [h])
theorem stringslite_Index.calls (a0:ByteArray) (a1:ByteArray) (r:Int) (w:World) (h:stringslite_Index.f a0 a1=some r) :
  Calls Tryd.prog 51 #[.string a0,.string a1] w fun e w'=>e=.returned (.int .i64 r)∧Below w.heap.size w w':=by
 unfold stringslite_Index.f at h
 split at h
 ·rename_i c hc
  obtain rfl:=sI h;obtain rfl:=one_of_L hc;exact (Tryd.stringslite_Index_one a0 c w).mono fun e w' ⟨he,hw⟩=>⟨he,hw ▸ Below.refl _ _⟩
 ·cases h
def strings_Count.f (a0:ByteArray) (a1:ByteArray):Option (Int):=match L a1 with
 | [c]=>some (Lib.countByte (L a0) c)
 | _=>none
theorem strings_Count.calls (a0:ByteArray) (a1:ByteArray) (r:Int) (w:World) (h:strings_Count.f a0 a1=some r) :
  Calls Tryd.prog 42 #[.string a0,.string a1] w fun e w'=>e=.returned (.int .i64 r)∧Below w.heap.size w w':=by
 unfold strings_Count.f at h
 split at h
 ·rename_i c hc
  obtain rfl:=sI h;obtain rfl:=one_of_L hc;exact (Tryd.strings_Count_one a0 c w).mono fun e w' ⟨he,hw⟩=>⟨he,hw ▸ Below.refl _ _⟩
 ·cases h
end Go.Proofs.YtfpngfkepeoboaaDoor.P
end
section
namespace Go.Proofs.YtfpngfkepeoboaaDoor.P
open Go.RowKit Go.Proofs.YtfpngfkepeoboaaDoorW.PrintWords Go.Proofs.YtfpngfkepeoboaaDoorW.PrintLast Go.Proofs.YtfpngfkepeoboaaDoorW.PrintMore
attribute [local go_sem] max2_int min2_int max_two min_two max_three min_three max_four min_four
set_option linter.unusedVariables false
set_option linter.unusedSimpArgs false
set_option maxHeartbeats 8000000
set_option maxRecDepth 100000
def stringslite_Cut.f (a0:ByteArray) (a1:ByteArray):Option (ByteArray×ByteArray×Bool):=(stringslite_Index.f a0 a1).bind fun t290=>(if t290 ≥ 0 then (if 0≤t290 then (if t290≤(a0.size:Int) then (if 0≤(wrap64 (t290+(a1.size:Int))) then (if (wrap64 (t290+(a1.size:Int)))≤(a0.size:Int) then (some (a0.extract 0 (t290:Int).toNat,a0.extract ((wrap64 (t290+(a1.size:Int))):Int).toNat a0.size,true)) else (none)) else (none)) else (none)) else (none)) else (some (a0,(⟨#[]⟩:ByteArray),false)))
theorem stringslite_Cut.calls (a0:ByteArray) (a1:ByteArray) (r1:ByteArray) (r2:ByteArray) (r3:Bool) (w:World) (h:stringslite_Cut.f a0 a1=some (r1,r2,r3)) :
  Calls Tryd.prog 44 #[.string a0,.string a1] w fun e w'=>e=.returned (.tuple #[.string r1,.string r2,.bool r3])∧Below w.heap.size w w':=by
 have HB:=A_ (Below.refl w.heap.size w);unfold stringslite_Cut.f at h
 have H:=h;clear h;replace H:=bindA H;obtain ⟨t290,A3,H⟩:=H;have HF4:=A_ H;clear H;go_enter Tryd.func44,Tryd.ntmps44;go_upto_if 12 with (first|(go_at_call 51;(with_reducible refine (stringslite_Index.calls a0 a1 t290 _ A3.out).mono ?_);rintro e w5 ⟨rfl,hb⟩;replace HB:=A_ (bS (zz12 HB) hb);(try clear hb)))
 repeat (go_quiet (first|(go_at_call 51;(with_reducible refine (stringslite_Index.calls a0 a1 t290 _ A3.out).mono ?_);rintro e w5 ⟨rfl,hb⟩;replace HB:=A_ (bS (zz12 HB) hb);(try clear hb)));go_upto_if 12 with (first|(go_at_call 51;(with_reducible refine (stringslite_Index.calls a0 a1 t290 _ A3.out).mono ?_);rintro e w5 ⟨rfl,hb⟩;replace HB:=A_ (bS (zz12 HB) hb);(try clear hb))))
 obtain ⟨H⟩:=HF4;replace H:=iteEe H;rcases H with ⟨c6b0,H⟩|⟨c6b0,H⟩
 ·(first|rw [c6b0]|(simp only [i64_w,i32_w];rw [c6b0])|skip)
  replace H:=iteN H;obtain ⟨c7,H⟩:=H;have c7b0:=eq_true c7;have c7b1:=dT c7;clear c7;replace H:=iteN H;obtain ⟨c8,H⟩:=H;have c8b0:=eq_true c8;have c8b1:=dT c8;clear c8;obtain ⟨ji9,hji9⟩:∃ j_:Int,(wrap64 (t290+(a1.size:Int)))=j_:=⟨_,rfl⟩;(first|rw [hji9] at H|simp only [hji9] at H)
  have hji9w:(IntKind.i64.wrap (t290+(a1.size:Int)))=ji9:=(i64_w _).trans hji9;replace H:=iteN H;obtain ⟨c10,H⟩:=H;have c10b0:=eq_true c10;have c10b1:=dT c10;clear c10;replace H:=iteN H;obtain ⟨c11,H⟩:=H;have c11b0:=eq_true c11;have c11b1:=dT c11;clear c11;simp only [Option.some.injEq,Prod.mk.injEq] at H
  obtain ⟨rfl,rfl,rfl⟩:=H;go_wp2
  repeat (go_quiet (fail);try go_wp2)
  go_ret3
  exact ⟨zz9,(zz12 HB)⟩
 ·(first|rw [c6b0]|(simp only [i64_w,i32_w];rw [c6b0])|skip)
  simp only [Option.some.injEq,Prod.mk.injEq] at H
  obtain ⟨rfl,rfl,rfl⟩:=H;go_wp2
  repeat (go_quiet (fail);try go_wp2)
  go_ret3
  exact ⟨zz8,(zz12 HB)⟩
def strings_Cut.f (a0:ByteArray) (a1:ByteArray):Option (ByteArray×ByteArray×Bool):=(stringslite_Cut.f a0 a1).bind fun bt291=>(some (bt291.1,bt291.2.1,bt291.2.2))
theorem strings_Cut.calls (a0:ByteArray) (a1:ByteArray) (r1:ByteArray) (r2:ByteArray) (r3:Bool) (w:World) (h:strings_Cut.f a0 a1=some (r1,r2,r3)) :
  Calls Tryd.prog 34 #[.string a0,.string a1] w fun e w'=>e=.returned (.tuple #[.string r1,.string r2,.bool r3])∧Below w.heap.size w w':=by
 have HB:=A_ (Below.refl w.heap.size w);unfold strings_Cut.f at h
 have H:=h;clear h;replace H:=bindA H;obtain ⟨⟨t291,t292,t293⟩,A3,H⟩:=H;try dsimp only at H
 simp only [Option.some.injEq,Prod.mk.injEq] at H
 obtain ⟨rfl,rfl,rfl⟩:=H;go_enter Tryd.func34,Tryd.ntmps34;go_wp2_with (first|(refine gR 44 (some 9) Tryd.func44 (stringslite_Cut.calls a0 a1 t291 t292 t293 _ A3.out) ?_;rintro w4 hb;replace HB:=A_ (bS (zz12 HB) hb);(try clear hb)))
 go_ret3
 exact ⟨zz8,(zz12 HB)⟩
def strings_Index.f (a0:ByteArray) (a1:ByteArray):Option (Int):=(stringslite_Index.f a0 a1).bind fun t269=>(some t269)
theorem strings_Index.calls (a0:ByteArray) (a1:ByteArray) (r:Int) (w:World) (h:strings_Index.f a0 a1=some r) :
  Calls Tryd.prog 43 #[.string a0,.string a1] w fun e w'=>e=.returned (.int .i64 r)∧Below w.heap.size w w':=by
 have HB:=A_ (Below.refl w.heap.size w);unfold strings_Index.f at h
 have H:=h;clear h;replace H:=bindA H;obtain ⟨t269,A3,H⟩:=H;obtain rfl:=sI H;go_enter Tryd.func43,Tryd.ntmps43;go_wp2_with (first|(refine gR 51 (some 7) Tryd.func51 (stringslite_Index.calls a0 a1 t269 _ A3.out) ?_;rintro w4 hb;replace HB:=A_ (bS (zz12 HB) hb);(try clear hb)))
 go_ret
 exact ⟨zz8,(zz12 HB)⟩
end Go.Proofs.YtfpngfkepeoboaaDoor.P
end
section
namespace Go.Proofs.YtfpngfkepeoboaaDoor.P
open Go.RowKit Go.Proofs.YtfpngfkepeoboaaDoorW.PrintWords Go.Proofs.YtfpngfkepeoboaaDoorW.PrintLast Go.Proofs.YtfpngfkepeoboaaDoorW.PrintMore
set_option linter.unusedVariables false
inductive RL where
 | caller (name:ByteArray)
 | rule (lets:Bool) (path:ByteArray)
 | wait (n:Int)
@[reducible] def RL.v:RL→Value
 | .caller x=>.iface 69 (.agg #[.string x])
 | .rule b x=>.iface 71 (.agg #[.bool b,.string x])
 | .wait n=>.iface 73 (.agg #[.int .i64 n])
def impl_readLine.g (k:Nat) (x1 x2:ByteArray):Option (Option RL):=
 if x1.toList=([99,97,108,108,101,114]:List UInt8) then (impl_isGroupName.f k x2).bind fun b=>some (if b=true then some (.caller x2) else none)
 else if x1.toList=([108,101,116]:List UInt8) then (impl_RuleOk.f k x2).bind fun b=>some (if b=true then some (.rule true x2) else none)
 else if x1.toList=([98,97,114]:List UInt8) then (impl_RuleOk.f k x2).bind fun b=>some (if b=true then some (.rule false x2) else none)
 else if x1.toList=([119,97,105,116]:List UInt8) then (impl_readWait.f k x2).bind fun n=>some (some (.wait n))
 else some none
def impl_readLine.f (k:Nat) (a0:ByteArray):Option (Option RL):=(strings_Cut.f a0 (⟨#[32]⟩:ByteArray)).bind fun t=>impl_readLine.g k t.1 t.2.1
def Told (w:World) (r:Option RL) (e:Ending) (w':World):Prop:=∃ iv,e=.returned (.tuple #[iv,.bool r.isSome])∧(∀ x,r=some x→iv=RL.v x)∧Below w.heap.size w w'
theorem told_if {w w':World} {b:Bool} {x:RL} {r:Option RL} {iv:Value} {e:Ending} (hr:(if b=true then some x else none)=r) (he:e=.returned (.tuple #[iv,.bool b])) (hx:iv=x.v) (hb:Below w.heap.size w w'):Told w r e w':=by
 subst hr
 cases b with
 | true=>exact ⟨iv,he,(fun y hy=>by cases hy;exact hx),hb⟩
 | false=>exact ⟨iv,he,(fun y hy=>by cases hy),hb⟩
set_option maxHeartbeats 8000000 in
set_option maxRecDepth 100000 in
theorem impl_readLine.calls (k:Nat) (a0:ByteArray) (r:Option RL) (w:World) (h:impl_readLine.f k a0=some r) :
  Calls Tryd.prog 23 #[.string a0] w fun e w'=>Told w r e w':=by
 unfold impl_readLine.f at h
 obtain ⟨⟨x1,x2,x3⟩,hc,h2⟩:=Option.bind_eq_some_iff.mp h
 have HC:=Aside0.mk hc
 simp only at h2
 unfold impl_readLine.g at h2
 clear h hc
 by_cases c1:x1.toList=([99,97,108,108,101,114]:List UInt8)
 ·rw [if_pos c1] at h2
  have c1b:(x1.toList == ([99,97,108,108,101,114]:List UInt8))=true:=beq_iff_eq.mpr c1
  clear c1
  obtain ⟨b,hb,h3⟩:=Option.bind_eq_some_iff.mp h2
  have HR:=Aside0.mk (Option.some.inj h3)
  have HB:=Aside0.mk hb
  clear h2 hb h3
  go_enter Tryd.func23,Tryd.ntmps23
  go_wp2_with (first
   | (go_at_call 34;(with_reducible refine (strings_Cut.calls a0 (⟨#[32]⟩:ByteArray) x1 x2 x3 _ HC.out).mono ?_);rintro e w1 ⟨rfl,hb1⟩;have HB1:=Aside0.mk hb1;clear hb1)
   | (go_at_call 35;(with_reducible refine (impl_isGroupName.calls k x2 b _ HB.out).mono ?_);rintro e w' ⟨rfl,⟨nd,rfl⟩⟩))
  go_ret2
  exact told_if HR.out rfl rfl (pw_below_drewN HB1.out _)
 rw [if_neg c1] at h2
 have c1b:(x1.toList == ([99,97,108,108,101,114]:List UInt8))=false:=beq_eq_false_iff_ne.mpr c1
 clear c1
 by_cases c2:x1.toList=([108,101,116]:List UInt8)
 ·rw [if_pos c2] at h2
  have c2b:(x1.toList == ([108,101,116]:List UInt8))=true:=beq_iff_eq.mpr c2
  clear c2
  obtain ⟨b,hb,h3⟩:=Option.bind_eq_some_iff.mp h2
  have HR:=Aside0.mk (Option.some.inj h3)
  have HB:=Aside0.mk hb
  clear h2 hb h3
  go_enter Tryd.func23,Tryd.ntmps23
  go_wp2_with (first
   | (go_at_call 34;(with_reducible refine (strings_Cut.calls a0 (⟨#[32]⟩:ByteArray) x1 x2 x3 _ HC.out).mono ?_);rintro e w1 ⟨rfl,hb1⟩;have HB1:=Aside0.mk hb1;clear hb1)
   | (go_at_call 36;(with_reducible refine (impl_RuleOk.calls k x2 b _ HB.out).mono ?_);rintro e w' ⟨rfl,⟨nd,rfl⟩⟩))
  go_ret2
  exact told_if HR.out rfl rfl (pw_below_drewN HB1.out _)
 rw [if_neg c2] at h2
 have c2b:(x1.toList == ([108,101,116]:List UInt8))=false:=beq_eq_false_iff_ne.mpr c2
 clear c2
 by_cases c3:x1.toList=([98,97,114]:List UInt8)
 ·rw [if_pos c3] at h2
  have c3b:(x1.toList == ([98,97,114]:List UInt8))=true:=beq_iff_eq.mpr c3
  clear c3
  obtain ⟨b,hb,h3⟩:=Option.bind_eq_some_iff.mp h2
  have HR:=Aside0.mk (Option.some.inj h3)
  have HB:=Aside0.mk hb
  clear h2 hb h3
  go_enter Tryd.func23,Tryd.ntmps23
  go_wp2_with (first
   | (go_at_call 34;(with_reducible refine (strings_Cut.calls a0 (⟨#[32]⟩:ByteArray) x1 x2 x3 _ HC.out).mono ?_);rintro e w1 ⟨rfl,hb1⟩;have HB1:=Aside0.mk hb1;clear hb1)
   | (go_at_call 36;(with_reducible refine (impl_RuleOk.calls k x2 b _ HB.out).mono ?_);rintro e w' ⟨rfl,⟨nd,rfl⟩⟩))
  go_ret2
  exact told_if HR.out rfl rfl (pw_below_drewN HB1.out _)
 rw [if_neg c3] at h2
 have c3b:(x1.toList == ([98,97,114]:List UInt8))=false:=beq_eq_false_iff_ne.mpr c3
 clear c3
 by_cases c4:x1.toList=([119,97,105,116]:List UInt8)
 ·rw [if_pos c4] at h2
  have c4b:(x1.toList == ([119,97,105,116]:List UInt8))=true:=beq_iff_eq.mpr c4
  clear c4
  obtain ⟨n,hb,h3⟩:=Option.bind_eq_some_iff.mp h2
  have HR:=Aside0.mk (Option.some.inj h3)
  have HB:=Aside0.mk hb
  clear h2 hb h3
  go_enter Tryd.func23,Tryd.ntmps23
  go_wp2_with (first
   | (go_at_call 34;(with_reducible refine (strings_Cut.calls a0 (⟨#[32]⟩:ByteArray) x1 x2 x3 _ HC.out).mono ?_);rintro e w1 ⟨rfl,hb1⟩;have HB1:=Aside0.mk hb1;clear hb1)
   | (go_at_call 37;(with_reducible refine (impl_readWait.calls k x2 n _ HB.out).mono ?_);rintro e w2 ⟨rfl,hb2⟩;have HB2:=Aside0.mk (below_step HB1.out hb2);clear hb2))
  go_ret2
  have hr:=HR.out
  subst hr
  exact ⟨_,rfl,(fun x hx=>by cases hx;rfl),HB2.out⟩
 ·rw [if_neg c4] at h2
  have c4b:(x1.toList == ([119,97,105,116]:List UInt8))=false:=beq_eq_false_iff_ne.mpr c4
  clear c4
  obtain rfl:=Option.some.inj h2
  clear h2
  go_enter Tryd.func23,Tryd.ntmps23
  go_wp2_with (first
   | (go_at_call 34;(with_reducible refine (strings_Cut.calls a0 (⟨#[32]⟩:ByteArray) x1 x2 x3 _ HC.out).mono ?_);rintro e w1 ⟨rfl,hb1⟩;have HB1:=Aside0.mk hb1;clear hb1))
  go_ret2
  exact ⟨_,rfl,(fun x hx=>by cases hx),HB1.out⟩
end Go.Proofs.YtfpngfkepeoboaaDoor.P
end
section
namespace Go.Proofs.YtfpngfkepeoboaaDoor.P
open Go.RowKit Go.Proofs.YtfpngfkepeoboaaDoorW.PrintWords Go.Proofs.YtfpngfkepeoboaaDoorW.PrintLast Go.Proofs.YtfpngfkepeoboaaDoorW.PrintMore
set_option linter.unusedVariables false
def takeF (gs:List Gp) (b:Bool):RL→List Gp×Bool
 | .caller x=>if b=true∨gs.length=0 then (gs++[⟨[x],[],0⟩],false) else (gs.set (gs.length - 1) ⟨(lastG gs).f0++[x],(lastG gs).f1,(lastG gs).f2⟩,b)
 | .rule l p=>if gs.length=0 then (gs,b) else (if (lastG gs).f1.length < 6 then gs.set (gs.length - 1) ⟨(lastG gs).f0,(lastG gs).f1++[⟨l,p⟩],(lastG gs).f2⟩ else gs,true)
 | .wait n=>if gs.length=0 then (gs,b) else (gs.set (gs.length - 1) ⟨(lastG gs).f0,(lastG gs).f1,n⟩,true)
structure Rd (w0 w wc:World) (base gr:Nat) (ok:Nat→Prop) (v:Value) (b:Bool) (gs:List Gp):Prop where
 S:Kd.S kGp 40 wc base ok v gs
 B:Below base w0 wc
 K:Kept w wc (fun k=>ok k∨k=gr)
 le:base≤gr
 ng:∀ k,ok k→k≠gr
 box:wc.heap[gr]?=some (.cells #[v,.bool b] 57 (0,0))
theorem Rd.lt {w0 w wc:World} {base gr:Nat} {ok:Nat→Prop} {v:Value} {b:Bool} {gs:List Gp} (h:Rd w0 w wc base gr ok v b gs):gr < wc.heap.size:=blk_lt h.box
theorem Rd.below {w0 w wc wd:World} {base gr:Nat} {ok:Nat→Prop} {v:Value} {b:Bool} {gs:List Gp} (h:Rd w0 w wc base gr ok v b gs) (hb:Below wc.heap.size wc wd):Rd w0 w wd base gr ok v b gs:=
 ⟨Kd.S_below h.S hb,h.B.trans (hb.mono (Nat.le_trans h.le (Nat.le_of_lt h.lt))),h.K.below hb,h.le,h.ng,(hb.block gr h.lt).trans h.box⟩
theorem Rd.cell0 {w0 w wc:World} {base gr:Nat} {ok:Nat→Prop} {v:Value} {b:Bool} {gs:List Gp} (h:Rd w0 w wc base gr ok v b gs):wc.cell? ⟨gr,0,none⟩=some v:=(blk_cell h.box 0).trans rfl
theorem Rd.cell1 {w0 w wc:World} {base gr:Nat} {ok:Nat→Prop} {v:Value} {b:Bool} {gs:List Gp} (h:Rd w0 w wc base gr ok v b gs):wc.cell? ⟨gr,1,none⟩=some (.bool b):=(blk_cell h.box 1).trans rfl
theorem Rd.flag {w0 w wc:World} {base gr:Nat} {ok:Nat→Prop} {v:Value} {b:Bool} {gs:List Gp} (h:Rd w0 w wc base gr ok v b gs) (b':Bool):Rd w0 w (wc.setCell ⟨gr,1,none⟩ (.bool b')) base gr ok v b' gs:=
 ⟨Kd.S_far (p:=⟨gr,1,none⟩) h.S h.ng _,h.B.setCell h.le _,h.K.setCell (.inl (.inr rfl)) _,h.le,h.ng,blk_put h.box 1 _ rfl⟩
theorem Rd.groups {w0 w wc:World} {base gr:Nat} {ok:Nat→Prop} {v u:Value} {b:Bool} {gs l:List Gp} (h:Rd w0 w wc base gr ok v b gs) {wd:World} {row:Option Nat} (hg:wc.grownBy wd row) (hrow:∀ k,row=some k→ok k)
  (hS:Kd.S kGp 40 wd base ok u l) (hB:Below base w0 wd):Rd w0 w (wd.setCell ⟨gr,0,none⟩ u) base gr ok u b l:=
 ⟨Kd.S_far (p:=⟨gr,0,none⟩) hS h.ng _,hB.setCell h.le _,(Kept.of_grown hg h.K (fun k hk=>.inl (.inl (hrow k hk)))).setCell (.inl (.inr rfl)) _,h.le,h.ng,blk_put (blk_grown h.box hg (fun e=>h.ng gr (hrow gr e.symm) rfl)) 0 _ rfl⟩
def Took (w0 w:World) (base gr:Nat) (ok:Nat→Prop) (r:List Gp×Bool) (e:Ending) (w':World):Prop:=e=.returned (.tuple #[])∧∃ v',Rd w0 w w' base gr ok v' r.2 r.1
theorem as_cc (v:Value) (w:World):(Instr.typeAssert (.iface 69 v) 44 69 true).run Tryd.prog w=.ok (.tuple #[v,.bool true]) w:=by kernel_rfl
theorem as_rc (v:Value) (w:World):(Instr.typeAssert (.iface 71 v) 44 69 true).run Tryd.prog w=.ok (.tuple #[.agg #[.string ByteArray.empty],.bool false]) w:=by kernel_rfl
theorem as_rr (v:Value) (w:World):(Instr.typeAssert (.iface 71 v) 44 71 true).run Tryd.prog w=.ok (.tuple #[v,.bool true]) w:=by kernel_rfl
theorem as_wc (v:Value) (w:World):(Instr.typeAssert (.iface 73 v) 44 69 true).run Tryd.prog w=.ok (.tuple #[.agg #[.string ByteArray.empty],.bool false]) w:=by kernel_rfl
theorem as_wr (v:Value) (w:World):(Instr.typeAssert (.iface 73 v) 44 71 true).run Tryd.prog w=.ok (.tuple #[.agg #[.bool false,.string ByteArray.empty],.bool false]) w:=by kernel_rfl
theorem as_ww (v:Value) (w:World):(Instr.typeAssert (.iface 73 v) 44 73 true).run Tryd.prog w=.ok (.tuple #[v,.bool true]) w:=by kernel_rfl
attribute [local go_sem] as_cc as_rc as_rr as_wc as_wr as_ww
section
variable {P:Program} {ops:Array Oper} {o:Oper} {a:Act} {Q:Exit→Act→World→Prop} {md:Region.Mode} {S:World→Prop} {ds:List Nat} {W:World}
theorem rgP (i:Nat) (N:Option Tmp) {v:Value} {fuel:Nat} {l:Array Bool} (l':Array Bool) {a':Act}
  (h:wpAnyLast P md ops Q S ds fuel l' a' W) (hi:ops[i]?=some o:=by rfl) (hN:o.dst=N:=by rfl) (hc:anyB md ops l l' i=true:=by kernel_rfl)
  (hQ:∀ c a w,Q (.panic c) (a.put o.dst v) w→Q (.panic c) a w:=by exact fun _ _ _ h=>h)
  (hy:Yields P ops o v a:=by exact Or.inl ⟨by rfl,by intro w';go_simp;with_reducible rfl⟩)
  (ha:a.put N v=a':=by (simp only [Act.put,List.setIfInBounds_toArray,List.set_cons_zero,List.set_cons_succ,i64_w,i32_w];rfl)):wpAnyLast P md ops Q S ds (fuel+1) l a W:=pure_ l' hi hN hc hQ hy ha h
theorem rgT (i:Nat) (N:Option Tmp) {v:Value} {fuel:Nat} {l:Array Bool} (l':Array Bool) (hS:S W) {a':Act}
  (h:wpAnyLast P md ops Q S ds fuel l' a' W) (hi:ops[i]?=some o:=by rfl) (hN:o.dst=N:=by rfl) (hc:takeB md ops ds l l' i=true:=by kernel_rfl)
  (hQ:∀ c a w,Q (.panic c) (a.put o.dst v) w→Q (.panic c) a w:=by exact fun _ _ _ h=>h)
  (hy:YieldsIf P ops S o v a:=by exact Or.inl ⟨by rfl,by rintro w' ⟨s0,s1⟩;go_simp;with_reducible rfl⟩)
  (ha:a.put N v=a':=by (simp only [Act.put,List.setIfInBounds_toArray,List.set_cons_zero,List.set_cons_succ,i64_w,i32_w];rfl)):wpAnyLast P md ops Q S ds (fuel+1) l a W:=take_ l' hi hN hc hQ hy hS ha h
theorem rgT3 (i:Nat) (N:Option Tmp) {v:Value} {fuel:Nat} {l:Array Bool} (l':Array Bool) (hS:S W) {a':Act}
  (h:wpAnyLast P md ops Q S ds fuel l' a' W) (hi:ops[i]?=some o:=by rfl) (hN:o.dst=N:=by rfl) (hc:takeB md ops ds l l' i=true:=by kernel_rfl)
  (hQ:∀ c a w,Q (.panic c) (a.put o.dst v) w→Q (.panic c) a w:=by exact fun _ _ _ h=>h)
  (hy:YieldsIf P ops S o v a:=by exact Or.inl ⟨by rfl,by rintro w' ⟨s0,s1,s2⟩;go_simp;with_reducible rfl⟩)
  (ha:a.put N v=a':=by (simp only [Act.put,List.setIfInBounds_toArray,List.set_cons_zero,List.set_cons_succ,i64_w,i32_w];rfl)):wpAnyLast P md ops Q S ds (fuel+1) l a W:=take_ l' hi hN hc hQ hy hS ha h
theorem rgN (N:Tmp) {fuel:Nat} {l:Array Bool} {b a':Act} {v:Value} (h:wpAnyLast P md ops Q S ds fuel l a' W) (hb:a=b.put (some N) v:=by rfl) (ha:b.put (some N) v=a':=by (simp only [Act.put,List.setIfInBounds_toArray,List.set_cons_zero,List.set_cons_succ,i64_w,i32_w];rfl)):wpAnyLast P md ops Q S ds fuel l a W:=norm_ (hb.trans ha) h
theorem rgO (i:Nat) (N:Tmp) (v:Value) (w1:World) {fuel:Nat} {l:Array Bool} (l':Array Bool) (hS:S w1) {a':Act} (h:S w1→wpAnyLast P md ops Q S ds fuel l' a' w1) (hi:ops[i]?=some o:=by rfl) (hN:o.dst=some N:=by rfl) (hc:readyB md ops l l' i=true:=by kernel_rfl) (hd:i ∉ ds:=by decide)
  (hw:Region.wanted o (yielded ops a.tmps)=true:=by rfl) (hrun:(execOp a.eval o).run P W=.ok (.value v) w1:=by first|(go_simp;done)|(go_simp;rfl))
  (ha:a.put (some N) v=a':=by (simp only [Act.put,List.setIfInBounds_toArray,List.set_cons_zero,List.set_cons_succ,i64_w,i32_w];rfl)):wpAnyLast P md ops Q S ds (fuel+1) l a W:=
 one_ l' hi hN hc hd fun K hK=>value_ hw hN hrun (hK.out _ _ hS (fun hs=>ha ▸ h hs))
theorem rgL (i:Nat) (w1:World) {fuel:Nat} {l:Array Bool} (l':Array Bool) (h:wpAnyLast P md ops Q S ds fuel l' a w1) (hi:ops[i]?=some o:=by rfl) (hN:o.dst=none:=by rfl) (hc:readyB md ops l l' i=true:=by kernel_rfl) (hd:i ∈ ds:=by decide)
  (hw:Region.wanted o (yielded ops a.tmps)=true:=by rfl) (hrun:(execOp a.eval o).run P W=.ok .skip w1:=by first|(go_simp;done)|(go_simp;rfl)):wpAnyLast P md ops Q S ds (fuel+1) l a W:=
 last_ l' hi hN hc hd fun K hK=>skip_ hw hN hrun (hK.out _ _ h)
end
theorem lit_string (w:World) (base:Nat) (hb:base≤w.heap.size) (x:ByteArray):Kd.string.R 9 (w.alloc (.cells #[.string x] 9)) base (fun _=>True) (.slice (some ⟨w.heap.size,0,none⟩) 1 1) [x]:=by
 refine ⟨fun _ _=>trivial,[.string x],?_,Reps.one rfl (Reps.none _ _)⟩
 have h2:=World.ownsRow_lit (base:=base) (e:=9) (size:=1) w #[.string x] 1 hb (by decide) rfl
 exact h2
theorem fresh_group {wc w3:World} {base:Nat} {ok:Nat→Prop} {u v0 v1:Value} {l:List Gp} {x:Gp} (hS:Kd.S kGp 40 wc base ok u l) (hfr:∀ k,wc.heap.size≤k→ok k)
  (hst:∀ k,k < wc.heap.size→w3.heap[k]?=wc.heap[k]?) (hle:wc.heap.size≤w3.heap.size)
  (r0:Kd.string.R 9 w3 base (fun _=>True) v0 x.f0) (r1:k51.R 51 w3 base (fun _=>True) v1 x.f1)
  (h0:∀ k,some k=v0.ownBlock→wc.heap.size≤k) (h1:∀ k,some k=v1.ownBlock→wc.heap.size≤k) :
  ∃ okp:Nat→Prop,kGp.M w3 base okp x [v0,v1,.int .i64 x.f2]∧(∀ k,okp k→ok k∧some k≠u.ownBlock)∧(∀ k,w3.heap.size≤k→ok k)∧Kd.S kGp 40 w3 base (fun k=>ok k∧¬ okp k) u l:=by
 have hold:∀ k,some k=v0.ownBlock∨some k=v1.ownBlock→wc.heap.size≤k:=fun k hk=>hk.elim (h0 k) (h1 k)
 refine ⟨fun k=>some k=v0.ownBlock∨some k=v1.ownBlock,k40_mkM _ _ _ x (Kd.R_mono (Kd.R_tight rfl r0) (fun k hk=>.inl hk)) (Kd.R_mono (Kd.R_tight rfl r1) (fun k hk=>.inr hk)),fun k hk=>⟨hfr k (hold k hk),fun he=>?_⟩,fun k hk=>hfr k (by omega),?_⟩
 ·have:=Kd.S_lt hS k he.symm
  have:=hold k hk
  omega
 ·refine Kd.S_step (Kd.S_mono (Kd.S_bound hS) (fun k hk=>⟨hk.1,fun h2=>?_⟩)) (fun k _ hlt=>hst k hlt)
  have:=hold k h2
  have:=hk.2.2.1
  omega
theorem Rd.newName {w0 w w5:World} {base gr g4:Nat} {ok:Nat→Prop} {v:Value} {b:Bool} {gs:List Gp} {x:ByteArray} (h:Rd w0 w w5 base gr ok v b gs) (hfr:∀ k,w5.heap.size≤k→ok k) (hk4:w5.heap[g4]?=some (.cells #[.string x] 69 (0,0))) :
  ∃ okp:Nat→Prop,kGp.M (w5.alloc (.cells #[.string x] 9)) base okp ⟨[x],[],0⟩ [.slice (some ⟨w5.heap.size,0,none⟩) 1 1,.slice none 0 0,.int .i64 0]∧(∀ k,okp k→ok k∧some k≠v.ownBlock)∧(∀ k,(w5.alloc (.cells #[.string x] 9)).heap.size≤k→ok k)∧Kd.S kGp 40 (w5.alloc (.cells #[.string x] 9)) base (fun k=>ok k∧¬ okp k) v gs ∧
   Rd w0 w (w5.alloc (.cells #[.string x] 9)) base gr ok v b gs∧(w5.alloc (.cells #[.string x] 9)).heap[g4]?=some (.cells #[.string x] 69 (0,0))∧base≤(w5.alloc (.cells #[.string x] 9)).heap.size:=by
 have hB:Below w5.heap.size w5 (w5.alloc (.cells #[.string x] 9)):=below_alloc (Below.refl _ _) _
 have hle:=Nat.le_trans h.le (Nat.le_of_lt h.lt)
 obtain ⟨okp,hM,hokp,hnew,hS⟩:=fresh_group (x:=⟨[x],[],0⟩) h.S hfr (fun k hk=>hB.block k hk) hB.size (lit_string w5 base hle x) (Kd.R_nil k51 _ _ _ _) (fun k hk=>by simp [Value.ownBlock] at hk;omega) (fun k hk=>by simp [Value.ownBlock] at hk)
 exact ⟨okp,hM,hokp,hnew,hS,h.below hB,(hB.block _ (blk_lt hk4)).trans hk4,Nat.le_trans hle hB.size⟩
theorem Rd.lines {w0 w wc:World} {base gr:Nat} {ok:Nat→Prop} {v:Value} {b:Bool} {gs:List Gp} (h:Rd w0 w wc base gr ok v b gs):Lines w0 wc wc base ok v gs:=⟨h.S,h.B,Kept.refl _ _,Nat.le_trans h.le (Nat.le_of_lt h.lt)⟩
theorem Rd.written {w0 w wc:World} {base gr:Nat} {ok:Nat→Prop} {v:Value} {b:Bool} {gs l:List Gp} (h:Rd w0 w wc base gr ok v b gs) {wd:World} (hk:Kept wc wd ok)
  (hS:Kd.S kGp 40 wd base ok v l) (hB:Below base w0 wd):Rd w0 w wd base gr ok v b l:=
 ⟨hS,hB,h.K.then_ hk (fun k hk=>.inl (.inl hk)),h.le,h.ng,(hk.2 gr h.lt (fun e=>h.ng gr e rfl)).trans h.box⟩
set_option maxHeartbeats 8000000 in
set_option maxRecDepth 100000 in
theorem take_caller (base gr:Nat) (ok:Nat→Prop) (v:Value) (b:Bool) (gs:List Gp) (x:ByteArray) (r:List Gp×Bool) (w0 w:World) (hr:Rd w0 w w base gr ok v b gs) (hfr:∀ k,w.heap.size≤k→ok k) (hsm:gs.length < 1000000) (hs2:(lastG gs).f0.length < 1000000) (hF:takeF gs b (.caller x)=r) :
  Calls Tryd.prog 24 #[.pointer (some ⟨gr,0,none⟩),.iface 69 (.agg #[.string x])] w fun e w'=>Took w0 w base gr ok r e w':=by
 obtain ⟨A,cc,hu⟩:=Kd.S_slice hr.S
 subst hu
 have HR:=Aside0.mk hr
 have HF:=Aside0.mk hfr
 have HT:=Aside0.mk hF
 clear hr hfr hF
 go_enter Tryd.func24,Tryd.ntmps24
 go_upto_region 1 with (first|((with_reducible refine gate_dst (N:=4) rfl ?_);refine box_event ?hg (N:=4) ?hd (cs:=#[.string ⟨#[]⟩]) (t:=69) ?hr ?_;(case hd=>rfl);(case hg=>rfl);(case hr=>first|(go_simp;done)|(go_simp;rfl));rintro g4 eg w4 hk4 hb4;have EG4:=Aside0.mk eg;have BK4:=Aside0.mk hk4;have HB4:=Aside0.mk hb4;have hc0:w4.cell? ⟨g4,0,none⟩=some (.string ⟨#[]⟩):=(blk_cell hk4 0).trans rfl;have hd0:=blk_frozen hk4 0;clear eg hk4 hb4))
 have HR4:=Aside0.mk (HR.out.below (below_set HB4.out (by rw [EG4.out];exact Nat.le_refl _)):Rd w0 w (w4.setCell ⟨g4,0,none⟩ (.string x)) base gr ok (.slice A gs.length cc) b gs)
 have BK5:=Aside0.mk (blk_put BK4.out 0 (.string x) rfl:(w4.setCell ⟨g4,0,none⟩ (.string x)).heap[g4]?=some (.cells #[.string x] 69 (0,0)))
 have SZ:=Aside0.mk (by have:=blk_lt BK4.out;have:=EG4.out;simp [World.setCell];omega:w.heap.size≤(w4.setCell ⟨g4,0,none⟩ (.string x)).heap.size)
 clear HR BK4 HB4 EG4 hc0 hd0
 generalize (w4.setCell ⟨g4,0,none⟩ (.string x))=w5 at HR4 BK5 SZ ⊢
 have hx0:=HR4.out.cell0
 have hx1:=HR4.out.cell1
 have hx4:w5.cell? ⟨g4,0,none⟩=some (.string x):=(blk_cell BK5.out 0).trans rfl
 have hf0:=blk_frozen HR4.out.box 0
 have hf1:=blk_frozen HR4.out.box 1
 by_cases c0:b=true∨gs.length=0
 ·have hF:=HT.out
  simp only [takeF] at hF
  rw [if_pos c0] at hF
  subst hF
  clear HT
  have c0':gs.length=0∨(gs.length≠0∧b=true):=by rcases c0 with h|h <;> by_cases h2:gs.length=0 <;> simp_all
  clear c0
  have n0:gs.length=0→((gs.length:Int) == 0)=true:=fun h=>by rw [h];rfl
  have n1:gs.length≠0→((gs.length:Int) == 0)=false:=fun h=>beq_eq_false_iff_ne.mpr (by omega)
  rcases c0' with h|⟨h,rfl⟩
  case' inl=>replace n0:=n0 h;clear n1 h
  case' inr=>replace n1:=n1 h;clear n0 h
  all_goals
   go_wp2
   have HR8:=Aside0.mk (HR4.out.below (below_drew (Below.refl _ _)))
   have BK8:=Aside0.mk (show w5.drew.heap[g4]?=some (.cells #[.string x] 69 (0,0)) from BK5.out)
   have SZ8:=Aside0.mk (show w.heap.size≤w5.drew.heap.size from SZ.out)
   refine start_ (n:=14) (S:=fun w'=>w'.cell? ⟨gr,0,none⟩=some (.slice A gs.length cc)∧w'.cell? ⟨g4,0,none⟩=some (.string x)) (ds:=[13]) #[false,false,false,false,false,false,false,false,false,false,false,false,false,false] (by kernel_rfl) rfl rfl ⟨hx0,hx4⟩ (fun hHeld=>?_)
   generalize w5.drew=w8 at HR8 BK8 SZ8 hHeld ⊢
   refine rgP 0 (some 30) #[true,false,false,false,false,false,false,false,false,false,false,false,false,false] ?_
   refine rgP 1 (some 31) #[true,true,false,false,false,false,false,false,false,false,false,false,false,false] ?_
   refine rgP 2 (some 32) #[true,true,true,false,false,false,false,false,false,false,false,false,false,false] ?_
   refine rgP 3 (some 33) #[true,true,true,true,false,false,false,false,false,false,false,false,false,false] ?_
   refine rgP 5 (some 35) #[true,true,true,true,false,true,false,false,false,false,false,false,false,false] ?_
   refine rgT 4 (some 34) #[true,true,true,true,true,true,false,false,false,false,false,false,false,false] hHeld ?_
   refine rgT 6 (some 36) #[true,true,true,true,true,true,true,false,false,false,false,false,false,false] hHeld ?_
   refine rgO 7 37 (.slice (some ⟨w8.heap.size,0,none⟩) 1 1) (w8.alloc (.cells #[.string x] 9)) #[true,true,true,true,true,true,true,true,false,false,false,false,false,false] ?_ (fun hHeld=>?_)
   ·exact ⟨(World.cell?_alloc_lt _ _ _ (World.block_lt_of_cell? _ _ hHeld.1)).trans hHeld.1,(World.cell?_alloc_lt _ _ _ (World.block_lt_of_cell? _ _ hHeld.2)).trans hHeld.2⟩
   refine rgP 8 (some 38) #[true,true,true,true,true,true,true,true,true,false,false,false,false,false] ?_
   refine rgO 9 39 (.slice (some ⟨w8.heap.size+1,0,none⟩) 1 1) ((w8.alloc (.cells #[.string x] 9)).alloc (.cells #[.slice (some ⟨w8.heap.size,0,none⟩) 1 1,.slice none 0 0,.int .i64 0] 40)) #[true,true,true,true,true,true,true,true,true,true,false,false,false,false] ?_ (fun hHeld=>?_)
   ·exact ⟨(World.cell?_alloc_lt _ _ _ (World.block_lt_of_cell? _ _ hHeld.1)).trans hHeld.1,(World.cell?_alloc_lt _ _ _ (World.block_lt_of_cell? _ _ hHeld.2)).trans hHeld.2⟩
   refine one_ (i:=10) (N:=some 40) #[true,true,true,true,true,true,true,true,true,true,true,false,false,false] rfl rfl (by kernel_rfl) (by decide) (fun K hK=>?_)
   obtain ⟨okp,hM,hokp,hnew,hS,hRW,hKW,hzW⟩:=HR8.out.newName (fun k hk=>HF.out k (Nat.le_trans SZ8.out hk)) BK8.out
   refine Kd.S_append_step kGp (w0:=w0) (W:=(w8.alloc (.cells #[.string x] 9))) base (by rfl) (.tmp 34) (.tmp 39) 23 40 (.agg #[.slice none 0 0,.slice none 0 0,.int .i64 0]) 56 (by rfl) Tryd.underlying23 infoGp rfl (by decide) (by omega) (.slice A gs.length cc) gs ⟨[x],[],0⟩ [.slice (some ⟨w8.heap.size,0,none⟩) 1 1,.slice none 0 0,.int .i64 0] ok okp (by rfl) (by have e:(w8.alloc (.cells #[.string x] 9)).heap.size=w8.heap.size+1:=(by simp);rw [e];rfl) hM hokp hnew hS hRW.B hzW (by omega) ?_
   intro v1 w1 hS1 hB1 hG1 hat
   obtain ⟨A1,c1,rfl⟩:=Kd.S_slice hS1
   have en:(gs++[(⟨[x],[],0⟩:Gp)]).length=gs.length+1:=by rw [List.length_append,List.length_singleton]
   rw [en] at hS1 ⊢
   have hne0:some gr≠(Value.slice A gs.length cc).ownBlock:=fun e=>hRW.ng gr ((Kd.S_R hRW.S).1 gr e.symm) rfl
   have hne4:some g4≠(Value.slice A gs.length cc).ownBlock:=Kd.S_ne hRW.S hKW (by decide)
   have hb1:=blk_grown hRW.box hG1 hne0
   have hx1:w1.cell? ⟨gr,0,none⟩=some (.slice A gs.length cc):=(blk_cell hb1 0).trans rfl
   have hz1:=blk_frozen hb1 0
   have HQ:=Aside0.mk (hRW.groups hG1 (fun k hk=>(Kd.S_R hRW.S).1 k hk) hS1 hB1)
   refine hK.out _ _ ⟨hx1,cell_grown hG1 ((blk_cell hKW 0).trans rfl) hne4⟩ (fun hHeld=>?_)
   clear hK K hM hokp hnew hS hS1 hB1 hG1 hat hb1 hRW hKW hzW hne0 hne4
   refine rgN 40 ?_
   refine rgP 11 (some 41) #[true,true,true,true,true,true,true,true,true,true,true,true,false,false] ?_
   refine rgP 12 (some 42) #[true,true,true,true,true,true,true,true,true,true,true,true,true,false] ?_
   refine rgL 13 (w1.setCell ⟨gr,0,none⟩ (.slice A1 (gs.length+1) c1)) #[true,true,true,true,true,true,true,true,true,true,true,true,true,true] ?_
   refine done_ (by kernel_rfl) ?_
   clear hx0 hx1 hx4 hf0 hf1 hz1 hHeld
   generalize (w1.setCell ⟨gr,0,none⟩ (.slice A1 (gs.length+1) c1))=w9 at HQ ⊢
   have hx1:=HQ.out.cell1
   have hf1:=blk_frozen HQ.out.box 1
   go_wp2
   (try simp only [Exit.inBlock,Exit.then])
   refine bodyPost_ret (results_none rfl _ _ _) rfl ?_
   exact ⟨rfl,_,HQ.out.flag false⟩
 ·have hF:=HT.out
  simp only [takeF] at hF
  rw [if_neg c0] at hF
  subst hF
  clear HT
  have c4:gs.length≠0:=fun h=>c0 (.inr h)
  obtain rfl:b=false:=by cases b <;> simp_all
  clear c0
  have n1:((gs.length:Int) == 0)=false:=beq_eq_false_iff_ne.mpr (by omega)
  obtain ⟨g,cap,_,_,_,eu,_⟩:=(HR4.out.lines).last (by omega)
  injection eu with eu1 eu2 eu3
  subst eu1
  clear eu2 eu3
  obtain ⟨j,hj⟩:∃ j,gs.length - 1=j:=⟨_,rfl⟩
  have ej:wrap64 ((gs.length:Int) - 1)=(j:Int):=by unfold wrap64;omega
  have p0:(0≤(j:Int))=True:=eq_true (by omega)
  have q0:((j:Int) < (gs.length:Int))=True:=eq_true (by omega)
  go_wp2
  refine start_ (n:=12) (S:=fun w'=>w'.cell? ⟨gr,0,none⟩=some (.slice (some ⟨g,0,none⟩) gs.length cc)∧True) (ds:=[]) #[false,false,false,false,false,false,false,false,false,false,false,false] (by kernel_rfl) rfl rfl ⟨hx0,trivial⟩ (fun hHeld=>?_)
  have HR6:=Aside0.mk (HR4.out.below (below_drew (Below.refl _ _)))
  have SZ6:=Aside0.mk (show w.heap.size≤w5.drew.heap.size from SZ.out)
  clear hx0 hx1 hx4 hf0 hf1
  generalize w5.drew=w6 at HR6 SZ6 hHeld ⊢
  refine rgP 0 (some 52) #[true,false,false,false,false,false,false,false,false,false,false,false] ?_
  refine rgP 1 (some 53) #[true,true,false,false,false,false,false,false,false,false,false,false] ?_
  refine rgP 2 (some 54) #[true,true,true,false,false,false,false,false,false,false,false,false] ?_
  refine rgP 4 (some 56) #[true,true,true,false,true,false,false,false,false,false,false,false] ?_
  refine rgP 5 (some 57) #[true,true,true,false,true,true,false,false,false,false,false,false] ?_
  refine rgP 6 (some 58) #[true,true,true,false,true,true,true,false,false,false,false,false] ?_
  refine rgT 3 (some 55) #[true,true,true,true,true,true,true,false,false,false,false,false] hHeld ?_
  refine rgT 7 (some 59) #[true,true,true,true,true,true,true,true,false,false,false,false] hHeld ?_
  refine rgP 8 (some 60) #[true,true,true,true,true,true,true,true,true,false,false,false] ?_
  refine rgP 9 (some 61) #[true,true,true,true,true,true,true,true,true,true,false,false] ?_
  rw [ej]
  refine rgP 10 (some 62) #[true,true,true,true,true,true,true,true,true,true,true,false] ?_
  refine rgP 11 (some 6) #[true,true,true,true,true,true,true,true,true,true,true,true] ?_
  refine done_ (by kernel_rfl) ?_
  clear hHeld HR4 BK5 SZ
  go_wp2_with (first|((with_reducible refine gate_dst (N:=7) rfl ?_);refine box_event ?hg (N:=7) ?hd (cs:=#[.string ⟨#[]⟩]) (t:=69) ?hr ?_;(case hd=>rfl);(case hg=>rfl);(case hr=>first|(go_simp;done)|(go_simp;rfl));rintro g7 eg w4 hk4 hb4;have EG4:=Aside0.mk eg;have BK4:=Aside0.mk hk4;have HB4:=Aside0.mk hb4;have hc0:w4.cell? ⟨g7,0,none⟩=some (.string ⟨#[]⟩):=(blk_cell hk4 0).trans rfl;have hd0:=blk_frozen hk4 0;clear eg hk4 hb4))
  have HR8:=Aside0.mk ((HR6.out.below (below_set HB4.out (by rw [EG4.out];exact Nat.le_refl _))).below (below_drew (Below.refl _ _)):Rd w0 w (w4.setCell ⟨g7,0,none⟩ (.string x)).drew base gr ok (.slice (some ⟨g,0,none⟩) gs.length cc) false gs)
  have BK8:=Aside0.mk (show (w4.setCell ⟨g7,0,none⟩ (.string x)).drew.heap[g7]?=some (.cells #[.string x] 69 (0,0)) from blk_put BK4.out 0 (.string x) rfl)
  have SZ8:=Aside0.mk (by have:=blk_lt BK4.out;have:=EG4.out;have:=SZ6.out;have:(w4.setCell ⟨g7,0,none⟩ (.string x)).drew.heap.size=w4.heap.size:=(by simp [World.setCell]);omega:w.heap.size≤(w4.setCell ⟨g7,0,none⟩ (.string x)).drew.heap.size)
  clear HR6 BK4 HB4 EG4 SZ6 hc0 hd0
  generalize (w4.setCell ⟨g7,0,none⟩ (.string x))=w7 at HR8 BK8 SZ8 ⊢
  obtain ⟨g_,cap_,v0,v1,oki,eu,g0,g1,⟨hy0,hy1,hy2⟩,hff,hoki,hH⟩:=(HR8.out.lines).last (by omega)
  injection eu with eu1 eu2 eu3
  injection eu1 with eu1
  injection eu1 with eg _ _
  subst eg
  subst eu3
  obtain ⟨A0,cc0,rfl⟩:=Kd.R_slice g0
  obtain ⟨A1,cc1,rfl⟩:=Kd.R_slice g1
  rw [hj] at hy0 hy1 hy2 hff hH
  have G0:=Aside0.mk g0
  have G1:=Aside0.mk g1
  have HH:=Aside0.mk hH
  clear g0 g1 hH
  refine start_ (n:=12) (S:=fun w'=>w'.cell? ⟨g,j * 3,none⟩=some (.slice A0 (lastG gs).f0.length cc0)∧w'.cell? ⟨g7,0,none⟩=some (.string x)) (ds:=[11]) #[false,false,false,false,false,false,false,false,false,false,false,false] (by kernel_rfl) rfl rfl ⟨hy0,(blk_cell BK8.out 0).trans rfl⟩ (fun hHeld=>?_)
  generalize w7.drew=w8 at HR8 BK8 SZ8 G0 G1 HH hHeld hy0 hy1 hy2 hff ⊢
  refine rgP 0 (some 67) #[true,false,false,false,false,false,false,false,false,false,false,false] ?_
  refine rgP 1 (some 68) #[true,true,false,false,false,false,false,false,false,false,false,false] ?_
  refine rgP 2 (some 69) #[true,true,true,false,false,false,false,false,false,false,false,false] ?_
  refine rgP 3 (some 70) #[true,true,true,true,false,false,false,false,false,false,false,false] ?_
  refine rgP 5 (some 72) #[true,true,true,true,false,true,false,false,false,false,false,false] ?_
  refine rgT 4 (some 71) #[true,true,true,true,true,true,false,false,false,false,false,false] hHeld ?_
  refine rgT 6 (some 73) #[true,true,true,true,true,true,true,false,false,false,false,false] hHeld ?_
  refine rgO 7 74 (.slice (some ⟨w8.heap.size,0,none⟩) 1 1) (w8.alloc (.cells #[.string x] 9)) #[true,true,true,true,true,true,true,true,false,false,false,false] ?_ (fun hHeld=>?_)
  ·exact ⟨(World.cell?_alloc_lt _ _ _ (World.block_lt_of_cell? _ _ hHeld.1)).trans hHeld.1,(World.cell?_alloc_lt _ _ _ (World.block_lt_of_cell? _ _ hHeld.2)).trans hHeld.2⟩
  refine one_ (i:=8) (N:=some 75) #[true,true,true,true,true,true,true,true,true,false,false,false] rfl rfl (by kernel_rfl) (by decide) (fun K hK=>?_)
  refine Kd.R_append_step Kd.string (w0:=w0) (W:=w8) base (by rfl) (.tmp 71) (.tmp 74) 37 9 (.string ⟨#[]⟩) 16 (by rfl) Tryd.underlying37 info9 rfl (by decide) (by omega) (.slice A0 (lastG gs).f0.length cc0) (lastG gs).f0 x [.string x] (fun k=>oki k∨(ok k∧w8.heap.size≤k)) (fun _=>False) (by rfl) (by rfl) rfl (fun _ hk=>hk.elim) (fun k hk=>.inr ⟨HF.out k (Nat.le_trans SZ8.out hk),hk⟩) (Kd.R_mono G0.out (fun _ hk=>.inl hk)) HR8.out.B (Nat.le_trans HR8.out.le (Nat.le_of_lt HR8.out.lt)) (by omega) ?_
  intro v3 w1 ho hb hg hat
  obtain ⟨A3,cc3,rfl⟩:=Kd.R_slice ho
  have en:((lastG gs).f0++[x]).length=(lastG gs).f0.length+1:=by rw [List.length_append,List.length_singleton]
  rw [en] at ho ⊢
  have hneg:some g≠(Value.slice A0 (lastG gs).f0.length cc0).ownBlock:=fun e=>(hoki g (G0.out.1 g e.symm)).2 rfl
  have hneb:some g7≠(Value.slice A0 (lastG gs).f0.length cc0).ownBlock:=Kd.R_ne G0.out BK8.out (by decide)
  have hz0:=cell_grown hg hy0 hneg
  have H1:=Aside0.mk (Kd.H_grown (Kd.H_widen HH.out) hg (fun k e=>.inl (G0.out.1 k e)))
  have R1:=Aside0.mk (Kd.R_over' (v:=.slice A0 (lastG gs).f0.length cc0) G1.out (Kd.R_typed G0.out) (by decide) hg)
  have R0:=Aside0.mk ho
  have K1:=Aside0.mk (Kept.of_grown (S:=ok) hg (Kept.refl w8 _) (fun k hk=>.inl (hoki k (G0.out.1 k hk)).1))
  have B1:=Aside0.mk hb
  have hzf:=(Kd.H_at H1.out (by omega) (by omega)).2 0
  rw [Int.toNat_natCast,show kGp.sz=3 from rfl,Nat.add_zero] at hzf
  have HP:=Aside0.mk (Kd.S_seg0 H1.out (by omega) (by omega) (seg:=[.slice A3 ((lastG gs).f0.length+1) cc3]) (j:=0) (show 0+1≤3 by decide) (x':=⟨(lastG gs).f0++[x],(lastG gs).f1,(lastG gs).f2⟩) (k40_mkM _ _ _ ⟨(lastG gs).f0++[x],(lastG gs).f1,(lastG gs).f2⟩ R0.out (Kd.R_mono R1.out (fun _ hk=>.inl hk))) (fun _ hk=>hk))
  refine hK.out _ _ ⟨hz0,cell_grown hg ((blk_cell BK8.out 0).trans rfl) hneb⟩ (fun hHeld=>?_)
  clear hK K ho hb hg hat hneg hneb hHeld hy0 hy1 hy2 hff
  refine rgN 75 ?_
  refine rgP 9 (some 76) #[true,true,true,true,true,true,true,true,true,true,false,false] ?_
  refine rgP 10 (some 77) #[true,true,true,true,true,true,true,true,true,true,true,false] ?_
  refine rgL 11 (w1.setCell ⟨g,j * 3,none⟩ (.slice A3 ((lastG gs).f0.length+1) cc3)) #[true,true,true,true,true,true,true,true,true,true,true,true] ?_
  refine done_ (by kernel_rfl) ?_
  have hp1:=HP.out.1
  have hp2:=HP.out.2
  rw [Int.toNat_natCast,show kGp.sz=3 from rfl,Nat.add_zero] at hp1 hp2
  have HQ:Aside0 (Rd w0 w (w1.setCell ⟨g,j * 3,none⟩ (.slice A3 ((lastG gs).f0.length+1) cc3)) base gr ok (.slice (some ⟨g,0,none⟩) gs.length cc) false (gs.set j ⟨(lastG gs).f0++[x],(lastG gs).f1,(lastG gs).f2⟩)):=Aside0.mk (HR8.out.written (wd:=w1.setCell ⟨g,j * 3,none⟩ (.slice A3 ((lastG gs).f0.length+1) cc3)) (Kept.of_grown hp2 K1.out (fun k hk=>.inl (by injection hk with hk;subst hk;exact (Kd.S_R HR8.out.S).1 _ rfl))) hp1 (B1.out.setCell (p:=⟨g,j * 3,none⟩) (Kd.S_base HR8.out.S _ rfl) _))
  clear hp1 hp2 HP hz0 hzf
  go_wp2
  (try simp only [Exit.inBlock,Exit.then])
  refine bodyPost_end (results_none rfl _ _ _) rfl ?_
  exact ⟨rfl,_,HQ.out⟩
set_option maxHeartbeats 8000000 in
set_option maxRecDepth 100000 in
theorem take_rule (base gr:Nat) (ok:Nat→Prop) (v:Value) (b:Bool) (gs:List Gp) (l:Bool) (p:ByteArray) (r:List Gp×Bool) (w0 w:World) (hr:Rd w0 w w base gr ok v b gs) (hfr:∀ k,w.heap.size≤k→ok k) (hsm:gs.length < 1000000) (hs2:(lastG gs).f0.length < 1000000) (hF:takeF gs b (.rule l p)=r) :
  Calls Tryd.prog 24 #[.pointer (some ⟨gr,0,none⟩),.iface 71 (.agg #[.bool l,.string p])] w fun e w'=>Took w0 w base gr ok r e w':=by
 obtain ⟨A,cc,hu⟩:=Kd.S_slice hr.S
 subst hu
 have HR:=Aside0.mk hr
 have HF:=Aside0.mk hfr
 have HT:=Aside0.mk hF
 clear hr hfr hF
 go_enter Tryd.func24,Tryd.ntmps24
 go_upto_region 1 with (first|((with_reducible refine gate_dst (N:=4) rfl ?_);refine box_event ?hg (N:=4) ?hd (cs:=#[.string ⟨#[]⟩]) (t:=69) ?hr ?_;(case hd=>rfl);(case hg=>rfl);(case hr=>first|(go_simp;done)|(go_simp;rfl));rintro g4 eg w4 hk4 hb4;have EG4:=Aside0.mk eg;have BK4:=Aside0.mk hk4;have HB4:=Aside0.mk hb4;have hc0:w4.cell? ⟨g4,0,none⟩=some (.string ⟨#[]⟩):=(blk_cell hk4 0).trans rfl;have hd0:=blk_frozen hk4 0;clear eg hk4 hb4))
 have HR4:=Aside0.mk (HR.out.below (below_set HB4.out (by rw [EG4.out];exact Nat.le_refl _)):Rd w0 w (w4.setCell ⟨g4,0,none⟩ (.string ByteArray.empty)) base gr ok (.slice A gs.length cc) b gs)
 have BK5:=Aside0.mk (blk_put BK4.out 0 (.string ByteArray.empty) rfl:(w4.setCell ⟨g4,0,none⟩ (.string ByteArray.empty)).heap[g4]?=some (.cells #[.string ByteArray.empty] 69 (0,0)))
 have SZ:=Aside0.mk (by have:=blk_lt BK4.out;have:=EG4.out;simp [World.setCell];omega:w.heap.size≤(w4.setCell ⟨g4,0,none⟩ (.string ByteArray.empty)).heap.size)
 clear HR BK4 HB4 EG4 hc0 hd0
 generalize (w4.setCell ⟨g4,0,none⟩ (.string ByteArray.empty))=w5 at HR4 BK5 SZ ⊢
 have hx0:=HR4.out.cell0
 have hx1:=HR4.out.cell1
 have hx4:w5.cell? ⟨g4,0,none⟩=some (.string ByteArray.empty):=(blk_cell BK5.out 0).trans rfl
 have hf0:=blk_frozen HR4.out.box 0
 have hf1:=blk_frozen HR4.out.box 1
 by_cases c4:gs.length=0
 ·have hF:=HT.out
  simp only [takeF] at hF
  rw [if_pos c4] at hF
  subst hF
  clear HT
  have n0:((gs.length:Int) == 0)=true:=by rw [c4];rfl
  clear c4
  go_wp2
  (try simp only [Exit.inBlock,Exit.then])
  refine bodyPost_ret (results_none rfl _ _ _) rfl ?_
  exact ⟨rfl,_,HR4.out⟩
 ·have hF:=HT.out
  simp only [takeF] at hF
  rw [if_neg c4] at hF
  clear HT
  have n1:((gs.length:Int) == 0)=false:=beq_eq_false_iff_ne.mpr (by omega)
  obtain ⟨g,cap,_,_,_,eu,_⟩:=(HR4.out.lines).last (by omega)
  injection eu with eu1 eu2 eu3
  subst eu1
  clear eu2 eu3
  obtain ⟨j,hj⟩:∃ j,gs.length - 1=j:=⟨_,rfl⟩
  have ej:wrap64 ((gs.length:Int) - 1)=(j:Int):=by unfold wrap64;omega
  have p0:(0≤(j:Int))=True:=eq_true (by omega)
  have q0:((j:Int) < (gs.length:Int))=True:=eq_true (by omega)
  go_wp2
  refine start_ (n:=12) (S:=fun w'=>w'.cell? ⟨gr,0,none⟩=some (.slice (some ⟨g,0,none⟩) gs.length cc)∧True) (ds:=[]) #[false,false,false,false,false,false,false,false,false,false,false,false] (by kernel_rfl) rfl rfl ⟨hx0,trivial⟩ (fun hHeld=>?_)
  have HR6:=Aside0.mk (HR4.out.below (below_drew (Below.refl _ _)))
  have SZ6:=Aside0.mk (show w.heap.size≤w5.drew.heap.size from SZ.out)
  clear hx0 hx1 hx4 hf0 hf1
  generalize w5.drew=w6 at HR6 SZ6 hHeld ⊢
  refine rgP 0 (some 52) #[true,false,false,false,false,false,false,false,false,false,false,false] ?_
  refine rgP 1 (some 53) #[true,true,false,false,false,false,false,false,false,false,false,false] ?_
  refine rgP 2 (some 54) #[true,true,true,false,false,false,false,false,false,false,false,false] ?_
  refine rgP 4 (some 56) #[true,true,true,false,true,false,false,false,false,false,false,false] ?_
  refine rgP 5 (some 57) #[true,true,true,false,true,true,false,false,false,false,false,false] ?_
  refine rgP 6 (some 58) #[true,true,true,false,true,true,true,false,false,false,false,false] ?_
  refine rgT 3 (some 55) #[true,true,true,true,true,true,true,false,false,false,false,false] hHeld ?_
  refine rgT 7 (some 59) #[true,true,true,true,true,true,true,true,false,false,false,false] hHeld ?_
  refine rgP 8 (some 60) #[true,true,true,true,true,true,true,true,true,false,false,false] ?_
  refine rgP 9 (some 61) #[true,true,true,true,true,true,true,true,true,true,false,false] ?_
  rw [ej]
  refine rgP 10 (some 62) #[true,true,true,true,true,true,true,true,true,true,true,false] ?_
  refine rgP 11 (some 6) #[true,true,true,true,true,true,true,true,true,true,true,true] ?_
  refine done_ (by kernel_rfl) ?_
  clear hHeld HR4 BK5 SZ
  go_upto_region 12 with (first|((with_reducible refine gate_dst (N:=8) rfl ?_);refine box_event ?hg (N:=8) ?hd (cs:=#[.bool false,.string ⟨#[]⟩]) (t:=71) ?hr ?_;(case hd=>rfl);(case hg=>rfl);(case hr=>first|(go_simp;done)|(go_simp;rfl));rintro g8 eg w4 hk4 hb4;have EG4:=Aside0.mk eg;have BK4:=Aside0.mk hk4;have HB4:=Aside0.mk hb4;have hc0:w4.cell? ⟨g8,0,none⟩=some (.bool false):=(blk_cell hk4 0).trans rfl;have hd0:=blk_frozen hk4 0;have hc1:w4.cell? ⟨g8,1,none⟩=some (.string ⟨#[]⟩):=(blk_cell hk4 1).trans rfl;have hd1:=blk_frozen hk4 1;clear eg hk4 hb4))
  have HB5:=Aside0.mk (show Below w6.heap.size w6 ((w4.setCell ⟨g8,0,none⟩ (.bool l)).setCell ⟨g8,1,none⟩ (.string p)) from (below_set (below_set HB4.out (by rw [EG4.out];exact Nat.le_refl _)) (by rw [EG4.out];exact Nat.le_refl _)))
  have BK5:=Aside0.mk (show ((w4.setCell ⟨g8,0,none⟩ (.bool l)).setCell ⟨g8,1,none⟩ (.string p)).heap[g8]?=some (.cells #[.bool l,.string p] 71 (0,0)) from (blk_put (blk_put BK4.out 0 (.bool l) rfl) 1 (.string p) rfl))
  have NE5:=Aside0.mk (show g8≠gr from by have:=EG4.out;have:=HR6.out.lt;omega)
  clear BK4 HB4 EG4 hc0 hd0 hc1 hd1
  generalize ((w4.setCell ⟨g8,0,none⟩ (.bool l)).setCell ⟨g8,1,none⟩ (.string p))=w5 at HB5 BK5 ⊢
  have HR5:=Aside0.mk (HR6.out.below HB5.out)
  have SZ5:=Aside0.mk (Nat.le_trans SZ6.out HB5.out.size)
  have hx1:=HR5.out.cell1
  have hf1:=blk_frozen HR5.out.box 1
  go_upto_region 13 with (fail)
  have HR7:=Aside0.mk (HR5.out.flag true)
  have BK7:=Aside0.mk (show (w5.setCell ⟨gr,1,none⟩ (.bool true)).heap[g8]?=some (.cells #[.bool l,.string p] 71 (0,0)) from blk_far BK5.out NE5.out _)
  have SZ7:=Aside0.mk (show w.heap.size≤(w5.setCell ⟨gr,1,none⟩ (.bool true)).heap.size from by simp [World.setCell];exact SZ5.out)
  clear HR6 SZ6 HB5 BK5 NE5 HR5 SZ5 hx1 hf1
  generalize (w5.setCell ⟨gr,1,none⟩ (.bool true))=w7 at HR7 BK7 SZ7 ⊢
  obtain ⟨g_,cap_,v0,v1,oki,eu,g0,g1,⟨hy0,hy1,hy2⟩,hff,hoki,hH⟩:=(HR7.out.lines).last (by omega)
  injection eu with eu1 eu2 eu3
  injection eu1 with eu1
  injection eu1 with eg _ _
  subst eg
  subst eu3
  obtain ⟨A0,cc0,rfl⟩:=Kd.R_slice g0
  obtain ⟨A1,cc1,rfl⟩:=Kd.R_slice g1
  rw [hj] at hy0 hy1 hy2 hff hH
  have G0:=Aside0.mk g0
  have G1:=Aside0.mk g1
  have HH:=Aside0.mk hH
  clear g0 g1 hH
  by_cases h6:(lastG gs).f1.length < 6
  ·rw [if_pos h6] at hF
   subst hF
   have e6:decide (((lastG gs).f1.length:Int) < 6)=true:=decide_eq_true (by omega)
   have e6n:decide ((lastG gs).f1.length < 6)=true:=decide_eq_true h6
   go_wp2
   have HR8:=Aside0.mk (HR7.out.below (below_drew (Below.refl _ _)))
   have BK8:=Aside0.mk (show w7.drew.heap[g8]?=some (.cells #[.bool l,.string p] 71 (0,0)) from BK7.out)
   have SZ8:=Aside0.mk (show w.heap.size≤w7.drew.heap.size from SZ7.out)
   replace G0:=Aside0.mk (Kd.R_drew G0.out)
   replace G1:=Aside0.mk (Kd.R_drew G1.out)
   replace HH:=Aside0.mk (Kd.H_drew HH.out)
   replace hy0:=show w7.drew.cell? _=_ from hy0
   replace hy1:=show w7.drew.cell? _=_ from hy1
   replace hy2:=show w7.drew.cell? _=_ from hy2
   replace hff:=show ∀ j_,w7.drew.frozen? ⟨g,j * 3+j_,none⟩=false from hff
   clear HR7 BK7 SZ7
   refine start_ (n:=12) (S:=fun w'=>w'.cell? ⟨g,j * 3+1,none⟩=some (.slice A1 (lastG gs).f1.length cc1)∧(w'.cell? ⟨g8,0,none⟩=some (.bool l)∧w'.cell? ⟨g8,1,none⟩=some (.string p))) (ds:=[11]) #[false,false,false,false,false,false,false,false,false,false,false,false] (by kernel_rfl) rfl rfl ⟨hy1,⟨(blk_cell BK8.out 0).trans rfl,(blk_cell BK8.out 1).trans rfl⟩⟩ (fun hHeld=>?_)
   generalize w7.drew=w8 at HR8 BK8 SZ8 G0 G1 HH hHeld hy0 hy1 hy2 hff ⊢
   refine rgP 0 (some 90) #[true,false,false,false,false,false,false,false,false,false,false,false] ?_
   refine rgP 1 (some 91) #[true,true,false,false,false,false,false,false,false,false,false,false] ?_
   refine rgP 2 (some 92) #[true,true,true,false,false,false,false,false,false,false,false,false] ?_
   refine rgP 3 (some 93) #[true,true,true,true,false,false,false,false,false,false,false,false] ?_
   refine rgP 5 (some 95) #[true,true,true,true,false,true,false,false,false,false,false,false] ?_
   refine rgT3 4 (some 94) #[true,true,true,true,true,true,false,false,false,false,false,false] hHeld ?_
   refine rgT3 6 (some 96) #[true,true,true,true,true,true,true,false,false,false,false,false] hHeld ?_
   refine rgO 7 97 (.slice (some ⟨w8.heap.size,0,none⟩) 1 1) (w8.alloc (.cells #[.bool l,.string p] 51)) #[true,true,true,true,true,true,true,true,false,false,false,false] ?_ (fun hHeld=>?_)
   ·exact ⟨(World.cell?_alloc_lt _ _ _ (World.block_lt_of_cell? _ _ hHeld.1)).trans hHeld.1,⟨(World.cell?_alloc_lt _ _ _ (World.block_lt_of_cell? _ _ hHeld.2.1)).trans hHeld.2.1,(World.cell?_alloc_lt _ _ _ (World.block_lt_of_cell? _ _ hHeld.2.2)).trans hHeld.2.2⟩⟩
   refine one_ (i:=8) (N:=some 98) #[true,true,true,true,true,true,true,true,true,false,false,false] rfl rfl (by kernel_rfl) (by decide) (fun K hK=>?_)
   refine Kd.R_append_step k51 (w0:=w0) (W:=w8) base (by rfl) (.tmp 94) (.tmp 97) 38 51 (.agg #[.bool false,.string ⟨#[]⟩]) 24 (by rfl) Tryd.underlying38 infoRu rfl (by decide) (by omega) (.slice A1 (lastG gs).f1.length cc1) (lastG gs).f1 ⟨l,p⟩ [.bool l,.string p] (fun k=>oki k∨(ok k∧w8.heap.size≤k)) (fun _=>False) (by rfl) (by rfl) (k51_mkM _ _ _ ⟨l,p⟩) (fun _ hk=>hk.elim) (fun k hk=>.inr ⟨HF.out k (Nat.le_trans SZ8.out hk),hk⟩) (Kd.R_mono G1.out (fun _ hk=>.inl hk)) HR8.out.B (Nat.le_trans HR8.out.le (Nat.le_of_lt HR8.out.lt)) (by omega) ?_
   intro v3 w1 ho hb hg hat
   obtain ⟨A3,cc3,rfl⟩:=Kd.R_slice ho
   have en:((lastG gs).f1++[(⟨l,p⟩:S51)]).length=(lastG gs).f1.length+1:=by rw [List.length_append,List.length_singleton]
   rw [en] at ho ⊢
   have hneg:some g≠(Value.slice A1 (lastG gs).f1.length cc1).ownBlock:=fun e=>(hoki g (G1.out.1 g e.symm)).2 rfl
   have hneb:some g8≠(Value.slice A1 (lastG gs).f1.length cc1).ownBlock:=Kd.R_ne G1.out BK8.out (by decide)
   have hz0:=cell_grown hg hy1 hneg
   have H1:=Aside0.mk (Kd.H_grown (Kd.H_widen HH.out) hg (fun k e=>.inl (G1.out.1 k e)))
   have R1:=Aside0.mk (Kd.R_over' (v:=.slice A1 (lastG gs).f1.length cc1) G0.out (Kd.R_typed G1.out) (by decide) hg)
   have R0:=Aside0.mk ho
   have K1:=Aside0.mk (Kept.of_grown (S:=ok) hg (Kept.refl w8 _) (fun k hk=>.inl (hoki k (G1.out.1 k hk)).1))
   have B1:=Aside0.mk hb
   have hzf:=(Kd.H_at H1.out (by omega) (by omega)).2 1
   rw [Int.toNat_natCast,show kGp.sz=3 from rfl] at hzf
   have HP:=Aside0.mk (Kd.S_seg0 H1.out (by omega) (by omega) (seg:=[.slice A3 ((lastG gs).f1.length+1) cc3]) (j:=1) (show 1+1≤3 by decide) (x':=⟨(lastG gs).f0,(lastG gs).f1++[⟨l,p⟩],(lastG gs).f2⟩) (k40_mkM _ _ _ ⟨(lastG gs).f0,(lastG gs).f1++[⟨l,p⟩],(lastG gs).f2⟩ (Kd.R_mono R1.out (fun _ hk=>.inl hk)) R0.out) (fun _ hk=>hk))
   refine hK.out _ _ ⟨hz0,⟨cell_grown hg ((blk_cell BK8.out 0).trans rfl) hneb,cell_grown hg ((blk_cell BK8.out 1).trans rfl) hneb⟩⟩ (fun hHeld=>?_)
   clear hK K ho hb hg hat hneg hneb hHeld hy0 hy1 hy2 hff
   refine rgN 98 ?_
   refine rgP 9 (some 99) #[true,true,true,true,true,true,true,true,true,true,false,false] ?_
   refine rgP 10 (some 100) #[true,true,true,true,true,true,true,true,true,true,true,false] ?_
   refine rgL 11 (w1.setCell ⟨g,j * 3+1,none⟩ (.slice A3 ((lastG gs).f1.length+1) cc3)) #[true,true,true,true,true,true,true,true,true,true,true,true] ?_
   refine done_ (by kernel_rfl) ?_
   have hp1:=HP.out.1
   have hp2:=HP.out.2
   rw [Int.toNat_natCast,show kGp.sz=3 from rfl] at hp1 hp2
   have HQ:Aside0 (Rd w0 w (w1.setCell ⟨g,j * 3+1,none⟩ (.slice A3 ((lastG gs).f1.length+1) cc3)) base gr ok (.slice (some ⟨g,0,none⟩) gs.length cc) true (gs.set j ⟨(lastG gs).f0,(lastG gs).f1++[⟨l,p⟩],(lastG gs).f2⟩)):=Aside0.mk (HR8.out.written (wd:=w1.setCell ⟨g,j * 3+1,none⟩ (.slice A3 ((lastG gs).f1.length+1) cc3)) (Kept.of_grown hp2 K1.out (fun k hk=>.inl (by injection hk with hk;subst hk;exact (Kd.S_R HR8.out.S).1 _ rfl))) hp1 (B1.out.setCell (p:=⟨g,j * 3+1,none⟩) (Kd.S_base HR8.out.S _ rfl) _))
   clear hp1 hp2 HP hz0 hzf
   go_wp2
   (try simp only [Exit.inBlock,Exit.then])
   refine bodyPost_end (results_none rfl _ _ _) rfl ?_
   exact ⟨rfl,.slice (some ⟨g,0,none⟩) gs.length cc,by rw [hj];exact HQ.out⟩
  ·rw [if_neg h6] at hF
   subst hF
   have e6:decide (((lastG gs).f1.length:Int) < 6)=false:=decide_eq_false (by omega)
   have e6n:decide ((lastG gs).f1.length < 6)=false:=decide_eq_false h6
   go_wp2
   (try simp only [Exit.inBlock,Exit.then])
   refine bodyPost_end (results_none rfl _ _ _) rfl ?_
   exact ⟨rfl,_,HR7.out⟩
set_option maxHeartbeats 8000000 in
set_option maxRecDepth 100000 in
theorem take_wait (base gr:Nat) (ok:Nat→Prop) (v:Value) (b:Bool) (gs:List Gp) (n:Int) (r:List Gp×Bool) (w0 w:World) (hr:Rd w0 w w base gr ok v b gs) (hfr:∀ k,w.heap.size≤k→ok k) (hsm:gs.length < 1000000) (hs2:(lastG gs).f0.length < 1000000) (hF:takeF gs b (.wait n)=r) :
  Calls Tryd.prog 24 #[.pointer (some ⟨gr,0,none⟩),.iface 73 (.agg #[.int .i64 n])] w fun e w'=>Took w0 w base gr ok r e w':=by
 obtain ⟨A,cc,hu⟩:=Kd.S_slice hr.S
 subst hu
 have HR:=Aside0.mk hr
 have HF:=Aside0.mk hfr
 have HT:=Aside0.mk hF
 clear hr hfr hF
 go_enter Tryd.func24,Tryd.ntmps24
 go_upto_region 1 with (first|((with_reducible refine gate_dst (N:=4) rfl ?_);refine box_event ?hg (N:=4) ?hd (cs:=#[.string ⟨#[]⟩]) (t:=69) ?hr ?_;(case hd=>rfl);(case hg=>rfl);(case hr=>first|(go_simp;done)|(go_simp;rfl));rintro g4 eg w4 hk4 hb4;have EG4:=Aside0.mk eg;have BK4:=Aside0.mk hk4;have HB4:=Aside0.mk hb4;have hc0:w4.cell? ⟨g4,0,none⟩=some (.string ⟨#[]⟩):=(blk_cell hk4 0).trans rfl;have hd0:=blk_frozen hk4 0;clear eg hk4 hb4))
 have HR4:=Aside0.mk (HR.out.below (below_set HB4.out (by rw [EG4.out];exact Nat.le_refl _)):Rd w0 w (w4.setCell ⟨g4,0,none⟩ (.string ByteArray.empty)) base gr ok (.slice A gs.length cc) b gs)
 have BK5:=Aside0.mk (blk_put BK4.out 0 (.string ByteArray.empty) rfl:(w4.setCell ⟨g4,0,none⟩ (.string ByteArray.empty)).heap[g4]?=some (.cells #[.string ByteArray.empty] 69 (0,0)))
 have SZ:=Aside0.mk (by have:=blk_lt BK4.out;have:=EG4.out;simp [World.setCell];omega:w.heap.size≤(w4.setCell ⟨g4,0,none⟩ (.string ByteArray.empty)).heap.size)
 clear HR BK4 HB4 EG4 hc0 hd0
 generalize (w4.setCell ⟨g4,0,none⟩ (.string ByteArray.empty))=w5 at HR4 BK5 SZ ⊢
 have hx0:=HR4.out.cell0
 have hx1:=HR4.out.cell1
 have hx4:w5.cell? ⟨g4,0,none⟩=some (.string ByteArray.empty):=(blk_cell BK5.out 0).trans rfl
 have hf0:=blk_frozen HR4.out.box 0
 have hf1:=blk_frozen HR4.out.box 1
 by_cases c4:gs.length=0
 ·have hF:=HT.out
  simp only [takeF] at hF
  rw [if_pos c4] at hF
  subst hF
  clear HT
  have n0:((gs.length:Int) == 0)=true:=by rw [c4];rfl
  clear c4
  go_wp2
  (try simp only [Exit.inBlock,Exit.then])
  refine bodyPost_ret (results_none rfl _ _ _) rfl ?_
  exact ⟨rfl,_,HR4.out⟩
 ·have hF:=HT.out
  simp only [takeF] at hF
  rw [if_neg c4] at hF
  clear HT
  have n1:((gs.length:Int) == 0)=false:=beq_eq_false_iff_ne.mpr (by omega)
  obtain ⟨g,cap,_,_,_,eu,_⟩:=(HR4.out.lines).last (by omega)
  injection eu with eu1 eu2 eu3
  subst eu1
  clear eu2 eu3
  obtain ⟨j,hj⟩:∃ j,gs.length - 1=j:=⟨_,rfl⟩
  have ej:wrap64 ((gs.length:Int) - 1)=(j:Int):=by unfold wrap64;omega
  have p0:(0≤(j:Int))=True:=eq_true (by omega)
  have q0:((j:Int) < (gs.length:Int))=True:=eq_true (by omega)
  go_wp2
  refine start_ (n:=12) (S:=fun w'=>w'.cell? ⟨gr,0,none⟩=some (.slice (some ⟨g,0,none⟩) gs.length cc)∧True) (ds:=[]) #[false,false,false,false,false,false,false,false,false,false,false,false] (by kernel_rfl) rfl rfl ⟨hx0,trivial⟩ (fun hHeld=>?_)
  have HR6:=Aside0.mk (HR4.out.below (below_drew (Below.refl _ _)))
  have SZ6:=Aside0.mk (show w.heap.size≤w5.drew.heap.size from SZ.out)
  clear hx0 hx1 hx4 hf0 hf1
  generalize w5.drew=w6 at HR6 SZ6 hHeld ⊢
  refine rgP 0 (some 52) #[true,false,false,false,false,false,false,false,false,false,false,false] ?_
  refine rgP 1 (some 53) #[true,true,false,false,false,false,false,false,false,false,false,false] ?_
  refine rgP 2 (some 54) #[true,true,true,false,false,false,false,false,false,false,false,false] ?_
  refine rgP 4 (some 56) #[true,true,true,false,true,false,false,false,false,false,false,false] ?_
  refine rgP 5 (some 57) #[true,true,true,false,true,true,false,false,false,false,false,false] ?_
  refine rgP 6 (some 58) #[true,true,true,false,true,true,true,false,false,false,false,false] ?_
  refine rgT 3 (some 55) #[true,true,true,true,true,true,true,false,false,false,false,false] hHeld ?_
  refine rgT 7 (some 59) #[true,true,true,true,true,true,true,true,false,false,false,false] hHeld ?_
  refine rgP 8 (some 60) #[true,true,true,true,true,true,true,true,true,false,false,false] ?_
  refine rgP 9 (some 61) #[true,true,true,true,true,true,true,true,true,true,false,false] ?_
  rw [ej]
  refine rgP 10 (some 62) #[true,true,true,true,true,true,true,true,true,true,true,false] ?_
  refine rgP 11 (some 6) #[true,true,true,true,true,true,true,true,true,true,true,true] ?_
  refine done_ (by kernel_rfl) ?_
  clear hHeld HR4 BK5 SZ
  go_upto_region 17 with (first|((with_reducible refine gate_dst (N:=9) rfl ?_);refine box_event ?hg (N:=9) ?hd (cs:=#[.int .i64 0]) (t:=73) ?hr ?_;(case hd=>rfl);(case hg=>rfl);(case hr=>first|(go_simp;done)|(go_simp;rfl));rintro g9 eg w4 hk4 hb4;have EG4:=Aside0.mk eg;have BK4:=Aside0.mk hk4;have HB4:=Aside0.mk hb4;have hc0:w4.cell? ⟨g9,0,none⟩=some (.int .i64 0):=(blk_cell hk4 0).trans rfl;have hd0:=blk_frozen hk4 0;clear eg hk4 hb4))
  have HB5:=Aside0.mk (show Below w6.heap.size w6 (w4.setCell ⟨g9,0,none⟩ (.int .i64 n)) from (below_set HB4.out (by rw [EG4.out];exact Nat.le_refl _)))
  have BK5:=Aside0.mk (show (w4.setCell ⟨g9,0,none⟩ (.int .i64 n)).heap[g9]?=some (.cells #[.int .i64 n] 73 (0,0)) from (blk_put BK4.out 0 (.int .i64 n) rfl))
  have NE5:=Aside0.mk (show g9≠gr from by have:=EG4.out;have:=HR6.out.lt;omega)
  clear BK4 HB4 EG4 hc0 hd0
  generalize (w4.setCell ⟨g9,0,none⟩ (.int .i64 n))=w5 at HB5 BK5 ⊢
  have HR5:=Aside0.mk (HR6.out.below HB5.out)
  have SZ5:=Aside0.mk (Nat.le_trans SZ6.out HB5.out.size)
  have hx1:=HR5.out.cell1
  have hf1:=blk_frozen HR5.out.box 1
  go_upto_region 18 with (fail)
  have HR7:=Aside0.mk (HR5.out.flag true)
  have BK7:=Aside0.mk (show (w5.setCell ⟨gr,1,none⟩ (.bool true)).heap[g9]?=some (.cells #[.int .i64 n] 73 (0,0)) from blk_far BK5.out NE5.out _)
  have SZ7:=Aside0.mk (show w.heap.size≤(w5.setCell ⟨gr,1,none⟩ (.bool true)).heap.size from by simp [World.setCell];exact SZ5.out)
  clear HR6 SZ6 HB5 BK5 NE5 HR5 SZ5 hx1 hf1
  generalize (w5.setCell ⟨gr,1,none⟩ (.bool true))=w7 at HR7 BK7 SZ7 ⊢
  obtain ⟨g_,cap_,v0,v1,oki,eu,g0,g1,⟨hy0,hy1,hy2⟩,hff,hoki,hH⟩:=(HR7.out.lines).last (by omega)
  injection eu with eu1 eu2 eu3
  injection eu1 with eu1
  injection eu1 with eg _ _
  subst eg
  subst eu3
  obtain ⟨A0,cc0,rfl⟩:=Kd.R_slice g0
  obtain ⟨A1,cc1,rfl⟩:=Kd.R_slice g1
  rw [hj] at hy0 hy1 hy2 hff hH
  have G0:=Aside0.mk g0
  have G1:=Aside0.mk g1
  have HH:=Aside0.mk hH
  clear g0 g1 hH
  subst hF
  have hx9:w7.cell? ⟨g9,0,none⟩=some (.int .i64 n):=(blk_cell BK7.out 0).trans rfl
  have hf2:=hff 2
  have HP:=Aside0.mk (Kd.S_seg0 HH.out (by omega) (by omega) (seg:=[.int .i64 n]) (j:=2) (show 2+1≤3 by decide) (x':=⟨(lastG gs).f0,(lastG gs).f1,n⟩) (k40_mkM _ _ _ ⟨(lastG gs).f0,(lastG gs).f1,n⟩ G0.out G1.out) (fun _ hk=>hk))
  have hp1:=HP.out.1
  have hp2:=HP.out.2
  rw [Int.toNat_natCast,show kGp.sz=3 from rfl] at hp1 hp2
  have HQ:Aside0 (Rd w0 w (w7.setCell ⟨g,j * 3+2,none⟩ (.int .i64 n)) base gr ok (.slice (some ⟨g,0,none⟩) gs.length cc) true (gs.set j ⟨(lastG gs).f0,(lastG gs).f1,n⟩)):=Aside0.mk (HR7.out.written (wd:=w7.setCell ⟨g,j * 3+2,none⟩ (.int .i64 n)) (Kept.of_grown hp2 (Kept.refl w7 _) (fun k hk=>.inl (by injection hk with hk;subst hk;exact (Kd.S_R HR7.out.S).1 _ rfl))) hp1 (HR7.out.B.setCell (p:=⟨g,j * 3+2,none⟩) (Kd.S_base HR7.out.S _ rfl) _))
  clear hp1 hp2 HP
  go_wp2
  (try simp only [Exit.inBlock,Exit.then])
  refine bodyPost_end (results_none rfl _ _ _) rfl ?_
  exact ⟨rfl,_,HQ.out⟩
theorem impl_take.calls (base gr:Nat) (ok:Nat→Prop) (v:Value) (b:Bool) (gs:List Gp) (x:RL) (w0 w:World) (hr:Rd w0 w w base gr ok v b gs) (hfr:∀ k,w.heap.size≤k→ok k) (hsm:gs.length < 1000000) (hs2:(lastG gs).f0.length < 1000000) :
  Calls Tryd.prog 24 #[.pointer (some ⟨gr,0,none⟩),x.v] w fun e w'=>Took w0 w base gr ok (takeF gs b x) e w':=by
 cases x with
 | caller x=>exact take_caller base gr ok v b gs x _ w0 w hr hfr hsm hs2 rfl
 | rule l p=>exact take_rule base gr ok v b gs l p _ w0 w hr hfr hsm hs2 rfl
 | wait n=>exact take_wait base gr ok v b gs n _ w0 w hr hfr hsm hs2 rfl
end Go.Proofs.YtfpngfkepeoboaaDoor.P
end
section
namespace Go.Proofs.YtfpngfkepeoboaaDoor.P
open Go.RowKit Go.Proofs.YtfpngfkepeoboaaDoorW.PrintWords Go.Proofs.YtfpngfkepeoboaaDoorW.PrintLast Go.Proofs.YtfpngfkepeoboaaDoorW.PrintMore
attribute [local go_sem] max2_int min2_int max_two min_two max_three min_three max_four min_four
set_option linter.unusedVariables false
set_option linter.unusedSimpArgs false
set_option maxHeartbeats 8000000
set_option maxRecDepth 100000
mutual
def strings_genSplit.j0:Nat→ByteArray→ByteArray→Int→Int→Option (List ByteArray)
 | 0,_,_,_,_=>none
 | k+1,x0,x1,x2,x3=>if 0≤(mn x3 (wrap64 ((x0.size:Int)+1))) then (if (mn x3 (wrap64 ((x0.size:Int)+1)):Int).toNat≤17592186044416 then (strings_genSplit.l0 k x0 x1 x2 (wrap64 ((mn x3 (wrap64 ((x0.size:Int)+1))) - 1)) (List.replicate (mn x3 (wrap64 ((x0.size:Int)+1)):Int).toNat (⟨#[]⟩:ByteArray)) 0) else (none)) else (none)
def strings_genSplit.l0:Nat→ByteArray→ByteArray→Int→Int→List ByteArray→Int→Option (List ByteArray)
 | 0,_,_,_,_,_,_=>none
 | k+1,x0,x1,x2,x3,x9,x10=>if x10 < x3 then ((strings_Index.f x0 x1).bind fun t277=>(if t277 < 0 then (if 0≤x10 then (if x10 < (x9.length:Int) then (if 0≤(wrap64 (x10+1)) then (if (wrap64 (x10+1))≤(x9.length:Int) then (some ((x9.set (x10:Int).toNat x0).take ((wrap64 (x10+1)):Int).toNat)) else (none)) else (none)) else (none)) else (none)) else (if 0≤(wrap64 (t277+x2)) then (if (wrap64 (t277+x2))≤(x0.size:Int) then (if 0≤x10 then (if x10 < (x9.length:Int) then (if 0≤(wrap64 (t277+(x1.size:Int))) then (if (wrap64 (t277+(x1.size:Int)))≤(x0.size:Int) then (strings_genSplit.l0 k (x0.extract ((wrap64 (t277+(x1.size:Int))):Int).toNat x0.size) x1 x2 x3 (x9.set (x10:Int).toNat (x0.extract 0 ((wrap64 (t277+x2)):Int).toNat)) (wrap64 (x10+1))) else (none)) else (none)) else (none)) else (none)) else (none)) else (none)))) else (if 0≤x10 then (if x10 < (x9.length:Int) then (if 0≤(wrap64 (x10+1)) then (if (wrap64 (x10+1))≤(x9.length:Int) then (some ((x9.set (x10:Int).toNat x0).take ((wrap64 (x10+1)):Int).toNat)) else (none)) else (none)) else (none)) else (none))
end
def strings_genSplit.f (k:Nat) (a0:ByteArray) (a1:ByteArray) (a2:Int) (a3:Int):Option (List ByteArray):=if a3=0 then (some ([]:List ByteArray)) else (if a1.toList=([]:List UInt8) then ((strings_explode.f a0 a3).bind fun t270=>(some t270)) else (if a3 < 0 then ((strings_Count.f a0 a1).bind fun t273=>(strings_genSplit.j0 k a0 a1 a2 (wrap64 (t273+1)))) else (strings_genSplit.j0 k a0 a1 a2 a3)))
theorem strings_genSplit.calls (k:Nat) (a0:ByteArray) (a1:ByteArray) (a2:Int) (a3:Int) (r:List ByteArray) (w:World) (h:strings_genSplit.f k a0 a1 a2 a3=some r) :
  Calls Tryd.prog 33 #[.string a0,.string a1,.int .i64 a2,.int .i64 a3] w fun e w'=>∃ v0_:Value,e=.returned (v0_)∧Kd.R Kd.string 9 w' w.heap.size (fun _=>True) v0_ r∧Below w.heap.size w w':=by
 have HB:=A_ (Below.refl w.heap.size w);unfold strings_genSplit.f at h
 have H:=h;clear h;replace H:=iteEq H;rcases H with ⟨c5b0,c5b1,H⟩|⟨c5b0,c5b1,c5,H⟩
 ·obtain rfl:=sI H
  go_enter Tryd.func33,Tryd.ntmps33;go_wp2
  go_ret
  exact ⟨_,zz8,zz22,(zz12 HB)⟩
 ·replace H:=iteEq H
  rcases H with ⟨c6b0,c6b1,H⟩|⟨c6b0,c6b1,c6,H⟩
  ·replace H:=bindA H
   obtain ⟨t270,A7,H⟩:=H;obtain rfl:=sI H;go_enter Tryd.func33,Tryd.ntmps33;go_wp2_with (first|(refine gV 41 (some 18) Tryd.func41 (strings_explode.calls a0 a3 t270 _ A7.out) ?_;rintro v271 w8 ⟨ho0,hb⟩;have HO272:=A_ (Kd.R_lower ho0 (below_size (zz12 HB)));replace HB:=A_ (bS (zz12 HB) hb);(try clear hb ho0)))
   go_ret
   exact ⟨_,zz8,(zz15 HO272),(zz12 HB)⟩
  ·have HC9:=A_ H
   clear H;go_enter Tryd.func33,Tryd.ntmps33;go_upto_if 20 with (fail)
   go_cut [3] (fun v3 wc=>∃ (kq:Nat) (x3_8:Int),v3=.int .i64 x3_8∧Aside0 (strings_genSplit.j0 kq a0 a1 a2 x3_8=some r)∧Aside0 (kq≤k)∧Aside0 (Below w.heap.size w wc))
   case first=>
    obtain ⟨H⟩:=HC9;replace H:=iteEd H;rcases H with ⟨c10b0,H⟩|⟨c10b0,H⟩
    ·(first|rw [c10b0]|(simp only [i64_w,i32_w];rw [c10b0])|skip)
     replace H:=bindA H;obtain ⟨t273,A11,H⟩:=H;have H':=A_ H;clear H;go_wp2_with (first|(refine gR 42 (some 23) Tryd.func42 (strings_Count.calls a0 a1 t273 _ A11.out) ?_;rintro w12 hb;replace HB:=A_ (bS (zz12 HB) hb);(try clear hb)))
     go_meet
     case rel=>exact ⟨_,(wrap64 (t273+1)),zz2,H',⟨zz3⟩,⟨(zz12 HB)⟩⟩
    ·(first|rw [c10b0]|(simp only [i64_w,i32_w];rw [c10b0])|skip)
     have H':=A_ H;clear H;go_wp2
     go_meet
     case rel=>exact ⟨_,(a3),zz2,H',⟨zz3⟩,⟨(zz12 HB)⟩⟩
   case rest=>
    clear HC9;obtain ⟨kq,x3_8,rfl,HA,HJ8,HB⟩:=hcut;cases kq with
    | zero=>exact absurd HA.out (by simp [strings_genSplit.j0])
    | succ kj8=>
     obtain ⟨H⟩:=HA;simp only [strings_genSplit.j0] at H
     obtain ⟨ji13,hji13⟩:∃ j_:Int,(mn x3_8 (wrap64 ((a0.size:Int)+1)))=j_:=⟨_,rfl⟩;(first|rw [hji13] at H|simp only [hji13] at H)
     have hji13_:(if (wrap64 ((a0.size:Int)+1)) < x3_8 then (wrap64 ((a0.size:Int)+1)) else x3_8)=ji13:=hji13;replace H:=iteE H;rcases H with ⟨c14,H⟩|⟨c14,H⟩
     ·have c14b0:=eq_true c14
      have c14b1:=dT c14;clear c14;replace H:=iteN H;obtain ⟨c15,H⟩:=H;have c15b0:=eq_true c15;have c15b1:=dT c15;clear c15;obtain ⟨y274,Ny274⟩:=toY (List.replicate (ji13:Int).toNat (⟨#[]⟩:ByteArray));(first|with_reducible replace H:=bindZ Ny274 H|rw [← Ny274.out] at H|skip)
      have H':=A_ H;clear H;go_wp2_with (first|((with_reducible refine gD (N:=31) rfl ?_);refine Kd.R_make Kd.string _ 9 rfl (N:=31) rfl 37 _ _ rfl ji13 rfl rfl Tryd.underlying37 (.string ⟨#[]⟩) 16 info9 rfl (by decide) (by omega) (⟨#[]⟩:ByteArray) (ok:=fun _=>True) (okp:=fun _=>True) rfl (fun _ hk=>hk) trivial ofD (Nat.le_trans (Nat.mul_le_mul_right _ (ofD:ji13.toNat≤17592186044416)) (by omega)) (Below.refl _ _) (Nat.le_refl _) ?_;intro v275 w16 ho17 hb hg_ hnew_;clear hg_ hnew_;(first|rw [← Ny274.out] at ho17|(simp only [Int.reduceToNat] at ho17;rw [← Ny274.out] at ho17));have HO276:=A_ (Kd.R_lower ho17 (below_size (zz12 HB)));replace HB:=A_ (bS (zz12 HB) hb);clear hb ho17))
      go_loopg [0,10] kj8 (fun kq v0 v10 w'=>∃ (x0_2:ByteArray) (x9_2:List ByteArray) (x10_2:Int),v0=.string x0_2∧v10=.int .i64 x10_2∧Aside0 (strings_genSplit.l0 kq x0_2 a1 a2 (wrap64 ((ji13) - 1)) x9_2 x10_2=some r)∧Aside0 (kq≤kj8)∧Aside0 (Kd.R Kd.string 9 w' w.heap.size (fun _=>True) v275 x9_2)∧Aside0 (Below w.heap.size w w'))
      case atStart=>exact ⟨(a0),(y274),(0),zz2,zz2,H',⟨Nat.le_refl _⟩,⟨(zz15 HO276)⟩,⟨(zz12 HB)⟩⟩
      case round=>
       clear H';obtain ⟨x0_2,x9_2,x10_2,rfl,rfl,HA,HK2,HO_9,HB⟩:=hrel;cases gk with
       | zero=>exact absurd HA.out (by simp [strings_genSplit.l0])
       | succ k2=>
        obtain ⟨H⟩:=HA;simp only [strings_genSplit.l0] at H
        replace H:=iteEd H;rcases H with ⟨c18b0,H⟩|⟨c18b0,H⟩
        ·replace H:=bindA H
         obtain ⟨t277,A19,H⟩:=H;have HF20:=A_ H;clear H;go_upto_if 41 with (first|(refine gR 43 (some 39) Tryd.func43 (strings_Index.calls x0_2 a1 t277 _ A19.out) ?_;rintro w21 hb;replace HO_9:=A_ (rB (zz15 HO_9) hb);replace HB:=A_ (bS (zz12 HB) hb);(try clear hb)))
         obtain ⟨H⟩:=HF20;replace H:=iteEd H;rcases H with ⟨c22b0,H⟩|⟨c22b0,H⟩
         ·(first|rw [c22b0]|(simp only [i64_w,i32_w];rw [c22b0])|skip)
          replace H:=iteNd H;obtain ⟨c23b0,H⟩:=H;replace H:=iteNd H;obtain ⟨c24b0,H⟩:=H;obtain ⟨y278,hy278⟩:∃ y_:List ByteArray,y_=(x9_2.set (x10_2:Int).toNat x0_2):=⟨_,rfl⟩;replace H:(if 0≤(wrap64 (x10_2+1)) then (if (wrap64 (x10_2+1))≤(x9_2.length:Int) then (some (y278.take ((wrap64 (x10_2+1)):Int).toNat)) else (none)) else (none))=some r:=by first|(rw [hy278];with_reducible exact H)|(have H2_:=(Option.bind_some _ _).symm.trans H;rw [hy278];with_reducible exact H2_)|(have H2_:=(Option.bind_some _ _).symm.trans H;with_reducible exact H2_)|with_reducible exact H|(rw [hy278];exact H)|exact H
          have Ny278:=A_ hy278;have Ly278:y278.length≤x9_2.length∧x9_2.length≤y278.length:=by rw [hy278,List.length_set];exact ⟨Nat.le_refl _,Nat.le_refl _⟩
          have My278:=Ly278.1;replace Ly278:=Ly278.2;clear hy278;obtain ⟨ji26,hji26⟩:∃ j_:Int,(wrap64 (x10_2+1))=j_:=⟨_,rfl⟩;(first|rw [hji26] at H|simp only [hji26] at H)
          have hji26w:(IntKind.i64.wrap (x10_2+1))=ji26:=(i64_w _).trans hji26;replace H:=iteN H;obtain ⟨c27,H⟩:=H;have c27b0:=eq_true c27;have c27b1:=dT c27;clear c27;replace H:=iteN H;obtain ⟨c28,H⟩:=H;have c28b0:=eq_true c28;have c28b1:=dT c28;clear c28;obtain ⟨y279,Ny279⟩:=toY (y278.take ((ji26):Int).toNat);(first|with_reducible replace H:=bindZ Ny279 H|rw [← Ny279.out] at H|skip)
          obtain rfl:=sI H;have p25:0≤(x10_2:Int):=ofD;have q25:(x10_2:Int) < ((x9_2.length:Int):Int):=ofD;obtain ⟨go25,co25,eo25,gb25,gl25,cl25,HG25⟩:=Kd.R_form HO_9.out (by omega);(first|cases eo25|(injection eo25 with ea_ en_ ec_;(first|subst ea_|(injection ea_ with ea_;subst ea_));subst ec_;clear en_))
          have GB25:=A_ gb25;have GG25:=A_ HG25;clear gb25 gl25 HG25;obtain ⟨hx25_0,hf25_0⟩:=Kd.R_celln (⟨#[]⟩:ByteArray) HO_9.out (x10_2:Int) p25 q25;replace p25:=eq_true p25;replace q25:=eq_true q25;have HP29:=Kd.R_putg HO_9.out (x10_2:Int) x0_2;go_wp2_with (first|((with_reducible refine gate_store (t:=9) (p:=61) rfl ?_);refine store_event (t:=9) (p:=61) (v:=?vo_w30) (w1:=(w21.setCell ⟨go25,(x10_2:Int).toNat,none⟩ (.string x0_2))) ?hg ?ho ?hn ?hr ?_;(case ho=>rfl);(case hg=>rfl);(case hn=>rfl);(case hr=>exact zz13);intro w30 hw;have hg:w21.grownBy w30 (some go25):=(by rw [hw];exact HP29.2);have hp_:Kd.R Kd.string 9 w30 w.heap.size (fun _=>True) (.slice (some ⟨go25,0,none⟩) x9_2.length co25) y278:=(by rw [hw,Ny278.out];exact HP29.1);clear HP29;replace HO_9:=A_ (hp_);replace HB:=A_ ((by rw [hw];exact below_set (HB.out) GB25.out:Below w.heap.size w w30));clear hg hw hp_;have q31:((ji26):Int)≤((x9_2.length:Int):Int):=ofD;obtain ⟨i031,hi031,_,hsz31,_⟩:=info_parts info9;have hcut31:=cut_to (P:=Tryd.prog) 37 9 .i64 Tryd.underlying37 hi031 (some ⟨go25,0,none⟩) x9_2.length co25 (ji26) ofD q31 (Kd.R_reads' HO_9.out).2.1;have hr31:=Kd.R_take (m:=((ji26):Int).toNat) HO_9.out (by omega);have hy31:y279.length=((ji26):Int).toNat:=(by rw [Ny279.out,List.length_take];omega);rw [← Ny279.out] at hr31;rw [← hy31] at hr31 hcut31;clear hy31 hi031 hsz31 HO_9;have HO281:=A_ hr31;clear hr31;replace q31:=eq_true q31))
          go_ret
          exact ⟨_,(by first|rfl|(simp [errW_none,errW_some] <;> rfl)|(simp only [← hji13,← hji26];first|rfl|(simp [errW_none,errW_some] <;> rfl))|(simp [*,errW_none,errW_some] <;> rfl)),(zz15 HO281),(zz12 HB)⟩
         ·(first|rw [c22b0]|(simp only [i64_w,i32_w];rw [c22b0])|skip)
          obtain ⟨ji32,hji32⟩:∃ j_:Int,(wrap64 (t277+a2))=j_:=⟨_,rfl⟩;(first|rw [hji32] at H|simp only [hji32] at H)
          have hji32w:(IntKind.i64.wrap (t277+a2))=ji32:=(i64_w _).trans hji32;replace H:=iteN H;obtain ⟨c33,H⟩:=H;have c33b0:=eq_true c33;have c33b1:=dT c33;clear c33;replace H:=iteN H;obtain ⟨c34,H⟩:=H;have c34b0:=eq_true c34;have c34b1:=dT c34;clear c34;replace H:=iteNd H;obtain ⟨c35b0,H⟩:=H;replace H:=iteNd H;obtain ⟨c36b0,H⟩:=H;obtain ⟨y282,hy282⟩:∃ y_:List ByteArray,y_=(x9_2.set (x10_2:Int).toNat (x0_2.extract 0 ((ji32):Int).toNat)):=⟨_,rfl⟩;replace H:(if 0≤(wrap64 (t277+(a1.size:Int))) then (if (wrap64 (t277+(a1.size:Int)))≤(x0_2.size:Int) then (strings_genSplit.l0 k2 (x0_2.extract ((wrap64 (t277+(a1.size:Int))):Int).toNat x0_2.size) a1 a2 (wrap64 ((ji13) - 1)) y282 (wrap64 (x10_2+1))) else (none)) else (none))=some r:=by first|(rw [hy282];with_reducible exact H)|(have H2_:=(Option.bind_some _ _).symm.trans H;rw [hy282];with_reducible exact H2_)|(have H2_:=(Option.bind_some _ _).symm.trans H;with_reducible exact H2_)|with_reducible exact H|(rw [hy282];exact H)|exact H
          have Ny282:=A_ hy282;have Ly282:y282.length≤x9_2.length∧x9_2.length≤y282.length:=by rw [hy282,List.length_set];exact ⟨Nat.le_refl _,Nat.le_refl _⟩
          have My282:=Ly282.1;replace Ly282:=Ly282.2;clear hy282;obtain ⟨ji38,hji38⟩:∃ j_:Int,(wrap64 (t277+(a1.size:Int)))=j_:=⟨_,rfl⟩;(first|rw [hji38] at H|simp only [hji38] at H)
          have hji38w:(IntKind.i64.wrap (t277+(a1.size:Int)))=ji38:=(i64_w _).trans hji38;replace H:=iteN H;obtain ⟨c39,H⟩:=H;have c39b0:=eq_true c39;have c39b1:=dT c39;clear c39;replace H:=iteN H;obtain ⟨c40,H⟩:=H;have c40b0:=eq_true c40;have c40b1:=dT c40;clear c40;have H':=A_ H;clear H;have p37:0≤(x10_2:Int):=ofD;have q37:(x10_2:Int) < ((x9_2.length:Int):Int):=ofD;obtain ⟨go37,co37,eo37,gb37,gl37,cl37,HG37⟩:=Kd.R_form HO_9.out (by omega);(first|cases eo37|(injection eo37 with ea_ en_ ec_;(first|subst ea_|(injection ea_ with ea_;subst ea_));subst ec_;clear en_))
          have GB37:=A_ gb37;have GG37:=A_ HG37;clear gb37 gl37 HG37;obtain ⟨hx37_0,hf37_0⟩:=Kd.R_celln (⟨#[]⟩:ByteArray) HO_9.out (x10_2:Int) p37 q37;replace p37:=eq_true p37;replace q37:=eq_true q37;have HP41:=Kd.R_putg HO_9.out (x10_2:Int) (x0_2.extract 0 ((ji32):Int).toNat);go_wp2_with (first|((with_reducible refine gate_store (t:=9) (p:=49) rfl ?_);refine store_event (t:=9) (p:=49) (v:=?vo_w42) (w1:=(w21.setCell ⟨go37,(x10_2:Int).toNat,none⟩ (.string (x0_2.extract 0 ((ji32):Int).toNat)))) ?hg ?ho ?hn ?hr ?_;(case ho=>rfl);(case hg=>rfl);(case hn=>rfl);(case hr=>exact zz13);intro w42 hw;have hg:w21.grownBy w42 (some go37):=(by rw [hw];exact HP41.2);have hp_:Kd.R Kd.string 9 w42 w.heap.size (fun _=>True) (.slice (some ⟨go37,0,none⟩) x9_2.length co37) y282:=(by rw [hw,Ny282.out];exact HP41.1);clear HP41;replace HO_9:=A_ (hp_);replace HB:=A_ ((by rw [hw];exact below_set (HB.out) GB37.out:Below w.heap.size w w42));clear hg hw hp_))
          go_roundg k2
          case measure=>have:=HJ8.out;have:=HK2.out;omega
          case rel=>exact ⟨(x0_2.extract ((ji38):Int).toNat x0_2.size),(y282),(wrap64 (x10_2+1)),(by first|rfl|(simp only [i64_w,i32_w];done)|(simp only [aid_isEmpty,aid_isEmpty2];done)|(simp;done)|((simp only [← hji38] <;> (first|rfl|simp));done)|(simp [*];done)),zz2,H',⟨(zz31 HJ8 HK2)⟩,⟨(zz15 HO_9)⟩,⟨(zz12 HB)⟩⟩
        ·replace H:=iteNd H
         obtain ⟨c43b0,H⟩:=H;replace H:=iteNd H;obtain ⟨c44b0,H⟩:=H;obtain ⟨y283,hy283⟩:∃ y_:List ByteArray,y_=(x9_2.set (x10_2:Int).toNat x0_2):=⟨_,rfl⟩;replace H:(if 0≤(wrap64 (x10_2+1)) then (if (wrap64 (x10_2+1))≤(x9_2.length:Int) then (some (y283.take ((wrap64 (x10_2+1)):Int).toNat)) else (none)) else (none))=some r:=by first|(rw [hy283];with_reducible exact H)|(have H2_:=(Option.bind_some _ _).symm.trans H;rw [hy283];with_reducible exact H2_)|(have H2_:=(Option.bind_some _ _).symm.trans H;with_reducible exact H2_)|with_reducible exact H|(rw [hy283];exact H)|exact H
         have Ny283:=A_ hy283;have Ly283:y283.length≤x9_2.length∧x9_2.length≤y283.length:=by rw [hy283,List.length_set];exact ⟨Nat.le_refl _,Nat.le_refl _⟩
         have My283:=Ly283.1;replace Ly283:=Ly283.2;clear hy283;obtain ⟨ji46,hji46⟩:∃ j_:Int,(wrap64 (x10_2+1))=j_:=⟨_,rfl⟩;(first|rw [hji46] at H|simp only [hji46] at H)
         have hji46w:(IntKind.i64.wrap (x10_2+1))=ji46:=(i64_w _).trans hji46;replace H:=iteN H;obtain ⟨c47,H⟩:=H;have c47b0:=eq_true c47;have c47b1:=dT c47;clear c47;replace H:=iteN H;obtain ⟨c48,H⟩:=H;have c48b0:=eq_true c48;have c48b1:=dT c48;clear c48;obtain ⟨y284,Ny284⟩:=toY (y283.take ((ji46):Int).toNat);(first|with_reducible replace H:=bindZ Ny284 H|rw [← Ny284.out] at H|skip)
         obtain rfl:=sI H;have p45:0≤(x10_2:Int):=ofD;have q45:(x10_2:Int) < ((x9_2.length:Int):Int):=ofD;obtain ⟨go45,co45,eo45,gb45,gl45,cl45,HG45⟩:=Kd.R_form HO_9.out (by omega);(first|cases eo45|(injection eo45 with ea_ en_ ec_;(first|subst ea_|(injection ea_ with ea_;subst ea_));subst ec_;clear en_))
         have GB45:=A_ gb45;have GG45:=A_ HG45;clear gb45 gl45 HG45;obtain ⟨hx45_0,hf45_0⟩:=Kd.R_celln (⟨#[]⟩:ByteArray) HO_9.out (x10_2:Int) p45 q45;replace p45:=eq_true p45;replace q45:=eq_true q45;have HP49:=Kd.R_putg HO_9.out (x10_2:Int) x0_2;go_wp2_with (first|((with_reducible refine gate_store (t:=9) (p:=61) rfl ?_);refine store_event (t:=9) (p:=61) (v:=?vo_w50) (w1:=(wr.setCell ⟨go45,(x10_2:Int).toNat,none⟩ (.string x0_2))) ?hg ?ho ?hn ?hr ?_;(case ho=>rfl);(case hg=>rfl);(case hn=>rfl);(case hr=>exact zz13);intro w50 hw;have hg:wr.grownBy w50 (some go45):=(by rw [hw];exact HP49.2);have hp_:Kd.R Kd.string 9 w50 w.heap.size (fun _=>True) (.slice (some ⟨go45,0,none⟩) x9_2.length co45) y283:=(by rw [hw,Ny283.out];exact HP49.1);clear HP49;replace HO_9:=A_ (hp_);replace HB:=A_ ((by rw [hw];exact below_set (HB.out) GB45.out:Below w.heap.size w w50));clear hg hw hp_;have q51:((ji46):Int)≤((x9_2.length:Int):Int):=ofD;obtain ⟨i051,hi051,_,hsz51,_⟩:=info_parts info9;have hcut51:=cut_to (P:=Tryd.prog) 37 9 .i64 Tryd.underlying37 hi051 (some ⟨go45,0,none⟩) x9_2.length co45 (ji46) ofD q51 (Kd.R_reads' HO_9.out).2.1;have hr51:=Kd.R_take (m:=((ji46):Int).toNat) HO_9.out (by omega);have hy51:y284.length=((ji46):Int).toNat:=(by rw [Ny284.out,List.length_take];omega);rw [← Ny284.out] at hr51;rw [← hy51] at hr51 hcut51;clear hy51 hi051 hsz51 HO_9;have HO286:=A_ hr51;clear hr51;replace q51:=eq_true q51))
         go_ret
         exact ⟨_,(by first|rfl|(simp [errW_none,errW_some] <;> rfl)|(simp only [← hji13,← hji46];first|rfl|(simp [errW_none,errW_some] <;> rfl))|(simp [*,errW_none,errW_some] <;> rfl)),(zz15 HO286),(zz12 HB)⟩
     ·exact absurd H (by simp)
def strings_Split.f (k:Nat) (a0:ByteArray) (a1:ByteArray):Option (List ByteArray):=(strings_genSplit.f k a0 a1 0 (-1)).bind fun t287=>(some t287)
theorem strings_Split.calls (k:Nat) (a0:ByteArray) (a1:ByteArray) (r:List ByteArray) (w:World) (h:strings_Split.f k a0 a1=some r) :
  Calls Tryd.prog 22 #[.string a0,.string a1] w fun e w'=>∃ v0_:Value,e=.returned (v0_)∧Kd.R Kd.string 9 w' w.heap.size (fun _=>True) v0_ r∧Below w.heap.size w w':=by
 have HB:=A_ (Below.refl w.heap.size w);unfold strings_Split.f at h
 have H:=h;clear h;replace H:=bindA H;obtain ⟨t287,A3,H⟩:=H;obtain rfl:=sI H;go_enter Tryd.func22,Tryd.ntmps22;go_wp2_with (first|(refine gV 33 (some 7) Tryd.func33 (strings_genSplit.calls k a0 a1 0 (-1) t287 _ A3.out) ?_;rintro v288 w4 ⟨ho0,hb⟩;have HO289:=A_ (Kd.R_lower ho0 (below_size (zz12 HB)));replace HB:=A_ (bS (zz12 HB) hb);(try clear hb ho0)))
 go_ret
 exact ⟨_,zz8,(zz15 HO289),(zz12 HB)⟩
end Go.Proofs.YtfpngfkepeoboaaDoor.P
end
section
namespace Go.Proofs.YtfpngfkepeoboaaDoor.P
open Go.RowKit Go.Proofs.YtfpngfkepeoboaaDoorW.PrintWords Go.Proofs.YtfpngfkepeoboaaDoorW.PrintLast Go.Proofs.YtfpngfkepeoboaaDoorW.PrintMore
set_option linter.unusedVariables false
def iLoop (k:Nat):List ByteArray→List Gp→Bool→Option (List Gp)
  | [],gs,_=>some gs
  | s :: r,gs,b=>(impl_readLine.f k s).bind fun o=>match o with
    | none=>iLoop k r gs b
    | some x=>if gs.length < 1000000∧(lastG gs).f0.length < 1000000 then iLoop k r (takeF gs b x).1 (takeF gs b x).2 else none
def impl_NoticeRead.f (k:Nat) (a0:ByteArray):Option (List Gp):=(strings_Split.f k a0 (⟨#[10]⟩:ByteArray)).bind fun ls=>if ls.length≤1000000000 then iLoop k (ls.take 40) [] false else none
set_option maxHeartbeats 8000000 in
set_option maxRecDepth 100000 in
theorem impl_NoticeRead.calls (k:Nat) (a0:ByteArray) (r:List Gp) (w:World) (h:impl_NoticeRead.f k a0=some r) :
    Calls Tryd.prog 10 #[.string a0] w fun e w'=>∃ v0_:Value,e=.returned (v0_)∧Kd.S kGp 40 w' w.heap.size (fun _=>True) v0_ r∧Below w.heap.size w w':=by
  unfold impl_NoticeRead.f at h
  obtain ⟨ls,hls,h2⟩:=Option.bind_eq_some_iff.mp h
  split at h2
  case isFalse=>cases h2
  rename_i hbig
  have HS:=Aside0.mk hls
  have H0:=Aside0.mk h2
  clear h hls h2
  go_enter Tryd.func10,Tryd.ntmps10
  go_wp2_with (first
    | ((with_reducible refine gate_dst (N:=3) rfl ?_);refine box_event ?hg (N:=3) ?hd (cs:=#[.slice none 0 0,.bool false]) (t:=57) ?hr ?_;(case hd=>rfl);(case hg=>rfl);(case hr=>first|(go_simp;done)|(go_simp;rfl));rintro gr eg w3 hk3 hb3;have EG:=Aside0.mk eg;have BK3:=Aside0.mk hk3;have HB3:=Aside0.mk hb3;clear eg hk3 hb3)
    | (go_at_call 22;(with_reducible refine (strings_Split.calls k a0 (⟨#[10]⟩:ByteArray) ls _ HS.out).mono ?_);rintro e w12 ⟨v12,rfl,ho12,hb12⟩;obtain ⟨A12,c12,rfl⟩:=Kd.R_slice ho12;have HO:=Aside0.mk ho12;have HB12:=Aside0.mk hb12;clear ho12 hb12))
  have e40:(ls.take 40).length=min 40 ls.length:=List.length_take
  have HO1:=Aside0.mk (Kd.R_tight rfl HO.out)
  have GL:=Aside0.mk (blk_lt BK3.out)
  have HR3:=Aside0.mk (show Rd w w w12 w.heap.size gr (fun k=>some k≠(Value.slice A12 ls.length c12).ownBlock∧k≠gr) (.slice none 0 0) false [] from
    Rd.below ⟨Kd.S_nil _ _ _ _ _,HB3.out,Kept.of_below HB3.out _,by rw [EG.out];exact Nat.le_refl _,fun _ h=>h.2,BK3.out⟩ HB12.out)
  clear HO HB12 HB3 BK3 HS
  go_loopg [11] (ls.take 40).length (fun g v11 wx=>∃ (i:Nat) (gs:List Gp) (b:Bool) (v:Value),v11=.int .i64 i∧i+g=(ls.take 40).length∧Aside0 (iLoop k ((ls.take 40).drop i) gs b=some r)∧Aside0 (Rd w w wx w.heap.size gr (fun k=>some k≠(Value.slice A12 ls.length c12).ownBlock∧k≠gr) v b gs)∧Aside0 (Kd.string.R 9 wx w3.heap.size (fun k=>some k=(Value.slice A12 ls.length c12).ownBlock) (.slice A12 ls.length c12) ls))
  case atStart=>exact ⟨0,[],false,_,rfl,by omega,⟨by simpa using H0.out⟩,HR3,HO1⟩
  case round=>
    clear H0 HR3 HO1
    obtain ⟨i,gs,b,v,rfl,hig,H,HR,HO⟩:=hrel
    obtain ⟨A3,c3,e3⟩:=Kd.S_slice HR.out.S
    subst e3
    have hx0:=HR.out.cell0
    cases gk with
    | zero=>
      have hr:gs=r:=by
        have:=H.out
        rw [List.drop_of_length_le (by omega)] at this
        exact Option.some.inj this
      subst hr
      by_cases c1:i < ls.length
      · have c1b:decide ((i:Int) < (ls.length:Int))=true:=decide_eq_true (by omega)
        have c1n:decide (i < ls.length)=true:=decide_eq_true (by omega)
        have c2b:((i:Int) == 40)=true:=beq_iff_eq.mpr (by omega)
        obtain ⟨gl,cl,eu,hb0,hb1,hx1⟩:=string_at HO.out c1
        injection eu with eu1 eu2 eu3
        subst eu1
        subst eu3
        have p0:(0≤(i:Int))=True:=eq_true (by omega)
        have q0:((i:Int) < (ls.length:Int))=True:=eq_true (by omega)
        have q1:(i < ls.length)=True:=eq_true (by omega)
        generalize ls[i]=s at hx1
        clear c1
        go_wp2
        go_ret
        exact ⟨_,rfl,Kd.S_mono HR.out.S (fun _ _=>trivial),HR.out.B⟩
      · have c1b:decide ((i:Int) < (ls.length:Int))=false:=decide_eq_false (by omega)
        have c1n:decide (i < ls.length)=false:=decide_eq_false (by omega)
        clear c1
        go_wp2
        go_ret
        exact ⟨_,rfl,Kd.S_mono HR.out.S (fun _ _=>trivial),HR.out.B⟩
    | succ g1=>
      have hi:i < ls.length:=by omega
      have c1b:decide ((i:Int) < (ls.length:Int))=true:=decide_eq_true (by omega)
      have c1n:decide (i < ls.length)=true:=decide_eq_true (by omega)
      have c2b:((i:Int) == 40)=false:=beq_eq_false_iff_ne.mpr (by omega)
      obtain ⟨gl,cl,eu,hb0,hb1,hx1⟩:=string_at HO.out hi
      injection eu with eu1 eu2 eu3
      subst eu1
      subst eu3
      have p0:(0≤(i:Int))=True:=eq_true (by omega)
      have q0:((i:Int) < (ls.length:Int))=True:=eq_true (by omega)
      have q1:(i < ls.length)=True:=eq_true (by omega)
      have h1:=H.out
      rw [List.drop_eq_getElem_cons (by omega:i < (ls.take 40).length),List.getElem_take] at h1
      unfold iLoop at h1
      obtain ⟨o,A1,h2⟩:=Option.bind_eq_some_iff.mp h1
      have HA1:=Aside0.mk A1
      generalize ls[i]=s at hx1 HA1
      clear H h1 A1
      cases o with
      | none=>
        have H':=Aside0.mk h2
        clear h2
        go_wp2_with (first
          | (go_at_call 23;(with_reducible refine (impl_readLine.calls k s none _ HA1.out).mono ?_);rintro e w5 ⟨iv,rfl,_,hb5⟩;simp only [Option.isSome_none];have HB5:=Aside0.mk hb5;clear hb5))
        go_roundg g1
        case measure=>omega
        case rel=>exact ⟨i+1,gs,b,_,by first|rw [nxt i (by omega)]|simp,by omega,H',⟨HR.out.below HB5.out⟩,⟨Kd.R_below HO.out HB5.out⟩⟩
      | some x=>
        simp only at h2
        split at h2
        case isFalse=>cases h2
        rename_i hsm
        have H':=Aside0.mk h2
        clear h2
        go_wp2_with (first
          | (go_at_call 23;(with_reducible refine (impl_readLine.calls k s (some x) _ HA1.out).mono ?_);rintro e w5 ⟨iv,rfl,hiv,hb5⟩;simp only [Option.isSome_some];obtain rfl:=hiv x rfl;have HB5:=Aside0.mk hb5;clear hb5 hiv)
          | (go_at_call 24
             have HQ:=Aside0.mk (HR.out.below HB5.out)
             have HP:=Aside0.mk (Kd.R_below HO.out HB5.out)
             (with_reducible refine (impl_take.calls w.heap.size gr (fun k=>some k≠(Value.slice (some ⟨gl,0,none⟩) ls.length c12).ownBlock∧k≠gr) (.slice A3 gs.length c3) b gs x w _ ⟨HQ.out.S,HQ.out.B,Kept.refl _ _,HQ.out.le,HQ.out.ng,HQ.out.box⟩ (fun k hk=>⟨fun he=>by have:=Kd.R_lt HP.out k he.symm;omega,fun he=>by have:=HQ.out.lt;omega⟩) hsm.1 hsm.2).mono ?_)
             rintro e w6 ⟨rfl,v6,h6⟩
             have H6:=Aside0.mk (show Rd w w w6 w.heap.size gr (fun k=>some k≠(Value.slice (some ⟨gl,0,none⟩) ls.length c12).ownBlock∧k≠gr) v6 (takeF gs b x).2 (takeF gs b x).1 from ⟨h6.S,h6.B,HQ.out.K.then_ h6.K (fun k hk=>.inl hk),h6.le,h6.ng,h6.box⟩)
             have HO6:=Aside0.mk (Kd.R_step HP.out (fun k hk hlt=>h6.K.2 k hlt (fun h=>h.elim (fun h=>h.1 hk) (fun h=>by have hb:=Kd.R_base HP.out k hk.symm;have:=GL.out;omega))))
             clear h6))
        go_roundg g1
        case measure=>omega
        case rel=>exact ⟨i+1,(takeF gs b x).1,(takeF gs b x).2,_,by first|rw [nxt i (by omega)]|simp,by omega,H',H6,HO6⟩
end Go.Proofs.YtfpngfkepeoboaaDoor.P
end
section
namespace Go.Proofs.YtfpngfkepeoboaaDoor.Bd
open Go.RowKit Go.Shelf
set_option linter.unusedVariables false
set_option maxHeartbeats 1000000 in
set_option maxRecDepth 100000 in
theorem check_used (b:Nat) (w:World) (h0:w.cell? ⟨b,0,none⟩=some (.pointer (some ⟨b,0,none⟩))) :
  Calls Tryd.prog 29 #[.pointer (some ⟨b,0,none⟩)] w fun e w'=>e=.returned (.tuple #[])∧w'=w:=by
 have hsz:(Tryd.prog.info? 36).map (·.size)=some 2:=by kernel_rfl
 obtain ⟨j,hj,_⟩:=Option.map_eq_some_iff.1 hsz
 go_enter Tryd.func29,Tryd.ntmps29
 go_wp2
 rw [Lib.run_neq_ptr_same w _ Tryd.underlying34 hj]
 go_wp2
 go_end0
 exact ⟨rfl,rfl⟩
set_option maxHeartbeats 1000000 in
set_option maxRecDepth 100000 in
theorem check_fresh (b:Nat) (w:World) (h0:w.cell? ⟨b,0,none⟩=some (.pointer none)) (hsh:w.shape? b=some (36,2)) (hfz:w.frozen? ⟨b,0,none⟩=false) :
  Calls Tryd.prog 29 #[.pointer (some ⟨b,0,none⟩)] w fun e w'=>e=.returned (.tuple #[])∧w'=w.setCell ⟨b,0,none⟩ (.pointer (some ⟨b,0,none⟩)):=by
 have hsz:(Tryd.prog.info? 36).map (·.size)=some 2:=by kernel_rfl
 have hlie:liesAt Tryd.prog Tryd.prog.depth 36 (2 / Tryd.prog.cellsOf 36) 0 36 1=true:=by kernel_rfl
 obtain ⟨j,hj,hjs⟩:=Option.map_eq_some_iff.1 hsz
 go_enter Tryd.func29,Tryd.ntmps29
 go_wp2
 rw [Lib.run_to_unsafe w ⟨b,0,none⟩ Tryd.underlying34 Tryd.underlying87 hj (by rw [hjs];decide) hsh (Nat.zero_lt_succ 1)]
 simp only [Result.andThen]
 rw [Oper.upon_value]
 go_wp2
 rw [run_callFunc_extern Tryd.func40 (by kernel_rfl) (by kernel_rfl) (by kernel_rfl) (e:=Extern.AbiNoEscape.same) (by kernel_rfl)]
 rw [Lib.run_noEscape]
 simp only [Result.andThen]
 rw [Oper.upon_value]
 go_wp2
 rw [Lib.run_from_unsafe w ⟨b,0,none⟩ Tryd.underlying87 Tryd.underlying34 hj hsh hlie]
 simp only [Result.andThen]
 rw [Oper.upon_value]
 go_wp2
 go_end0
 exact ⟨rfl,rfl⟩
theorem check (B b:Nat) (bs:List Value) (w:World) (h:Lib.IsBuilderF 36 5 B b bs w) :
  Calls Tryd.prog 29 #[.pointer (some ⟨b,0,none⟩)] w fun e w'=>e=.returned (.tuple #[])∧(Lib.BuilderAtF 36 5 B b (.pointer (some ⟨b,0,none⟩)) bs w'∧Below B w w'∧Lib.OthersKept 5 (some b) w w'):=by
 rcases h with h|h
 ·refine (check_fresh b w h.cell0 h.shape h.frozen0).mono ?_
  rintro e w' ⟨rfl,rfl⟩
  exact ⟨rfl,h.used _,(Below.refl B w).setCell (p:=⟨b,0,none⟩) h.1 _,(Lib.OthersKept.refl _ _ w).setCell ⟨b,0,none⟩ rfl _⟩
 ·refine (check_used b w h.cell0).mono ?_
  rintro e w' ⟨rfl,rfl⟩
  exact ⟨rfl,h,Below.refl B _,Lib.OthersKept.refl _ _ _⟩
set_option maxHeartbeats 2000000 in
set_option maxRecDepth 100000 in
theorem write (B b:Nat) (bs:List Value) (s:ByteArray) (w:World) (h:Lib.IsBuilderF 36 5 B b bs w) (hlen:bs.length+s.size≤140737488355328) (hBw:B≤w.heap.size) :
  Calls Tryd.prog 15 #[.pointer (some ⟨b,0,none⟩),.string s] w fun e w'=>e=.returned (.tuple #[.int .i64 s.size,.nilIface])∧(Lib.BuilderAtF 36 5 B b (.pointer (some ⟨b,0,none⟩)) (bs++Lib.strCells s) w'∧Below B w w'∧Lib.OthersKept 5 (some b) w w'):=by
 obtain ⟨i0,hi,hz0,hz1,hz2⟩:=info_parts (show (Tryd.prog.info? 5).map (fun i=>(i.zero,i.size,i.bytes))=some (some (.int .u8 0),1,1) from by kernel_rfl)
 have en:∀ args w,(callFunc 29 args).run Tryd.prog w=.ok (.enter 29 args) w:=enters_of Tryd.func29 (by kernel_rfl) rfl
 go_enter Tryd.func15,Tryd.ntmps15
 go_wp2_with (go_at_fn 29;refine (check B b bs _ h).mono ?_)
 rintro e w1 ⟨rfl,h1,hb1,hk1⟩
 obtain ⟨hB,v,hbk,hown,hne⟩:=h1
 have c0:w1.cell? ⟨b,0,none⟩=some (.pointer (some ⟨b,0,none⟩)):=by rw [Lib.cell_of_heap hbk];rfl
 have c1:w1.cell? ⟨b,1,none⟩=some v:=by rw [Lib.cell_of_heap hbk];rfl
 go_wp2_with (at_builtin;refine Lib.wpList_append_own_stringF _ rfl _ _ 22 9 rfl B 5 i0 Tryd.underlying22 Tryd.underlying9 hi hz0 hz1 hz2 _ _ _ rfl hown s rfl ?c3 ?c4 ?c5 ?_)
 case c3=>unfold maxLen;omega
 case c4=>omega
 case c5=>have:=hb1.size;omega
 intro v' w2 hown' hgrow _
 have hlt:b < w1.heap.size:=by
  rcases Nat.lt_or_ge b w1.heap.size with h'|h'
  ·exact h'
  ·simp [Array.getElem?_eq_none h'] at hbk
 have hb2:w2.heap[b]?=some (.cells #[.pointer (some ⟨b,0,none⟩),v] 36 (0,0)):=(hgrow.block b hlt (fun e=>hne e.symm)).trans hbk
 have d0:w2.cell? ⟨b,0,none⟩=some (.pointer (some ⟨b,0,none⟩)):=by rw [Lib.cell_of_heap hb2];rfl
 have d1:w2.cell? ⟨b,1,none⟩=some v:=by rw [Lib.cell_of_heap hb2];rfl
 have f1:w2.frozen? ⟨b,1,none⟩=false:=Lib.frozen_of_heap hb2 1
 obtain ⟨ao,n',cap,rfl⟩:∃ ao n' cap,v'=.slice ao n' cap:=by
  rcases hown'.2 with ⟨hv,_⟩|⟨g,cap,cur,fz,hv,_⟩
  ·exact ⟨_,_,_,hv⟩
  ·exact ⟨_,_,_,hv⟩
 go_wp2
 go_ret2
 refine ⟨rfl,?_,?_,(hk1.grown hgrow (Lib.ownsRowF_kind hown)).setCell ⟨b,1,none⟩ rfl _⟩
 ·exact Lib.BuilderAtF.put (T:=36) (e:=5) hB hb2 (bs':=bs++Lib.strCells s) (by simpa [Lib.strCells_length] using hown') (by decide)
 ·exact (hb1.grown hgrow (by have:=hb1.size;omega) (fun k hk=>(hown.lt k hk).1)).setCell (p:=⟨b,1,none⟩) hB _
end Go.Proofs.YtfpngfkepeoboaaDoor.Bd
end
section
namespace Go.Proofs.YtfpngfkepeoboaaDoor.P
open Go.RowKit Go.Proofs.YtfpngfkepeoboaaDoorW.PrintWords Go.Proofs.YtfpngfkepeoboaaDoorW.PrintLast Go.Proofs.YtfpngfkepeoboaaDoorW.PrintMore
set_option linter.unusedVariables false
def linesB (ls:List Ln.NL):List UInt8:=(ls.map fun l=>l.text.data.toList).flatten
def smallB:Ln.NL→Bool
 | .caller x=>decide (x.size≤1000000000)
 | .rule _ x=>decide (x.size≤1000000000)
 | .wait n=>decide (0≤n) && decide (n < 100)
theorem small_of {l:Ln.NL} (h:smallB l=true):l.small:=by
 cases l with
 | caller x=>simpa [smallB,Ln.NL.small] using h
 | rule b x=>simpa [smallB,Ln.NL.small] using h
 | wait n=>simpa [smallB,Ln.NL.small] using h
def notices (k:Nat):List S40→List UInt8→Option ByteArray
 | [],acc=>some ⟨acc.toArray⟩
 | p :: r,acc=>(impl_groupLines.f k p.f0 p.f1 p.f2).bind fun ls=>if ls.all smallB=true∧(acc++linesB ls).length≤140737488355328∧ls.length≤1000000000 then notices k r (acc++linesB ls) else none
def impl_NoticeText.f (k:Nat) (l0:List S40):Option ByteArray:=
 if l0.length≤1000000000 then (impl_NoticeOk.f k l0).bind fun b=>if b=true then notices k l0 [] else some ⟨#[]⟩ else none
theorem builder_keep {T e:TypeId} {B b:Nat} {bs:List Value} {w w':World} (h:Lib.IsBuilderF T e B b bs w) (hk:∀ k,k < w.heap.size→w'.heap[k]?=w.heap[k]?):Lib.IsBuilderF T e B b bs w':=by
 have one:∀ p,Lib.BuilderAtF T e B b p bs w→Lib.BuilderAtF T e B b p bs w':=by
  intro p h
  have hlt:=h.lt
  obtain ⟨hB,v,hb,hown,hne⟩:=h
  refine ⟨hB,v,(hk b hlt).trans hb,?_,hne⟩
  obtain ⟨h1,h2⟩:=hown
  refine ⟨h1,?_⟩
  rcases h2 with h2|⟨g,cap,cur,fz,hv,hg,hh,hr⟩
  ·exact .inl h2
  ·have hlg:g < w.heap.size:=by
    rcases Nat.lt_or_ge g w.heap.size with h|h
    ·exact h
    ·simp [Array.getElem?_eq_none h] at hh
   exact .inr ⟨g,cap,cur,fz,hv,hg,(hk g hlg).trans hh,hr⟩
 rcases h with h|h
 ·exact .inl (one _ h)
 ·exact .inr (one _ h)
theorem builder_below {T e:TypeId} {B b:Nat} {bs:List Value} {w w':World} (h:Lib.IsBuilderF T e B b bs w) (hb:Below w.heap.size w w'):Lib.IsBuilderF T e B b bs w':=builder_keep h hb.block
theorem byteCells_append (a b:List UInt8):Lib.byteCells (a++b)=Lib.byteCells a++Lib.byteCells b:=by simp [Lib.byteCells]
theorem cells_text (a:List UInt8) (s:ByteArray):Lib.byteCells a++Lib.strCells s=Lib.byteCells (a++s.data.toList):=by rw [byteCells_append];rfl
def LinesAt (w:World) (g:Nat) (ls:List Ln.NL):Prop:=∃ cur,w.heap[g]?=some (.cells cur 44 (0,0))∧∀ (j:Nat) l,ls[j]?=some l→cur[j]?=some l.v
theorem LinesAt.cell {w:World} {g:Nat} {ls:List Ln.NL} (h:LinesAt w g ls) (j:Nat) (hj:j < ls.length):w.cell? ⟨g,j,none⟩=some (ls[j].v):=by
 obtain ⟨cur,hh,hc⟩:=h
 have:=hc j ls[j] (List.getElem?_eq_getElem hj)
 simp [World.cell?,hh,this]
theorem LinesAt.lt {w:World} {g:Nat} {ls:List Ln.NL} (h:LinesAt w g ls):g < w.heap.size:=by
 obtain ⟨cur,hh,_⟩:=h
 rcases Nat.lt_or_ge g w.heap.size with h|h
 ·exact h
 ·simp [Array.getElem?_eq_none h] at hh
theorem LinesAt.below {w w':World} {g:Nat} {ls:List Ln.NL} (h:LinesAt w g ls) (hb:Below w.heap.size w w'):LinesAt w' g ls:=by
 have hl:=h.lt
 obtain ⟨cur,hh,hc⟩:=h
 exact ⟨cur,(hb.block g hl).trans hh,hc⟩
theorem LinesAt.others {w w':World} {g b:Nat} {ls:List Ln.NL} (h:LinesAt w g ls) (hk:Lib.OthersKept 5 (some b) w w') (hne:g≠b):LinesAt w' g ls:=by
 obtain ⟨cur,hh,hc⟩:=h
 exact ⟨cur,hk g _ hh (by intro e;exact hne (Option.some.inj e)) (by intro c fz e;injection e with e1 e2 e3;revert e2;decide),hc⟩
theorem lines_of {w:World} {base:Nat} {v:Value} {ls:List Ln.NL} (h:Kd.R Kd.nl 44 w base (fun _=>True) v ls) :
  (ls=[]∧∃ A c,v=.slice A 0 c)∨∃ g c,base≤g∧v=.slice (some ⟨g,0,none⟩) ls.length c∧LinesAt w g ls:=by
 obtain ⟨hl,ho⟩:=Kd.own_of_R (h1:=nl_one) h
 rcases ho with ⟨rfl,h0⟩|⟨g,cap,cur,hv,hg,hh,hn,hm,hs,ht⟩
 ·exact .inl ⟨List.length_eq_zero_iff.1 h0,none,0,rfl⟩
 ·refine .inr ⟨g,cap,hg,hv,cur,hh,fun j l hj=>?_⟩
  have hjl:j < ls.length:=(List.getElem?_eq_some_iff.1 hj).1
  have h2:(cur.toList.take (ls.length * 1))[j]?=some l.v:=by
   rw [ht]
   simp [encs,hj]
  rw [List.getElem?_take] at h2
  rw [if_pos (by omega)] at h2
  simpa using h2
theorem lines_at {w:World} {base:Nat} {v:Value} {ls:List Ln.NL} (h:Kd.R Kd.nl 44 w base (fun _=>True) v ls) :
  ∃ A c,v=.slice A ls.length c∧(0 < ls.length→∃ g,A=some ⟨g,0,none⟩∧base≤g∧LinesAt w g ls):=by
 rcases lines_of h with ⟨rfl,A,c,hv⟩|⟨g,c,hg,hv,hl⟩
 ·exact ⟨A,c,hv,fun h=>absurd h (by simp)⟩
 ·exact ⟨_,c,hv,fun _=>⟨g,rfl,hg,hl⟩⟩
theorem nxtT {i:Nat} (h:i < 1000000000):(Value.int .i64 (wrap64 ((i:Int)+1)))=.int .i64 ((i+1:Nat):Int):=by
 congr 1
 show wrap64 _=_
 unfold wrap64
 omega
set_option maxHeartbeats 8000000 in
set_option maxRecDepth 100000 in
theorem impl_NoticeText.calls (k:Nat) (A0:Option Addr) (c0:Nat) (l0:List S40) (r:ByteArray) (w:World) (hr0:Kd.C k40 w A0 l0.length l0) (hc0:l0.length≤c0) (h:impl_NoticeText.f k l0=some r) :
  Calls Tryd.prog 6 #[.slice A0 l0.length c0] w fun e w'=>e=.returned (.string r)∧Below w.heap.size w w':=by
 have hu:=Tryd.underlying40
 unfold impl_NoticeText.f at h
 split at h
 case isFalse=>cases h
 rename_i hbig
 obtain ⟨b,h1,h2⟩:=Option.bind_eq_some_iff.mp h
 have A:=Aside0.mk h1
 clear h h1
 cases b
 case false=>
  rw [if_neg (by decide)] at h2
  obtain rfl:=Option.some.inj h2
  clear h2
  go_enter Tryd.func6,Tryd.ntmps6
  go_wp2_with (first|(go_at_call 13;(with_reducible refine (impl_NoticeOk.calls k A0 c0 l0 false _ hr0 hc0 A.out).mono ?_);rintro e w1 ⟨rfl,hb⟩;have HB:=Aside0.mk hb;clear hb))
  go_ret
  exact ⟨rfl,HB.out⟩
 case true=>
  rw [if_pos rfl] at h2
  have H0:=Aside0.mk h2
  have HR0:=Aside0.mk hr0
  have HC0:=Aside0.mk hc0
  clear h2 hr0 hc0
  go_enter Tryd.func6,Tryd.ntmps6
  go_wp2_with (first|(go_at_call 13;(with_reducible refine (impl_NoticeOk.calls k A0 c0 l0 true _ HR0.out HC0.out A.out).mono ?_);rintro e w1 ⟨rfl,hb⟩;have HB:=Aside0.mk hb;clear hb))
  have HI0:=Aside0.mk (Lib.IsBuilderF.of (Lib.fresh_isBuilder 36 5 w1))
  have HR1:=Aside0.mk (Kd.C_below HR0.out HB.out)
  go_loopg [13] l0.length (fun g v wx=>∃ (i:Nat) (acc:List UInt8),v=.int .i64 i∧i+g=l0.length∧Aside0 (notices k (l0.drop i) acc=some r)∧Aside0 (Lib.IsBuilderF 36 5 w1.heap.size w1.heap.size (Lib.byteCells acc) wx)∧Aside0 (Below w1.heap.size w1 wx))
  case atStart=>exact ⟨0,[],rfl,by omega,⟨by simpa using H0.out⟩,⟨HI0.out⟩,⟨(Below.refl _ _).alloc (Nat.le_refl _) _⟩⟩
  case round=>
   obtain ⟨i,acc,rfl,hig,H,HI,HW⟩:=hrel
   cases gk with
   | zero=>
    obtain rfl:i=l0.length:=by omega
    have hlt:decide ((l0.length:Int) < (l0.length:Int))=false:=decide_eq_false (by omega)
    go_wp2_with (first|(go_at_call 16;(with_reducible refine (Tryd.Builder_String_any_f w1.heap.size w1.heap.size acc _ HI.out (below_size HW.out)).mono ?_);rintro e w9 ⟨rfl,hi9,hb9⟩))
    go_ret
    have hr:(⟨acc.toArray⟩:ByteArray)=r:=by
     have:=H.out
     rw [List.drop_length] at this
     exact Option.some.inj this
    subst hr
    exact ⟨rfl,HB.out.trans ((HW.out.trans hb9).mono (below_size HB.out))⟩
   | succ g=>
    have hi:i < l0.length:=by omega
    have hlt:decide ((i:Int) < (l0.length:Int))=true:=decide_eq_true (by omega)
    obtain ⟨ad,A1,c1,A2,c2,ea,hx0,hx1,hx2,hl1,hn1,hl2,hn2⟩:=at_T40 (Kd.C_below HR1.out HW.out) (i:Int) (by omega) (by omega)
    subst ea
    have p0:(0≤(i:Int))=True:=eq_true (by omega)
    have q0:((i:Int) < (l0.length:Int))=True:=eq_true (by omega)
    obtain ⟨p,hp⟩:∃ p,rd_T40 l0 (i:Int)=p:=⟨_,rfl⟩
    rw [hp] at hx0 hx1 hx2 hl1 hn1 hl2 hn2
    simp only [Int.toNat_natCast] at hx0 hx1 hx2
    have hd:l0.drop i=p :: l0.drop (i+1):=by
     rw [List.drop_eq_getElem_cons hi]
     congr 1
     rw [← hp]
     simp [rd_T40,List.getD,List.getElem?_eq_getElem hi]
    have H1:=H.out
    rw [hd] at H1
    simp only [notices] at H1
    obtain ⟨ls,A0',H2⟩:=Option.bind_eq_some_iff.mp H1
    split at H2
    case isFalse=>cases H2
    rename_i hs
    have AG:=Aside0.mk A0'
    have HS:=Aside0.mk hs.1
    have HL:=Aside0.mk hs.2.1
    have hbig2:=hs.2.2
    have H':=Aside0.mk H2
    have HN1:=Aside0.mk hn1
    have HN2:=Aside0.mk hn2
    have HM1:=Aside0.mk hl1
    have HM2:=Aside0.mk hl2
    clear H H1 A0' H2 hs hn1 hn2 hl1 hl2 hd hp
    go_wp2_with (first|((with_reducible refine gate_dst (N:=5) rfl ?_);refine box_event ?hg (N:=5) ?hd (cs:=#[.slice none 0 0,.slice none 0 0,.int .i64 0]) (t:=40) ?hr ?_;(case hd=>rfl);(case hg=>rfl);(case hr=>first|(go_simp;done)|(go_simp;rfl));intro gb hg w6 hbox hb;have BK:=Aside0.mk hbox;have GE:=Aside0.mk (show wr.heap.size≤gb from by rw [hg];exact Nat.le_refl _);have HBr:=Aside0.mk hb;replace hx0:=(hb.cell (World.block_lt_of_cell? _ _ hx0)).trans hx0;replace hx1:=(hb.cell (World.block_lt_of_cell? _ _ hx1)).trans hx1;replace hx2:=(hb.cell (World.block_lt_of_cell? _ _ hx2)).trans hx2;clear hb hg hbox;obtain ⟨hc0,hc1,hc2⟩:w6.cell? ⟨gb,0,none⟩=some (.slice none 0 0)∧w6.cell? ⟨gb,1,none⟩=some (.slice none 0 0)∧w6.cell? ⟨gb,2,none⟩=some (.int .i64 0):=⟨(blk_cell BK.out 0).trans rfl,(blk_cell BK.out 1).trans rfl,(blk_cell BK.out 2).trans rfl⟩;have hf0:=blk_frozen BK.out 0;have hf1:=blk_frozen BK.out 1;have hf2:=blk_frozen BK.out 2))
    have HB6:=Aside0.mk (below_set (j:=2) (v:=.int .i64 p.f2) (below_set (j:=1) (v:=.slice A2 p.f1.length c2) (below_set (j:=0) (v:=.slice A1 p.f0.length c1) HBr.out GE.out) GE.out) GE.out)
    refine (impl_groupLines.calls k A1 c1 p.f0 A2 c2 p.f1 p.f2 ls _ (Kd.C_below HN1.out HB6.out) HM1.out (Kd.C_below HN2.out HB6.out) HM2.out AG.out).mono ?_
    rintro e w8 ⟨v0,rfl,ho,hb⟩
    have HB8:=Aside0.mk (below_step HB6.out hb)
    obtain ⟨A9,c9,ev,hl9⟩:=lines_at ho
    have HL9:=Aside0.mk hl9
    subst ev
    have SZ:=Aside0.mk (below_size HB6.out)
    clear hb ho hl9
    have HI8:=Aside0.mk (builder_below HI.out HB8.out)
    have HW8:=Aside0.mk (below_step HW.out HB8.out)
    have LTr:=Aside0.mk (show w1.heap.size < wr.heap.size from by rcases HI.out with h|h <;> exact h.lt)
    clear hx0 hx1 hx2 hc0 hc1 hc2 hf0 hf1 hf2 BK
    go_wp2
    go_loopg [20] ls.length (fun g v wx=>∃ (j:Nat),v=.int .i64 j∧j+g=ls.length∧Aside0 (Lib.IsBuilderF 36 5 w1.heap.size w1.heap.size (Lib.byteCells (acc++linesB (ls.take j))) wx)∧Aside0 (Below w1.heap.size w1 wx)∧Aside0 (0 < ls.length→∃ g,A9=some ⟨g,0,none⟩∧w1.heap.size < g∧LinesAt wx g ls))
    case atStart=>exact ⟨0,rfl,by omega,⟨by simpa [linesB] using HI8.out⟩,⟨HW8.out⟩,⟨fun h=>by obtain ⟨g9,e9,b9,l9⟩:=HL9.out h;exact ⟨g9,e9,by have:=LTr.out;have:=SZ.out;omega,l9⟩⟩⟩
    case round=>
     obtain ⟨j,rfl,hjg,HIj,HWj,HLj⟩:=hrel
     cases gk with
     | zero=>
      obtain rfl:j=ls.length:=by omega
      have hlt2:decide ((ls.length:Int) < (ls.length:Int))=false:=decide_eq_false (by omega)
      go_wp2
      go_roundg g
      case measure=>omega
      case rel=>exact ⟨i+1,acc++linesB ls,by first|rw [nxtT (by omega)]|simp,by omega,H',⟨by have:=HIj.out;rw [List.take_length] at this;exact this⟩,HWj⟩
     | succ g2=>
      have hj:j < ls.length:=by omega
      have hlt2:decide ((j:Int) < (ls.length:Int))=true:=decide_eq_true (by omega)
      have p2:(0≤(j:Int))=True:=eq_true (by omega)
      have q2:((j:Int) < (ls.length:Int))=True:=eq_true (by omega)
      obtain ⟨g9,e9,b9,l9⟩:=HLj.out (by omega)
      subst e9
      have hx9:=l9.cell j hj
      have hsm:ls[j].small:=small_of (List.all_eq_true.1 HS.out _ (List.getElem_mem hj))
      have htk:linesB (ls.take (j+1))=linesB (ls.take j)++ls[j].text.data.toList:=by
       rw [List.take_succ_eq_append_getElem hj]
       unfold linesB
       rw [List.map_append,List.flatten_append]
       simp only [List.map_cons,List.map_nil,List.flatten_cons,List.flatten_nil,List.append_nil]
      have hcut:(linesB (ls.take (j+1))).length≤(linesB ls).length:=by
       have:linesB ls=linesB (ls.take (j+1))++linesB (ls.drop (j+1)):=by
        unfold linesB
        rw [← List.flatten_append,← List.map_append,List.take_append_drop]
       rw [this,List.length_append]
       omega
      have hlen:(acc++linesB (ls.take j)).length+ls[j].text.size≤140737488355328:=by
       have h1:=HL.out
       rw [List.length_append] at h1 ⊢
       rw [htk,List.length_append] at hcut
       have:ls[j].text.size=ls[j].text.data.toList.length:=rfl
       omega
      obtain ⟨l,hl⟩:∃ l,ls[j]=l:=⟨_,rfl⟩
      rw [hl] at hx9 hsm htk hlen
      have HT:=Aside0.mk htk
      have HN:=Aside0.mk hlen
      have HX:=Aside0.mk (Ln.write l hsm)
      rw [Ln.NL.v_eq] at hx9
      clear htk hlen hcut hl hsm
      go_wp2
      rw [Ln.method_eq l _ (by decide)]
      simp only [Result.andThen]
      rw [Ln.enters,Oper.upon_enter]
      refine (HX.out _).mono ?_
      rintro e w10 ⟨rfl,hb10⟩
      have HI10:=Aside0.mk (builder_below HIj.out hb10)
      have HW10:=Aside0.mk (below_step HWj.out hb10)
      have HL10:=Aside0.mk (l9.below hb10)
      clear hb10 hx9 l9
      have en:∀ args w,(callFunc 15 args).run Tryd.prog w=.ok (.enter 15 args) w:=enters_of Tryd.func15 (by kernel_rfl) rfl
      go_wp2_with (go_at_fn 15;refine (Bd.write w1.heap.size w1.heap.size _ l.text _ HI10.out (by rw [Lib.byteCells_length];exact HN.out) (below_size HW10.out)).mono ?_)
      rintro e w11 ⟨rfl,hi11,hb11,hk11⟩
      have HI11:=Aside0.mk (show Lib.IsBuilderF 36 5 w1.heap.size w1.heap.size (Lib.byteCells (acc++linesB (ls.take (j+1)))) w11 from by
       rw [HT.out,← List.append_assoc,← cells_text]
       exact .inr hi11)
      have HW11:=Aside0.mk (HW10.out.trans hb11)
      have HL11:=Aside0.mk (HL10.out.others hk11 (by omega))
      clear hi11 hb11 hk11
      go_wp2
      go_roundg g2
      case measure=>omega
      case rel=>exact ⟨j+1,by first|rw [nxtT (by omega)]|simp,by omega,HI11,HW11,⟨fun _=>⟨g9,rfl,b9,HL11.out⟩⟩⟩
end Go.Proofs.YtfpngfkepeoboaaDoor.P
end
section
namespace Go.Proofs.YtfpngfkepeoboaaDoor.P
open Go.RowKit Go.Proofs.YtfpngfkepeoboaaDoorW.PrintWords Go.Proofs.YtfpngfkepeoboaaDoorW.PrintLast Go.Proofs.YtfpngfkepeoboaaDoorW.PrintMore
attribute [local go_sem] max2_int min2_int max_two min_two max_three min_three max_four min_four
set_option linter.unusedVariables false
set_option linter.unusedSimpArgs false
set_option maxHeartbeats 8000000
set_option maxRecDepth 100000
mutual
def laws_FnNoticeCut.j0:Nat→List Int→List Int→Bool→Option (Bool)
 | 0,_,_,_=>none
 | k+1,x0,x1,x17=>if x17=true then (some true) else ((spec_DrawNoticeText.f k x0).bind fun t305=>((spec_DrawNoticeText.f k x1).bind fun t308=>((impl_NoticeText.f k t305).bind fun t311=>((impl_NoticeText.f k t308).bind fun t312=>((some (([]:List (S40)):List (S40))).bind fun y313=>(if y313.length+t305.length < 2513169434916 then ((some (y313++t305:List (S40))).bind fun y316=>(if y316.length+t308.length < 2513169434916 then ((some (y316++t308:List (S40))).bind fun y319=>((spec_NoticeText.f k t305).bind fun t322=>(if t311.toList=t322.toList then ((spec_NoticeText.f k t308).bind fun t323=>(if t312.toList=t323.toList then ((spec_NoticeOk.f k y319).bind fun t324=>(laws_FnNoticeCut.j1 k t305 t308 t311 t312 y319 (!t324))) else (laws_FnNoticeCut.j1 k t305 t308 t311 t312 y319 true))) else (laws_FnNoticeCut.j1 k t305 t308 t311 t312 y319 true)))) else (none))) else (none)))))))
def laws_FnNoticeCut.j1:Nat→List (S40)→List (S40)→ByteArray→ByteArray→List (S40)→Bool→Option (Bool)
 | 0,_,_,_,_,_,_=>none
 | k+1,x5,x6,x7,x8,x9,x45=>if x45=true then ((spec_NoticeText.f k x5).bind fun t325=>(if x7.toList=t325.toList then ((spec_NoticeText.f k x6).bind fun t326=>(some (x8.toList == t326.toList))) else (some false))) else ((impl_NoticeText.f k x9).bind fun t327=>(if x7.size+x8.size≤9223372036854775807 then (if t327.toList=(x7++x8).toList then ((impl_NoticeRead.f k (x7++x8)).bind fun t328=>((laws_lpGroups.f k t328 x9).bind fun t331=>(some t331))) else (some false)) else (none)))
end
def laws_FnNoticeCut.f (k:Nat) (l0:List Int) (l1:List Int):Option (Bool):=if (l0.length:Int) > 1048576 then (laws_FnNoticeCut.j0 k l0 l1 true) else (laws_FnNoticeCut.j0 k l0 l1 (decide ((l1.length:Int) > 1048576)))
theorem laws_FnNoticeCut.calls (k:Nat) (A0:Option Addr) (c0:Nat) (l0:List Int) (A1:Option Addr) (c1:Nat) (l1:List Int) (r:Bool) (w:World) (hr0:Kd.C (Kd.int .u8) w A0 l0.length l0) (hc0:l0.length≤c0) (hr1:Kd.C (Kd.int .u8) w A1 l1.length l1) (hc1:l1.length≤c1) (h:laws_FnNoticeCut.f k l0 l1=some r) :
  Calls Tryd.prog 4 #[.slice A0 l0.length c0,.slice A1 l1.length c1] w fun e w'=>e=.returned (.bool r)∧Below w.heap.size w w':=by
 have HR0:=A_ hr0;have HC0:=A_ hc0;clear hr0 hc0;have HR1:=A_ hr1;have HC1:=A_ hc1;clear hr1 hc1;have HB:=A_ (Below.refl w.heap.size w);unfold laws_FnNoticeCut.f at h
 have H:=h;clear h;have HC3:=A_ H;clear H;go_enter Tryd.func4,Tryd.ntmps4;go_upto_region 1 with (fail)
 go_cut [17] (fun v17 wc=>∃ (kq:Nat) (x17_2:Bool),v17=.bool x17_2∧Aside0 (laws_FnNoticeCut.j0 kq l0 l1 x17_2=some r)∧Aside0 (kq≤k)∧Aside0 (Below w.heap.size w wc))
 case first=>
  obtain ⟨H⟩:=HC3;replace H:=iteE H;rcases H with ⟨c4,H⟩|⟨c4,H⟩
  ·have c4b0:=gtT c4
   have c4b1:decide (1048576 < l0.length)=true:=dT (by omega);clear c4;(first|rw [c4b0]|(simp only [i64_w,i32_w];rw [c4b0])|skip)
   have H':=A_ H;clear H;go_wp2
   go_meet
   case rel=>exact ⟨_,(true),zz2,H',⟨zz3⟩,⟨(zz12 HB)⟩⟩
  ·have c4b0:=gtF c4
   have c4b1:decide (1048576 < l0.length)=false:=dF (by omega);clear c4;(first|rw [c4b0]|(simp only [i64_w,i32_w];rw [c4b0])|skip)
   have H':=A_ H;clear H;go_wp2
   go_meet
   case rel=>exact ⟨_,(decide ((l1.length:Int) > 1048576)),zz2,H',⟨zz3⟩,⟨(zz12 HB)⟩⟩
 case rest=>
  clear HC3;obtain ⟨kq,x17_2,rfl,HA,HJ2,HB⟩:=hcut;cases kq with
  | zero=>exact absurd HA.out (by simp [laws_FnNoticeCut.j0])
  | succ kj2=>
   obtain ⟨H⟩:=HA;simp only [laws_FnNoticeCut.j0] at H
   replace H:=iteB H;rcases H with ⟨rfl,H⟩|⟨rfl,H⟩
   ·obtain rfl:=sI H
    go_wp2
    go_ret
    exact ⟨zz8,(zz12 HB)⟩
   ·replace H:=bindA H
    obtain ⟨t305,A6,H⟩:=H;replace H:=bindA H;obtain ⟨t308,A7,H⟩:=H;replace H:=bindA H;obtain ⟨t311,A8,H⟩:=H;replace H:=bindA H;obtain ⟨t312,A9,H⟩:=H;obtain ⟨y313,Ny313,H⟩:=bindY H;replace H:=iteE H;rcases H with ⟨c10,H⟩|⟨c10,H⟩
    ·have LMc10:=A_ c10
     clear c10;obtain ⟨y316,Ny316⟩:=toY (y313++t305);(first|with_reducible replace H:=bindZ Ny316 H|rw [← Ny316.out] at H|skip)
     replace H:=iteN H;obtain ⟨c11,H⟩:=H;have LMc11:=A_ c11;clear c11;obtain ⟨y319,Ny319⟩:=toY (y316++t308);(first|with_reducible replace H:=bindZ Ny319 H|rw [← Ny319.out] at H|skip)
     have HC12:=A_ H;clear H;go_upto_region 8 with (first|(refine gV 5 (some 19) Tryd.func5 (spec_DrawNoticeText.calls kj2 _ _ l0 t305 _ ?side1 ?side2 A6.out) ?_;(case side1=>exact (zz77 HR0 HB));(case side2=>exact HC0.out);rintro v306 w13 ⟨ho0,hb⟩;have HO307:=A_ (Kd.N_lower (Kd.N_mono (ok':=fun k_=>True) (Kd.S_N (Kd.S_bound ho0)) (fun k_ hk_=>trivial)) (below_size (zz12 HB)));replace HB:=A_ (bS (zz12 HB) hb);(try clear hb ho0))|(refine gV 5 (some 21) Tryd.func5 (spec_DrawNoticeText.calls kj2 _ _ l1 t308 _ ?side1 ?side2 A7.out) ?_;(case side1=>exact (zz77 HR1 HB));(case side2=>exact HC1.out);rintro v309 w14 ⟨ho0,hb⟩;have HO310:=A_ (Kd.N_lower (Kd.N_mono (ok':=fun k_=>some k_≠(v306:Value).ownBlock) (Kd.S_N (Kd.S_bound ho0)) (fun k_ hk_=>(Kd.fresh' (Kd.N_lt (zz118 HO307)) k_ hk_.2.1))) (below_size (zz12 HB)));replace HO307:=A_ (Kd.N_elder' (zz118 HO307) (Kd.N_base (Kd.S_N (Kd.S_bound ho0))) hb);replace HB:=A_ (bS (zz12 HB) hb);(try clear hb ho0);obtain ⟨Ao15,co15,eo15⟩:=Kd.N_slice HO307.out;subst eo15)|(refine gR 6 (some 23) Tryd.func6 (impl_NoticeText.calls kj2 _ _ t305 t311 _ ?side1 ?side2 A8.out) ?_;(case side1=>exact (zz119 HO307));(case side2=>exact (Kd.N_reads' HO307.out).2.1);rintro w16 hb;replace HO307:=A_ (Kd.N_below (zz118 HO307) hb);replace HO310:=A_ (Kd.N_below (zz118 HO310) hb);replace HB:=A_ (bS (zz12 HB) hb);(try clear hb);obtain ⟨Ao17,co17,eo17⟩:=Kd.N_slice HO310.out;subst eo17)|(refine gR 6 (some 25) Tryd.func6 (impl_NoticeText.calls kj2 _ _ t308 t312 _ ?side1 ?side2 A9.out) ?_;(case side1=>exact (zz119 HO310));(case side2=>exact (Kd.N_reads' HO310.out).2.1);rintro w18 hb;replace HO307:=A_ (Kd.N_below (zz118 HO307) hb);replace HO310:=A_ (Kd.N_below (zz118 HO310) hb);replace HB:=A_ (bS (zz12 HB) hb);(try clear hb))|((with_reducible refine gD (N:=26) rfl ?_);(try (refine gate_guard (by rfl) ?_;dsimp only));refine Kd.N_lit k40 _ 40 ?hg (N':=26) ?hd (xs:=([]:List (S40))) (inner:=[]) (ok:=(fun k_=>some k_≠(.slice Ao15 t305.length co15:Value).ownBlock∧some k_≠(.slice Ao17 t308.length co17:Value).ownBlock)) (okp:=(fun k_=>some k_≠(.slice Ao15 t305.length co15:Value).ownBlock∧some k_≠(.slice Ao17 t308.length co17:Value).ownBlock)) ?hr ?hp (fun _ hk=>hk) ((show ∀ k_,w18.heap.size≤k_→(fun k_=>some k_≠(.slice Ao15 t305.length co15:Value).ownBlock∧some k_≠(.slice Ao17 t308.length co17:Value).ownBlock) k_ from fun k_ hk=>⟨Kd.fresh' (Kd.N_lt (zz118 HO307)) k_ hk,Kd.fresh' (Kd.N_lt (zz118 HO310)) k_ hk⟩) _ (Nat.le_refl _)) (Below.refl _ _) (Nat.le_refl _) (by simp) ?_;(case hd=>rfl);(case hg=>rfl);(case hr=>exact zz13);(case hp=>exact (Reps.none _ _));intro v314 w19 ho20 hb hg_ hnew_;clear hg_ hnew_;(first|rw [← Ny313.out] at ho20|(simp only [Int.reduceToNat] at ho20;rw [← Ny313.out] at ho20));replace HO307:=A_ (Kd.N_elder' (zz118 HO307) (Kd.N_base ho20) hb);replace HO310:=A_ (Kd.N_elder' (zz118 HO310) (Kd.N_base ho20) hb);have HO315:=A_ (Kd.N_lower ho20 (below_size (zz12 HB)));replace HB:=A_ (bS (zz12 HB) hb);clear hb ho20)|((with_reducible refine gate_builtin (b:=.append) (xs:=#[.tmp 26,.tmp 27]) rfl ?_);(try (refine gate_guard (by rfl) ?_;dsimp only));at_builtin;refine Kd.N_append_rows k40 (w0:=w) w.heap.size rfl (.tmp 26) (.tmp 27) 23 40 (.agg #[(.slice none 0 0),(.slice none 0 0),(.int .i64 0)]) 56 rfl Tryd.underlying23 info40 rfl (by decide) (by omega) v314 y313 t305 _ _ _ (fun k_=>some k_≠(.slice Ao17 t308.length co17:Value).ownBlock) (fun k_=>((fun k_=>some k_≠(.slice Ao17 t308.length co17:Value).ownBlock)) k_∧some k_≠(v314:Value).ownBlock) rfl rfl ?aO ?aR (fun _ hk=>hk) ?aF ?aB ?aS ?aL ?_;(case aR=>exact (by skip;exact Kd.N_F (Kd.N_mono (ok':=(fun k_=>((fun k_=>some k_≠(.slice Ao17 t308.length co17:Value).ownBlock)) k_∧some k_≠(v314:Value).ownBlock)) (HO307.out) (fun k_ hk=>⟨hk.1.2,hk.2⟩))));(case aB=>exact (zz12 HB));(case aF=>exact (fun k_ hk=>Kd.fresh' (Kd.N_lt (zz118 HO310)) k_ hk));(case aO=>exact (by (with_reducible repeat (first|apply Kd.N_alloc|apply Kd.N_drewN|apply Kd.N_drew));exact Kd.N_mono HO315.out (fun _ hk=>hk.2)));(case aS=>exact (below_size (zz12 HB)));(case aL=>exact (zz18 LMc10));intro v317 w21 ho hb hg hat;rw [← Ny316.out] at ho;replace HO307:=A_ (Kd.N_afterv (ok:=(fun k_=>some k_≠(.slice Ao17 t308.length co17:Value).ownBlock)) (by (with_reducible repeat (first|apply Kd.N_alloc|apply Kd.N_drewN|apply Kd.N_drew));exact Kd.N_mono HO307.out (fun _ hk=>⟨hk.1.2,hk.2⟩)) hg hat);replace HO310:=A_ (Kd.N_afterv (ok:=(fun k_=>some k_≠(.slice Ao15 t305.length co15:Value).ownBlock)) (zz118 HO310) hg hat);replace HB:=A_ (hb);have HO318:=A_ (ho);clear HO315;clear ho hb hg hat)|((with_reducible refine gate_builtin (b:=.append) (xs:=#[.tmp 28,.tmp 29]) rfl ?_);(try (refine gate_guard (by rfl) ?_;dsimp only));at_builtin;refine Kd.N_append_rows k40 (w0:=w) w.heap.size rfl (.tmp 28) (.tmp 29) 23 40 (.agg #[(.slice none 0 0),(.slice none 0 0),(.int .i64 0)]) 56 rfl Tryd.underlying23 info40 rfl (by decide) (by omega) v317 y316 t308 _ _ _ (fun _=>True) (fun k_=>((fun _=>True)) k_∧some k_≠(v317:Value).ownBlock) rfl rfl ?aO ?aR (fun _ hk=>hk) ?aF ?aB ?aS ?aL ?_;(case aR=>exact (by skip;exact Kd.N_F (Kd.N_mono (ok':=(fun k_=>((fun _=>True)) k_∧some k_≠(v317:Value).ownBlock)) (HO310.out) (fun k_ hk=>⟨trivial,hk.2⟩))));(case aB=>exact (zz12 HB));(case aF=>exact (fun _ _=>trivial));(case aO=>exact (by (with_reducible repeat (first|apply Kd.N_alloc|apply Kd.N_drewN|apply Kd.N_drew));exact Kd.N_mono HO318.out (fun _ hk=>trivial)));(case aS=>exact (below_size (zz12 HB)));(case aL=>exact (zz18 LMc11));intro v320 w22 ho hb hg hat;rw [← Ny319.out] at ho;replace HO307:=A_ (Kd.N_afterv (ok:=(fun k_=>some k_≠(.slice Ao17 t308.length co17:Value).ownBlock)) (zz118 HO307) hg hat);replace HO310:=A_ (Kd.N_afterv (ok:=(fun k_=>some k_≠(.slice Ao15 t305.length co15:Value).ownBlock)) (zz118 HO310) hg hat);replace HB:=A_ (hb);have HO321:=A_ (ho);clear HO318;clear ho hb hg hat))
     (try simp only [Act.put,List.setIfInBounds_toArray,List.set_cons_zero,List.set_cons_succ])
     go_cut [45] (fun v45 wc=>∃ (kq:Nat) (x45_11:Bool),v45=.bool x45_11∧Aside0 (laws_FnNoticeCut.j1 kq t305 t308 t311 t312 y319 x45_11=some r)∧Aside0 (kq≤kj2)∧Aside0 (Kd.N k40 40 wc w.heap.size (fun k_=>some k_≠((.slice Ao17 t308.length co17):Value).ownBlock∧some k_≠(v320:Value).ownBlock) (.slice Ao15 t305.length co15) t305)∧Aside0 (Kd.N k40 40 wc w.heap.size (fun k_=>some k_≠((.slice Ao15 t305.length co15):Value).ownBlock∧some k_≠(v320:Value).ownBlock) (.slice Ao17 t308.length co17) t308)∧Aside0 (Kd.N k40 40 wc w.heap.size (fun _=>True) v320 y319)∧Aside0 (Below w.heap.size w wc))
     case first=>
      obtain ⟨H⟩:=HC12;replace H:=bindA H;obtain ⟨t322,A23,H⟩:=H;have HF24:=A_ H;clear H;go_wp2_with (first|(refine gR 7 (some 33) Tryd.func7 (spec_NoticeText.calls kj2 _ _ t305 t322 _ ?side1 ?side2 A23.out) ?_;(case side1=>exact (zz119 HO307));(case side2=>exact (Kd.N_reads' HO307.out).2.1);rintro w25 hb;replace HO307:=A_ (Kd.N_below (zz118 HO307) hb);replace HO310:=A_ (Kd.N_below (zz118 HO310) hb);replace HO321:=A_ (Kd.N_below (zz118 HO321) hb);replace HB:=A_ (bS (zz12 HB) hb);(try clear hb))|((with_reducible refine atG ?_ ?_ fun K_ hK_=>?_);rfl;exact undecG)|((with_reducible refine atI ?_ fun K_ hK_=>?_);exact undecI))
      refine unG hK_ ?_;clear hK_ K_;obtain ⟨H⟩:=HF24;replace H:=iteE H;rcases H with ⟨c26,H⟩|⟨c26,H⟩
      ·obtain ⟨c26b0,c26b1⟩:=eqT c26
       (first|refine iteT ?_|refine iteF ?_|skip)
       clear c26;(first|rw [c26b0]|(simp only [i64_w,i32_w];rw [c26b0])|skip)
       replace H:=bindA H;obtain ⟨t323,A27,H⟩:=H;have HF28:=A_ H;clear H;(try ((with_reducible refine upS ?_);go_simp))
       go_wp2_with (first|(go_at_call 7;(with_reducible refine (spec_NoticeText.calls kj2 _ _ t308 t323 _ ?side1 ?side2 A27.out).mono ?_);(case side1=>exact (zz119 HO310));(case side2=>exact (Kd.N_reads' HO310.out).2.1);rintro e w29 ⟨rfl,hb⟩;replace HO307:=A_ (Kd.N_below (zz118 HO307) hb);replace HO310:=A_ (Kd.N_below (zz118 HO310) hb);replace HO321:=A_ (Kd.N_below (zz118 HO321) hb);replace HB:=A_ (bS (zz12 HB) hb);(try clear hb))|((with_reducible refine atG ?_ ?_ fun K_ hK_=>?_);rfl;exact undecG)|((with_reducible refine atI ?_ fun K_ hK_=>?_);exact undecI))
       refine unG hK_ ?_;clear hK_ K_;obtain ⟨H⟩:=HF28;replace H:=iteE H;rcases H with ⟨c30,H⟩|⟨c30,H⟩
       ·obtain ⟨c30b0,c30b1⟩:=eqT c30
        (first|refine iteT ?_|refine iteF ?_|skip)
        clear c30;(first|rw [c30b0]|(simp only [i64_w,i32_w];rw [c30b0])|skip)
        replace H:=bindA H;obtain ⟨t324,A31,H⟩:=H;have H':=A_ H;clear H;obtain ⟨Ao32,co32,eo32⟩:=Kd.N_slice HO321.out;subst eo32;(try ((with_reducible refine upS ?_);go_simp))
        go_wp2_with (first|(go_at_call 8;(with_reducible refine (spec_NoticeOk.calls kj2 _ _ y319 t324 _ ?side1 ?side2 A31.out).mono ?_);(case side1=>exact (zz119 HO321));(case side2=>exact (Kd.N_reads' HO321.out).2.1);rintro e w33 ⟨rfl,hb⟩;replace HO307:=A_ (Kd.N_below (zz118 HO307) hb);replace HO310:=A_ (Kd.N_below (zz118 HO310) hb);replace HO321:=A_ (Kd.N_below (zz118 HO321) hb);replace HB:=A_ (bS (zz12 HB) hb);(try clear hb)))
        go_meet
        case rel=>exact ⟨_,(!t324),zz2,H',⟨(zz38 HJ2)⟩,⟨(zz118 HO307)⟩,⟨(zz118 HO310)⟩,⟨(zz118 HO321)⟩,⟨(zz12 HB)⟩⟩
       ·obtain ⟨c30b0,c30b1⟩:=eqF c30
        (first|refine iteT ?_|refine iteF ?_|skip)
        (first|rw [c30b0]|(simp only [i64_w,i32_w];rw [c30b0])|skip)
        have H':=A_ H;clear H;(try ((with_reducible refine upS ?_);go_simp))
        go_wp2
        go_meet
        case rel=>exact ⟨_,(true),zz2,H',⟨(zz38 HJ2)⟩,⟨(zz118 HO307)⟩,⟨(zz118 HO310)⟩,⟨(zz118 HO321)⟩,⟨(zz12 HB)⟩⟩
      ·obtain ⟨c26b0,c26b1⟩:=eqF c26
       (first|refine iteT ?_|refine iteF ?_|skip)
       (first|rw [c26b0]|(simp only [i64_w,i32_w];rw [c26b0])|skip)
       have H':=A_ H;clear H;(try ((with_reducible refine upS ?_);go_simp))
       go_wp2
       go_meet
       case rel=>exact ⟨_,(true),zz2,H',⟨(zz38 HJ2)⟩,⟨(zz118 HO307)⟩,⟨(zz118 HO310)⟩,⟨(zz118 HO321)⟩,⟨(zz12 HB)⟩⟩
     case rest=>
      clear HC12;obtain ⟨kq,x45_11,rfl,HA,HJ11,HO_5,HO_6,HO_9,HB⟩:=hcut;cases kq with
      | zero=>exact absurd HA.out (by simp [laws_FnNoticeCut.j1])
      | succ kj11=>
       obtain ⟨H⟩:=HA;simp only [laws_FnNoticeCut.j1] at H
       replace H:=iteB H;rcases H with ⟨rfl,H⟩|⟨rfl,H⟩
       ·replace H:=bindA H
        obtain ⟨t325,A35,H⟩:=H;have HF36:=A_ H;clear H;go_wp2_with (first|(refine gR 7 (some 48) Tryd.func7 (spec_NoticeText.calls kj11 _ _ t305 t325 _ ?side1 ?side2 A35.out) ?_;(case side1=>exact (zz119 HO_5));(case side2=>exact (Kd.N_reads' HO_5.out).2.1);rintro w37 hb;replace HO_5:=A_ (Kd.N_below (zz118 HO_5) hb);replace HO_6:=A_ (Kd.N_below (zz118 HO_6) hb);replace HO_9:=A_ (Kd.N_below (zz118 HO_9) hb);replace HB:=A_ (bS (zz12 HB) hb);(try clear hb))|((with_reducible refine atG ?_ ?_ fun K_ hK_=>?_);rfl;exact undecG)|((with_reducible refine atI ?_ fun K_ hK_=>?_);exact undecI))
        refine unG hK_ ?_;clear hK_ K_;obtain ⟨H⟩:=HF36;replace H:=iteE H;rcases H with ⟨c38,H⟩|⟨c38,H⟩
        ·obtain ⟨c38b0,c38b1⟩:=eqT c38
         (first|refine iteT ?_|refine iteF ?_|skip)
         clear c38;(first|rw [c38b0]|(simp only [i64_w,i32_w];rw [c38b0])|skip)
         replace H:=bindA H;obtain ⟨t326,A39,H⟩:=H;obtain rfl:=sI H;(try ((with_reducible refine upS ?_);go_simp))
         go_wp2_with (first|(go_at_call 7;(with_reducible refine (spec_NoticeText.calls kj11 _ _ t308 t326 _ ?side1 ?side2 A39.out).mono ?_);(case side1=>exact (zz119 HO_6));(case side2=>exact (Kd.N_reads' HO_6.out).2.1);rintro e w40 ⟨rfl,hb⟩;replace HO_5:=A_ (Kd.N_below (zz118 HO_5) hb);replace HO_6:=A_ (Kd.N_below (zz118 HO_6) hb);replace HO_9:=A_ (Kd.N_below (zz118 HO_9) hb);replace HB:=A_ (bS (zz12 HB) hb);(try clear hb)))
         go_ret
         exact ⟨zz8,(zz12 HB)⟩
        ·obtain ⟨c38b0,c38b1⟩:=eqF c38
         (first|refine iteT ?_|refine iteF ?_|skip)
         (first|rw [c38b0]|(simp only [i64_w,i32_w];rw [c38b0])|skip)
         obtain rfl:=sI H;(try ((with_reducible refine upS ?_);go_simp))
         go_wp2
         go_ret
         exact ⟨zz8,(zz12 HB)⟩
       ·replace H:=bindA H
        obtain ⟨t327,A41,H⟩:=H;replace H:=iteN H;obtain ⟨c42,H⟩:=H;have c42b0:=eq_true c42;have c42b1:=dT c42;try have c42b2:(9223372036854775807 < t311.size+t312.size)=False:=eq_false (Nat.not_lt.2 c42)
        have HF43:=A_ H;clear H;obtain ⟨Ao44,co44,eo44⟩:=Kd.N_slice HO_9.out;subst eo44;go_wp2_with (first|(refine gR 6 (some 57) Tryd.func6 (impl_NoticeText.calls kj11 _ _ y319 t327 _ ?side1 ?side2 A41.out) ?_;(case side1=>exact (zz119 HO_9));(case side2=>exact (Kd.N_reads' HO_9.out).2.1);rintro w45 hb;replace HO_5:=A_ (Kd.N_below (zz118 HO_5) hb);replace HO_6:=A_ (Kd.N_below (zz118 HO_6) hb);replace HO_9:=A_ (Kd.N_below (zz118 HO_9) hb);replace HB:=A_ (bS (zz12 HB) hb);(try clear hb))|((with_reducible refine atG ?_ ?_ fun K_ hK_=>?_);rfl;exact undecG)|((with_reducible refine atI ?_ fun K_ hK_=>?_);exact undecI))
        refine unG hK_ ?_;clear hK_ K_;obtain ⟨H⟩:=HF43;replace H:=iteE H;rcases H with ⟨c46,H⟩|⟨c46,H⟩
        ·obtain ⟨c46b0,c46b1⟩:=eqT c46
         (first|refine iteT ?_|refine iteF ?_|skip)
         clear c46;(first|rw [c46b0]|(simp only [i64_w,i32_w];rw [c46b0])|skip)
         replace H:=bindA H;obtain ⟨t328,A47,H⟩:=H;replace H:=bindA H;obtain ⟨t331,A48,H⟩:=H;obtain rfl:=sI H;(try ((with_reducible refine upS ?_);go_simp))
         go_wp2_with (first|(go_at_call 10;(with_reducible refine (impl_NoticeRead.calls kj11 (t311++t312) t328 _ A47.out).mono ?_);rintro e w49 ⟨v329,rfl,ho0,hb⟩;have HO330:=A_ (Kd.N_lower (Kd.N_mono (ok':=fun k_=>some k_≠(.slice Ao15 t305.length co15:Value).ownBlock∧some k_≠(.slice Ao17 t308.length co17:Value).ownBlock∧some k_≠(.slice Ao44 y319.length co44:Value).ownBlock) (Kd.S_N (Kd.S_bound ho0)) (fun k_ hk_=>⟨(Kd.fresh' (Kd.N_lt (zz118 HO_5)) k_ hk_.2.1),(Kd.fresh' (Kd.N_lt (zz118 HO_6)) k_ hk_.2.1),(Kd.fresh' (Kd.N_lt (zz118 HO_9)) k_ hk_.2.1)⟩)) (below_size (zz12 HB)));replace HO_5:=A_ (Kd.N_elder' (zz118 HO_5) (Kd.N_base (Kd.S_N (Kd.S_bound ho0))) hb);replace HO_6:=A_ (Kd.N_elder' (zz118 HO_6) (Kd.N_base (Kd.S_N (Kd.S_bound ho0))) hb);replace HO_9:=A_ (Kd.N_elder' (zz118 HO_9) (Kd.N_base (Kd.S_N (Kd.S_bound ho0))) hb);replace HB:=A_ (bS (zz12 HB) hb);(try clear hb ho0);obtain ⟨Ao50,co50,eo50⟩:=Kd.N_slice HO330.out;subst eo50)|(go_at_call 9;(with_reducible refine (laws_lpGroups.calls kj11 _ _ t328 _ _ y319 t331 _ ?side1 ?side2 ?side3 ?side4 A48.out).mono ?_);(case side1=>exact (zz119 HO330));(case side2=>exact (Kd.N_reads' HO330.out).2.1);(case side3=>exact (zz119 HO_9));(case side4=>exact (Kd.N_reads' HO_9.out).2.1);rintro e w51 ⟨rfl,hb⟩;replace HO_5:=A_ (Kd.N_below (zz118 HO_5) hb);replace HO_6:=A_ (Kd.N_below (zz118 HO_6) hb);replace HO_9:=A_ (Kd.N_below (zz118 HO_9) hb);replace HO330:=A_ (Kd.N_below (zz118 HO330) hb);replace HB:=A_ (bS (zz12 HB) hb);(try clear hb)))
         go_ret
         exact ⟨zz8,(zz12 HB)⟩
        ·obtain ⟨c46b0,c46b1⟩:=eqF c46
         (first|refine iteT ?_|refine iteF ?_|skip)
         (first|rw [c46b0]|(simp only [i64_w,i32_w];rw [c46b0])|skip)
         obtain rfl:=sI H;(try ((with_reducible refine upS ?_);go_simp))
         go_wp2
         go_ret
         exact ⟨zz8,(zz12 HB)⟩
    ·exact absurd H (by simp)
def laws_FnNoticeCut.Pure:Prop:=∀ (l0:List Int) (l1:List Int),l0.length≤maxLen→l0.length * 1≤140737488351232→(∀ x ∈ l0,(Lit.int .u8 x).wf=true)→l1.length≤maxLen→l1.length * 1≤140737488351232→(∀ x ∈ l1,(Lit.int .u8 x).wf=true)→∃ k,laws_FnNoticeCut.f k l0 l1=some true
theorem laws_FnNoticeCut.walk (P:laws_FnNoticeCut.Pure) (a0:Option Addr) (len0 cap0:Nat) (z0:List Int) (a1:Option Addr) (len1 cap1:Nat) (z1:List Int) (w:World) (w0:(a0=none∧len0=0∧cap0=0∧z0=[])∨∃ x,a0=some x∧len0≤cap0∧cap0≤maxLen∧z0.length=cap0∧(∀ i,i < z0.length→w.cell? (x.add i)=some (.int .u8 (z0.getD i 0)))∧∀ n ∈ z0,(Lit.int .u8 n).wf=true) (y0:len0 * 1≤140737488351232) (w1:(a1=none∧len1=0∧cap1=0∧z1=[])∨∃ x,a1=some x∧len1≤cap1∧cap1≤maxLen∧z1.length=cap1∧(∀ i,i < z1.length→w.cell? (x.add i)=some (.int .u8 (z1.getD i 0)))∧∀ n ∈ z1,(Lit.int .u8 n).wf=true) (y1:len1 * 1≤140737488351232) :
  Calls Tryd.prog 4 #[.slice a0 len0 cap0,.slice a1 len1 cap1] w fun e w'=>e=.returned (.bool true)∧Below w.heap.size w w':=by
 obtain ⟨l0,rfl,hr0,hm0,hw0,hc0⟩:=ReadsInt.ofRowC w0;obtain ⟨l1,rfl,hr1,hm1,hw1,hc1⟩:=ReadsInt.ofRowC w1;obtain ⟨k,h⟩:=P l0 l1 hm0 y0 hw0 hm1 y1 hw1;refine (laws_FnNoticeCut.calls k _ _ l0 _ _ l1 true w (Kd.C_of_reads (d:=(0:Int)) (h1:=fun _=>rfl) hr0) hc0 (Kd.C_of_reads (d:=(0:Int)) (h1:=fun _=>rfl) hr1) hc1 h).mono ?_;rintro e w' ⟨rfl,hd⟩;exact ⟨rfl,hd⟩
end Go.Proofs.YtfpngfkepeoboaaDoor.P
end
section
namespace Go.Proofs.YtfpngfkepeoboaaDoor.Ad
open Go.RowKit Go.Proofs.YtfpngfkepeoboaaDoor.P Go.Proofs.YtfpngfkepeoboaaDoorW.PrintWords Go.Proofs.YtfpngfkepeoboaaDoorW.PrintLast Go.Proofs.YtfpngfkepeoboaaDoorW.PrintMore Go.Proofs.YtfpngfkepeoboaaDoor.B
set_option linter.unusedVariables false
set_option linter.unusedSimpArgs false
theorem plain_all:∀ n:Nat,n < 256→spec_l1Plain.f (n:Int)=some (plainB (UInt8.ofNat n)):=by decide +kernel
theorem of_toNat (c:UInt8):UInt8.ofNat c.toNat=c:=UInt8.ofNat_toNat
theorem bt_get (s:ByteArray) (i:Nat) (h:i < (L s).length):bt s i=(((L s)[i]).toNat:Int):=by
 rw [bt_L,List.getD_eq_getElem?_getD,List.getElem?_eq_getElem h];rfl
theorem bt_at {s:ByteArray} {i:Nat} {c:UInt8} {l:List UInt8} (h:(L s).drop i=c :: l):i < s.size∧bt s i=(c.toNat:Int)∧(L s).drop (i+1)=l:=by
 have hl:i < (L s).length:=by
  rcases Nat.lt_or_ge i (L s).length with h'|h'
  ·exact h'
  ·rw [List.drop_eq_nil_of_le h'] at h;cases h
 have hd:(L s).drop i=(L s)[i] :: (L s).drop (i+1):=List.drop_eq_getElem_cons hl
 rw [h] at hd
 injection hd with h1 h2
 refine ⟨by rw [← L_size];exact hl,?_,h2.symm⟩
 rw [bt_L,List.getD_eq_getElem?_getD,List.getElem?_eq_getElem hl,← h1]
 rfl
theorem bt_end {s:ByteArray} {i:Nat} (h:(L s).drop i=[]):s.size≤i:=by
 rw [← L_size];exact List.drop_eq_nil_iff.1 h
theorem u8_eq {a b:UInt8}:((a.toNat:Int)=(b.toNat:Int))↔a=b:=by
 constructor
 ·intro h;exact UInt8.toNat_inj.1 (by omega)
 ·intro h;rw [h]
theorem rd_at {l:List ByteArray} {i:Nat} (h:i < l.length):rdOf ByteArray.empty l (i:Int)=l[i]:=by
 unfold rdOf
 rw [List.getD_eq_getElem?_getD,Int.toNat_natCast,List.getElem?_eq_getElem h]
 rfl
def cutL (c:UInt8):List UInt8→List UInt8×List UInt8×Bool
 | []=>([],[],false)
 | x :: xs=>if x=c then ([],xs,true) else (x :: (cutL c xs).1,(cutL c xs).2)
theorem cutL_false {c:UInt8}:∀ {l:List UInt8},(cutL c l).2.2=false→(cutL c l).1=l∧(cutL c l).2.1=[]
 | [],_=>by simp [cutL]
 | x :: xs,h=>by
  unfold cutL at h ⊢
  by_cases e:x=c
  ·rw [if_pos e] at h;cases h
  ·rw [if_neg e] at h ⊢
   have:=cutL_false (l:=xs) h
   exact ⟨by rw [this.1],this.2⟩
theorem cutL_true {c:UInt8}:∀ {l:List UInt8},(cutL c l).2.2=true→l=(cutL c l).1++c :: (cutL c l).2.1
 | [],h=>by simp [cutL] at h
 | x :: xs,h=>by
  unfold cutL at h ⊢
  by_cases e:x=c
  ·rw [if_pos e,e];rfl
  ·rw [if_neg e] at h ⊢
   have:=cutL_true (l:=xs) h
   show x :: xs=x :: ((cutL c xs).1++c :: (cutL c xs).2.1)
   rw [← this]
theorem cutL_len {c:UInt8}:∀ (l:List UInt8),(cutL c l).1.length+(cutL c l).2.1.length≤l.length∧((cutL c l).2.2=true→(cutL c l).1.length+(cutL c l).2.1.length+1=l.length)
 | []=>by simp [cutL]
 | x :: xs=>by
  unfold cutL
  by_cases e:x=c
  ·rw [if_pos e];simp
  ·rw [if_neg e]
   have:=cutL_len (c:=c) xs
   simp only [List.length_cons]
   exact ⟨by omega,fun h=>by have:=this.2 h;omega⟩
def cutB (c:UInt8) (s:ByteArray):ByteArray×ByteArray×Bool:=(ofL (cutL c (L s)).1,ofL (cutL c (L s)).2.1,(cutL c (L s)).2.2)
def splitN (c:UInt8):Nat→List UInt8→List (List UInt8)
 | 0,l=>[l]
 | n+1,l=>(cutL c l).1 :: (if (cutL c l).2.2=true then splitN c n (cutL c l).2.1 else [])
def splitL (c:UInt8) (l:List UInt8):List (List UInt8):=splitN c (l.length+1) l
theorem splitN_eq (c:UInt8):∀ (n m:Nat) (l:List UInt8),l.length < n→l.length < m→splitN c n l=splitN c m l
 | 0,_,l,h,_=>absurd h (by omega)
 | _+1,0,l,_,h=>absurd h (by omega)
 | n+1,m+1,l,h1,h2=>by
  simp only [splitN]
  by_cases e:(cutL c l).2.2=true
  ·have:=(cutL_len (c:=c) l).2 e
   rw [if_pos e,if_pos e,splitN_eq c n m _ (by omega) (by omega)]
  ·rw [if_neg e,if_neg e]
theorem splitL_eq (c:UInt8) (l:List UInt8):splitL c l=(cutL c l).1 :: (if (cutL c l).2.2=true then splitL c (cutL c l).2.1 else []):=by
 unfold splitL
 rw [splitN]
 by_cases e:(cutL c l).2.2=true
 ·have:=(cutL_len (c:=c) l).2 e
  rw [if_pos e,if_pos e,splitN_eq c _ ((cutL c l).2.1.length+1) _ (by omega) (by omega)]
 ·rw [if_neg e,if_neg e]
theorem splitN_len (c:UInt8):∀ (n:Nat) (l:List UInt8),(splitN c n l).length≤l.length+1
 | 0,l=>by simp [splitN]
 | n+1,l=>by
  simp only [splitN]
  by_cases e:(cutL c l).2.2=true
  ·have:=(cutL_len (c:=c) l).2 e
   have ih:=splitN_len c n (cutL c l).2.1
   rw [if_pos e];simp only [List.length_cons];omega
  ·rw [if_neg e];simp
theorem splitL_len (c:UInt8) (l:List UInt8):(splitL c l).length≤l.length+1:=splitN_len c _ l
theorem splitN_mem (c:UInt8):∀ (n:Nat) (l p:List UInt8),p ∈ splitN c n l→p.length≤l.length
 | 0,l,p,h=>by simp [splitN] at h;rw [h];exact Nat.le_refl _
 | n+1,l,p,h=>by
  simp only [splitN,List.mem_cons] at h
  have hc:=(cutL_len (c:=c) l).1
  rcases h with h|h
  ·rw [h];omega
  ·by_cases e:(cutL c l).2.2=true
   ·rw [if_pos e] at h
    have:=splitN_mem c n _ p h
    omega
   ·rw [if_neg e] at h;cases h
theorem splitL_mem (c:UInt8) (l p:List UInt8) (h:p ∈ splitL c l):p.length≤l.length:=splitN_mem c _ l p h
theorem index_cut (c:UInt8):∀ l:List UInt8,Lib.indexByte l c=if (cutL c l).2.2=true then (((cutL c l).1.length:Nat):Int) else -1
 | []=>rfl
 | x :: xs=>by
  unfold Lib.indexByte cutL
  by_cases h:x=c
  ·subst h;simp
  ·have hb:(x == c)=false:=by simp [h]
   simp only [hb,h,if_false,Bool.false_eq_true,index_cut c xs]
   by_cases h2:(cutL c xs).2.2=true
   ·simp only [h2,if_true]
    have:((((cutL c xs).1.length:Nat):Int) == -1)=false:=by simp
    rw [this]
    simp
   ·simp only [h2,if_false,Bool.false_eq_true]
    rfl
theorem cut_parts {c:UInt8} {s:ByteArray} (h:(cutL c (L s)).2.2=true) :
  s.extract 0 (cutL c (L s)).1.length=ofL (cutL c (L s)).1∧s.extract ((cutL c (L s)).1.length+1) s.size=ofL (cutL c (L s)).2.1∧(cutL c (L s)).1.length+1≤s.size:=by
 have e:=cutL_true h
 have hn:=(cutL_len (c:=c) (L s)).2 h
 rw [L_size] at hn
 generalize (cutL c (L s)).1=a at *
 generalize (cutL c (L s)).2.1=b at *
 have e':s.data.toList=a++c :: b:=e
 refine ⟨?_,?_,by omega⟩
 ·apply L_inj
  rw [L_ext,L_of,e']
  simp
 ·apply L_inj
  have:(a++c :: b).drop (a.length+1)=b:=by rw [List.drop_append];simp
  rw [L_ext,L_of,e',this,List.take_of_length_le (by omega)]
theorem cut_i (s:ByteArray) (c:UInt8) (hs:s.size≤140737488351232):strings_Cut.f s ⟨#[c]⟩=some (cutB c s):=by
 have e1:L (⟨#[c]⟩:ByteArray)=[c]:=rfl
 have e2:(⟨#[c]⟩:ByteArray).size=1:=rfl
 unfold strings_Cut.f stringslite_Cut.f stringslite_Index.f cutB
 rw [e1]
 simp only [Option.bind_some,index_cut,e2]
 by_cases h:(cutL c (L s)).2.2=true
 ·obtain ⟨h1,h2,h3⟩:=cut_parts h
  simp only [h,if_true]
  rw [if_pos (by omega),if_pos (by omega),if_pos (by omega),w64 (by omega) (by omega),if_pos (by omega),if_pos (by omega)]
  simp only [Option.bind_some,Int.toNat_natCast]
  rw [h1,show (((cutL c (L s)).1.length:Int)+((1:Nat):Int)).toNat=(cutL c (L s)).1.length+1 from by omega,h2]
 ·simp only [h,if_false,Bool.false_eq_true]
  rw [if_neg (by decide)]
  obtain ⟨g1,g2⟩:=cutL_false (c:=c) (l:=L s) (by simpa using h)
  simp only [Option.bind_some,g1,g2,of_L]
  first|done|rfl
theorem count_cut_false {c:UInt8}:∀ {l:List UInt8},Lib.countByte l c=0→(cutL c l).2.2=false
 | [],_=>rfl
 | x :: xs,h=>by
  unfold Lib.countByte at h
  unfold cutL
  by_cases e:x=c
  ·subst e;simp at h
  ·rw [if_neg e]
   have h':Lib.countByte xs c=0:=by unfold Lib.countByte;rw [List.count_cons] at h;omega
   exact count_cut_false h'
theorem count_cut_true {c:UInt8} {m:Nat}:∀ {l:List UInt8},Lib.countByte l c=m+1→(cutL c l).2.2=true∧Lib.countByte (cutL c l).2.1 c=m
 | [],h=>by simp [Lib.countByte] at h
 | x :: xs,h=>by
  unfold Lib.countByte at h
  unfold cutL
  by_cases e:x=c
  ·subst e
   rw [if_pos rfl]
   refine ⟨rfl,?_⟩
   unfold Lib.countByte
   rw [List.count_cons_self] at h
   exact Nat.succ.inj h
  ·rw [if_neg e]
   have h':Lib.countByte xs c=m+1:=by
    unfold Lib.countByte
    rw [List.count_cons_of_ne e] at h
    exact h
   exact count_cut_true h'
theorem w64n0 (a:Nat) (h:a < 4611686018427387904):wrap64 ((a:Int)+0)=(a:Int):=by rw [w64 (by omega) (by omega)];omega
theorem w64n1 (a:Nat) (h:a < 4611686018427387904):wrap64 ((a:Int)+1)=((a+1:Nat):Int):=by rw [w64 (by omega) (by omega)];omega
theorem w64n2 (a:Nat) (h:a < 4611686018427387904):wrap64 ((a:Int)+((1:Nat):Int))=((a+1:Nat):Int):=by rw [w64 (by omega) (by omega)];omega
theorem w64b {n m:Nat} (h:n+1≤m) (hm:m≤1000000000):n < 4611686018427387904:=by omega
theorem w64d {n m:Nat} (h:n+m≤2000000000):n < 4611686018427387904:=by omega
theorem ci_lt (a m:Nat):(a:Int) < ((a+(m+1):Nat):Int):=by omega
theorem ci_neg (n:Nat):¬ ((n:Int) < 0):=by omega
theorem ci_nn (n:Nat):(0:Int)≤(n:Int):=by omega
theorem ci_le {n s:Nat} (h:n+1≤s):(n:Int)≤(s:Int):=by omega
theorem ci_le1 {n s:Nat} (h:n+1≤s):((n+1:Nat):Int)≤(s:Int):=by omega
theorem ci_l6 {a m l:Nat} (h:l=a+(m+2)):(a:Int) < (l:Int):=by omega
theorem set_mid (a:List ByteArray) (m:Nat) (p e:ByteArray):(a++List.replicate (m+1) e).set a.length p=(a++[p])++List.replicate m e:=by
 rw [List.set_append_right _ _ (Nat.le_refl _),Nat.sub_self,List.replicate_succ,List.set_cons_zero,List.append_assoc]
 rfl
theorem take_mid (a b:List ByteArray) (p:ByteArray):((a++[p])++b).take (a.length+1)=a++[p]:=by
 rw [List.take_append_of_le_length (by simp)]
 exact List.take_of_length_le (by simp)
theorem split_li (c:UInt8):∀ (m:Nat) (s:ByteArray) (a:List ByteArray),Lib.countByte (L s) c=m→s.size≤1000000000→a.length+m≤2000000000 →
  Ev (fun k=>strings_genSplit.l0 k s ⟨#[c]⟩ 0 ((a.length+m:Nat):Int) (a++List.replicate (m+1) (⟨#[]⟩:ByteArray)) (a.length:Int)) (a++(splitL c (L s)).map ofL):=by
 intro m
 have e1:L (⟨#[c]⟩:ByteArray)=[c]:=rfl
 have e2:(⟨#[c]⟩:ByteArray).size=1:=rfl
 induction m with
 | zero=>
  intro s a hc hs ha
  have hf:=count_cut_false hc
  obtain ⟨g1,g2⟩:=cutL_false hf
  rw [splitL_eq,hf]
  refine Ev_succ ?_
  simp only [strings_genSplit.l0]
  have hl:(a++List.replicate (0+1) (⟨#[]⟩:ByteArray)).length=a.length+1:=by simp
  have hw:wrap64 ((a.length:Int)+1)=((a.length+1:Nat):Int):=by rw [w64 (by omega) (by omega)];omega
  simp only [show ¬ ((a.length:Int) < ((a.length+0:Nat):Int)) from by omega,if_false,hl,show ((0:Int)≤(a.length:Int)) from by omega,show ((a.length:Int) < ((a.length+1:Nat):Int)) from by omega,if_true,hw,
   show ((0:Int)≤((a.length+1:Nat):Int)) from by omega,Int.toNat_natCast,Int.le_refl]
  rw [set_mid,take_mid]
  simp only [Bool.false_eq_true,if_false,List.map_cons,List.map_nil,g1,of_L]
  exact Ev.now _
 | succ m ih=>
  intro s a hc hs ha
  obtain ⟨ht,hc'⟩:=count_cut_true hc
  obtain ⟨h1,h2,h3⟩:=cut_parts ht
  have hix:Lib.indexByte (L s) c=(((cutL c (L s)).1.length:Nat):Int):=by rw [index_cut,if_pos ht]
  rw [splitL_eq,if_pos ht]
  have hz:(ofL (cutL c (L s)).2.1).size≤1000000000:=by
   have:=(cutL_len (c:=c) (L s)).1
   rw [L_size] at this
   rw [ofL_size];omega
  have key:=ih (ofL (cutL c (L s)).2.1) (a++[ofL (cutL c (L s)).1]) (by rw [L_of];exact hc') hz (by simp;omega)
  rw [L_of] at key
  rw [List.map_cons,show a++ofL (cutL c (L s)).1 :: List.map ofL (splitL c (cutL c (L s)).2.1)=a++[ofL (cutL c (L s)).1]++List.map ofL (splitL c (cutL c (L s)).2.1) from by simp]
  generalize (cutL c (L s)).1.length=n at h1 h2 h3 hix
  rw [show (cutL c (L s)).2.1=L (s.extract (n+1) s.size) from by rw [h2,L_of]]
  rw [← h1] at key ⊢
  rw [← h2] at key
  clear hz h1 h2 hc' ht hc
  have hl:(a++List.replicate (m+1+1) (⟨#[]⟩:ByteArray)).length=a.length+(m+2):=by simp
  have hl2:(a++[s.extract 0 n]).length=a.length+1:=by simp
  rw [hl2] at key
  refine Ev.step (fun k=>?_) key
  have c1:=ci_lt a.length m
  have c2:=ci_neg n
  have c3:=ci_nn n
  have c4:=ci_le h3
  have c5:=ci_nn a.length
  have c6:=ci_l6 hl
  have c7:=ci_nn (n+1)
  have c8:=ci_le1 h3
  have hw:wrap64 ((a.length:Int)+1)=((a.length+1:Nat):Int):=w64n1 a.length (w64d ha)
  have hw0:wrap64 ((n:Int)+0)=(n:Int):=w64n0 n (w64b h3 hs)
  have hw1:wrap64 ((n:Int)+((1:Nat):Int))=((n+1:Nat):Int):=w64n2 n (w64b h3 hs)
  simp only [strings_genSplit.l0,strings_Index.f,stringslite_Index.f]
  rw [if_pos c1,hix,Option.bind_some,Option.bind_some]
  rw [if_neg c2,hw0,if_pos c3,if_pos c4,if_pos c5,if_pos c6,e2,hw1,if_pos c7,if_pos c8,hw]
  simp only [Int.toNat_natCast]
  rw [set_mid,show a.length+1+m=a.length+(m+1) from by rw [Nat.add_assoc,Nat.add_comm 1 m]]
theorem split_i (s:ByteArray) (c:UInt8) (hs:s.size≤1000000000):Ev (fun k=>strings_Split.f k s ⟨#[c]⟩) ((splitL c (L s)).map ofL):=by
 have e1:L (⟨#[c]⟩:ByteArray)=[c]:=rfl
 have hcnt:Lib.countByte (L s) c≤s.size:=by rw [← L_size];exact List.count_le_length
 unfold strings_Split.f strings_genSplit.f strings_Count.f
 have en:¬ ((⟨#[c]⟩:ByteArray).toList=([]:List UInt8)):=by rw [toList_nil];show ¬ (1=0);omega
 rw [e1]
 simp only [show ¬ ((-1:Int)=0) from by omega,if_false,en,show ((-1:Int) < 0) from by omega,if_true,Option.bind_some]
 refine Ev.bind (a:=(splitL c (L s)).map ofL) ?_ (Ev.now _)
 refine Ev_succ ?_
 have hw:wrap64 (((Lib.countByte (L s) c:Nat):Int)+1)=((Lib.countByte (L s) c+1:Nat):Int):=by rw [w64 (by omega) (by omega)];omega
 have hw2:wrap64 ((s.size:Int)+1)=((s.size+1:Nat):Int):=by rw [w64 (by omega) (by omega)];omega
 have hm:mn ((Lib.countByte (L s) c+1:Nat):Int) ((s.size+1:Nat):Int)=((Lib.countByte (L s) c+1:Nat):Int):=by unfold mn;split <;> omega
 have hw3:wrap64 (((Lib.countByte (L s) c+1:Nat):Int) - 1)=((0+Lib.countByte (L s) c:Nat):Int):=by rw [w64 (by omega) (by omega)];omega
 simp only [strings_genSplit.j0,hw,hw2,hm,show ((0:Int)≤((Lib.countByte (L s) c+1:Nat):Int)) from by omega,if_true,Int.toNat_natCast,show Lib.countByte (L s) c+1≤17592186044416 from by omega,hw3]
 have:=split_li c (Lib.countByte (L s) c) s [] rfl hs (by simp;omega)
 simpa using this
def isName (s:ByteArray):Bool:=decide (1≤s.size) && decide (s.size≤8) && isSmall s
theorem spec_name_l (s:ByteArray) (hs:s.size≤140737488351232) (d:Nat):∀ (k:Nat) (i:Nat),i+d=s.size→d < k →
  spec_l2Name.l0 k s (i:Int)=some (smallFrom s d i && (decide (1≤s.size) && decide (s.size≤8))):=by
 induction d with
 | zero=>
  intro k i h hk
  obtain ⟨k,rfl⟩:∃ m,k=m+1:=⟨k - 1,by omega⟩
  simp only [spec_l2Name.l0,smallFrom,spec_l6In.f]
  rw [if_neg (by omega)]
  by_cases h1:1≤s.size
  ·rw [if_pos (by omega)];simp [h1];omega
  ·rw [if_neg (by omega)];simp [h1]
 | succ d ih=>
  intro k i h hk
  obtain ⟨k,rfl⟩:∃ m,k=m+1:=⟨k - 1,by omega⟩
  simp only [spec_l2Name.l0,smallFrom]
  rw [if_pos (by omega),if_pos (by omega)]
  by_cases h1:bt s i < 97
  ·rw [if_pos h1,if_pos h1];rfl
  ·rw [if_neg h1,if_neg h1]
   by_cases h2:bt s i > 122
   ·rw [if_pos h2,if_pos h2];rfl
   ·rw [if_neg h2,if_neg h2,w64 (by omega) (by omega)]
    exact ih k (i+1) (by omega) (by omega)
theorem name_ev (s:ByteArray) (hs:s.size≤140737488351232):Ev (fun k=>spec_l2Name.f k s) (isName s):=by
 refine Ev.of (fun k=>spec_l2Name.mono _ k) (k:=s.size+1) ?_
 unfold spec_l2Name.f
 have:=spec_name_l s hs s.size (s.size+1) 0 (by omega) (by omega)
 rw [show ((0:Nat):Int)=0 from rfl] at this
 rw [this]
 unfold isName isSmall
 cases smallFrom s s.size 0 <;> simp
def patB (c:UInt8):Bool:=plainB c || c == 47 || c == 42 || c == 63 || c == 37 || (decide (65≤c.toNat) && decide (c.toNat≤70))
def okL:List UInt8→Bool
 | []=>true
 | c :: r=>(patB c || (c == 36 && r.isEmpty)) && okL r
def ruleOk (p:ByteArray):Bool:=decide (1≤p.size) && decide (p.size≤16) && (bt p 0 == 47) && okL (L p)
theorem plain_f (c:UInt8):spec_l1Plain.f (c.toNat:Int)=some (plainB c):=by
 have:=plain_all c.toNat c.toNat_lt
 rwa [of_toNat] at this
theorem ok_spec_l (s:ByteArray) (hs:s.size≤1000000):∀ (l:List UInt8) (i:Nat),(L s).drop i=l→Ev (fun k=>spec_RuleOk.l0 k s (i:Int)) (okL l)
 | [],i,h=>by
  have:=bt_end h
  have n1:¬ ((i:Int) < (s.size:Int)):=by omega
  refine Ev_succ ?_
  simp only [spec_RuleOk.l0,n1,if_false]
  exact Ev.now _
 | x :: xs,i,h=>by
  obtain ⟨hi,hb,hd⟩:=bt_at h
  have e1:wrap64 ((i:Int)+1)=((i+1:Nat):Int):=by rw [w64 (by omega) (by omega)];rfl
  have e2:wrap64 ((s.size:Int) - 1)=(s.size:Int) - 1:=w64 (by omega) (by omega)
  have f1:(i:Int) < (s.size:Int):=by omega
  have f2:(0:Int)≤(i:Int):=by omega
  have hx:xs.length+(i+1)=s.size:=by rw [← L_size,← hd,List.length_drop];rw [L_size];omega
  have hE:xs.isEmpty=decide ((i:Int)=(s.size:Int) - 1):=by
   cases xs with
   | nil=>simp at hx ⊢;omega
   | cons y ys=>simp at hx ⊢;omega
  have ih:=ok_spec_l s hs xs (i+1) hd
  have c1:((x.toNat:Int)=47)↔(x == 47)=true:=by rw [beq_iff_eq];exact u8_eq (b:=47)
  have c2:((x.toNat:Int)=42)↔(x == 42)=true:=by rw [beq_iff_eq];exact u8_eq (b:=42)
  have c3:((x.toNat:Int)=63)↔(x == 63)=true:=by rw [beq_iff_eq];exact u8_eq (b:=63)
  have c4:((x.toNat:Int)=37)↔(x == 37)=true:=by rw [beq_iff_eq];exact u8_eq (b:=37)
  have c5:((x.toNat:Int)=36)↔(x == 36)=true:=by rw [beq_iff_eq];exact u8_eq (b:=36)
  have c6:((x.toNat:Int) ≥ 65)↔(decide (65≤x.toNat))=true:=by rw [decide_eq_true_eq];omega
  have c7:((x.toNat:Int)≤70)↔(decide (x.toNat≤70))=true:=by rw [decide_eq_true_eq];omega
  have c8:((i:Int)=(s.size:Int) - 1)↔xs.isEmpty=true:=by rw [hE,decide_eq_true_eq]
  refine Ev_succ ?_
  simp only [spec_RuleOk.l0,e1,e2,f1,f2,if_true,hb,plain_f,Option.bind_some,okL,patB,c1,c2,c3,c4,c5,c6,c7,c8]
  have yes:Ev (fun k=>spec_RuleOk.l0 k s ((i+1:Nat):Int)) (true && okL xs):=by rw [Bool.true_and];exact ih
  have no:Ev (fun k=>some false) (false && okL xs):=by rw [Bool.false_and];exact Ev.now _
  cases plainB x
  ·cases (x == 47)
   ·cases (x == 42)
    ·cases (x == 63)
     ·cases (x == 37)
      ·cases (x == 36) <;> cases xs.isEmpty <;> cases decide (65≤x.toNat) <;> cases decide (x.toNat≤70) <;> first|exact yes|exact no
      ·exact yes
     ·exact yes
    ·exact yes
   ·exact yes
  ·exact yes
theorem ruleOk_spec (p:ByteArray):Ev (fun k=>spec_RuleOk.f k p) (ruleOk p):=by
 unfold spec_RuleOk.f ruleOk
 by_cases h2:p.size≤16
 ·have n2:¬ (p.size:Int) > 16:=by omega
  by_cases h1:p.size=0
  ·have z:=toList_nil.2 h1
   have n1:¬ 1≤p.size:=by omega
   simp only [n2,if_false,z,if_true,n1,decide_false,Bool.false_and]
   refine Ev_succ ?_
   simp only [spec_RuleOk.j0,if_true]
   exact Ev.now _
  ·have z:¬ p.toList=[]:=fun e=>h1 (toList_nil.1 e)
   have n1:1≤p.size:=by omega
   have n3:(0:Int) < (p.size:Int):=by omega
   simp only [n2,n1,n3,z,h2,if_true,if_false,decide_true,Bool.true_and]
   refine Ev_succ ?_
   by_cases h3:bt p 0=47
   ·simp only [spec_RuleOk.j0,h3,bne_self_eq_false,Bool.false_eq_true,if_false,beq_self_eq_true,Bool.true_and]
    have:=ok_spec_l p (by omega) _ 0 rfl
    rw [List.drop_zero] at this
    exact this
   ·have h4:(bt p 0 != 47)=true:=by simpa using h3
    have h5:(bt p 0 == 47)=false:=by simpa using h3
    simp only [spec_RuleOk.j0,h4,h5,if_true,Bool.false_and]
    exact Ev.now _
 ·have n2:(p.size:Int) > 16:=by omega
  simp only [n2,h2,if_true,decide_false,Bool.and_false,Bool.false_and]
  refine Ev_succ ?_
  simp only [spec_RuleOk.j0,if_true]
  exact Ev.now _
def endsD (p:ByteArray):Bool:=(L p).getLast? == some 36
def bodyD (p:ByteArray):ByteArray:=if endsD p=true then p.extract 0 (p.size - 1) else p
theorem L_last {p:ByteArray} (h:1≤p.size):∃ l c,L p=l++[c]∧l.length+1=p.size:=by
 have hl:=L_size p
 have hn:L p≠[]:=fun e=>by rw [e] at hl;simp at hl;omega
 refine ⟨(L p).dropLast,(L p).getLast hn,(List.dropLast_concat_getLast hn).symm,?_⟩
 rw [List.length_dropLast];omega
theorem sz36:(⟨#[36]⟩:ByteArray).size=1:=rfl
theorem suf_f (p:ByteArray) (hp:p.size≤140737488351232):stringslite_HasSuffix.f p (⟨#[36]⟩:ByteArray)=some (endsD p):=by
 unfold stringslite_HasSuffix.f endsD
 rw [sz36]
 by_cases h:1≤p.size
 ·obtain ⟨l,c,e,hl⟩:=L_last h
  have w:wrap64 ((p.size:Int) - ((1:Nat):Int))=((p.size - 1:Nat):Int):=by rw [w64 (by omega) (by omega)];omega
  rw [w,if_pos (by omega),if_pos (by omega),if_pos (by omega),Int.toNat_natCast,Lib.toList_data]
  have x:L (p.extract (p.size - 1) p.size)=[c]:=by
   have hz:p.size - l.length=1:=by omega
   rw [L_ext,e,List.drop_append,show p.size - 1=l.length from by omega,hz]
   simp
  show some ((p.extract (p.size - 1) p.size).data.toList == _)=_
  rw [show (p.extract (p.size - 1) p.size).data.toList=[c] from x,e]
  simp [Lib.toList_data]
 ·rw [if_neg (by omega)]
  have:L p=[]:=List.length_eq_zero_iff.1 (by rw [L_size];omega)
  rw [this];rfl
theorem ends_size {p:ByteArray} (h:endsD p=true):1≤p.size:=by
 rcases Nat.lt_or_ge p.size 1 with h'|h'
 ·have:L p=[]:=List.length_eq_zero_iff.1 (by rw [L_size];omega)
  unfold endsD at h;rw [this] at h;cases h
 ·exact h'
theorem trim_f (p:ByteArray) (hp:p.size≤140737488351232):strings_TrimSuffix.f p (⟨#[36]⟩:ByteArray)=some (bodyD p):=by
 simp only [strings_TrimSuffix.f,stringslite_TrimSuffix.f,suf_f p hp,Option.bind_some,bodyD,sz36]
 by_cases h:endsD p=true
 ·have:=ends_size h
  have w:wrap64 ((p.size:Int) - ((1:Nat):Int))=((p.size - 1:Nat):Int):=by rw [w64 (by omega) (by omega)];omega
  rw [if_pos h,if_pos h,w,if_pos (by omega),if_pos (by omega),Int.toNat_natCast];rfl
 ·rw [if_neg h,if_neg h];rfl
theorem body_size (p:ByteArray):(bodyD p).size≤p.size:=by
 unfold bodyD
 split
 ·rw [ByteArray.size_extract];omega
 ·exact Nat.le_refl _
theorem pat_all:∀ n:Nat,n < 256→impl_isPatternByte.f (n:Int)=some (patB (UInt8.ofNat n)):=by decide +kernel
theorem pat_f (c:UInt8):impl_isPatternByte.f (c.toNat:Int)=some (patB c):=by
 have:=pat_all c.toNat c.toNat_lt
 rwa [of_toNat] at this
theorem okL_app (c:UInt8):∀ l:List UInt8,okL (l++[c])=(l.all patB && (patB c || c == 36))
 | []=>by simp [okL]
 | x :: l=>by
  simp only [List.cons_append,okL,okL_app c l,List.all_cons]
  cases l <;> simp [Bool.and_assoc]
theorem body_ok (p:ByteArray):(L (bodyD p)).all patB=okL (L p):=by
 by_cases h0:1≤p.size
 ·obtain ⟨l,c,e,hl⟩:=L_last h0
  have he:endsD p=(c == 36):=by unfold endsD;rw [e];simp
  rw [e,okL_app]
  unfold bodyD
  rw [he]
  by_cases h:c=36
  ·subst h
   rw [if_pos (by simp),L_ext,e,show p.size - 1 - 0=l.length from by omega]
   simp
  ·have h':(c == 36)=false:=by simpa using h
   rw [h',if_neg (by simp),e,Bool.or_false]
   simp
 ·have:L p=[]:=List.length_eq_zero_iff.1 (by rw [L_size];omega)
  have h1:endsD p=false:=by unfold endsD;rw [this];rfl
  unfold bodyD
  rw [h1,if_neg (by simp),this];rfl
theorem ok_impl_l (s:ByteArray) (hs:s.size≤1000000):∀ (l:List UInt8) (i:Nat),(L s).drop i=l→Ev (fun k=>impl_RuleOk.l0 k s (i:Int)) (l.all patB)
 | [],i,h=>by
  have:=bt_end h
  have n1:¬ ((i:Int) < (s.size:Int)):=by omega
  refine Ev_succ ?_
  simp only [impl_RuleOk.l0,n1,if_false]
  exact Ev.now _
 | x :: xs,i,h=>by
  obtain ⟨hi,hb,hd⟩:=bt_at h
  have e1:wrap64 ((i:Int)+1)=((i+1:Nat):Int):=by rw [w64 (by omega) (by omega)];rfl
  have f1:(i:Int) < (s.size:Int):=by omega
  have f2:(0:Int)≤(i:Int):=by omega
  refine Ev_succ ?_
  simp only [impl_RuleOk.l0,e1,f1,f2,if_true,hb,pat_f,Option.bind_some,List.all_cons]
  by_cases e:patB x=true
  ·simp only [e,if_true,Bool.true_and]
   exact ok_impl_l s hs xs (i+1) hd
  ·simp only [e,if_false,Bool.not_eq_true] at e ⊢
   simp only [e,Bool.false_and,Bool.false_eq_true,if_false]
   exact Ev.now _
theorem ruleOk_impl (p:ByteArray) (hp:p.size≤140737488351232):Ev (fun k=>impl_RuleOk.f k p) (ruleOk p):=by
 unfold impl_RuleOk.f ruleOk
 by_cases h1:p.size < 1
 ·have n1:(p.size:Int) < 1:=by omega
  have n2:¬ 1≤p.size:=by omega
  simp only [n1,if_true,n2,decide_false,Bool.false_and]
  refine Ev_succ ?_
  simp only [impl_RuleOk.j0,if_true]
  exact Ev.now _
 ·have n1:¬ (p.size:Int) < 1:=by omega
  have n1':1≤p.size:=by omega
  by_cases h2:p.size≤16
  ·have n2:¬ (p.size:Int) > 16:=by omega
   have n3:(0:Int) < (p.size:Int):=by omega
   simp only [n1,n2,n3,n1',h2,if_true,if_false,decide_true,Bool.true_and]
   refine Ev_succ ?_
   by_cases h3:bt p 0=47
   ·simp only [impl_RuleOk.j0,h3,bne_self_eq_false,Bool.false_eq_true,if_false,beq_self_eq_true,Bool.true_and,trim_f p hp,Option.bind_some]
    have:=ok_impl_l (bodyD p) (by have:=body_size p;omega) _ 0 rfl
    rw [List.drop_zero,body_ok] at this
    exact this
   ·have h4:(bt p 0 != 47)=true:=by simpa using h3
    have h5:(bt p 0 == 47)=false:=by simpa using h3
    simp only [impl_RuleOk.j0,h4,h5,if_true,Bool.false_and]
    exact Ev.now _
  ·have n2:(p.size:Int) > 16:=by omega
   simp only [n1,n2,n1',h2,if_true,if_false,decide_true,decide_false,Bool.true_and,Bool.false_and]
   refine Ev_succ ?_
   simp only [impl_RuleOk.j0,if_true]
   exact Ev.now _
end Go.Proofs.YtfpngfkepeoboaaDoor.Ad
end
section
namespace Go.Proofs.YtfpngfkepeoboaaDoor.Nn
open Go.RowKit Go.Proofs.YtfpngfkepeoboaaDoor.P Go.Proofs.YtfpngfkepeoboaaDoorW.PrintWords Go.Proofs.YtfpngfkepeoboaaDoorW.PrintLast Go.Proofs.YtfpngfkepeoboaaDoorW.PrintMore Go.Proofs.YtfpngfkepeoboaaDoor.B Go.Proofs.YtfpngfkepeoboaaDoor.Ad
set_option linter.unusedVariables false
set_option linter.unusedSimpArgs false
def gname (s:ByteArray):Bool:=s.toList == [42] || isName s
theorem impl_small_l (s:ByteArray) (hs:s.size≤140737488351232) (d:Nat):∀ (k:Nat) (i:Nat),i+d=s.size→d < k →
  impl_allSmallLetters.l0 k s (i:Int)=some (smallFrom s d i):=by
 induction d with
 | zero=>
  intro k i h hk
  obtain ⟨k,rfl⟩:∃ m,k=m+1:=⟨k - 1,by omega⟩
  simp only [impl_allSmallLetters.l0,smallFrom]
  rw [if_neg (by omega)]
 | succ d ih=>
  intro k i h hk
  obtain ⟨k,rfl⟩:∃ m,k=m+1:=⟨k - 1,by omega⟩
  simp only [impl_allSmallLetters.l0,smallFrom]
  rw [if_pos (by omega),if_pos (by omega)]
  by_cases h1:bt s i < 97
  ·rw [if_pos h1,if_pos h1]
  ·rw [if_neg h1,if_neg h1]
   by_cases h2:bt s i > 122
   ·rw [if_pos h2,if_pos h2]
   ·rw [if_neg h2,if_neg h2,w64 (by omega) (by omega)]
    exact ih k (i+1) (by omega) (by omega)
theorem impl_name (s:ByteArray) (hs:s.size≤140737488351232):Ev (fun k=>impl_isName.f k s) (isName s):=by
 unfold impl_isName.f isName isSmall
 by_cases h1:1≤s.size
 ·by_cases h2:s.size≤8
  ·simp only [show (s.size:Int) ≥ 1 from by omega,show (s.size:Int)≤8 from by omega,if_true,h1,h2,decide_true,Bool.true_and]
   refine Ev.bind (a:=smallFrom s s.size 0) ?_ (Ev.now _)
   refine Ev.of (fun k=>impl_allSmallLetters.mono _ k) (k:=s.size+1) ?_
   exact impl_small_l s hs s.size (s.size+1) 0 (by omega) (by omega)
  ·simp only [show (s.size:Int) ≥ 1 from by omega,show ¬ (s.size:Int)≤8 from by omega,if_true,if_false,h2,decide_false,Bool.and_false,Bool.false_and]
   exact Ev.now _
 ·simp only [show ¬ (s.size:Int) ≥ 1 from by omega,if_false,h1,decide_false,Bool.false_and]
  exact Ev.now _
theorem impl_gname (s:ByteArray) (hs:s.size≤140737488351232):Ev (fun k=>impl_isGroupName.f k s) (gname s):=by
 unfold impl_isGroupName.f gname
 by_cases h:s.toList=([42]:List UInt8)
 ·simp only [h,if_true,beq_self_eq_true,Bool.true_or]
  exact Ev.now _
 ·simp only [h,if_false,beq_eq_false_iff_ne.mpr h,Bool.false_or]
  exact Ev.bind (impl_name s hs) (Ev.now _)
end Go.Proofs.YtfpngfkepeoboaaDoor.Nn
end
section
namespace Go.Proofs.YtfpngfkepeoboaaDoor.Rn
open Go.RowKit Go.Proofs.YtfpngfkepeoboaaDoor.P Go.Proofs.YtfpngfkepeoboaaDoorW.PrintWords Go.Proofs.YtfpngfkepeoboaaDoorW.PrintLast Go.Proofs.YtfpngfkepeoboaaDoorW.PrintMore Go.Proofs.YtfpngfkepeoboaaDoor.B Go.Proofs.YtfpngfkepeoboaaDoor.Ad Go.Proofs.YtfpngfkepeoboaaDoor.Nn
set_option linter.unusedVariables false
set_option linter.unusedSimpArgs false
def numFrom (s:ByteArray):Nat→Nat→Int→Int
 | 0,_,n=>n
 | d+1,i,n=>if bt s i < 48 then 0 else if bt s i > 57 then 0 else numFrom s d (i+1) (mn (wrap64 ((wrap64 (n * 10))+(((bt s i) - 48) % 256))) 20)
def numP (s:ByteArray):Int:=numFrom s s.size 0 0
theorem mn_le (a b:Int):mn a b≤b:=by unfold mn;split <;> omega
theorem num_bound (s:ByteArray):∀ (d i:Nat) (n:Int),0≤n→n≤20→0≤numFrom s d i n∧numFrom s d i n≤20
 | 0,_,n,h0,h1=>⟨h0,h1⟩
 | d+1,i,n,h0,h1=>by
  unfold numFrom
  by_cases c1:bt s i < 48
  ·rw [if_pos c1];omega
  ·rw [if_neg c1]
   by_cases c2:bt s i > 57
   ·rw [if_pos c2];omega
   ·rw [if_neg c2]
    have e1:wrap64 (n * 10)=n * 10:=w64 (by omega) (by omega)
    have e2:wrap64 (n * 10+((bt s i - 48) % 256))=n * 10+((bt s i - 48) % 256):=w64 (by omega) (by omega)
    refine num_bound s d (i+1) _ ?_ (mn_le _ _)
    rw [e1,e2]
    unfold mn
    split <;> omega
theorem numP_bound (s:ByteArray):0≤numP s∧numP s≤20:=num_bound s _ _ 0 (by omega) (by omega)
theorem num_i (s:ByteArray) (hs:s.size≤140737488351232) (d:Nat):∀ (k i:Nat) (n:Int),i+d=s.size→d < k→impl_readWait.l0 k s n (i:Int)=some (numFrom s d i n):=by
 induction d with
 | zero=>
  intro k i n h hk
  obtain ⟨k,rfl⟩:∃ m,k=m+1:=⟨k - 1,by omega⟩
  simp only [impl_readWait.l0,numFrom]
  rw [if_neg (by omega)]
 | succ d ih=>
  intro k i n h hk
  obtain ⟨k,rfl⟩:∃ m,k=m+1:=⟨k - 1,by omega⟩
  simp only [impl_readWait.l0,numFrom]
  rw [if_pos (by omega),if_pos (by omega)]
  by_cases h1:bt s i < 48
  ·rw [if_pos h1,if_pos h1]
  ·rw [if_neg h1,if_neg h1]
   by_cases h2:bt s i > 57
   ·rw [if_pos h2,if_pos h2]
   ·rw [if_neg h2,if_neg h2,w64 (n:=(i:Int)+1) (by omega) (by omega)]
    exact ih k (i+1) _ (by omega) (by omega)
theorem num_impl (s:ByteArray) (hs:s.size≤140737488351232):Ev (fun k=>impl_readWait.f k s) (numP s):=
 Ev.of (fun k=>impl_readWait.mono _ k) (k:=s.size+1) (num_i s hs s.size (s.size+1) 0 0 (by omega) (by omega))
def wordRL (x1 x2:ByteArray):Option RL:=
 if x1.toList=([99,97,108,108,101,114]:List UInt8) then (if gname x2=true then some (.caller x2) else none)
 else if x1.toList=([108,101,116]:List UInt8) then (if ruleOk x2=true then some (.rule true x2) else none)
 else if x1.toList=([98,97,114]:List UInt8) then (if ruleOk x2=true then some (.rule false x2) else none)
 else if x1.toList=([119,97,105,116]:List UInt8) then some (.wait (numP x2))
 else none
def lineRL (s:ByteArray):Option RL:=wordRL (cutB 32 s).1 (cutB 32 s).2.1
theorem cut_size (s:ByteArray):(cutB 32 s).2.1.size≤s.size:=by
 have:=(cutL_len (c:=32) (L s)).1
 rw [L_size] at this
 show (ofL (cutL 32 (L s)).2.1).size≤_
 rw [← L_size,L_of]
 omega
theorem word_impl (x1 x2:ByteArray) (hs:x2.size≤140737488351232):Ev (fun k=>impl_readLine.g k x1 x2) (wordRL x1 x2):=by
 unfold impl_readLine.g wordRL
 by_cases c1:x1.toList=([99,97,108,108,101,114]:List UInt8)
 ·simp only [c1,if_true];exact Ev.bind (impl_gname x2 hs) (Ev.now _)
 simp only [c1,if_false]
 by_cases c2:x1.toList=([108,101,116]:List UInt8)
 ·simp only [c2,if_true];exact Ev.bind (ruleOk_impl x2 hs) (Ev.now _)
 simp only [c2,if_false]
 by_cases c3:x1.toList=([98,97,114]:List UInt8)
 ·simp only [c3,if_true];exact Ev.bind (ruleOk_impl x2 hs) (Ev.now _)
 simp only [c3,if_false]
 by_cases c4:x1.toList=([119,97,105,116]:List UInt8)
 ·simp only [c4,if_true];exact Ev.bind (num_impl x2 hs) (Ev.now _)
 simp only [c4,if_false]
 exact Ev.now _
theorem line_impl (s:ByteArray) (hs:s.size≤1000000000):Ev (fun k=>impl_readLine.f k s) (lineRL s):=by
 unfold impl_readLine.f
 rw [cut_i s 32 (by omega)]
 simp only [Option.bind_some]
 exact word_impl _ _ (by have:=cut_size s;omega)
structure Ok (gs:List Gp) (b:Bool) (n:Nat):Prop where
 few:gs.length≤n
 names:∀ g ∈ gs,g.f0.length≤n
 begun:gs.length≠0→(lastG gs).f1.length≠0→b=true
 form:∀ g ∈ gs,g.f0.length≠0∧g.f1.length≤6∧0≤g.f2∧g.f2≤20∧∀ r ∈ g.f1,ruleOk r.f1=true
theorem last_mem {gs:List Gp} (h:gs.length≠0):lastG gs ∈ gs:=by
 unfold lastG
 rw [List.getD_eq_getElem?_getD,List.getElem?_eq_getElem (by omega)]
 exact List.getElem_mem _
theorem last_set {gs:List Gp} (h:gs.length≠0) (x:Gp):lastG (gs.set (gs.length - 1) x)=x:=by
 unfold lastG
 rw [List.length_set,List.getD_eq_getElem?_getD,List.getElem?_set_self (by omega)]
 rfl
theorem last_app (gs:List Gp) (x:Gp):lastG (gs++[x])=x:=by
 unfold lastG
 rw [List.length_append,List.length_singleton,List.getD_eq_getElem?_getD,List.getElem?_append_right (by omega)]
 simp
theorem word_good {x1 x2:ByteArray} {x:RL} (h:wordRL x1 x2=some x):match x with|.caller _=>True|.rule _ p=>ruleOk p=true|.wait n=>0≤n∧n≤20:=by
 unfold wordRL at h
 split at h
 ·split at h
  ·obtain rfl:=Option.some.inj h;trivial
  ·cases h
 ·split at h
  ·split at h
   ·rename_i hr;obtain rfl:=Option.some.inj h;exact hr
   ·cases h
  ·split at h
   ·split at h
    ·rename_i hr;obtain rfl:=Option.some.inj h;exact hr
    ·cases h
   ·split at h
    ·obtain rfl:=Option.some.inj h;exact numP_bound x2
    ·cases h
theorem Ok.set {gs:List Gp} {b b':Bool} {n:Nat} (h:Ok gs b n) (h0:gs.length≠0) (x:Gp) (hx0:x.f0.length≤n+1) (hb:x.f1.length≠0→b'=true)
  (hf:x.f0.length≠0∧x.f1.length≤6∧0≤x.f2∧x.f2≤20∧∀ r ∈ x.f1,ruleOk r.f1=true):Ok (gs.set (gs.length - 1) x) b' (n+1):=by
 refine ⟨by rw [List.length_set];have:=h.few;omega,fun g hg=>?_,fun _=>by rw [last_set h0];exact hb,fun g hg=>?_⟩
 ·rcases List.mem_or_eq_of_mem_set hg with hg|rfl
  ·have:=h.names g hg;omega
  ·exact hx0
 ·rcases List.mem_or_eq_of_mem_set hg with hg|rfl
  ·exact h.form g hg
  ·exact hf
theorem Ok.up {gs:List Gp} {b:Bool} {n:Nat} (h:Ok gs b n):Ok gs b (n+1):=⟨by have:=h.few;omega,fun g hg=>by have:=h.names g hg;omega,h.begun,h.form⟩
theorem Ok.take {gs:List Gp} {b:Bool} {n:Nat} (h:Ok gs b n) {x1 x2:ByteArray} {x:RL} (hx:wordRL x1 x2=some x):Ok (takeF gs b x).1 (takeF gs b x).2 (n+1):=by
 have hg:=word_good hx
 have hf:=h.few
 cases x with
 | caller y=>
  simp only [takeF]
  by_cases c:b=true∨gs.length=0
  ·simp only [c,if_true]
   refine ⟨by rw [List.length_append,List.length_singleton];omega,fun g hg=>?_,fun _ hl=>by rw [last_app] at hl;simp at hl,fun g hg=>?_⟩
   ·rcases List.mem_append.1 hg with hg|hg
    ·have:=h.names g hg;omega
    ·rw [List.mem_singleton.1 hg];simp
   ·rcases List.mem_append.1 hg with hg|hg
    ·exact h.form g hg
    ·rw [List.mem_singleton.1 hg];simp
  ·simp only [c,if_false]
   have h0:gs.length≠0:=fun e=>c (.inr e)
   have hm:=last_mem h0
   have hn:=h.names _ hm
   obtain ⟨f1,f2,f3,f4,f5⟩:=h.form _ hm
   exact h.set h0 _ (by simp only [List.length_append,List.length_singleton];omega) (fun hl=>h.begun h0 hl) ⟨by simp,f2,f3,f4,f5⟩
 | rule l p=>
  simp only [takeF]
  by_cases h0:gs.length=0
  ·simp only [h0,if_true];exact h.up
  ·simp only [h0,if_false]
   have hm:=last_mem h0
   have hn:=h.names _ hm
   obtain ⟨f1,f2,f3,f4,f5⟩:=h.form _ hm
   by_cases h6:(lastG gs).f1.length < 6
   ·simp only [h6,if_true]
    refine h.set h0 _ (show (lastG gs).f0.length≤n+1 by omega) (fun _=>rfl) ⟨f1,by simp only [List.length_append,List.length_singleton];omega,f3,f4,fun r hr=>?_⟩
    rcases List.mem_append.1 hr with hr|hr
    ·exact f5 r hr
    ·rw [List.mem_singleton.1 hr];exact hg
   ·simp only [h6,if_false]
    exact ⟨by omega,fun g hg=>by have:=h.names g hg;omega,fun _ _=>rfl,h.form⟩
 | wait m=>
  simp only [takeF]
  by_cases h0:gs.length=0
  ·simp only [h0,if_true];exact h.up
  ·simp only [h0,if_false]
   have hm:=last_mem h0
   have hn:=h.names _ hm
   obtain ⟨f1,f2,f3,f4,f5⟩:=h.form _ hm
   exact h.set h0 _ (show (lastG gs).f0.length≤n+1 by omega) (fun _=>rfl) ⟨f1,f2,hg.1,hg.2,f5⟩
def stepRL (gs:List Gp) (b:Bool):Option RL→List Gp×Bool
 | none=>(gs,b)
 | some x=>takeF gs b x
def readRL:List ByteArray→List Gp→Bool→List Gp
 | [],gs,_=>gs
 | s :: r,gs,b=>readRL r (stepRL gs b (lineRL s)).1 (stepRL gs b (lineRL s)).2
theorem Ok.step {gs:List Gp} {b:Bool} {n:Nat} (h:Ok gs b n) (s:ByteArray):Ok (stepRL gs b (lineRL s)).1 (stepRL gs b (lineRL s)).2 (n+1):=by
 cases e:lineRL s with
 | none=>exact h.up
 | some x=>exact h.take e
theorem read_impl:∀ (ls:List ByteArray) (gs:List Gp) (b:Bool) (n:Nat),Ok gs b n→n+ls.length < 100000→(∀ s ∈ ls,s.size≤1000000000)→Ev (fun k=>iLoop k ls gs b) (readRL ls gs b)
 | [],gs,b,n,h,hn,hs=>Ev.now _
 | s :: r,gs,b,n,h,hn,hs=>by
  rw [List.length_cons] at hn
  have hz:=hs s List.mem_cons_self
  have hf:=h.few
  have next:=read_impl r _ _ (n+1) (h.step s) (by omega) (fun x hx=>hs x (List.mem_cons_of_mem _ hx))
  simp only [iLoop,readRL]
  refine Ev.bind (line_impl s hz) ?_
  cases e:lineRL s with
  | none=>rw [e] at next;exact next
  | some x=>
   rw [e] at next
   have hl:(lastG gs).f0.length < 1000000:=by
    by_cases h0:gs.length=0
    ·have:gs=[]:=List.length_eq_zero_iff.1 h0
     subst this
     decide
    ·have:=h.names _ (last_mem h0);omega
   simp only [show gs.length < 1000000 from by omega,hl,and_self,if_true]
   exact next
theorem Ok.none:Ok [] false 0:=⟨Nat.le_refl _,(fun g hg=>by cases hg),fun h=>absurd rfl h,(fun g hg=>by cases hg)⟩
def linesOfT (t:ByteArray):List ByteArray:=((splitL 10 (L t)).map ofL).take 40
def noticeOf (t:ByteArray):List Gp:=readRL (linesOfT t) [] false
theorem lines_size (t:ByteArray):∀ s ∈ linesOfT t,s.size≤t.size:=by
 intro s hs
 obtain ⟨p,hp,rfl⟩:=List.mem_map.1 (List.mem_of_mem_take hs)
 have:=splitL_mem 10 (L t) p hp
 rw [L_size] at this
 rw [← L_size,L_of]
 exact this
theorem lines_few (t:ByteArray):(linesOfT t).length≤40:=by unfold linesOfT;rw [List.length_take];omega
theorem split_few (t:ByteArray):((splitL 10 (L t)).map ofL).length≤t.size+1:=by
 have:=splitL_len 10 (L t)
 rw [L_size] at this
 rw [List.length_map]
 exact this
theorem notice_impl (t:ByteArray) (ht:t.size≤100000000):Ev (fun k=>impl_NoticeRead.f k t) (noticeOf t):=by
 unfold impl_NoticeRead.f
 have:=split_few t
 have h40:=lines_few t
 refine Ev.bind (split_i t 10 (by omega)) ?_
 simp only [show ((splitL 10 (L t)).map ofL).length≤1000000000 from by omega,if_true]
 exact read_impl (linesOfT t) [] false 0 Ok.none (by omega) (fun s hs=>by have:=lines_size t s hs;omega)
end Go.Proofs.YtfpngfkepeoboaaDoor.Rn
end
section
namespace Go.Proofs.YtfpngfkepeoboaaDoor.Nt
open Go.RowKit Go.Proofs.YtfpngfkepeoboaaDoor.P Go.Proofs.YtfpngfkepeoboaaDoorW.PrintWords Go.Proofs.YtfpngfkepeoboaaDoorW.PrintLast Go.Proofs.YtfpngfkepeoboaaDoorW.PrintMore Go.Proofs.YtfpngfkepeoboaaDoor.B Go.Proofs.YtfpngfkepeoboaaDoor.Ad
set_option linter.unusedVariables false
set_option linter.unusedSimpArgs false
abbrev Gp:=S40
abbrev Ru:=S51
structure Sm (n:List Gp):Prop where
 few:n.length≤1048576
 names:∀ g ∈ n,g.f0.length≤1048576∧∀ s ∈ g.f0,s.size≤1048576
 rules:∀ g ∈ n,g.f1.length≤1048576
def gname (s:ByteArray):Bool:=s.toList == [42] || isName s
def groupOk (g:Gp):Bool:=decide (g.f0.length≠0) && (decide (g.f1.length≠0) || decide (g.f2≠0)) && decide (g.f1.length≤6) && (decide (0≤g.f2) && decide (g.f2≤20)) && g.f0.all gname && g.f1.all fun r=>ruleOk r.f1
def linesOf (n:List Gp):Nat:=(n.map fun g=>g.f0.length+g.f1.length+1).sum
def noticeOk (n:List Gp):Bool:=n.all groupOk && decide (linesOf n≤40)
theorem rd_gp {l:List Gp} {i:Nat} (h:i < l.length):rd_T40 l (i:Int)=l[i]:=by
 simp [rd_T40,List.getD,List.getElem?_eq_getElem h]
theorem rd_ru {l:List Ru} {i:Nat} (h:i < l.length):rd_T51 l (i:Int)=l[i]:=by
 simp [rd_T51,List.getD,List.getElem?_eq_getElem h]
theorem Sm.get {n:List Gp} (h:Sm n) {i:Nat} (hi:i < n.length):n[i].f0.length≤1048576∧(∀ s ∈ n[i].f0,s.size≤1048576)∧n[i].f1.length≤1048576:=
 ⟨(h.names _ (List.getElem_mem hi)).1,(h.names _ (List.getElem_mem hi)).2,h.rules _ (List.getElem_mem hi)⟩
theorem ok_rules (n:List Gp) (ns:List ByteArray) (rs:List Ru) (wt:Int) (hn:ns.length≤1048576) (hr:rs.length≤1048576) (c i:Nat) (hc:c≤1000000000000000) (hi:i≤1048576) (R:Bool)
  (hR:Ev (fun k=>spec_NoticeOk.l0 k n ((c+(ns.length+rs.length+1):Nat):Int) ((i+1:Nat):Int)) R) (d:Nat):∀ j,j+d=rs.length →
  Ev (fun k=>spec_NoticeOk.l2 k n (c:Int) (i:Int) (j:Int) ns rs wt) (((rs.drop j).all fun r=>ruleOk r.f1) && R):=by
 induction d with
 | zero=>
  intro j hj
  have e1:wrap64 ((c:Int)+(ns.length:Int))=((c+ns.length:Nat):Int):=by rw [w64 (by omega) (by omega)];omega
  have e2:wrap64 (((c+ns.length:Nat):Int)+(rs.length:Int))=((c+ns.length+rs.length:Nat):Int):=by rw [w64 (by omega) (by omega)];omega
  have e3:wrap64 (((c+ns.length+rs.length:Nat):Int)+1)=((c+(ns.length+rs.length+1):Nat):Int):=by rw [w64 (by omega) (by omega)];omega
  have e4:wrap64 ((i:Int)+1)=((i+1:Nat):Int):=by rw [w64 (by omega) (by omega)];rfl
  refine Ev_succ ?_
  simp only [spec_NoticeOk.l2,show ¬ ((j:Int) < (rs.length:Int)) from by omega,if_false]
  rw [e1,e2,e3,e4,List.drop_of_length_le (by omega)]
  simpa using hR
 | succ d ih=>
  intro j hj
  have hlt:j < rs.length:=by omega
  have e4:wrap64 ((j:Int)+1)=((j+1:Nat):Int):=by rw [w64 (by omega) (by omega)];rfl
  refine Ev_succ ?_
  simp only [spec_NoticeOk.l2,show (j:Int) < (rs.length:Int) from by omega,show (0:Int)≤(j:Int) from by omega,if_true]
  rw [rd_ru hlt,e4,List.drop_eq_getElem_cons hlt,List.all_cons]
  refine Ev.bind (ruleOk_spec _) ?_
  cases ruleOk rs[j].f1 with
  | true=>simp only [if_true,Bool.true_and];exact ih (j+1) (by omega)
  | false=>simp only [Bool.false_eq_true,if_false,Bool.false_and];exact Ev.now _
theorem ok_names (n:List Gp) (ns:List ByteArray) (rs:List Ru) (wt:Int) (hn:ns.length≤1048576) (hs:∀ s ∈ ns,s.size≤1048576) (c i:Nat) (R:Bool)
  (hR:Ev (fun k=>spec_NoticeOk.l2 k n (c:Int) (i:Int) 0 ns rs wt) R) (d:Nat):∀ j,j+d=ns.length →
  Ev (fun k=>spec_NoticeOk.l1 k n (c:Int) (i:Int) (j:Int) ns rs wt) ((ns.drop j).all gname && R):=by
 induction d with
 | zero=>
  intro j hj
  refine Ev_succ ?_
  simp only [spec_NoticeOk.l1,show ¬ ((j:Int) < (ns.length:Int)) from by omega,if_false]
  rw [List.drop_of_length_le (by omega)]
  simpa using hR
 | succ d ih=>
  intro j hj
  have hlt:j < ns.length:=by omega
  have e4:wrap64 ((j:Int)+1)=((j+1:Nat):Int):=by rw [w64 (by omega) (by omega)];rfl
  refine Ev_succ ?_
  simp only [spec_NoticeOk.l1,show (j:Int) < (ns.length:Int) from by omega,show (0:Int)≤(j:Int) from by omega,if_true]
  rw [rd_at hlt,e4,List.drop_eq_getElem_cons hlt,List.all_cons]
  have next:=ih (j+1) (by omega)
  have hz:=hs _ (List.getElem_mem hlt)
  unfold gname at next ⊢
  by_cases h42:ns[j].toList=([42]:List UInt8)
  ·simp only [h42,if_true,beq_self_eq_true,Bool.true_or,Bool.true_and];exact next
  ·simp only [h42,if_false,beq_eq_false_iff_ne.mpr h42,Bool.false_or]
   refine Ev.bind (name_ev _ (by omega)) ?_
   cases isName ns[j] with
   | true=>simp only [if_true,Bool.true_and];exact next
   | false=>simp only [Bool.false_eq_true,if_false,Bool.false_and];exact Ev.now _
theorem l6In_some (x lo hi:Int):spec_l6In.f x lo hi=some (decide (lo≤x) && decide (x≤hi)):=by
 unfold spec_l6In.f
 by_cases h:x ≥ lo
 ·simp [h]
 ·simp [h]
theorem ok_outer (n:List Gp) (hn:Sm n) (d:Nat):∀ (i c:Nat),i+d=n.length→c≤2097153 * i →
  Ev (fun k=>spec_NoticeOk.l0 k n (c:Int) (i:Int)) ((n.drop i).all groupOk && decide (c+linesOf (n.drop i)≤40)):=by
 have hf:=hn.few
 induction d with
 | zero=>
  intro i c hi hc
  refine Ev_succ ?_
  simp only [spec_NoticeOk.l0,show ¬ ((i:Int) < (n.length:Int)) from by omega,if_false]
  rw [List.drop_of_length_le (by omega)]
  simp only [List.all_nil,Bool.true_and,linesOf,List.map_nil,List.sum_nil,Nat.add_zero]
  rw [show (decide (c≤40))=decide ((c:Int)≤40) from by simp;omega]
  exact Ev.now _
 | succ d ih=>
  intro i c hi hc
  have hlt:i < n.length:=by omega
  obtain ⟨s1,s2,s3⟩:=hn.get hlt
  have next:=ih (i+1) (c+(n[i].f0.length+n[i].f1.length+1)) (by omega) (by omega)
  rw [List.drop_eq_getElem_cons hlt,List.all_cons]
  have hL:linesOf (n[i] :: n.drop (i+1))=(n[i].f0.length+n[i].f1.length+1)+linesOf (n.drop (i+1)):=by unfold linesOf;rw [List.map_cons,List.sum_cons]
  rw [hL]
  rw [show c+(n[i].f0.length+n[i].f1.length+1)+linesOf (n.drop (i+1))=c+((n[i].f0.length+n[i].f1.length+1)+linesOf (n.drop (i+1))) from by omega] at next
  generalize decide (c+((n[i].f0.length+n[i].f1.length+1)+linesOf (n.drop (i+1)))≤40)=D at next ⊢
  generalize (n.drop (i+1)).all groupOk=E at next ⊢
  refine Ev_succ ?_
  simp only [spec_NoticeOk.l0,show (i:Int) < (n.length:Int) from by omega,show (0:Int)≤(i:Int) from by omega,if_true]
  rw [rd_gp hlt]
  generalize n[i]=g at *
  obtain ⟨ns,rs,wt⟩:=g
  simp only at s1 s2 s3 next ⊢
  have go:Ev (fun k=>spec_NoticeOk.j1 k n (c:Int) (i:Int) false ns rs wt) (ns.all gname && ((rs.all fun r=>ruleOk r.f1) && (E && D))):=by
   refine Ev_succ ?_
   simp only [spec_NoticeOk.j1,Bool.false_eq_true,if_false]
   have h2:=ok_rules n ns rs wt s1 s3 c i (by omega) (by omega) _ next rs.length 0 (by omega)
   rw [List.drop_zero] at h2
   have h1:=ok_names n ns rs wt s1 s2 c i _ h2 ns.length 0 (by omega)
   rw [List.drop_zero] at h1
   exact h1
  have stop:Ev (fun k=>spec_NoticeOk.j1 k n (c:Int) (i:Int) true ns rs wt) false:=Ev_succ (by simp only [spec_NoticeOk.j1,if_true];exact Ev.now _)
  unfold groupOk
  simp only
  by_cases h0:ns.length=0
  ·simp only [show ((ns.length:Int)=0) from by omega,if_true,h0,ne_eq,not_true,decide_false,Bool.false_and];exact stop
  ·simp only [show ¬ ((ns.length:Int)=0) from by omega,if_false,h0,ne_eq,not_false_iff,decide_true,Bool.true_and]
   have tail:Ev (fun k=>if (rs.length:Int) > 6 then (spec_NoticeOk.j1 k n (c:Int) (i:Int) true ns rs wt) else ((spec_l6In.f wt 0 20).bind fun t=>(spec_NoticeOk.j1 k n (c:Int) (i:Int) (!t) ns rs wt)))
     ((decide (rs.length≤6) && (decide (0≤wt) && decide (wt≤20)) && ns.all gname && rs.all fun r=>ruleOk r.f1) && E && D):=by
    by_cases h6:rs.length≤6
    ·simp only [show ¬ ((rs.length:Int) > 6) from by omega,if_false,h6,decide_true,Bool.true_and,l6In_some,Option.bind_some]
     cases (decide (0≤wt) && decide (wt≤20)) with
     | true=>simp only [Bool.not_true,Bool.true_and];simpa [Bool.and_assoc] using go
     | false=>simp only [Bool.not_false,Bool.false_and];exact stop
    ·simp only [show ((rs.length:Int) > 6) from by omega,if_true,h6,decide_false,Bool.false_and];exact stop
   by_cases h1:rs.length=0
   ·have b1:decide (rs.length≠0)=false:=by simp [h1]
    have i1:(rs.length:Int)=0:=by omega
    rw [show decide (¬ rs.length=0)=false from b1]
    by_cases hw:wt=0
    ·subst hw
     simp only [i1,if_true,not_true,decide_false,Bool.or_self,Bool.false_and]
     exact stop
    ·simp only [if_pos i1,if_neg hw,hw,not_false_iff,decide_true,Bool.or_true,Bool.true_and];exact tail
   ·have i1:¬ (rs.length:Int)=0:=by omega
    simp only [if_neg i1,h1,not_false_iff,decide_true,Bool.true_or,Bool.true_and];exact tail
theorem noticeOk_ev (n:List Gp) (hn:Sm n):Ev (fun k=>spec_NoticeOk.f k n) (noticeOk n):=by
 have h:=ok_outer n hn n.length 0 0 (by omega) (by omega)
 rw [List.drop_zero,Nat.zero_add] at h
 exact h
def decB (n:Nat):ByteArray:=if n < 10 then ofL [UInt8.ofNat (48+n)] else ofL [UInt8.ofNat (48+n / 10),UInt8.ofNat (48+n % 10)]
theorem dec_all:∀ n:Nat,n < 100→(spec_l6Dec.f 3 (n:Int)).map L=some (L (decB n)):=by decide +kernel
theorem dec_ev (n:Nat) (h:n < 100):Ev (fun k=>spec_l6Dec.f k (n:Int)) (decB n):=by
 have:=dec_all n h
 cases hq:spec_l6Dec.f 3 (n:Int) with
 | none=>rw [hq] at this;cases this
 | some v=>
  rw [hq] at this
  simp only [Option.map_some,Option.some.injEq] at this
  rw [L_inj this] at hq
  exact Ev.of (fun k=>spec_l6Dec.mono _ k) hq
theorem dec_size (n:Nat):(decB n).size≤2:=by
 unfold decB
 split
 ·exact Nat.le_succ 1
 ·exact Nat.le_refl 2
def nameT (a s:ByteArray):ByteArray:=((a++(⟨#[99,97,108,108,101,114,32]⟩:ByteArray))++s)++(⟨#[10]⟩:ByteArray)
def ruleT (a:ByteArray) (r:Ru):ByteArray:=((a++(if r.f0=true then (⟨#[108,101,116,32]⟩:ByteArray) else (⟨#[98,97,114,32]⟩:ByteArray)))++r.f1)++(⟨#[10]⟩:ByteArray)
def waitT (a:ByteArray) (w:Int):ByteArray:=if w > 0 then ((a++(⟨#[119,97,105,116,32]⟩:ByteArray))++decB w.toNat)++(⟨#[10]⟩:ByteArray) else a
def groupT (a:ByteArray) (g:Gp):ByteArray:=waitT (g.f1.foldl ruleT (g.f0.foldl nameT a)) g.f2
def noticeT (n:List Gp):ByteArray:=if noticeOk n=true then n.foldl groupT (⟨#[]⟩:ByteArray) else (⟨#[]⟩:ByteArray)
theorem sz10:(⟨#[10]⟩:ByteArray).size=1:=rfl
theorem nameT_size (a s:ByteArray):(nameT a s).size=a.size+7+s.size+1:=by
 have:(⟨#[99,97,108,108,101,114,32]⟩:ByteArray).size=7:=rfl
 unfold nameT;simp only [ByteArray.size_append,sz10];omega
theorem ruleT_size (a:ByteArray) (r:Ru):(ruleT a r).size=a.size+4+r.f1.size+1:=by
 have h1:(⟨#[108,101,116,32]⟩:ByteArray).size=4:=rfl
 have h2:(⟨#[98,97,114,32]⟩:ByteArray).size=4:=rfl
 unfold ruleT;split <;> (simp only [ByteArray.size_append,sz10];omega)
theorem gname_size {s:ByteArray} (h:gname s=true):s.size≤8:=by
 unfold gname at h
 rcases (Bool.or_eq_true _ _).mp h with h|h
 ·have:=(beq_iff_eq.1 h)
  rw [Lib.toList_data] at this
  have h2:=L_size s
  rw [show L s=[42] from this] at h2
  simp at h2;omega
 ·unfold isName at h
  simp only [Bool.and_eq_true,decide_eq_true_eq] at h
  omega
theorem ruleOk_size {s:ByteArray} (h:ruleOk s=true):s.size≤16:=by
 unfold ruleOk at h
 simp only [Bool.and_eq_true,decide_eq_true_eq] at h
 omega
theorem names_size:∀ (ns:List ByteArray) (a:ByteArray),ns.all gname=true→(ns.foldl nameT a).size≤a.size+24 * ns.length
 | [],a,_=>by simp
 | s :: r,a,h=>by
  rw [List.all_cons,Bool.and_eq_true] at h
  have:=names_size r (nameT a s) h.2
  have h1:=gname_size h.1
  rw [nameT_size] at this
  rw [List.foldl_cons,List.length_cons];omega
theorem rules_size:∀ (rs:List Ru) (a:ByteArray),(rs.all fun r=>ruleOk r.f1)=true→(rs.foldl ruleT a).size≤a.size+24 * rs.length
 | [],a,_=>by simp
 | s :: r,a,h=>by
  rw [List.all_cons,Bool.and_eq_true] at h
  have:=rules_size r (ruleT a s) h.2
  have h1:=ruleOk_size h.1
  rw [ruleT_size] at this
  rw [List.foldl_cons,List.length_cons];omega
theorem waitT_size (a:ByteArray) (w:Int):(waitT a w).size≤a.size+8:=by
 unfold waitT
 have h5:(⟨#[119,97,105,116,32]⟩:ByteArray).size=5:=rfl
 have:=dec_size w.toNat
 split
 ·simp only [ByteArray.size_append,sz10];omega
 ·omega
theorem groupOk_parts {g:Gp} (h:groupOk g=true):(g.f0.all gname=true)∧((g.f1.all fun r=>ruleOk r.f1)=true)∧0≤g.f2∧g.f2≤20∧g.f0.length≠0∧(g.f1.length≠0∨g.f2≠0)∧g.f1.length≤6:=by
 unfold groupOk at h
 simp only [Bool.and_eq_true,Bool.or_eq_true,decide_eq_true_eq] at h
 obtain ⟨⟨⟨⟨⟨h1,h2⟩,h3⟩,h4⟩,h5⟩,h6⟩:=h
 exact ⟨h5,h6,h4.1,h4.2,h1,h2,h3⟩
theorem group_size {g:Gp} (a:ByteArray) (h:groupOk g=true):(groupT a g).size≤a.size+24 * (g.f0.length+g.f1.length+1):=by
 obtain ⟨h1,h2,_⟩:=groupOk_parts h
 have e1:=names_size g.f0 a h1
 have e2:=rules_size g.f1 (g.f0.foldl nameT a) h2
 have e3:=waitT_size (g.f1.foldl ruleT (g.f0.foldl nameT a)) g.f2
 unfold groupT;omega
theorem text_names (n:List Gp) (i:Nat) (hi:i < n.length) (hok:n[i].f0.all gname=true) (hl:n[i].f0.length≤1048576) (R:ByteArray) (d:Nat):∀ (j:Nat) (a:ByteArray),j+d=n[i].f0.length→a.size+24 * d≤1000000000000000 →
  Ev (fun k=>spec_NoticeText.l2 k n ((n[i].f0.drop j).foldl nameT a) (i:Int) 0) R→Ev (fun k=>spec_NoticeText.l1 k n a (i:Int) (j:Int)) R:=by
 induction d with
 | zero=>
  intro j a hj ha hR
  rw [List.drop_of_length_le (by omega)] at hR
  refine Ev_succ ?_
  simp only [spec_NoticeText.l1,show (0:Int)≤(i:Int) from by omega,show (i:Int) < (n.length:Int) from by omega,if_true]
  rw [rd_gp hi]
  simp only [show ¬ ((j:Int) < (n[i].f0.length:Int)) from by omega,if_false]
  exact hR
 | succ d ih=>
  intro j a hj ha hR
  have hlt:j < n[i].f0.length:=by omega
  have e4:wrap64 ((j:Int)+1)=((j+1:Nat):Int):=by rw [w64 (by omega) (by omega)];rfl
  rw [List.drop_eq_getElem_cons hlt,List.foldl_cons] at hR
  have hz:=gname_size (List.all_eq_true.1 hok _ (List.getElem_mem hlt))
  refine Ev_succ ?_
  simp only [spec_NoticeText.l1,show (0:Int)≤(i:Int) from by omega,show (i:Int) < (n.length:Int) from by omega,if_true]
  rw [rd_gp hi]
  simp only [show ((j:Int) < (n[i].f0.length:Int)) from by omega,show (0:Int)≤(j:Int) from by omega,if_true]
  rw [rd_at hlt,e4]
  simp only [show a.size+7≤9223372036854775807 from by omega,show a.size+7+n[i].f0[j].size≤9223372036854775807 from by omega,show a.size+7+n[i].f0[j].size+1≤9223372036854775807 from by omega,if_true]
  exact ih (j+1) (nameT a n[i].f0[j]) (by omega) (by rw [nameT_size];omega) hR
theorem text_rules (n:List Gp) (i:Nat) (hi:i < n.length) (hok:groupOk n[i]=true) (hl:n[i].f1.length≤1048576) (hq:n.length≤1048576) (R:ByteArray) (d:Nat):∀ (j:Nat) (a:ByteArray),j+d=n[i].f1.length→a.size+24 * (d+1)≤1000000000000000 →
  Ev (fun k=>spec_NoticeText.l0 k n (waitT ((n[i].f1.drop j).foldl ruleT a) n[i].f2) ((i+1:Nat):Int)) R→Ev (fun k=>spec_NoticeText.l2 k n a (i:Int) (j:Int)) R:=by
 obtain ⟨_,hrs,w0,w1,_⟩:=groupOk_parts hok
 have ei:wrap64 ((i:Int)+1)=((i+1:Nat):Int):=by rw [w64 (by omega) (by omega)];rfl
 induction d with
 | zero=>
  intro j a hj ha hR
  rw [List.drop_of_length_le (by omega)] at hR
  refine Ev_succ ?_
  simp only [spec_NoticeText.l2,show (0:Int)≤(i:Int) from by omega,show (i:Int) < (n.length:Int) from by omega,if_true]
  rw [rd_gp hi]
  simp only [show ¬ ((j:Int) < (n[i].f1.length:Int)) from by omega,if_false]
  rw [ei]
  rw [List.foldl_nil] at hR
  unfold waitT at hR
  by_cases hw:n[i].f2 > 0
  ·simp only [hw,if_true] at hR ⊢
   obtain ⟨m,hm⟩:=Int.eq_ofNat_of_zero_le w0
   have hd:=dec_ev m (by omega)
   have hds:=dec_size m
   rw [hm,Int.toNat_natCast] at hR
   rw [hm]
   simp only [show a.size+5≤9223372036854775807 from by omega,if_true]
   refine Ev.bind hd ?_
   simp only [show a.size+5+(decB m).size≤9223372036854775807 from by omega,show a.size+5+(decB m).size+1≤9223372036854775807 from by omega,if_true]
   exact hR
  ·simp only [hw,if_false] at hR ⊢
   exact hR
 | succ d ih=>
  intro j a hj ha hR
  have hlt:j < n[i].f1.length:=by omega
  have e4:wrap64 ((j:Int)+1)=((j+1:Nat):Int):=by rw [w64 (by omega) (by omega)];rfl
  rw [List.drop_eq_getElem_cons hlt,List.foldl_cons] at hR
  have hz:=ruleOk_size (List.all_eq_true.1 hrs _ (List.getElem_mem hlt))
  have next:=ih (j+1) (ruleT a n[i].f1[j]) (by omega) (by rw [ruleT_size];omega) hR
  refine Ev_succ ?_
  simp only [spec_NoticeText.l2,show (0:Int)≤(i:Int) from by omega,show (i:Int) < (n.length:Int) from by omega,if_true]
  rw [rd_gp hi]
  simp only [show ((j:Int) < (n[i].f1.length:Int)) from by omega,show (0:Int)≤(j:Int) from by omega,if_true]
  rw [rd_ru hlt,e4]
  unfold ruleT at next
  simp only [show a.size+4≤9223372036854775807 from by omega,show a.size+4+n[i].f1[j].f1.size≤9223372036854775807 from by omega,show a.size+4+n[i].f1[j].f1.size+1≤9223372036854775807 from by omega,if_true]
  by_cases hb:n[i].f1[j].f0=true
  ·simp only [hb,if_true] at next ⊢;exact next
  ·simp only [hb,Bool.false_eq_true,if_false] at next ⊢;exact next
theorem text_outer (n:List Gp) (hn:Sm n) (d:Nat):∀ (i:Nat) (a:ByteArray),i+d=n.length→a.size≤24 * 2097153 * i→((n.drop i).all groupOk)=true →
  Ev (fun k=>spec_NoticeText.l0 k n a (i:Int)) ((n.drop i).foldl groupT a):=by
 have hf:=hn.few
 induction d with
 | zero=>
  intro i a hi ha hk
  refine Ev_succ ?_
  simp only [spec_NoticeText.l0,show ¬ ((i:Int) < (n.length:Int)) from by omega,if_false]
  rw [List.drop_of_length_le (by omega)]
  exact Ev.now _
 | succ d ih=>
  intro i a hi ha hk
  have hlt:i < n.length:=by omega
  obtain ⟨s1,s2,s3⟩:=hn.get hlt
  rw [List.drop_eq_getElem_cons hlt,List.all_cons,Bool.and_eq_true] at hk
  rw [List.drop_eq_getElem_cons hlt,List.foldl_cons]
  have hg:=group_size a hk.1
  have next:=ih (i+1) (groupT a n[i]) (by omega) (by omega) hk.2
  have e1:=names_size n[i].f0 a (groupOk_parts hk.1).1
  refine Ev_succ ?_
  simp only [spec_NoticeText.l0,show (i:Int) < (n.length:Int) from by omega,if_true]
  refine text_names n i hlt (groupOk_parts hk.1).1 s1 _ n[i].f0.length 0 a (by omega) (by omega) ?_
  rw [List.drop_zero]
  refine text_rules n i hlt hk.1 s3 hf _ n[i].f1.length 0 _ (by omega) (by omega) ?_
  rw [List.drop_zero]
  exact next
theorem noticeT_ev (n:List Gp) (hn:Sm n):Ev (fun k=>spec_NoticeText.f k n) (noticeT n):=by
 unfold spec_NoticeText.f noticeT
 refine Ev.bind (noticeOk_ev n hn) ?_
 by_cases h:noticeOk n=true
 ·simp only [h,if_true]
  have hk:n.all groupOk=true:=by
   unfold noticeOk at h
   rw [Bool.and_eq_true] at h
   exact h.1
  have:=text_outer n hn n.length 0 ⟨#[]⟩ (by omega) (by have:(⟨#[]⟩:ByteArray).size=0:=rfl;omega) (by rw [List.drop_zero];exact hk)
  rw [List.drop_zero] at this
  exact this
 ·simp only [h,Bool.false_eq_true,if_false];exact Ev.now _
theorem texts_size:∀ (n:List Gp) (a:ByteArray),n.all groupOk=true→(n.foldl groupT a).size≤a.size+24 * linesOf n
 | [],a,_=>by simp
 | g :: r,a,h=>by
  rw [List.all_cons,Bool.and_eq_true] at h
  have:=texts_size r (groupT a g) h.2
  have h1:=group_size a h.1
  rw [List.foldl_cons]
  simp only [linesOf,List.map_cons,List.sum_cons] at this ⊢
  omega
theorem noticeT_size (n:List Gp):(noticeT n).size≤960:=by
 unfold noticeT
 split
 ·rename_i h
  unfold noticeOk at h
  simp only [Bool.and_eq_true,decide_eq_true_eq] at h
  have:=texts_size n ⟨#[]⟩ h.1
  have h0:(⟨#[]⟩:ByteArray).size=0:=rfl
  omega
 ·exact Nat.zero_le _
theorem impl_small_l (s:ByteArray) (hs:s.size≤140737488351232) (d:Nat):∀ (k:Nat) (i:Nat),i+d=s.size→d < k →
  impl_allSmallLetters.l0 k s (i:Int)=some (smallFrom s d i):=by
 induction d with
 | zero=>
  intro k i h hk
  obtain ⟨k,rfl⟩:∃ m,k=m+1:=⟨k - 1,by omega⟩
  simp only [impl_allSmallLetters.l0,smallFrom]
  rw [if_neg (by omega)]
 | succ d ih=>
  intro k i h hk
  obtain ⟨k,rfl⟩:∃ m,k=m+1:=⟨k - 1,by omega⟩
  simp only [impl_allSmallLetters.l0,smallFrom]
  rw [if_pos (by omega),if_pos (by omega)]
  by_cases h1:bt s i < 97
  ·rw [if_pos h1,if_pos h1]
  ·rw [if_neg h1,if_neg h1]
   by_cases h2:bt s i > 122
   ·rw [if_pos h2,if_pos h2]
   ·rw [if_neg h2,if_neg h2,w64 (by omega) (by omega)]
    exact ih k (i+1) (by omega) (by omega)
theorem impl_name (s:ByteArray) (hs:s.size≤140737488351232):Ev (fun k=>impl_isName.f k s) (isName s):=by
 unfold impl_isName.f isName isSmall
 by_cases h1:1≤s.size
 ·by_cases h2:s.size≤8
  ·simp only [show (s.size:Int) ≥ 1 from by omega,show (s.size:Int)≤8 from by omega,if_true,h1,h2,decide_true,Bool.true_and]
   refine Ev.bind (a:=smallFrom s s.size 0) ?_ (Ev.now _)
   refine Ev.of (fun k=>impl_allSmallLetters.mono _ k) (k:=s.size+1) ?_
   exact impl_small_l s hs s.size (s.size+1) 0 (by omega) (by omega)
  ·simp only [show (s.size:Int) ≥ 1 from by omega,show ¬ (s.size:Int)≤8 from by omega,if_true,if_false,h2,decide_false,Bool.and_false,Bool.false_and]
   exact Ev.now _
 ·simp only [show ¬ (s.size:Int) ≥ 1 from by omega,if_false,h1,decide_false,Bool.false_and]
  exact Ev.now _
theorem impl_gname (s:ByteArray) (hs:s.size≤140737488351232):Ev (fun k=>impl_isGroupName.f k s) (gname s):=by
 unfold impl_isGroupName.f gname
 by_cases h:s.toList=([42]:List UInt8)
 ·simp only [h,if_true,beq_self_eq_true,Bool.true_or]
  exact Ev.now _
 ·simp only [h,if_false,beq_eq_false_iff_ne.mpr h,Bool.false_or]
  exact Ev.bind (impl_name s hs) (Ev.now _)
theorem impl_rules_l (rs:List Ru) (hr:rs.length≤1048576) (hz:∀ r ∈ rs,r.f1.size≤140737488351232) (d:Nat):∀ j:Nat,j+d=rs.length →
  Ev (fun k=>impl_rulesOk.l0 k rs (rs.length:Int) (j:Int)) ((rs.drop j).all fun r=>ruleOk r.f1):=by
 induction d with
 | zero=>
  intro j hj
  refine Ev_succ ?_
  simp only [impl_rulesOk.l0,show ¬ ((j:Int) < (rs.length:Int)) from by omega,if_false]
  rw [List.drop_of_length_le (by omega)]
  exact Ev.now _
 | succ d ih=>
  intro j hj
  have hlt:j < rs.length:=by omega
  have e4:wrap64 ((j:Int)+1)=((j+1:Nat):Int):=by rw [w64 (by omega) (by omega)];rfl
  refine Ev_succ ?_
  simp only [impl_rulesOk.l0,show (j:Int) < (rs.length:Int) from by omega,show (0:Int)≤(j:Int) from by omega,if_true]
  rw [rd_ru hlt,e4,List.drop_eq_getElem_cons hlt,List.all_cons]
  refine Ev.bind (ruleOk_impl _ (hz _ (List.getElem_mem hlt))) ?_
  cases ruleOk rs[j].f1 with
  | true=>simp only [if_true,Bool.true_and];exact ih (j+1) (by omega)
  | false=>simp only [Bool.false_eq_true,if_false,Bool.false_and];exact Ev.now _
theorem impl_rules (rs:List Ru) (hr:rs.length≤1048576) (hz:∀ r ∈ rs,r.f1.size≤140737488351232):Ev (fun k=>impl_rulesOk.f k rs) (rs.all fun r=>ruleOk r.f1):=by
 have:=impl_rules_l rs hr hz rs.length 0 (by omega)
 rw [List.drop_zero] at this
 exact this
theorem impl_group_l (rs:List Ru) (wt:Int) (ns0:List ByteArray) (hr:rs.length≤1048576) (hz:∀ r ∈ rs,r.f1.size≤140737488351232) (ns:List ByteArray) (hn:ns.length≤1048576) (hs:∀ s ∈ ns,s.size≤1048576) (d:Nat):∀ j:Nat,j+d=ns.length →
  Ev (fun k=>impl_groupOk.l0 k ns (ns.length:Int) (j:Int) ns0 rs wt) ((ns.drop j).all gname && rs.all fun r=>ruleOk r.f1):=by
 induction d with
 | zero=>
  intro j hj
  refine Ev_succ ?_
  simp only [impl_groupOk.l0,show ¬ ((j:Int) < (ns.length:Int)) from by omega,if_false]
  rw [List.drop_of_length_le (by omega)]
  simp only [List.all_nil,Bool.true_and]
  exact Ev.bind (impl_rules rs hr hz) (Ev.now _)
 | succ d ih=>
  intro j hj
  have hlt:j < ns.length:=by omega
  have e4:wrap64 ((j:Int)+1)=((j+1:Nat):Int):=by rw [w64 (by omega) (by omega)];rfl
  refine Ev_succ ?_
  simp only [impl_groupOk.l0,show (j:Int) < (ns.length:Int) from by omega,show (0:Int)≤(j:Int) from by omega,if_true]
  rw [rd_at hlt,e4,List.drop_eq_getElem_cons hlt,List.all_cons]
  have hz2:=hs _ (List.getElem_mem hlt)
  refine Ev.bind (impl_gname _ (by omega)) ?_
  cases gname ns[j] with
  | true=>simp only [if_true,Bool.true_and];exact ih (j+1) (by omega)
  | false=>simp only [Bool.false_eq_true,if_false,Bool.false_and];exact Ev.now _
theorem impl_group (g:Gp) (hr:g.f1.length≤1048576) (hz:∀ r ∈ g.f1,r.f1.size≤140737488351232) (hn:g.f0.length≤1048576) (hs:∀ s ∈ g.f0,s.size≤1048576) :
  Ev (fun k=>impl_groupOk.f k g.f0 g.f1 g.f2) (groupOk g):=by
 obtain ⟨ns,rs,wt⟩:=g
 simp only at hr hz hn hs ⊢
 have body:=impl_group_l rs wt ns hr hz ns hn hs ns.length 0 (by omega)
 rw [List.drop_zero] at body
 have stop:Ev (fun k=>impl_groupOk.j0 k true ns rs wt) false:=Ev_succ (by simp only [impl_groupOk.j0,if_true];exact Ev.now _)
 unfold impl_groupOk.f groupOk
 by_cases h0:ns.length=0
 ·simpa [h0] using stop
 by_cases h6:rs.length≤6
 ·by_cases hw:0≤wt
  ·by_cases hw2:wt≤20
   ·have go:Ev (fun k=>impl_groupOk.j1 k false ns rs wt) (ns.all gname && rs.all fun r=>ruleOk r.f1):=Ev_succ (by simp only [impl_groupOk.j1,Bool.false_eq_true,if_false];exact body)
    have no:Ev (fun k=>impl_groupOk.j1 k true ns rs wt) false:=Ev_succ (by simp only [impl_groupOk.j1,if_true];exact Ev.now _)
    simp only [show ¬ ((ns.length:Int)=0) from by omega,show ¬ ((rs.length:Int) > 6) from by omega,show ¬ (wt < 0) from by omega,show ¬ (wt > 20) from by omega,if_false,decide_false,h0,h6,hw,hw2,ne_eq,not_false_iff,decide_true,Bool.true_and,Bool.and_true]
    refine Ev_succ ?_
    simp only [impl_groupOk.j0,Bool.false_eq_true,if_false]
    by_cases h1:rs.length=0
    ·by_cases hw0:wt=0
     ·simpa [h1,hw0] using no
     ·simpa [h1,hw0,beq_eq_false_iff_ne.mpr hw0] using go
    ·simpa [h1,show ¬ ((rs.length:Int)=0) from by omega] using go
   ·simpa [h0,h6,hw,hw2,show ¬ ((rs.length:Int) > 6) from by omega,show ¬ (wt < 0) from by omega,show wt > 20 from by omega,show ¬ ((ns.length:Int)=0) from by omega] using stop
  ·simpa [h0,h6,hw,show ¬ ((rs.length:Int) > 6) from by omega,show wt < 0 from by omega,show ¬ ((ns.length:Int)=0) from by omega] using stop
 ·simpa [h0,h6,show ((rs.length:Int) > 6) from by omega,show ¬ ((ns.length:Int)=0) from by omega] using stop
structure Smi (n:List Gp):Prop extends Sm n where
 paths:∀ g ∈ n,∀ r ∈ g.f1,r.f1.size≤1048576
theorem impl_ok_l (n:List Gp) (hn:Smi n) (d:Nat):∀ (i c:Nat),i+d=n.length→c≤2097153 * i →
  Ev (fun k=>impl_NoticeOk.l0 k (c:Int) n (n.length:Int) (i:Int)) ((n.drop i).all groupOk && decide (c+linesOf (n.drop i)≤40)):=by
 have hf:=hn.few
 induction d with
 | zero=>
  intro i c hi hc
  refine Ev_succ ?_
  simp only [impl_NoticeOk.l0,show ¬ ((i:Int) < (n.length:Int)) from by omega,if_false]
  rw [List.drop_of_length_le (by omega)]
  simp only [List.all_nil,Bool.true_and,linesOf,List.map_nil,List.sum_nil,Nat.add_zero]
  rw [show (decide (c≤40))=decide ((c:Int)≤40) from by simp;omega]
  exact Ev.now _
 | succ d ih=>
  intro i c hi hc
  have hlt:i < n.length:=by omega
  obtain ⟨s1,s2,s3⟩:=hn.toSm.get hlt
  have s4:=hn.paths _ (List.getElem_mem hlt)
  have next:=ih (i+1) (c+(n[i].f0.length+n[i].f1.length+1)) (by omega) (by omega)
  rw [List.drop_eq_getElem_cons hlt,List.all_cons]
  have hL:linesOf (n[i] :: n.drop (i+1))=(n[i].f0.length+n[i].f1.length+1)+linesOf (n.drop (i+1)):=by unfold linesOf;rw [List.map_cons,List.sum_cons]
  rw [hL,← Nat.add_assoc]
  clear hL
  have hr:=rd_gp hlt
  generalize n[i]=g at s1 s2 s3 s4 next hr ⊢
  have e1:wrap64 ((g.f0.length:Int)+(g.f1.length:Int))=((g.f0.length+g.f1.length:Nat):Int):=by rw [w64 (by omega) (by omega)];omega
  have e2:wrap64 (((g.f0.length+g.f1.length:Nat):Int)+1)=((g.f0.length+g.f1.length+1:Nat):Int):=by rw [w64 (by omega) (by omega)];omega
  have e3:wrap64 ((c:Int)+((g.f0.length+g.f1.length+1:Nat):Int))=((c+(g.f0.length+g.f1.length+1):Nat):Int):=by rw [w64 (by omega) (by omega)];omega
  have e4:wrap64 ((i:Int)+1)=((i+1:Nat):Int):=by rw [w64 (by omega) (by omega)];rfl
  refine Ev_succ ?_
  simp only [impl_NoticeOk.l0,show (i:Int) < (n.length:Int) from by omega,show (0:Int)≤(i:Int) from by omega,if_true]
  rw [hr,e1,e2,e3,e4]
  refine Ev.bind (impl_group _ s3 (fun r hr=>by have:=s4 r hr;omega) s1 s2) ?_
  cases groupOk g with
  | true=>simp only [if_true,Bool.true_and];exact next
  | false=>simp only [Bool.false_eq_true,if_false,Bool.false_and];exact Ev.now _
theorem impl_noticeOk (n:List Gp) (hn:Smi n):Ev (fun k=>impl_NoticeOk.f k n) (noticeOk n):=by
 have h:=impl_ok_l n hn n.length 0 0 (by omega) (by omega)
 rw [List.drop_zero,Nat.zero_add] at h
 exact h
def nlr (r:Ru):Ln.NL:=.rule r.f0 r.f1
def glines (g:Gp):List Ln.NL:=(g.f0.map Ln.NL.caller++g.f1.map nlr)++(if g.f2=0 then [] else [Ln.NL.wait g.f2])
theorem linesB_append (a b:List Ln.NL):linesB (a++b)=linesB a++linesB b:=by unfold linesB;rw [List.map_append,List.flatten_append]
theorem linesB_one (x:Ln.NL):linesB [x]=L x.text:=by simp [linesB,L]
theorem dec_same:∀ n:Nat,n < 100→L (decB n)=Lib.decDigits n:=by decide +kernel
theorem caller_text (a s:ByteArray):L (nameT a s)=L a++L (Ln.NL.text (.caller s)):=by
 unfold nameT Ln.NL.text
 simp only [L_app,List.append_assoc]
theorem rule_text (a:ByteArray) (r:Ru):L (ruleT a r)=L a++L (nlr r).text:=by
 obtain ⟨b,p⟩:=r
 cases b <;> simp only [ruleT,nlr,Ln.NL.text,L_app,List.append_assoc,if_true,Bool.false_eq_true,if_false]
theorem names_text:∀ (ns:List ByteArray) (a:ByteArray),L (ns.foldl nameT a)=L a++linesB (ns.map Ln.NL.caller)
 | [],a=>by simp [linesB]
 | s :: r,a=>by
  rw [List.foldl_cons,names_text r,caller_text,List.map_cons,show Ln.NL.caller s :: r.map Ln.NL.caller=[Ln.NL.caller s]++r.map Ln.NL.caller from rfl,linesB_append,linesB_one,List.append_assoc]
theorem rules_text:∀ (rs:List Ru) (a:ByteArray),L (rs.foldl ruleT a)=L a++linesB (rs.map nlr)
 | [],a=>by simp [linesB]
 | s :: r,a=>by
  rw [List.foldl_cons,rules_text r,rule_text,List.map_cons,show nlr s :: r.map nlr=[nlr s]++r.map nlr from rfl,linesB_append,linesB_one,List.append_assoc]
theorem wait_text (a:ByteArray) (w:Int) (h0:0≤w) (h1:w≤20):L (waitT a w)=L a++linesB (if w=0 then [] else [Ln.NL.wait w]):=by
 unfold waitT
 by_cases h:w=0
 ·subst h;simp [linesB]
 ·have hp:w > 0:=by omega
  have hd:=dec_same w.toNat (by omega)
  simp only [hp,h,if_true,if_false]
  rw [linesB_one]
  simp only [Ln.NL.text,L_app,List.append_assoc]
  rw [hd]
theorem group_text (a:ByteArray) (g:Gp) (h0:0≤g.f2) (h1:g.f2≤20):L (groupT a g)=L a++linesB (glines g):=by
 unfold groupT glines
 rw [wait_text _ _ h0 h1,rules_text,names_text,linesB_append,linesB_append]
 simp only [List.append_assoc]
theorem gl_rules (ns:List ByteArray) (rs:List Ru) (wt:Int) (hr:rs.length≤1048576) (d:Nat):∀ (j:Nat) (a:List Ln.NL),j+d=rs.length→a.length+d≤4000000 →
  Ev (fun k=>impl_groupLines.l1 k a rs (rs.length:Int) (j:Int) ns rs wt) (a++((rs.drop j).map nlr++(if wt=0 then [] else [Ln.NL.wait wt]))):=by
 induction d with
 | zero=>
  intro j a hj ha
  refine Ev_succ ?_
  simp only [impl_groupLines.l1,show ¬ ((j:Int) < (rs.length:Int)) from by omega,if_false]
  rw [List.drop_of_length_le (by omega),List.map_nil,List.nil_append]
  by_cases hw:wt=0
  ·simp only [hw,if_true,List.append_nil];exact Ev.now _
  ·simp only [hw,if_false,show a.length < 8796093022208 from by omega,if_true];exact Ev.now _
 | succ d ih=>
  intro j a hj ha
  have hlt:j < rs.length:=by omega
  have e4:wrap64 ((j:Int)+1)=((j+1:Nat):Int):=by rw [w64 (by omega) (by omega)];rfl
  refine Ev_succ ?_
  simp only [impl_groupLines.l1,show (j:Int) < (rs.length:Int) from by omega,show (0:Int)≤(j:Int) from by omega,show a.length < 8796093022208 from by omega,if_true]
  rw [rd_ru hlt,e4,List.drop_eq_getElem_cons hlt,List.map_cons]
  have next:=ih (j+1) (a++[nlr rs[j]]) (by omega) (by rw [List.length_append,List.length_singleton];omega)
  rw [List.append_assoc] at next
  exact next
theorem gl_names (rs:List Ru) (wt:Int) (ns:List ByteArray) (hn:ns.length≤1048576) (hr:rs.length≤1048576) (d:Nat):∀ (j:Nat) (a:List Ln.NL),j+d=ns.length→a.length+d+rs.length≤4000000 →
  Ev (fun k=>impl_groupLines.l0 k a ns (ns.length:Int) (j:Int) ns rs wt) (a++((ns.drop j).map Ln.NL.caller++(rs.map nlr++(if wt=0 then [] else [Ln.NL.wait wt])))):=by
 induction d with
 | zero=>
  intro j a hj ha
  refine Ev_succ ?_
  simp only [impl_groupLines.l0,show ¬ ((j:Int) < (ns.length:Int)) from by omega,if_false]
  rw [List.drop_of_length_le (by omega),List.map_nil,List.nil_append]
  have:=gl_rules ns rs wt hr rs.length 0 a (by omega) (by omega)
  rw [List.drop_zero] at this
  exact this
 | succ d ih=>
  intro j a hj ha
  have hlt:j < ns.length:=by omega
  have e4:wrap64 ((j:Int)+1)=((j+1:Nat):Int):=by rw [w64 (by omega) (by omega)];rfl
  refine Ev_succ ?_
  simp only [impl_groupLines.l0,show (j:Int) < (ns.length:Int) from by omega,show (0:Int)≤(j:Int) from by omega,show a.length < 8796093022208 from by omega,if_true]
  rw [rd_at hlt,e4,List.drop_eq_getElem_cons hlt,List.map_cons]
  have next:=ih (j+1) (a++[Ln.NL.caller ns[j]]) (by omega) (by rw [List.length_append,List.length_singleton];omega)
  rw [List.append_assoc] at next
  exact next
theorem gl_ev (g:Gp) (hn:g.f0.length≤1048576) (hr:g.f1.length≤1048576):Ev (fun k=>impl_groupLines.f k g.f0 g.f1 g.f2) (glines g):=by
 have:=gl_names g.f1 g.f2 g.f0 hn hr g.f0.length 0 [] (by omega) (by simp only [List.length_nil];omega)
 rw [List.drop_zero,List.nil_append,← List.append_assoc] at this
 exact this
theorem lines_small (g:Gp) (h:groupOk g=true):(glines g).all P.smallB=true:=by
 obtain ⟨h1,h2,w0,w1,_⟩:=groupOk_parts h
 refine List.all_eq_true.2 fun x hx=>?_
 unfold glines at hx
 rcases List.mem_append.1 hx with hx|hx
 ·rcases List.mem_append.1 hx with hx|hx
  ·obtain ⟨s,hs,rfl⟩:=List.mem_map.1 hx
   have:=gname_size (List.all_eq_true.1 h1 s hs)
   exact decide_eq_true (by omega)
  ·obtain ⟨r,hr,rfl⟩:=List.mem_map.1 hx
   have:=ruleOk_size (List.all_eq_true.1 h2 r hr)
   exact decide_eq_true (by omega)
 ·by_cases hw:g.f2=0
  ·simp [hw] at hx
  ·rw [if_neg hw,List.mem_singleton] at hx
   subst hx
   simp only [P.smallB,Bool.and_eq_true,decide_eq_true_eq]
   omega
theorem glines_len (g:Gp):(glines g).length≤g.f0.length+g.f1.length+1:=by
 unfold glines
 split <;> simp <;> omega
theorem notices_ev:∀ (n:List Gp) (a:ByteArray),(∀ g ∈ n,groupOk g=true∧g.f0.length≤1048576∧g.f1.length≤1048576)→a.size+24 * linesOf n≤1000000000→Ev (fun k=>notices k n (L a)) (n.foldl groupT a)
 | [],a,_,_=>by
  simp only [notices,List.foldl_nil]
  exact Ev.now _
 | g :: r,a,h,hs=>by
  obtain ⟨hg,hl,hl2⟩:=h g List.mem_cons_self
  obtain ⟨_,_,w0,w1,_⟩:=groupOk_parts hg
  have hz:=group_size a hg
  have ht:=group_text a g w0 w1
  have hlen:=glines_len g
  have hL:linesOf (g :: r)=(g.f0.length+g.f1.length+1)+linesOf r:=by unfold linesOf;rw [List.map_cons,List.sum_cons]
  have next:=notices_ev r (groupT a g) (fun x hx=>h x (List.mem_cons_of_mem _ hx)) (by omega)
  have hq:(L a++linesB (glines g)).length≤140737488355328:=by rw [← ht,L_size];omega
  simp only [notices,List.foldl_cons]
  refine Ev.bind (gl_ev g hl hl2) ?_
  simp only [lines_small g hg,hq,show (glines g).length≤1000000000 from by omega,and_self,if_true]
  rw [← ht]
  exact next
theorem noticeT_impl (n:List Gp) (hn:Smi n):Ev (fun k=>impl_NoticeText.f k n) (noticeT n):=by
 have hf:=hn.few
 unfold impl_NoticeText.f noticeT
 simp only [show n.length≤1000000000 from by omega,if_true]
 refine Ev.bind (impl_noticeOk n hn) ?_
 by_cases h:noticeOk n=true
 ·simp only [h,if_true]
  unfold noticeOk at h
  rw [Bool.and_eq_true,decide_eq_true_eq] at h
  have h0:(⟨#[]⟩:ByteArray).size=0:=rfl
  exact notices_ev n ⟨#[]⟩ (fun g hg=>⟨List.all_eq_true.1 h.1 g hg,(hn.names g hg).1,hn.rules g hg⟩) (by omega)
 ·simp only [h,Bool.false_eq_true,if_false];exact Ev.now _
end Go.Proofs.YtfpngfkepeoboaaDoor.Nt
end
section
namespace Go.Proofs.YtfpngfkepeoboaaDoor.Nb
open Go.RowKit Go.Proofs.YtfpngfkepeoboaaDoor.P Go.Proofs.YtfpngfkepeoboaaDoorW.PrintWords Go.Proofs.YtfpngfkepeoboaaDoorW.PrintLast Go.Proofs.YtfpngfkepeoboaaDoorW.PrintMore Go.Proofs.YtfpngfkepeoboaaDoor.B Go.Proofs.YtfpngfkepeoboaaDoor.Ad
set_option linter.unusedVariables false
set_option linter.unusedSimpArgs false
abbrev Gb:=S40
abbrev Rb:=S51
def fl (ws:List (List UInt8)):List UInt8:=(ws.map fun w=>w++[10]).flatten
theorem fl_app (a b:List (List UInt8)):fl (a++b)=fl a++fl b:=by simp [fl]
theorem fl_one (w:List UInt8):fl [w]=w++[10]:=by simp [fl]
theorem cut_at (c:UInt8):∀ (w r:List UInt8),c ∉ w→cutL c (w++c :: r)=(w,r,true)
 | [],r,_=>by simp [cutL]
 | x :: w,r,h=>by
  have h1:x≠c:=fun e=>h (by rw [e];exact List.mem_cons_self)
  have h2:=cut_at c w r (fun e=>h (List.mem_cons_of_mem _ e))
  rw [List.cons_append]
  unfold cutL
  rw [if_neg h1,h2]
theorem split_fl:∀ ws:List (List UInt8),(∀ w ∈ ws,(10:UInt8) ∉ w)→splitL 10 (fl ws)=ws++[[]]
 | [],_=>rfl
 | w :: r,h=>by
  have ih:=split_fl r (fun x hx=>h x (List.mem_cons_of_mem _ hx))
  have e:fl (w :: r)=w++10 :: fl r:=by simp [fl]
  have hc:=cut_at 10 w (fl r) (h w List.mem_cons_self)
  rw [e,splitL_eq,hc]
  simp only [if_true]
  rw [ih,List.cons_append]
def callerW:List UInt8:=[99,97,108,108,101,114]
def letW:List UInt8:=[108,101,116]
def barW:List UInt8:=[98,97,114]
def waitW:List UInt8:=[119,97,105,116]
def nameL (s:ByteArray):List UInt8:=callerW++32 :: L s
def ruleL (r:Rb):List UInt8:=(if r.f0=true then letW else barW)++32 :: L r.f1
def waitL (w:Int):List (List UInt8):=if w > 0 then [waitW++32 :: L (Nt.decB w.toNat)] else []
def groupL (g:Gb):List (List UInt8):=g.f0.map nameL++(g.f1.map ruleL++waitL g.f2)
theorem names_fl:∀ (ns:List ByteArray) (a:ByteArray),L (ns.foldl Nt.nameT a)=L a++fl (ns.map nameL)
 | [],a=>by simp [fl]
 | s :: r,a=>by
  rw [List.foldl_cons,names_fl r,List.map_cons,show nameL s :: r.map nameL=[nameL s]++r.map nameL from rfl,fl_app,fl_one]
  unfold Nt.nameT nameL callerW
  simp only [L_app,List.append_assoc]
  rfl
theorem rules_fl:∀ (rs:List Rb) (a:ByteArray),L (rs.foldl Nt.ruleT a)=L a++fl (rs.map ruleL)
 | [],a=>by simp [fl]
 | s :: r,a=>by
  rw [List.foldl_cons,rules_fl r,List.map_cons,show ruleL s :: r.map ruleL=[ruleL s]++r.map ruleL from rfl,fl_app,fl_one]
  obtain ⟨b,p⟩:=s
  unfold Nt.ruleT ruleL letW barW
  cases b <;> (simp only [L_app,List.append_assoc,if_true,Bool.false_eq_true,if_false];rfl)
theorem wait_fl (a:ByteArray) (w:Int):L (Nt.waitT a w)=L a++fl (waitL w):=by
 unfold Nt.waitT waitL waitW
 by_cases h:w > 0
 ·simp only [h,if_true,L_app,List.append_assoc,fl_one]
  rfl
 ·simp only [h,if_false,fl,List.map_nil,List.flatten_nil,List.append_nil]
theorem group_fl (a:ByteArray) (g:Gb):L (Nt.groupT a g)=L a++fl (groupL g):=by
 unfold Nt.groupT groupL
 rw [wait_fl,rules_fl,names_fl,fl_app,fl_app]
 simp only [List.append_assoc]
theorem groups_fl:∀ (n:List Gb) (a:ByteArray),L (n.foldl Nt.groupT a)=L a++fl (n.map groupL).flatten
 | [],a=>by simp [fl]
 | g :: r,a=>by
  rw [List.foldl_cons,groups_fl r,group_fl,List.map_cons,List.flatten_cons,fl_app,List.append_assoc]
theorem small_no (s:ByteArray):∀ (d i:Nat),i+d=s.size→smallFrom s d i=true→∀ j,i≤j→(h:j < (L s).length)→(L s)[j]≠10
 | 0,i,hi,_,j,hj,h=>by rw [L_size] at h;omega
 | d+1,i,hi,hs,j,hj,h=>by
  unfold smallFrom at hs
  by_cases h1:bt s i < 97
  ·rw [if_pos h1] at hs;cases hs
  ·rw [if_neg h1] at hs
   by_cases h2:bt s i > 122
   ·rw [if_pos h2] at hs;cases hs
   ·rw [if_neg h2] at hs
    rcases Nat.lt_or_ge i j with hij|hij
    ·exact small_no s d (i+1) (by omega) hs j (by omega) h
    ·obtain rfl:j=i:=by omega
     intro e
     rw [bt_get s j h,e] at h1
     exact h1 (by decide)
theorem name_no {s:ByteArray} (h:Nt.gname s=true):(10:UInt8) ∉ L s:=by
 unfold Nt.gname at h
 rcases (Bool.or_eq_true _ _).mp h with h|h
 ·have e:=beq_iff_eq.1 h
  rw [Lib.toList_data] at e
  rw [show L s=[42] from e]
  decide
 ·unfold isName isSmall at h
  simp only [Bool.and_eq_true] at h
  intro hm
  obtain ⟨j,hj,e⟩:=List.mem_iff_getElem.1 hm
  exact small_no s s.size 0 (by omega) h.2 j (Nat.zero_le _) hj e
theorem ok_no:∀ l:List UInt8,okL l=true→(10:UInt8) ∉ l
 | [],_=>by simp
 | c :: r,h=>by
  unfold okL at h
  rw [Bool.and_eq_true] at h
  intro hm
  rcases List.mem_cons.1 hm with e|hm
  ·rw [← e] at h
   have:(patB 10 || ((10:UInt8) == 36 && r.isEmpty))=false:=by cases r.isEmpty <;> decide
   rw [this] at h
   cases h.1
  ·exact ok_no r h.2 hm
theorem rule_no {s:ByteArray} (h:ruleOk s=true):(10:UInt8) ∉ L s:=by
 unfold ruleOk at h
 simp only [Bool.and_eq_true] at h
 exact ok_no _ h.2
theorem dec_no:∀ n:Nat,n < 100→(10:UInt8) ∉ L (Nt.decB n):=by decide +kernel
theorem dec_back:∀ n:Nat,n < 21→Rn.numP (Nt.decB n)=(n:Int):=by decide +kernel
theorem lines_no {g:Gb} (h:Nt.groupOk g=true):∀ w ∈ groupL g,(10:UInt8) ∉ w:=by
 obtain ⟨h1,h2,w0,w1,_⟩:=Nt.groupOk_parts h
 intro w hw
 unfold groupL at hw
 rcases List.mem_append.1 hw with hw|hw
 ·obtain ⟨s,hs,rfl⟩:=List.mem_map.1 hw
  have:=name_no (List.all_eq_true.1 h1 s hs)
  unfold nameL callerW
  intro hm
  rcases List.mem_append.1 hm with hm|hm
  ·exact absurd hm (by decide)
  ·rcases List.mem_cons.1 hm with e|hm
   ·exact absurd e (by decide)
   ·exact this hm
 ·rcases List.mem_append.1 hw with hw|hw
  ·obtain ⟨r,hr,rfl⟩:=List.mem_map.1 hw
   have:=rule_no (List.all_eq_true.1 h2 r hr)
   unfold ruleL letW barW
   intro hm
   rcases List.mem_append.1 hm with hm|hm
   ·revert hm;cases r.f0 <;> decide
   ·rcases List.mem_cons.1 hm with e|hm
    ·exact absurd e (by decide)
    ·exact this hm
  ·unfold waitL at hw
   by_cases hp:g.f2 > 0
   ·rw [if_pos hp,List.mem_singleton] at hw
    subst hw
    have:=dec_no g.f2.toNat (by omega)
    unfold waitW
    intro hm
    rcases List.mem_append.1 hm with hm|hm
    ·exact absurd hm (by decide)
    ·rcases List.mem_cons.1 hm with e|hm
     ·exact absurd e (by decide)
     ·exact this hm
   ·rw [if_neg hp] at hw;cases hw
theorem toL (l:List UInt8):(ofL l).toList=l:=by rw [Lib.toList_data]
theorem line_of {w:List UInt8} (h:(32:UInt8) ∉ w) (s:ByteArray):Rn.lineRL (ofL (w++32 :: L s))=Rn.wordRL (ofL w) s:=by
 unfold Rn.lineRL cutB
 rw [L_of,cut_at 32 w (L s) h]
theorem name_line {s:ByteArray} (h:Nt.gname s=true):Rn.lineRL (ofL (nameL s))=some (.caller s):=by
 unfold nameL
 rw [line_of (by decide)]
 unfold Rn.wordRL
 rw [toL]
 have h2:Nn.gname s=true:=h
 simp only [callerW,h2,if_true]
theorem rule_line {r:Rb} (h:ruleOk r.f1=true):Rn.lineRL (ofL (ruleL r))=some (.rule r.f0 r.f1):=by
 obtain ⟨b,p⟩:=r
 simp only at h
 unfold ruleL
 cases b with
 | true=>
  simp only [if_true]
  rw [line_of (by decide)]
  unfold Rn.wordRL
  rw [toL]
  rw [if_neg (by decide),if_pos (by decide),if_pos h]
 | false=>
  simp only [Bool.false_eq_true,if_false]
  rw [line_of (by decide)]
  unfold Rn.wordRL
  rw [toL]
  rw [if_neg (by decide),if_neg (by decide),if_pos (by decide),if_pos h]
theorem wait_line {w:Int} (h0:0 < w) (h1:w≤20):Rn.lineRL (ofL (waitW++32 :: L (Nt.decB w.toNat)))=some (.wait w):=by
 rw [line_of (by decide)]
 unfold Rn.wordRL
 rw [toL]
 rw [if_neg (by decide),if_neg (by decide),if_neg (by decide),if_pos (by decide),dec_back w.toNat (by omega),Int.toNat_of_nonneg (by omega)]
theorem set_last (gs:List Gb) (x y:Gb):(gs++[x]).set ((gs++[x]).length - 1) y=gs++[y]:=by
 rw [List.length_append,List.length_singleton,Nat.add_sub_cancel,List.set_append_right _ _ (Nat.le_refl _),Nat.sub_self]
 rfl
theorem len_ne (gs:List Gb) (x:Gb):¬ (gs++[x]).length=0:=by simp
theorem read_names:∀ (ns pre:List ByteArray) (gs:List Gb) (R:List ByteArray),ns.all Nt.gname=true →
  Rn.readRL ((ns.map fun s=>ofL (nameL s))++R) (gs++[⟨pre,[],0⟩]) false=Rn.readRL R (gs++[⟨pre++ns,[],0⟩]) false
 | [],pre,gs,R,_=>by simp
 | s :: r,pre,gs,R,h=>by
  rw [List.all_cons,Bool.and_eq_true] at h
  rw [List.map_cons,List.cons_append]
  simp only [Rn.readRL,name_line h.1,Rn.stepRL,takeF]
  rw [if_neg (by simp),Rn.last_app,set_last]
  simp only
  rw [read_names r (pre++[s]) gs R h.2,List.append_assoc]
  rfl
theorem read_rules:∀ (rs pre:List Rb) (ns:List ByteArray) (gs:List Gb) (b:Bool) (R:List ByteArray),(rs.all fun r=>ruleOk r.f1)=true→pre.length+rs.length≤6 →
  Rn.readRL ((rs.map fun r=>ofL (ruleL r))++R) (gs++[⟨ns,pre,0⟩]) b=Rn.readRL R (gs++[⟨ns,pre++rs,0⟩]) (b || !rs.isEmpty)
 | [],pre,ns,gs,b,R,_,_=>by simp
 | s :: r,pre,ns,gs,b,R,h,h6=>by
  rw [List.all_cons,Bool.and_eq_true] at h
  rw [List.length_cons] at h6
  rw [List.map_cons,List.cons_append]
  simp only [Rn.readRL,rule_line h.1,Rn.stepRL,takeF]
  rw [if_neg (len_ne _ _),Rn.last_app,set_last]
  simp only [show pre.length < 6 from by omega,if_true]
  rw [read_rules r (pre++[s]) ns gs true R h.2 (by rw [List.length_append,List.length_singleton];omega),List.append_assoc]
  simp
theorem read_group (g:Gb) (h:Nt.groupOk g=true) (gs:List Gb) (b:Bool) (hb:b=true∨gs.length=0) (R:List ByteArray) :
  Rn.readRL ((groupL g).map ofL++R) gs b=Rn.readRL R (gs++[g]) true:=by
 obtain ⟨h1,h2,w0,w1,hn,hrw,h6⟩:=Nt.groupOk_parts h
 obtain ⟨ns,rs,w⟩:=g
 simp only at h1 h2 w0 w1 hn hrw h6
 unfold groupL
 simp only [List.map_append,List.map_map,List.append_assoc]
 cases ns with
 | nil=>exact absurd rfl hn
 | cons s ns=>
  rw [List.all_cons,Bool.and_eq_true] at h1
  rw [List.map_cons,List.cons_append]
  simp only [Function.comp_apply,Rn.readRL,name_line h1.1,Rn.stepRL,takeF,hb,if_true]
  have e1:=read_names ns [s] gs (rs.map (ofL ∘ ruleL)++((waitL w).map ofL++R)) h1.2
  have e2:=read_rules rs [] (s :: ns) gs false ((waitL w).map ofL++R) h2 (by simpa using h6)
  rw [show (ofL ∘ nameL)=(fun s=>ofL (nameL s)) from rfl,e1,show (ofL ∘ ruleL)=(fun r=>ofL (ruleL r)) from rfl,List.singleton_append,e2,List.nil_append,Bool.false_or]
  unfold waitL
  by_cases hw:w > 0
  ·rw [if_pos hw,List.map_cons,List.map_nil,List.singleton_append]
   simp only [Rn.readRL,wait_line hw w1,Rn.stepRL,takeF]
   rw [if_neg (len_ne _ _),Rn.last_app,set_last]
  ·rw [if_neg hw,List.map_nil,List.nil_append]
   have e0:w=0:=by omega
   subst e0
   have:rs.isEmpty=false:=by
    cases rs with
    | nil=>simp at hrw
    | cons _ _=>rfl
   rw [this]
   rfl
theorem read_all:∀ (n gs:List Gb) (b:Bool) (R:List ByteArray),n.all Nt.groupOk=true→(b=true∨gs.length=0) →
  ∃ b',Rn.readRL (((n.map groupL).flatten).map ofL++R) gs b=Rn.readRL R (gs++n) b'
 | [],gs,b,R,_,_=>⟨b,by simp⟩
 | g :: r,gs,b,R,h,hb=>by
  rw [List.all_cons,Bool.and_eq_true] at h
  obtain ⟨b',e⟩:=read_all r (gs++[g]) true R h.2 (.inl rfl)
  refine ⟨b',?_⟩
  rw [List.map_cons,List.flatten_cons,List.map_append,List.append_assoc,read_group g h.1 gs b hb,e,List.append_assoc]
  rfl
theorem len_group (g:Gb):(groupL g).length≤g.f0.length+g.f1.length+1:=by
 unfold groupL waitL
 split <;> simp <;> omega
theorem len_all:∀ n:List Gb,((n.map groupL).flatten).length≤Nt.linesOf n
 | []=>by simp [Nt.linesOf]
 | g :: r=>by
  have:=len_all r
  have h2:=len_group g
  rw [List.map_cons,List.flatten_cons,List.length_append]
  simp only [Nt.linesOf,List.map_cons,List.sum_cons] at this ⊢
  omega
theorem n_empty:Rn.lineRL (ofL [])=none:=Option.isNone_iff_eq_none.1 (by decide +kernel)
theorem back (n:List Gb) (h:Nt.noticeOk n=true):Rn.noticeOf (Nt.noticeT n)=n:=by
 have hk:=h
 unfold Nt.noticeOk at h
 rw [Bool.and_eq_true,decide_eq_true_eq] at h
 have hl:=len_all n
 have ht:L (Nt.noticeT n)=fl (n.map groupL).flatten:=by
  unfold Nt.noticeT
  rw [if_pos hk,groups_fl]
  rfl
 have hno:∀ w ∈ (n.map groupL).flatten,(10:UInt8) ∉ w:=by
  intro w hw
  obtain ⟨l,hl,hw⟩:=List.mem_flatten.1 hw
  obtain ⟨g,hg,rfl⟩:=List.mem_map.1 hl
  exact lines_no (List.all_eq_true.1 h.1 g hg) w hw
 unfold Rn.noticeOf Rn.linesOfT
 rw [ht,split_fl _ hno,List.map_append,List.map_cons,List.map_nil]
 obtain ⟨b0,e0⟩:=read_all n [] false [] h.1 (.inr rfl)
 obtain ⟨b1,e1⟩:=read_all n [] false [ofL []] h.1 (.inr rfl)
 rw [List.append_nil,List.nil_append] at e0
 rcases Nat.lt_or_ge ((n.map groupL).flatten).length 40 with hlt|hge
 ·rw [List.take_of_length_le (by rw [List.length_append,List.length_map,List.length_singleton];omega),e1,List.nil_append]
  simp only [Rn.readRL,n_empty,Rn.stepRL]
 ·rw [List.take_append_of_le_length (by rw [List.length_map];omega),List.take_of_length_le (by rw [List.length_map];omega),e0]
  simp only [Rn.readRL]
end Go.Proofs.YtfpngfkepeoboaaDoor.Nb
end
section
namespace Go.Proofs.YtfpngfkepeoboaaDoor.Lpn
open Go.RowKit Go.Proofs.YtfpngfkepeoboaaDoor.P Go.Proofs.YtfpngfkepeoboaaDoorW.PrintWords Go.Proofs.YtfpngfkepeoboaaDoorW.PrintLast Go.Proofs.YtfpngfkepeoboaaDoorW.PrintMore Go.Proofs.YtfpngfkepeoboaaDoor.B
set_option linter.unusedVariables false
set_option linter.unusedSimpArgs false
abbrev Gq:=S40
abbrev Rq:=S51
theorem nn (i:Nat):(0:Int)≤(i:Int):=by omega
theorem rd_gq {l:List Gq} {i:Nat} (h:i < l.length):rd_T40 l (i:Int)=l[i]:=by
 simp [rd_T40,List.getD,List.getElem?_eq_getElem h]
theorem lpT_l (l:List ByteArray) (hl:l.length≤1048576) (d:Nat):∀ (i:Nat),i+d=l.length→Ev (fun k=>laws_lpTexts.l0 k l l (i:Int)) true:=by
 induction d with
 | zero=>
  intro i hi
  refine Ev_succ ?_
  simp only [laws_lpTexts.l0,show ¬ ((i:Int) < (l.length:Int)) from by omega,if_false]
  exact Ev.now _
 | succ d ih=>
  intro i hi
  have w1:wrap64 ((i:Int)+1)=((i+1:Nat):Int):=by rw [w64 (by omega) (by omega)];rfl
  refine Ev_succ ?_
  simp only [laws_lpTexts.l0,show (i:Int) < (l.length:Int) from by omega,nn i,if_true,ne_eq,not_true,bne_self_eq_false,Bool.false_eq_true,if_false]
  rw [w1]
  exact ih (i+1) (by omega)
theorem lpT_ev (l:List ByteArray) (hl:l.length≤1048576):Ev (fun k=>laws_lpTexts.f k l l) true:=by
 unfold laws_lpTexts.f
 simp only [if_true]
 exact lpT_l l hl l.length 0 (by omega)
theorem lpR_l (l:List Rq) (hl:l.length≤1048576) (d:Nat):∀ (i:Nat),i+d=l.length→Ev (fun k=>laws_lpRules.l0 k l l (i:Int)) true:=by
 induction d with
 | zero=>
  intro i hi
  refine Ev_succ ?_
  simp only [laws_lpRules.l0,show ¬ ((i:Int) < (l.length:Int)) from by omega,if_false]
  exact Ev.now _
 | succ d ih=>
  intro i hi
  have w1:wrap64 ((i:Int)+1)=((i+1:Nat):Int):=by rw [w64 (by omega) (by omega)];rfl
  refine Ev_succ ?_
  simp only [laws_lpRules.l0,show (i:Int) < (l.length:Int) from by omega,nn i,if_true,beq_self_eq_true,Bool.not_true,Bool.or_self,Bool.false_eq_true,if_false]
  rw [w1]
  exact ih (i+1) (by omega)
theorem lpR_ev (l:List Rq) (hl:l.length≤1048576):Ev (fun k=>laws_lpRules.f k l l) true:=by
 unfold laws_lpRules.f
 simp only [if_true]
 exact lpR_l l hl l.length 0 (by omega)
theorem lpG_l (l:List Gq) (hl:l.length≤1048576) (hs:∀ g ∈ l,g.f0.length≤1048576∧g.f1.length≤1048576) (d:Nat):∀ (i:Nat),i+d=l.length→Ev (fun k=>laws_lpGroups.l0 k l l (i:Int)) true:=by
 induction d with
 | zero=>
  intro i hi
  refine Ev_succ ?_
  simp only [laws_lpGroups.l0,show ¬ ((i:Int) < (l.length:Int)) from by omega,if_false]
  exact Ev.now _
 | succ d ih=>
  intro i hi
  have hlt:i < l.length:=by omega
  obtain ⟨s0,s1⟩:=hs _ (List.getElem_mem hlt)
  have w1:wrap64 ((i:Int)+1)=((i+1:Nat):Int):=by rw [w64 (by omega) (by omega)];rfl
  have next:=ih (i+1) (by omega)
  refine Ev_succ ?_
  simp only [laws_lpGroups.l0,show (i:Int) < (l.length:Int) from by omega,nn i,if_true,rd_gq hlt]
  rw [w1]
  refine Ev.bind (a:=true) ?_ ?_
  ·unfold laws_lpGroup.f
   simp only [if_true]
   refine Ev.bind (lpT_ev _ s0) ?_
   simp only [if_true]
   refine Ev.bind (lpR_ev _ s1) ?_
   exact Ev.now _
  ·simp only [if_true]
   exact next
theorem lpG_ev (l:List Gq) (hl:l.length≤1048576) (hs:∀ g ∈ l,g.f0.length≤1048576∧g.f1.length≤1048576):Ev (fun k=>laws_lpGroups.f k l l) true:=by
 unfold laws_lpGroups.f
 simp only [if_true]
 exact lpG_l l hl hs l.length 0 (by omega)
end Go.Proofs.YtfpngfkepeoboaaDoor.Lpn
end
section
namespace Go.Proofs.YtfpngfkepeoboaaDoor.Draw
open Go.RowKit Go.Proofs.YtfpngfkepeoboaaDoor.P Go.Proofs.YtfpngfkepeoboaaDoorW.PrintWords Go.Proofs.YtfpngfkepeoboaaDoorW.PrintLast Go.Proofs.YtfpngfkepeoboaaDoorW.PrintMore Go.Proofs.YtfpngfkepeoboaaDoor.B
set_option linter.unusedVariables false
set_option linter.unusedSimpArgs false
structure Code (b:List Int):Prop where
 byte:∀ x ∈ b,0≤x∧x≤255
 short:b.length≤2000
theorem open_some (l0:List Int) (hw:∀ x ∈ l0,(Lit.int .u8 x).wf=true):∃ b,spec_l6Open.f l0=some (b,0)∧Code b:=by
 unfold spec_l6Open.f
 by_cases h:(l0.length:Int) > 2000
 ·rw [if_pos h,if_pos (by omega)]
  exact ⟨_,rfl,fun x hx=>wf_u8 (hw x (List.mem_of_mem_take hx)),by rw [List.length_take];omega⟩
 ·rw [if_neg h]
  exact ⟨_,rfl,fun x hx=>wf_u8 (hw x hx),by omega⟩
theorem pick_one {b:List Int} (hc:Code b) (k:Nat) (p n:Int) (hp:0≤p) (hp2:p≤1000000000000) :
  ∃ v,spec_l6Rd_pick.f (k+1) b p n=some (v,p+1)∧0≤v∧(1≤n→v < n):=by
 have hl:=hc.short
 have e1:wrap64 (p+1)=p+1:=w64 (by omega) (by omega)
 have e2:wrap64 (p+1 - 1)=p:=by rw [w64 (by omega) (by omega)];omega
 unfold spec_l6Rd_pick.f
 rw [e1]
 by_cases h1:n < 1
 ·rw [if_pos h1]
  exact ⟨0,by simp [spec_l6Rd_pick.j0],by omega,by omega⟩
 ·rw [if_neg h1]
  simp only [spec_l6Rd_pick.j0,e2]
  by_cases h2:(b.length:Int)=0
  ·rw [if_pos (by simpa using h2)]
   exact ⟨0,rfl,by omega,by omega⟩
  ·rw [if_neg (by simpa using h2)]
   by_cases h3:p < (b.length:Int)
   ·rw [if_pos h3,if_pos hp,if_neg (by omega)]
    have hr:=rd_byte hc.byte p
    rw [w64 (by omega) (by omega)]
    exact ⟨_,rfl,(tmod_nn hr.1 (by omega)).1,fun _=>(tmod_nn hr.1 (by omega)).2⟩
   ·rw [if_neg h3,if_neg h2]
    have hq:=tmod_nn (a:=p) (b:=(b.length:Int)) hp (by omega)
    have ew1:wrap64 (p * 7)=p * 7:=w64 (by omega) (by omega)
    have ew2:wrap64 (p * 7+3)=p * 7+3:=w64 (by omega) (by omega)
    have hq2:=tmod_nn (a:=p * 7+3) (b:=(b.length:Int)) (by omega) (by omega)
    rw [if_pos hq.1,if_pos hq.2,ew1,ew2,if_pos hq2.1,if_pos hq2.2,if_neg (by omega)]
    have r1:=rd_byte hc.byte (Int.tmod p (b.length:Int))
    have r2:=rd_byte hc.byte (Int.tmod (p * 7+3) (b.length:Int))
    generalize rd b (Int.tmod p (b.length:Int))=a1 at r1 ⊢
    generalize rd b (Int.tmod (p * 7+3) (b.length:Int))=a2 at r2 ⊢
    have r3:=tdiv_nn (a:=p) (b:=(b.length:Int)) hp (by omega)
    generalize Int.tdiv p (b.length:Int)=q at r3 ⊢
    have s1:wrap64 a1=a1:=w64 (by omega) (by omega)
    have s2:wrap64 a2=a2:=w64 (by omega) (by omega)
    have s3:wrap64 (a1 * 131)=a1 * 131:=w64 (by omega) (by omega)
    have s4:wrap64 (a2 * 1117)=a2 * 1117:=w64 (by omega) (by omega)
    have s5:wrap64 (p * 29)=p * 29:=w64 (by omega) (by omega)
    have s6:wrap64 q=q:=w64 (by omega) (by omega)
    have s7:wrap64 (q * 53)=q * 53:=w64 (by omega) (by omega)
    have s8:wrap64 (a1 * 131+a2 * 1117)=a1 * 131+a2 * 1117:=w64 (by omega) (by omega)
    have s9:wrap64 (a1 * 131+a2 * 1117+p * 29)=a1 * 131+a2 * 1117+p * 29:=w64 (by omega) (by omega)
    have s10:wrap64 (a1 * 131+a2 * 1117+p * 29+q * 53)=a1 * 131+a2 * 1117+p * 29+q * 53:=w64 (by omega) (by omega)
    simp only [s1,s2,s3,s4,s5,s6,s7,s8,s9,s10]
    have hX0:0≤a1 * 131+a2 * 1117+p * 29+q * 53:=by omega
    have hX1:a1 * 131+a2 * 1117+p * 29+q * 53 < 2 ^ 62:=by omega
    generalize a1 * 131+a2 * 1117+p * 29+q * 53=X at hX0 hX1 ⊢
    have d:=tdiv_nn (a:=X) (b:=64) hX0 (by omega)
    have s11:wrap64 (Int.tdiv X 64)=Int.tdiv X 64:=w64 (by omega) (by omega)
    rw [s11]
    have z:=xor_nn hX0 hX1 d.1 (by omega)
    exact ⟨_,rfl,(tmod_nn z.1 (by omega)).1,fun _=>(tmod_nn z.1 (by omega)).2⟩
theorem pick_ev {b:List Int} (hc:Code b) (p n:Int) (hp:0≤p) (hp2:p≤1000000000000) :
  ∃ v,Ev (fun k=>spec_l6Rd_pick.f k b p n) (v,p+1)∧0≤v∧(1≤n→v < n):=by
 obtain ⟨v,h,h0,h1⟩:=pick_one hc 0 p n hp hp2
 exact ⟨v,Ev.of (fun k=>spec_l6Rd_pick.mono _ _ _ k) h,h0,h1⟩
theorem of_ev {b:List Int} (hc:Code b) (p:Int) (l:List ByteArray) (hl:l≠[]) (hl2:(l.length:Int) < 1000000) (hp:0≤p) (hp2:p≤1000000000000) :
  ∃ s,Ev (fun k=>spec_l6Rd_of.f k b p l) (s,p+1)∧s ∈ l:=by
 have hpos:0 < l.length:=List.length_pos_iff.2 hl
 obtain ⟨v,h,h0,h1⟩:=pick_ev hc p (l.length:Int) hp hp2
 have hv:=h1 (by omega)
 refine ⟨rdOf ByteArray.empty l v,Ev.bind h ?_,?_⟩
 ·simp only [h0,hv,if_true]
  exact Ev.now _
 ·unfold rdOf
  have hlt:v.toNat < l.length:=by omega
  rw [List.getD_eq_getElem?_getD,List.getElem?_eq_getElem hlt]
  exact List.getElem_mem hlt
theorem of_sz {b:List Int} (hc:Code b) (p:Int) (l:List ByteArray) (N:Nat) (hp:0≤p) (hp2:p≤1000000000000)
  (hl:decide (0 < l.length∧l.length < 1000000)=true) (hN:(l.all fun s=>decide (s.size≤N))=true) :
  ∃ s,Ev (fun k=>spec_l6Rd_of.f k b p l) (s,p+1)∧s.size≤N:=by
 have h:=of_decide_eq_true hl
 obtain ⟨s,h1,h2⟩:=of_ev hc p l (List.length_pos_iff.1 h.1) (by omega) hp hp2
 exact ⟨s,h1,of_decide_eq_true (List.all_eq_true.1 hN s h2)⟩
end Go.Proofs.YtfpngfkepeoboaaDoor.Draw
end
section
namespace Go.Proofs.YtfpngfkepeoboaaDoor.Draw
open Go.RowKit Go.Proofs.YtfpngfkepeoboaaDoor.P Go.Proofs.YtfpngfkepeoboaaDoorW.PrintWords Go.Proofs.YtfpngfkepeoboaaDoorW.PrintLast Go.Proofs.YtfpngfkepeoboaaDoorW.PrintMore Go.Proofs.YtfpngfkepeoboaaDoor.B Go.Proofs.YtfpngfkepeoboaaDoor.Ad
set_option linter.unusedVariables false
set_option linter.unusedSimpArgs false
abbrev SRd:=S51
theorem rule_ev {b:List Int} (hc:Code b) (p:Int) (h0:0≤p) (h1:p≤10000000000):∃ s,Ev (fun k=>spec_l71Rule.f k b p) (s,p+1)∧s.size≤7:=by
 obtain ⟨s,hs,hz⟩:=of_sz hc p (([(⟨#[47]⟩:ByteArray),(⟨#[47,97]⟩:ByteArray),(⟨#[47,98]⟩:ByteArray),(⟨#[47,97,47]⟩:ByteArray),(⟨#[47,42,98]⟩:ByteArray),(⟨#[47,97,36]⟩:ByteArray),(⟨#[47,99]⟩:ByteArray),(⟨#[47,42,63]⟩:ByteArray),(⟨#[47,97,47,98]⟩:ByteArray),(⟨#[47,42,47,98,36]⟩:ByteArray),(⟨#[47,36]⟩:ByteArray),(⟨#[47,98,42,99]⟩:ByteArray),(⟨#[47,110,111,116,105,99,101]⟩:ByteArray),(⟨#[47,42]⟩:ByteArray)]:List ByteArray)) 7 h0 (by omega) (by decide) (by decide)
 exact ⟨s,Ev.bind hs (Ev.now _),hz⟩
theorem rules_l {b:List Int} (hc:Code b) (d:Nat):∀ (p:Int) (rs:List SRd),0≤p→p+2 * d≤10000000000→rs.length+d≤1000→(∀ r ∈ rs,r.f1.size≤7) →
  ∃ x p',Ev (fun k=>spec_l71Rules.l0 k rs (d:Int) b p) (x,p')∧x.length≤rs.length+d∧(∀ r ∈ x,r.f1.size≤7)∧p≤p'∧p'≤p+2 * d:=by
 induction d with
 | zero=>
  intro p rs h0 h1 h2 h3
  refine ⟨rs,p,Ev_succ ?_,by omega,h3,by omega,by omega⟩
  have n1:¬ (((0:Nat):Int) > 0):=by omega
  simp only [spec_l71Rules.l0,n1,if_false]
  exact Ev.now _
 | succ d ih=>
  intro p rs h0 h1 h2 h3
  obtain ⟨v,hv,_,_⟩:=pick_ev hc p 2 h0 (by omega)
  obtain ⟨s,hs,hz⟩:=rule_ev hc (p+1) (by omega) (by omega)
  obtain ⟨x,p',hx,g1,g2,g3,g4⟩:=ih (p+1+1) (rs++[⟨(v == 0),s⟩]) (by omega) (by omega) (by simp;omega) (fun r hr=>by
   rcases List.mem_append.1 hr with h|h
   ·exact h3 r h
   ·rw [List.mem_singleton.1 h];exact hz)
  refine ⟨x,p',Ev_succ ?_,by simp only [List.length_append,List.length_singleton] at g1;omega,g2,by omega,by omega⟩
  have n1:(((d+1:Nat):Int) > 0):=by omega
  have e1:wrap64 (((d+1:Nat):Int) - 1)=(d:Int):=by rw [w64 (by omega) (by omega)];omega
  have n2:rs.length < 5864062014805:=by omega
  simp only [spec_l71Rules.l0,n1,if_true,e1,n2]
  exact Ev.bind hv (Ev.bind hs hx)
theorem rules_ev {b:List Int} (hc:Code b) (p:Int) (h0:0≤p) (h1:p≤1000000000):∃ x p',Ev (fun k=>spec_l71Rules.f k b p) (x,p')∧x.length≤4∧(∀ r ∈ x,r.f1.size≤7)∧p≤p'∧p'≤p+20:=by
 obtain ⟨v,hv,v0,v1⟩:=pick_ev hc p 5 h0 (by omega)
 have v2:=v1 (by omega)
 obtain ⟨m,rfl⟩:=Int.eq_ofNat_of_zero_le v0
 obtain ⟨x,p',hx,g1,g2,g3,g4⟩:=rules_l hc m (p+1) [] (by omega) (by omega) (by simp;omega) (by simp)
 exact ⟨x,p',Ev.bind hv hx,by simp only [List.length_nil] at g1;omega,g2,by omega,by omega⟩
abbrev SGd:=S40
def Gd (g:SGd):Prop:=g.f0.length≤2∧(∀ n ∈ g.f0,n.size≤6)∧g.f1.length≤4∧(∀ r ∈ g.f1,r.f1.size≤7)∧0≤g.f2∧g.f2≤6
theorem gd_app {x:List SGd} {g:SGd} (h:∀ q ∈ x,Gd q) (hg:Gd g):∀ q ∈ x++[g],Gd q:=by
 intro q hq
 rcases List.mem_append.1 hq with hq|hq
 ·exact h q hq
 ·rw [List.mem_singleton.1 hq];exact hg
theorem groups_l {b:List Int} (hc:Code b) (d:Nat):∀ (p:Int) (x:List SGd),0≤p→p+100 * d+10≤100000000→x.length+d≤10→(∀ g ∈ x,Gd g) →
  ∃ y p',Ev (fun k=>spec_l71Groups.l0 k x (d:Int) b p) (y,p')∧y.length≤x.length+d+1∧(∀ g ∈ y,Gd g)∧p≤p'∧p'≤p+100 * d+10:=by
 induction d with
 | zero=>
  intro p x h0 h1 hl hx
  obtain ⟨v,hv,v0,v1⟩:=pick_ev hc p 24 h0 (by omega)
  have hl':x.length < 2513169434916:=by omega
  have n0:¬ (((0:Nat):Int) > 0):=by omega
  by_cases c0:v=0
  ·refine ⟨x++[⟨[(⟨#[120]⟩:ByteArray)],[],0⟩],p+1,Ev_succ ?_,by simp,gd_app hx ⟨by decide,by decide,by decide,by simp,by decide,by decide⟩,by omega,by omega⟩
   simp only [spec_l71Groups.l0,n0,if_false]
   refine Ev.bind hv ?_
   simp only [c0,if_true,hl']
   exact Ev.now _
  by_cases c1:v=1
  ·refine ⟨x++[⟨[],[],2⟩],p+1,Ev_succ ?_,by simp,gd_app hx ⟨by decide,by simp,by decide,by simp,by decide,by decide⟩,by omega,by omega⟩
   simp only [spec_l71Groups.l0,n0,if_false]
   refine Ev.bind hv ?_
   simp only [c0,c1,if_true,if_false,hl']
   exact Ev.now _
  by_cases c2:v=2
  ·refine ⟨x++[⟨[(⟨#[88]⟩:ByteArray)],[],2⟩],p+1,Ev_succ ?_,by simp,gd_app hx ⟨by decide,by decide,by decide,by simp,by decide,by decide⟩,by omega,by omega⟩
   simp only [spec_l71Groups.l0,n0,if_false]
   refine Ev.bind hv ?_
   simp only [c0,c1,c2,if_true,if_false,hl']
   exact Ev.now _
  ·refine ⟨x,p+1,Ev_succ ?_,by omega,hx,by omega,by omega⟩
   simp only [spec_l71Groups.l0,n0,if_false]
   refine Ev.bind hv ?_
   simp only [c0,c1,c2,if_false]
   exact Ev.now _
 | succ d ih=>
  intro p x h0 h1 hl hx
  have hl':x.length < 2513169434916:=by omega
  have n1:(((d+1:Nat):Int) > 0):=by omega
  have e1:wrap64 (((d+1:Nat):Int) - 1)=(d:Int):=by rw [w64 (by omega) (by omega)];omega
  obtain ⟨s,hs,hz⟩:=of_sz hc p ([(⟨#[42]⟩:ByteArray),(⟨#[114,111,118,101,114]⟩:ByteArray),(⟨#[115,99,111,117,116]⟩:ByteArray)]:List ByteArray) 6 h0 (by omega) (by decide) (by decide)
  obtain ⟨rs,p1,hr,r1,r2,a1,b1⟩:=rules_ev hc (p+1) (by omega) (by omega)
  obtain ⟨v,hv,v0,v1⟩:=pick_ev hc p1 4 (by omega) (by omega)
  obtain ⟨u,hu,u0,u1⟩:=pick_ev hc (p1+1) 3 (by omega) (by omega)
  obtain ⟨t,ht,t0,t1⟩:=pick_ev hc (p1+1+1) 4 (by omega) (by omega)
  have v2:=v1 (by omega)
  have u2:=u1 (by omega)
  have hm:0≤v * u∧v * u≤6:=by
   obtain rfl|rfl|rfl:u=0∨u=1∨u=2:=by omega
   all_goals omega
  have hw:wrap64 (v * u)=v * u:=w64 (by omega) (by omega)
  have tail:∀ (ns:List ByteArray) (q:Int),ns.length≤2→(∀ n ∈ ns,n.size≤6)→0≤q→q≤p+40 →
    ∃ y p',Ev (fun k=>if (rs.length:Int) > 0 then (if x.length < 2513169434916 then (spec_l71Groups.l0 k (x++[(⟨ns,rs,wrap64 (v * u)⟩:SGd)]) (wrap64 (((d+1:Nat):Int) - 1)) b q) else none) else (if wrap64 (v * u) > 0 then (if x.length < 2513169434916 then (spec_l71Groups.l0 k (x++[(⟨ns,rs,wrap64 (v * u)⟩:SGd)]) (wrap64 (((d+1:Nat):Int) - 1)) b q) else none) else (spec_l71Groups.l0 k x (wrap64 (((d+1:Nat):Int) - 1)) b q))) (y,p')∧y.length≤x.length+(d+1)+1∧(∀ g ∈ y,Gd g)∧q≤p'∧p'≤q+100 * d+10:=by
   intro ns q k1 k2 q0 q1
   rw [hw,e1]
   have hg:Gd ⟨ns,rs,v * u⟩:=⟨k1,k2,r1,r2,hm.1,hm.2⟩
   obtain ⟨y,p',g1,g2,g3,g4,g5⟩:=ih q (x++[⟨ns,rs,v * u⟩]) q0 (by omega) (by simp;omega) (gd_app hx hg)
   obtain ⟨y2,p2',f1,f2,f3,f4,f5⟩:=ih q x q0 (by omega) (by omega) hx
   rw [List.length_append,List.length_singleton] at g2
   by_cases c:(rs.length:Int) > 0
   ·refine ⟨y,p',?_,by omega,g3,g4,g5⟩
    simp only [c,if_true,hl']
    exact g1
   ·by_cases c2:v * u > 0
    ·refine ⟨y,p',?_,by omega,g3,g4,g5⟩
     simp only [c,c2,if_true,if_false,hl']
     exact g1
    ·refine ⟨y2,p2',?_,by omega,f3,f4,f5⟩
     simp only [c,c2,if_false]
     exact f1
  by_cases c:t=0
  ·obtain ⟨s2,hs2,hz2⟩:=of_sz hc (p1+1+1+1) ([(⟨#[42]⟩:ByteArray),(⟨#[114,111,118,101,114]⟩:ByteArray),(⟨#[120]⟩:ByteArray)]:List ByteArray) 6 (by omega) (by omega) (by decide) (by decide)
   obtain ⟨y,p',g1,g2,g3,g4,g5⟩:=tail [s,s2] (p1+1+1+1+1) (by simp) (by simp [hz,hz2]) (by omega) (by omega)
   refine ⟨y,p',Ev_succ ?_,g2,g3,by omega,by omega⟩
   simp only [spec_l71Groups.l0,n1,if_true]
   refine Ev.bind hs ?_
   simp only [Option.bind_some]
   refine Ev.bind hr (Ev.bind hv (Ev.bind hu (Ev.bind ht ?_)))
   simp only [c,if_true]
   refine Ev.bind hs2 ?_
   simp only [List.length_singleton,show (1:Nat) < 8796093022208 from by omega,if_true,Option.bind_some,List.singleton_append]
   exact g1
  ·obtain ⟨y,p',g1,g2,g3,g4,g5⟩:=tail [s] (p1+1+1+1) (by simp) (by simp [hz]) (by omega) (by omega)
   refine ⟨y,p',Ev_succ ?_,g2,g3,by omega,by omega⟩
   simp only [spec_l71Groups.l0,n1,if_true]
   refine Ev.bind hs ?_
   simp only [Option.bind_some]
   refine Ev.bind hr (Ev.bind hv (Ev.bind hu (Ev.bind ht ?_)))
   simp only [c,if_false]
   exact g1
theorem groups_ev {b:List Int} (hc:Code b) (p:Int) (h0:0≤p) (h1:p≤10000000):∃ y p',Ev (fun k=>spec_l71Groups.f k b p) (y,p')∧y.length≤4∧(∀ g ∈ y,Gd g)∧p≤p'∧p'≤p+400:=by
 obtain ⟨v,hv,v0,v1⟩:=pick_ev hc p 4 h0 (by omega)
 have v2:=v1 (by omega)
 obtain ⟨m,rfl⟩:=Int.eq_ofNat_of_zero_le v0
 obtain ⟨y,p',g1,g2,g3,g4,g5⟩:=groups_l hc m (p+1) [] (by omega) (by omega) (by simp;omega) (by simp)
 exact ⟨y,p',Ev.bind hv g1,by simp only [List.length_nil] at g2;omega,g3,by omega,by omega⟩
end Go.Proofs.YtfpngfkepeoboaaDoor.Draw
end
section
namespace Go.Proofs.YtfpngfkepeoboaaDoor.Draw
open Go.RowKit Go.Proofs.YtfpngfkepeoboaaDoor.P Go.Proofs.YtfpngfkepeoboaaDoorW.PrintWords Go.Proofs.YtfpngfkepeoboaaDoorW.PrintLast Go.Proofs.YtfpngfkepeoboaaDoorW.PrintMore Go.Proofs.YtfpngfkepeoboaaDoor.B
set_option linter.unusedVariables false
set_option linter.unusedSimpArgs false
theorem drawText_ev (l0:List Int) (hw:∀ x ∈ l0,(Lit.int .u8 x).wf=true):∃ n,Ev (fun k=>spec_DrawNoticeText.f k l0) n∧n.length≤4∧∀ g ∈ n,Gd g:=by
 obtain ⟨b,hb,hc⟩:=open_some l0 hw
 obtain ⟨y,p',hy,h1,h2,_⟩:=groups_ev hc 0 (by omega) (by omega)
 refine ⟨y,?_,h1,h2⟩
 unfold spec_DrawNoticeText.f
 rw [hb]
 simp only [Option.bind_some]
 exact Ev.bind hy (Ev.now _)
theorem smi_of {n:List SGd} (h1:n.length≤1000) (h2:∀ g ∈ n,Gd g):Nt.Smi n:=by
 refine ⟨⟨by omega,fun g hg=>?_,fun g hg=>?_⟩,fun g hg r hr=>?_⟩
 ·obtain ⟨a,b,_⟩:=h2 g hg
  exact ⟨by omega,fun s hs=>by have:=b s hs;omega⟩
 ·obtain ⟨_,_,c,_⟩:=h2 g hg
  omega
 ·obtain ⟨_,_,_,d,_⟩:=h2 g hg
  have:=d r hr
  omega
end Go.Proofs.YtfpngfkepeoboaaDoor.Draw
end
section
namespace Go.Proofs.YtfpngfkepeoboaaDoor.Pure
open Go.RowKit Go.Proofs.YtfpngfkepeoboaaDoor.P Go.Proofs.YtfpngfkepeoboaaDoorW.PrintWords Go.Proofs.YtfpngfkepeoboaaDoorW.PrintLast Go.Proofs.YtfpngfkepeoboaaDoorW.PrintMore Go.Proofs.YtfpngfkepeoboaaDoor.Draw Go.Proofs.YtfpngfkepeoboaaDoor.B
set_option linter.unusedSimpArgs false
set_option linter.unusedVariables false
theorem lines_app (a b:List SGd):Nt.linesOf (a++b)=Nt.linesOf a+Nt.linesOf b:=by simp [Nt.linesOf]
theorem ok_parts {a b:List SGd} (h:Nt.noticeOk (a++b)=true):Nt.noticeOk a=true∧Nt.noticeOk b=true:=by
 unfold Nt.noticeOk at h ⊢
 rw [lines_app,List.all_append] at h
 simp only [Bool.and_eq_true,decide_eq_true_eq] at h ⊢
 exact ⟨⟨h.1.1,by omega⟩,⟨h.1.2,by omega⟩⟩
theorem L_notice {n:List SGd} (h:Nt.noticeOk n=true):L (Nt.noticeT n)=Nb.fl (n.map Nb.groupL).flatten:=by
 unfold Nt.noticeT
 rw [if_pos h,Nb.groups_fl]
 rfl
theorem notice_cat {a b:List SGd} (h:Nt.noticeOk (a++b)=true):Nt.noticeT (a++b)=Nt.noticeT a++Nt.noticeT b:=by
 obtain ⟨ha,hb⟩:=ok_parts h
 apply L_inj
 rw [L_app,L_notice h,L_notice ha,L_notice hb,List.map_append,List.flatten_append,Nb.fl_app]
theorem FnNoticeCut:laws_FnNoticeCut.Pure:=by
 intro l0 l1 _ _ hw0 _ _ hw1
 obtain ⟨a,ha,a1,a2⟩:=drawText_ev l0 hw0
 obtain ⟨b,hb,b1,b2⟩:=drawText_ev l1 hw1
 have ma:=smi_of (n:=a) (by omega) a2
 have mb:=smi_of (n:=b) (by omega) b2
 have mc:=smi_of (n:=a++b) (by rw [List.length_append];omega) (fun g hg=>(List.mem_append.1 hg).elim (a2 g) (b2 g))
 suffices Ev (fun k=>laws_FnNoticeCut.f k l0 l1) true by
  obtain ⟨K,hK⟩:=this
  exact ⟨K,hK K (Nat.le_refl _)⟩
 have main:Ev (fun k=>laws_FnNoticeCut.j0 k l0 l1 false) true:=by
  refine Ev_succ ?_
  simp only [laws_FnNoticeCut.j0,Bool.false_eq_true,if_false]
  refine Ev.bind ha (Ev.bind hb (Ev.bind (Nt.noticeT_impl a ma) (Ev.bind (Nt.noticeT_impl b mb) ?_)))
  have e1:([]:List SGd).length+a.length < 2513169434916:=by rw [List.length_nil];omega
  have e2:a.length+b.length < 2513169434916:=by omega
  simp only [Option.bind_some,List.nil_append,e1,e2,if_true]
  refine Ev.bind (Nt.noticeT_ev a ma.toSm) ?_
  simp only [if_true]
  refine Ev.bind (Nt.noticeT_ev b mb.toSm) ?_
  simp only [if_true]
  refine Ev.bind (Nt.noticeOk_ev (a++b) mc.toSm) (Ev_succ ?_)
  simp only [laws_FnNoticeCut.j1]
  by_cases h:Nt.noticeOk (a++b)=true
  ·have za:=Nt.noticeT_size a
   have zb:=Nt.noticeT_size b
   simp only [h,Bool.not_true,Bool.false_eq_true,if_false,show (Nt.noticeT a).size+(Nt.noticeT b).size≤9223372036854775807 from by omega,if_true]
   refine Ev.bind (Nt.noticeT_impl (a++b) mc) ?_
   rw [notice_cat h]
   simp only [if_true]
   have hr:=Rn.notice_impl (Nt.noticeT a++Nt.noticeT b) (by rw [ByteArray.size_append];omega)
   rw [← notice_cat h,Nb.back _ h,notice_cat h] at hr
   exact Ev.bind hr (Ev.bind (Lpn.lpG_ev (a++b) (by rw [List.length_append];omega) (fun g hg=>⟨by have:=(mc.names g hg).1;omega,by have:=mc.rules g hg;omega⟩)) (Ev.now _))
  ·have h':Nt.noticeOk (a++b)=false:=by simpa using h
   simp only [h',Bool.not_false,if_true]
   refine Ev.bind (Nt.noticeT_ev a ma.toSm) ?_
   simp only [if_true]
   refine Ev.bind (Nt.noticeT_ev b mb.toSm) ?_
   simp only [beq_self_eq_true]
   exact Ev.now _
 have skip:Ev (fun k=>laws_FnNoticeCut.j0 k l0 l1 true) true:=by
  refine Ev_succ ?_
  simp only [laws_FnNoticeCut.j0,if_true]
  exact Ev.now _
 unfold laws_FnNoticeCut.f
 by_cases hb0:(l0.length:Int) > 1048576
 ·simp only [hb0,if_true];exact skip
 simp only [hb0,if_false]
 by_cases hb1:(l1.length:Int) > 1048576
 ·simp only [hb1,decide_true];exact skip
 ·simp only [hb1,decide_false];exact main
end Go.Proofs.YtfpngfkepeoboaaDoor.Pure
end
section
namespace Go.Proofs.YtfpngfkepeoboaaDoorW.PrintWords
open Go.ChangeShapes Go.WideShapes
theorem sized_ints {H:Type} {enc:TypeId×Value→H} {P:Program} {W:World} {base:Nat} {spare:Nat→Bool} {held:Bool} {t e:TypeId} {k:IntKind} {a:Option Addr} {len cap:Nat} {d:DataW H} {ps:List MemPlace} {ts:List TypeId} {ds:List (DataW H)} {j:Nat}
  (hsz:(DataW.weightsEach P ts ds).all (·≤reachBytes)=true) (ht:ts[j]?=some t) (hd:ds[j]?=some d) (hu:P.underlying t=some (.slice e)) (he:P.underlying e=some (.int k)) (hc:P.cellsOf e=1) {B:Nat} (hB:P.bytesOf e=B)
  (h:DataW.Trod enc P W base spare held t (.slice a len cap) d ps):len * B≤140737488351232:=by
 obtain ⟨fuel,hf⟩:=h
 rcases open_ints hu he hc hf with ⟨hcs,_⟩|⟨x,l,c,zs,hcs,_,hl,_,hz,hx,_,_⟩
 ·simp [Value.cells] at hcs
  obtain ⟨rfl,rfl,rfl⟩:=hcs
  simp
 ·simp [Value.cells] at hcs
  obtain ⟨rfl,rfl,rfl⟩:=hcs
  obtain ⟨hx,_⟩:=Prod.mk.inj hx
  subst hx
  have z:=sized_slice hsz ht hd hu
  rw [hB] at z
  have hl2:len≤zs.length:=by
   rw [hz]
   split
   ·exact hl
   ·exact Nat.le_refl _
  have h1:(lits (H:=H) k (zs.take len)).length+(lits (H:=H) k (zs.drop len)).length=zs.length:=by
   simp [lits]
   omega
  rw [h1] at z
  exact Nat.le_trans (Nat.mul_le_mul_right _ hl2) z
end Go.Proofs.YtfpngfkepeoboaaDoorW.PrintWords
end
section
namespace Go.Proofs.YtfpngfkepeoboaaDoor.fnNoticeCut
open Go.ChangeShapes Go.WideShapes Go.ChangeAt Go.RowKit
open Go.ChangeMaps (open_string shut_string)
set_option linter.unusedVariables false
theorem own : ownKnob Tryd.prog.godebug = none := by kernel_rfl
theorem laidOut : laidOutB Tryd.prog = true := by kernel_rfl
def IsRow (k : IntKind) (w : World) (a : Option Addr) (len cap : Nat) (zs : List Int) : Prop :=
 (a = none ∧ len = 0 ∧ cap = 0 ∧ zs = []) ∨
 ∃ x, a = some x ∧ len ≤ cap ∧ cap ≤ maxLen ∧ zs.length = cap ∧ (∀ i, i < zs.length → w.cell? (x.add i) = some (.int k (zs.getD i 0))) ∧ ∀ n ∈ zs, (Lit.int k n).wf = true
set_option maxRecDepth 100000 in
theorem lifted (os : Os) (started : os.Started) (H : Type) (enc : TypeId × Value → H) :
  ReturnsInHanded {} Tryd.checked os 4 .any (fun w args => (Rows.fnNoticeCutSpec.pre enc Tryd.prog Tryd.f4 Rows.fnNoticeCutRow.domain false w args ∧ laidMetH Tryd.prog Rows.fnNoticeCutRow.laid w) ∧ sizedMet enc Tryd.prog Tryd.f4 (OpenSpec.ofChange Rows.fnNoticeCutSpec) false w args)
   (Rows.fnNoticeCutSpec.post enc Tryd.prog Tryd.f4 false true false false) := by
 refine returnsInHanded_of_change_and (C := Tryd.checked) (X := fun w _ => laidMetH Tryd.prog Rows.fnNoticeCutRow.laid w) (fun _ _ _ hh h => h.of_heap hh) own started (by kernel_rfl) Tryd.func4
  (ChangeSpec.witness_shaped (enc := enc) (C := Tryd.checked) (os := os) (X := fun w _ => laidMetH Tryd.prog Rows.fnNoticeCutRow.laid w) false (World.laidAll Tryd.prog os Rows.fnNoticeCutRow.laid) #[.slice none 0 0, .slice none 0 0] 8 (World.laidAll_os _ _ _)
   (World.shaped_of_ZipB (by kernel_rfl) (by kernel_rfl)) (by kernel_rfl) (by kernel_rfl) (by kernel_rfl)
   (by rw [MakeChecks.laidMetH_plain _ _ _ (by kernel_rfl)]; exact laidMet_laidAll _ (by kernel_rfl) (by kernel_rfl))) ?_
 intro W base args ds gs before hval0 hW hcnd hsz0 hL _
 have hsz : (DataW.weightsEach Tryd.prog (Tryd.f4.params.toList ++ Rows.fnNoticeCutSpec.plain.varTypes Tryd.prog) (ds ++ gs)).all (· ≤ reachBytes) = true := hsz0
 have hval : ∀ (j : Nat) t v, Tryd.f4.params[j]? = some t → args[j]? = some v → Value.okWide Tryd.prog W .any base t v := hval0
 have hW' := hW
 obtain ⟨p, q, hA0, hV, rfl, hfz, hnd⟩ := hW
 have hA : DataW.TrodAll enc Tryd.prog W 0 (fun _ => true) true Tryd.f4.params.toList args.toList ds p := hA0
 rw [Tryd.params4] at hA hval hsz
 obtain ⟨v0, vs0, d0, ds0, p0, q0, hargs, rfl, rfl, h0, r0⟩ := trodAll_cons hA
 obtain ⟨v1, vs1, d1, ds1, p1, q1, rfl, rfl, rfl, h1, r1⟩ := trodAll_cons r0
 obtain ⟨rfl, rfl, rfl⟩ := trodAll_nil r1
 obtain rfl : args = #[v0, v1] := by cases args; simp_all
 obtain ⟨rfl, rfl⟩ := trodVars_none hV
 obtain ⟨a0, len0, cap0, rfl⟩ := okWide_slice Tryd.underlying22 (hval 0 22 v0 rfl rfl)
 have k0 := h0
 have lt0 : ∀ x ∈ p0, x.block < W.heap.size := by obtain ⟨m, hm⟩ := k0; exact DataW.trod_lt m _ _ _ hm
 obtain ⟨z0, w0⟩ : ∃ zs, IsRow .u8 W a0 len0 cap0 zs := by
  obtain ⟨fuel, hf⟩ := h0
  rcases open_ints Tryd.underlying22 Tryd.underlying5 (by kernel_rfl) hf with ⟨hcs, _⟩ | ⟨x, l, c, zs, hcs, _, hl, hm, hz, _, hcell, hwz⟩
  ·simp [Value.cells] at hcs
   obtain ⟨rfl, rfl, rfl⟩ := hcs
   exact ⟨[], .inl ⟨rfl, rfl, rfl, rfl⟩⟩
  ·simp [Value.cells] at hcs
   obtain ⟨rfl, rfl, rfl⟩ := hcs
   exact ⟨zs, .inr ⟨_, rfl, hl, hm, by simpa using hz, hcell, hwz⟩⟩
 have y0 : len0 * 1 ≤ 140737488351232 := YtfpngfkepeoboaaDoorW.PrintWords.sized_ints hsz (j := 0) (t := 22) rfl rfl Tryd.underlying22 Tryd.underlying5 (by kernel_rfl) (by kernel_rfl) h0
 obtain ⟨a1, len1, cap1, rfl⟩ := okWide_slice Tryd.underlying22 (hval 1 22 v1 rfl rfl)
 have k1 := h1
 have lt1 : ∀ x ∈ p1, x.block < W.heap.size := by obtain ⟨m, hm⟩ := k1; exact DataW.trod_lt m _ _ _ hm
 obtain ⟨z1, w1⟩ : ∃ zs, IsRow .u8 W a1 len1 cap1 zs := by
  obtain ⟨fuel, hf⟩ := h1
  rcases open_ints Tryd.underlying22 Tryd.underlying5 (by kernel_rfl) hf with ⟨hcs, _⟩ | ⟨x, l, c, zs, hcs, _, hl, hm, hz, _, hcell, hwz⟩
  ·simp [Value.cells] at hcs
   obtain ⟨rfl, rfl, rfl⟩ := hcs
   exact ⟨[], .inl ⟨rfl, rfl, rfl, rfl⟩⟩
  ·simp [Value.cells] at hcs
   obtain ⟨rfl, rfl, rfl⟩ := hcs
   exact ⟨zs, .inr ⟨_, rfl, hl, hm, by simpa using hz, hcell, hwz⟩⟩
 have y1 : len1 * 1 ≤ 140737488351232 := YtfpngfkepeoboaaDoorW.PrintWords.sized_ints hsz (j := 1) (t := 22) rfl rfl Tryd.underlying22 Tryd.underlying5 (by kernel_rfl) (by kernel_rfl) h1
 clear hA0 hval0 hsz0 hsz
 refine (P.laws_FnNoticeCut.walk Pure.FnNoticeCut a0 len0 cap0 z0 a1 len1 cap1 z1 W w0 y0 w1 y1).mono fun e W' ⟨he, bel⟩ => ?_
 subst he
 exact ⟨_, rfl, _, _, _, [], _, [], hW', trodAll_mk1 (shut_bool Tryd.underlying4 _), (trodAll_cons_mk (Below.trod laidOut (by kernel_rfl) (of_decide_eq_true (by kernel_rfl)) k0 bel lt0) (trodAll_cons_mk (Below.trod laidOut (by kernel_rfl) (of_decide_eq_true (by kernel_rfl)) k1 bel lt1) trodAll_mk0)), rfl, bel.frame _, fun h => by cases h⟩
set_option maxHeartbeats 4000000 in
theorem over : Rows.fnNoticeCutRow.holds Tryd.pinned (OpenSpec.ofChange Rows.fnNoticeCutSpec) :=
 OpenClaim.holds_of_wide 4 Tryd.f4 rfl rfl rfl rfl rfl rfl rfl ⟨rfl, rfl, rfl, rfl, rfl⟩ rfl rfl rfl rfl rfl (by as_aux_lemma => kernel_rfl) Tryd.func4 (by as_aux_lemma => kernel_rfl)
  (of_decide_eq_true (by as_aux_lemma => kernel_rfl)) (by unfold Func.isWrapper; first | (rw [if_pos (by decide +kernel)]; kernel_rfl) | (rw [if_neg (by decide +kernel)]; exact ⟨rfl, rfl⟩))
  (fun os started H enc _ => lifted os started H enc)
theorem card_holds : Rows.FnNoticeCutCardSaid :=
 Claim7.holds_tied_plain_at .later [] [.data, .pinned] true (true, "5a5ca8925fdc02e54e3622bc9827dedc23607e9c33cc7deccdedf4db41dfa4e3") true over (fun _ h => by cases h) (by as_aux_lemma => kernel_rfl) (fun _ h => by cases h) fnNoticeCut_row_tie rfl ⟨rfl, rfl⟩ (by as_aux_lemma => kernel_rfl) rfl
  (fun f fn hf hfn => by
   obtain rfl : f = 4 := Option.some.inj ((show Tryd.prog.funcNamed "loop.example/pedlar/laws.FnNoticeCut" = some 4 by as_aux_lemma => kernel_rfl).symm.trans hf) |>.symm
   obtain rfl : fn = Tryd.f4 := (Option.some.inj (Tryd.func4.symm.trans hfn)).symm
   exact ⟨by as_aux_lemma => kernel_rfl, fun j t ht => by
    rw [Tryd.params4] at ht
    have hm : t ∈ [22, 22] := by simpa using Array.mem_of_getElem? ht
    have hall : ([22, 22].all fun u => !Tryd.prog.wantsStandIn u) = true := by as_aux_lemma => kernel_rfl
    exact (show Tryd.prog.wantsStandIn t = false by simpa using List.all_eq_true.1 hall t hm)⟩)
  (by as_aux_lemma => kernel_rfl)
#print axioms card_holds
end Go.Proofs.YtfpngfkepeoboaaDoor.fnNoticeCut
namespace Go.Proofs.YtfpngfkepeoboaaDoor
theorem fnNoticeCut_holds : Rows.FnNoticeCutCardSaid := fnNoticeCut.card_holds
end Go.Proofs.YtfpngfkepeoboaaDoor
end
