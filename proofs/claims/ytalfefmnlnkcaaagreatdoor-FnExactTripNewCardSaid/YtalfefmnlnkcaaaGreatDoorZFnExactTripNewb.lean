/- Part 2 of the proof of FnExactTripNew: the plain functions of what it reaches, that Go comes to just their answers, what they answer, and the words that the walks use; conditions: each theorem's own. -/
import Derived.Test.YtalfefmnlnkcaaaGreatDoorZFnExactTripNewa
import Derived.Laws.StructEq
import Derived.RowKit
import Derived.Test.YtalfefmnlnkcaaaGreatDoorProg
import Derived.Below
import Derived.Deep.Draws
import Derived.Deep.AppendLies
import Derived.Maps.AppendAt
import Derived.OwnWalk
import Derived.Laws.BytesArg
import Derived.Laws.MakeOwn
import Derived.Laws.OwnMore
import Derived.Deep.OwnRows
import Derived.Tactics
import Derived.Lib.ConvBytes
import Derived.Laws.Slices
import Derived.WalkKit
import Derived.KernelRfl
import Derived.RowKit3
import Derived.Deep.LoopGhost
import Derived.Deep.QuietTactic
import Derived.BigQuiet
import Derived.WideLaws
import Derived.Deep.DeepCutAuto
import Derived.Deep.CutBlock
import Derived.Deep.RegionHeld3
import Derived.Laws.Rows
import Derived.Lib.AppendStr
import Derived.ArgAppend
import Derived.Laws.IdiomCopy
import Derived.OrdersHeld
import Derived.Laws.BitsLemmas
import Derived.Shelf.Strings.Builder1
import Derived.Shelf.Strings.Builder2
import Derived.Shelf.Strings.OnBuilder
import Derived.Shelf.Small.Utf8
import Derived.Shelf.Small.Strs
import Derived.Shelf.Small.Wraps
import Derived.Shelf.Strings.BuilderF
import Derived.Shelf.Strings.BuilderK
import Derived.Shelf.Strings.Builder2Cap
import Derived.Shelf.Strings.Search1
import Derived.Shelf.Strings.Search2
import Derived.Shelf.Strings.Search3
import Derived.Shelf.Strings.Cut
import Derived.Shelf.Strings.Count
import Derived.Shelf.LaysM
import Derived.Shelf.Strings.Shaped
import Derived.Shelf.Strings.Prefix
import Derived.Shelf.Strings.Runes
import Derived.Shelf.Strings.IndexAny
import Derived.Shelf.Strings.AsciiSet
import Derived.Shelf.Strings.IndexAnyAll
import Derived.Shelf.Unicode.DecodeSlow
import Derived.Shelf.Strings.BuilderCap
import Derived.Shelf.Slices.Turned
import Derived.Ground.Names2Prog
import Derived.Shelf.Slices.Clone

set_option linter.unusedVariables false
set_option linter.unusedSimpArgs false
section
namespace Go.Proofs.YtalfefmnlnkcaaaGreatDoorW.PrintWords
open Go.RowKit
section
variable {P:Program}{d:Nat}{xs ys:Array Value}{f:Field}{fs:List Field}{a b:Value}{r s:Bool}{w:World}
end
end Go.Proofs.YtalfefmnlnkcaaaGreatDoorW.PrintWords
end
section
namespace Go.Proofs.YtalfefmnlnkcaaaGreatDoor.P
theorem aid_isEmpty (l:List UInt8):(l != ([]:List UInt8)) = !l.isEmpty:=by cases l <;> rfl
theorem aid_isEmpty2 (l:List UInt8):(l==([]:List UInt8))=l.isEmpty:=by cases l <;> rfl
end Go.Proofs.YtalfefmnlnkcaaaGreatDoor.P
end
section
namespace Go.Proofs.YtalfefmnlnkcaaaGreatDoor.P
open Go.RowKit Go.Proofs.YtalfefmnlnkcaaaGreatDoorW PrintWords
structure Undec (c:Prop):Prop where mk::(out:True)
theorem Undec.y_ {c:Prop}(_:c):Undec c:=⟨trivial⟩
theorem Undec.n_ {c:Prop}(_:¬c):Undec c:=⟨trivial⟩
theorem undecG {b:Bool}(h:Undec (b=true):=by(fail_if_success exact Undec.y_ rfl);(fail_if_success exact Undec.n_ (by decide));exact Undec.mk trivial):Undec (b=true):=h
theorem undecI {c:Prop}(h:Undec c:=by(fail_if_success exact Undec.y_ (by first|(with_reducible assumption)|((try simp only[decide_eq_true_eq,decide_eq_false_iff_not]at *);omega)|decide));(fail_if_success exact Undec.n_ (by first|(with_reducible assumption)|((try simp only[decide_eq_true_eq,decide_eq_false_iff_not]at *);omega)|decide));exact Undec.mk trivial):Undec c:=h
def MetP (J:Prop):Prop:=J
theorem atG {P:Program}{ops:Array Oper}{Q:Exit→Act→World→Prop}{a:Act}{w:World}{rest:List Oper}{d:Option Tmp}{op:Op}{ty:TypeId}{pos:String}{af:Array Edge}{j:Nat}{g b:Bool}
  (_hy:yielded ops a.tmps j=some b) (_nl:Undec (b=true)) (h:∀K:Prop,Aside0 (K=wpList P ops Q (⟨d,op,ty,pos,af,some (j,g)⟩::rest) a w)→MetP K):
  wpList P ops Q (⟨d,op,ty,pos,af,some (j,g)⟩::rest) a w:=h _ ⟨rfl⟩
theorem atI {c A B:Prop}[Decidable c](_nl:Undec c)(h:∀K:Prop,Aside0 (K=if c then A else B)→MetP K):if c then A else B:=h _ ⟨rfl⟩
theorem unG {A K:Prop}(hK:Aside0 (K=A))(h:A):MetP K:=by rw[hK.out];exact h
theorem iteT {c A B:Prop}[Decidable c](h:A)(hc:c:=by first|rfl|(with_reducible assumption)|omega|decide|exact List.length_eq_zero_iff.mp (by omega)|(intro h_;simp only[h_,List.length_nil]at *;omega)):if c then A else B:=by rw[if_pos hc];exact h
theorem iteF {c A B:Prop}[Decidable c](h:B)(hc:¬c:=by first|(with_reducible assumption)|decide|omega|exact fun h_=>h_ (List.length_eq_zero_iff.mp (by omega))|(intro h_;simp only[h_,List.length_nil]at *;omega)):if c then A else B:=by rw[if_neg hc];exact h
theorem upS {P:Program}{o:Oper}{a:Act}{next:Act→World→Prop}{Q:Exit→Act→World→Prop}{r:Result Next}(h:Oper.upon P o a next Q r):Oper.upon P o a next Q r:=h
end Go.Proofs.YtalfefmnlnkcaaaGreatDoor.P
end
section
namespace Go.Proofs.YtalfefmnlnkcaaaGreatDoor.P
open Go.RowKit Go.Proofs.YtalfefmnlnkcaaaGreatDoorW PrintWords PrintLast PrintMore
attribute [local go_sem] max2_int min2_int max_two min_two max_three min_three max_four min_four
def errW:Option Int→Value
 |none=>.nilIface
 |some c=>.iface 0 (.int .i64 c)
theorem errW_none:errW none=.nilIface:=rfl
theorem errW_some (c:Int):errW (some c)=.iface 0 (.int .i64 c):=rfl
theorem info5:(Tryz.prog.info? 5).map (fun i=>(i.zero,i.size,i.bytes))=some (some (.int .u8 0),1,1):=by kernel_rfl
theorem info9:(Tryz.prog.info? 9).map (fun i=>(i.zero,i.size,i.bytes))=some (some (.string ⟨#[]⟩),1,16):=by kernel_rfl
structure S98 where
 f0:Bool
 f1:BA
def z98:S98:=⟨false,(⟨#[]⟩:BA)⟩
def k98:Kd S98:=Kd.iso (Kd.pair Kd.bool Kd.string) (fun x:S98=>(x.f0,x.f1))
theorem k98_open {w:World}{x:S98}{cs:List Value}(h:k98.K w x cs):cs=[.bool x.f0,.string x.f1]:=by
 obtain⟨_,_,rfl,rfl,rfl⟩:=h;exact rfl
theorem k98_openM {w:World}{base:Nat}{ok:Nat→Prop}{x:S98}{cs:List Value}(h:k98.M w base ok x cs):cs=[.bool x.f0,.string x.f1]:=by
 obtain⟨_,_,rfl,rfl,rfl⟩:=h;exact rfl
theorem k98_mkM (w:World)(base:Nat)(ok:Nat→Prop)(x:S98)  : k98.M w base ok x [.bool x.f0,.string x.f1]:=⟨[.bool x.f0],[.string x.f1],rfl,rfl,rfl⟩
def rd_T98 (xs:List S98)(i:Int):S98:=xs.getD i.toNat z98
theorem at_T98 {w:World}{A:Option Addr}{n:Nat}{xs:List S98}(h:Kd.C k98 w A n xs)(i:Int)(h0:0≤i)(h1:i<n):∃ad , A=some ad∧w.cell? (ad.add (i.toNat*2))=some (.bool (rd_T98 xs i).f0)∧w.cell? ⟨(ad.add (i.toNat*2)).block,(ad.add (i.toNat*2)).off+1,none⟩=some (.string (rd_T98 xs i).f1):=by
 obtain⟨ad,c,e,_,hK,hc0⟩:=Kd.C_get h z98 i h0 h1;have hc:∀j u,c[j]?=some u→w.cell? (ad.add (i.toNat*2+j))=some u:=hc0;obtain rfl:=k98_open hK;exact⟨ad,e,hc 0 _ rfl,by rw[←add_field _ _ 1 (by omega)];exact hc 1 _ rfl⟩
structure S40 where
 f0:(List BA)
 f1:(List S98)
 f2:Int
def z40:S40:=⟨([]:List BA),([]:List S98),(0:Int)⟩
def k40:Kd S40:=Kd.iso (Kd.pair (Kd.slice 9 Kd.string) (Kd.pair (Kd.slice 98 k98) (Kd.int .i64))) (fun x:S40=>(x.f0,x.f1,x.f2))
theorem k40_open {w:World}{x:S40}{cs:List Value}(h:k40.K w x cs):∃A0 c0 A1 c1,cs=[.slice A0 x.f0.length c0,.slice A1 x.f1.length c1,.int .i64 x.f2]∧x.f0.length≤c0∧Kd.string.C w A0 x.f0.length x.f0∧x.f1.length≤c1∧k98.C w A1 x.f1.length x.f1:=by
 obtain⟨_,_,rfl,⟨A0,c0,rfl,l0,g0⟩,⟨_,_,rfl,⟨A1,c1,rfl,l1,g1⟩,rfl⟩⟩:=h;exact⟨A0,c0,A1,c1,rfl,l0,g0,l1,g1⟩
theorem k40_openM {w:World}{base:Nat}{ok:Nat→Prop}{x:S40}{cs:List Value}(h:k40.M w base ok x cs):∃v0 v1,cs=[v0,v1,.int .i64 x.f2]∧Kd.string.R 9 w base ok v0 x.f0∧k98.R 98 w base ok v1 x.f1:=by
 obtain⟨_,_,rfl,⟨v0,rfl,g0⟩,⟨_,_,rfl,⟨v1,rfl,g1⟩,rfl⟩⟩:=h;exact⟨v0,v1,rfl,g0,g1⟩
theorem k40_mkM (w:World)(base:Nat)(ok:Nat→Prop)(x:S40){v0:Value}(g0:Kd.string.R 9 w base ok v0 x.f0){v1:Value}(g1:k98.R 98 w base ok v1 x.f1):k40.M w base ok x [v0,v1,.int .i64 x.f2]:=⟨[v0],[v1,.int .i64 x.f2],rfl,⟨v0,rfl,g0⟩,⟨[v1],[.int .i64 x.f2],rfl,⟨v1,rfl,g1⟩,rfl⟩⟩
structure S76 where
 f0:BA
 f1:Int
def z76:S76:=⟨(⟨#[]⟩:BA),(0:Int)⟩
def k76:Kd S76:=Kd.iso (Kd.pair Kd.string (Kd.int .i64)) (fun x:S76=>(x.f0,x.f1))
theorem k76_open {w:World}{x:S76}{cs:List Value}(h:k76.K w x cs):cs=[.string x.f0,.int .i64 x.f1]:=by
 obtain⟨_,_,rfl,rfl,rfl⟩:=h;exact rfl
theorem k76_openM {w:World}{base:Nat}{ok:Nat→Prop}{x:S76}{cs:List Value}(h:k76.M w base ok x cs):cs=[.string x.f0,.int .i64 x.f1]:=by
 obtain⟨_,_,rfl,rfl,rfl⟩:=h;exact rfl
theorem k76_mkM (w:World)(base:Nat)(ok:Nat→Prop)(x:S76)  : k76.M w base ok x [.string x.f0,.int .i64 x.f1]:=⟨[.string x.f0],[.int .i64 x.f1],rfl,rfl,rfl⟩
def rd_T76 (xs:List S76)(i:Int):S76:=xs.getD i.toNat z76
theorem at_T76 {w:World}{A:Option Addr}{n:Nat}{xs:List S76}(h:Kd.C k76 w A n xs)(i:Int)(h0:0≤i)(h1:i<n):∃ad , A=some ad∧w.cell? (ad.add (i.toNat*2))=some (.string (rd_T76 xs i).f0)∧w.cell? ⟨(ad.add (i.toNat*2)).block,(ad.add (i.toNat*2)).off+1,none⟩=some (.int .i64 (rd_T76 xs i).f1):=by
 obtain⟨ad,c,e,_,hK,hc0⟩:=Kd.C_get h z76 i h0 h1;have hc:∀j u,c[j]?=some u→w.cell? (ad.add (i.toNat*2+j))=some u:=hc0;obtain rfl:=k76_open hK;exact⟨ad,e,hc 0 _ rfl,by rw[←add_field _ _ 1 (by omega)];exact hc 1 _ rfl⟩
structure S43 where
 f0:BA
 f1:Int
 f2:Bool
 f3:S40
 f4:Int
 f5:(List S76)
def z43:S43:=⟨(⟨#[]⟩:BA),(0:Int),false,z40,(0:Int),([]:List S76)⟩
def k43:Kd S43:=Kd.iso (Kd.pair Kd.string (Kd.pair (Kd.int .i64) (Kd.pair Kd.bool (Kd.pair k40 (Kd.pair (Kd.int .i64) (Kd.slice 76 k76)))))) (fun x:S43=>(x.f0,x.f1,x.f2,x.f3,x.f4,x.f5))
theorem k43_open {w:World}{x:S43}{cs:List Value}(h:k43.K w x cs):∃A3 c3 A4 c4 A7 c7,cs=[.string x.f0,.int .i64 x.f1,.bool x.f2,.slice A3 x.f3.f0.length c3,.slice A4 x.f3.f1.length c4,.int .i64 x.f3.f2,.int .i64 x.f4,.slice A7 x.f5.length c7]∧x.f3.f0.length≤c3∧Kd.string.C w A3 x.f3.f0.length x.f3.f0∧x.f3.f1.length≤c4∧k98.C w A4 x.f3.f1.length x.f3.f1∧x.f5.length≤c7∧k76.C w A7 x.f5.length x.f5:=by
 obtain⟨_,_,rfl,rfl,⟨_,_,rfl,rfl,⟨_,_,rfl,rfl,⟨_,_,rfl,s3,⟨_,_,rfl,rfl,⟨A7,c7,rfl,l7,g7⟩⟩⟩⟩⟩⟩:=h;obtain⟨A3,c3,A4,c4,rfl,l3,g3,l4,g4⟩:=k40_open s3;exact⟨A3,c3,A4,c4,A7,c7,rfl,l3,g3,l4,g4,l7,g7⟩
theorem k43_openM {w:World}{base:Nat}{ok:Nat→Prop}{x:S43}{cs:List Value}(h:k43.M w base ok x cs):∃v3 v4 v7,cs=[.string x.f0,.int .i64 x.f1,.bool x.f2,v3,v4,.int .i64 x.f3.f2,.int .i64 x.f4,v7]∧Kd.string.R 9 w base ok v3 x.f3.f0∧k98.R 98 w base ok v4 x.f3.f1∧k76.R 76 w base ok v7 x.f5:=by
 obtain⟨_,_,rfl,rfl,⟨_,_,rfl,rfl,⟨_,_,rfl,rfl,⟨_,_,rfl,s3,⟨_,_,rfl,rfl,⟨v7,rfl,g7⟩⟩⟩⟩⟩⟩:=h;obtain⟨v3,v4,rfl,g3,g4⟩:=k40_openM s3;exact⟨v3,v4,v7,rfl,g3,g4,g7⟩
theorem k43_mkM (w:World)(base:Nat)(ok:Nat→Prop)(x:S43){v3:Value}(g3:Kd.string.R 9 w base ok v3 x.f3.f0){v4:Value}(g4:k98.R 98 w base ok v4 x.f3.f1){v7:Value}(g7:k76.R 76 w base ok v7 x.f5):k43.M w base ok x [.string x.f0,.int .i64 x.f1,.bool x.f2,v3,v4,.int .i64 x.f3.f2,.int .i64 x.f4,v7]:=⟨[.string x.f0],[.int .i64 x.f1,.bool x.f2,v3,v4,.int .i64 x.f3.f2,.int .i64 x.f4,v7],rfl,rfl,⟨[.int .i64 x.f1],[.bool x.f2,v3,v4,.int .i64 x.f3.f2,.int .i64 x.f4,v7],rfl,rfl,⟨[.bool x.f2],[v3,v4,.int .i64 x.f3.f2,.int .i64 x.f4,v7],rfl,rfl,⟨[v3,v4,.int .i64 x.f3.f2],[.int .i64 x.f4,v7],rfl,(k40_mkM w base ok x.f3 g3 g4),⟨[.int .i64 x.f4],[v7],rfl,rfl,⟨v7,rfl,g7⟩⟩⟩⟩⟩⟩
def rd_T43 (xs:List S43)(i:Int):S43:=xs.getD i.toNat z43
theorem at_T43 {w:World}{A:Option Addr}{n:Nat}{xs:List S43}(h:Kd.C k43 w A n xs)(i:Int)(h0:0≤i)(h1:i<n):∃ad A3 c3 A4 c4 A7 c7,A=some ad∧w.cell? (ad.add (i.toNat*8))=some (.string (rd_T43 xs i).f0)∧w.cell? ⟨(ad.add (i.toNat*8)).block,(ad.add (i.toNat*8)).off+1,none⟩=some (.int .i64 (rd_T43 xs i).f1)∧w.cell? ⟨(ad.add (i.toNat*8)).block,(ad.add (i.toNat*8)).off+2,none⟩=some (.bool (rd_T43 xs i).f2)∧w.cell? ⟨(ad.add (i.toNat*8)).block,(ad.add (i.toNat*8)).off+3,none⟩=some (.slice A3 (rd_T43 xs i).f3.f0.length c3)∧w.cell? ⟨(ad.add (i.toNat*8)).block,(ad.add (i.toNat*8)).off+4,none⟩=some (.slice A4 (rd_T43 xs i).f3.f1.length c4)∧w.cell? ⟨(ad.add (i.toNat*8)).block,(ad.add (i.toNat*8)).off+5,none⟩=some (.int .i64 (rd_T43 xs i).f3.f2)∧w.cell? ⟨(ad.add (i.toNat*8)).block,(ad.add (i.toNat*8)).off+6,none⟩=some (.int .i64 (rd_T43 xs i).f4)∧w.cell? ⟨(ad.add (i.toNat*8)).block,(ad.add (i.toNat*8)).off+7,none⟩=some (.slice A7 (rd_T43 xs i).f5.length c7)∧(rd_T43 xs i).f3.f0.length≤c3∧Kd.string.C w A3 (rd_T43 xs i).f3.f0.length (rd_T43 xs i).f3.f0∧(rd_T43 xs i).f3.f1.length≤c4∧k98.C w A4 (rd_T43 xs i).f3.f1.length (rd_T43 xs i).f3.f1∧(rd_T43 xs i).f5.length≤c7∧k76.C w A7 (rd_T43 xs i).f5.length (rd_T43 xs i).f5:=by
 obtain⟨ad,c,e,_,hK,hc0⟩:=Kd.C_get h z43 i h0 h1;have hc:∀j u,c[j]?=some u→w.cell? (ad.add (i.toNat*8+j))=some u:=hc0;obtain⟨A3,c3,A4,c4,A7,c7,rfl,l3,g3,l4,g4,l7,g7⟩:=k43_open hK;exact⟨ad,A3,c3,A4,c4,A7,c7,e,hc 0 _ rfl,by rw[←add_field _ _ 1 (by omega)];exact hc 1 _ rfl,by rw[←add_field _ _ 2 (by omega)];exact hc 2 _ rfl,by rw[←add_field _ _ 3 (by omega)];exact hc 3 _ rfl,by rw[←add_field _ _ 4 (by omega)];exact hc 4 _ rfl,by rw[←add_field _ _ 5 (by omega)];exact hc 5 _ rfl,by rw[←add_field _ _ 6 (by omega)];exact hc 6 _ rfl,by rw[←add_field _ _ 7 (by omega)];exact hc 7 _ rfl,l3,g3,l4,g4,l7,g7⟩
structure S83 where
 f0:Int
 f1:BA
 f2:Int
def z83:S83:=⟨(0:Int),(⟨#[]⟩:BA),(0:Int)⟩
def k83:Kd S83:=Kd.iso (Kd.pair (Kd.int .i64) (Kd.pair Kd.string (Kd.int .i64))) (fun x:S83=>(x.f0,x.f1,x.f2))
theorem k83_open {w:World}{x:S83}{cs:List Value}(h:k83.K w x cs):cs=[.int .i64 x.f0,.string x.f1,.int .i64 x.f2]:=by
 obtain⟨_,_,rfl,rfl,⟨_,_,rfl,rfl,rfl⟩⟩:=h;exact rfl
theorem k83_openM {w:World}{base:Nat}{ok:Nat→Prop}{x:S83}{cs:List Value}(h:k83.M w base ok x cs):cs=[.int .i64 x.f0,.string x.f1,.int .i64 x.f2]:=by
 obtain⟨_,_,rfl,rfl,⟨_,_,rfl,rfl,rfl⟩⟩:=h;exact rfl
theorem k83_mkM (w:World)(base:Nat)(ok:Nat→Prop)(x:S83)  : k83.M w base ok x [.int .i64 x.f0,.string x.f1,.int .i64 x.f2]:=⟨[.int .i64 x.f0],[.string x.f1,.int .i64 x.f2],rfl,rfl,⟨[.string x.f1],[.int .i64 x.f2],rfl,rfl,rfl⟩⟩
def rd_T83 (xs:List S83)(i:Int):S83:=xs.getD i.toNat z83
theorem at_T83 {w:World}{A:Option Addr}{n:Nat}{xs:List S83}(h:Kd.C k83 w A n xs)(i:Int)(h0:0≤i)(h1:i<n):∃ad , A=some ad∧w.cell? (ad.add (i.toNat*3))=some (.int .i64 (rd_T83 xs i).f0)∧w.cell? ⟨(ad.add (i.toNat*3)).block,(ad.add (i.toNat*3)).off+1,none⟩=some (.string (rd_T83 xs i).f1)∧w.cell? ⟨(ad.add (i.toNat*3)).block,(ad.add (i.toNat*3)).off+2,none⟩=some (.int .i64 (rd_T83 xs i).f2):=by
 obtain⟨ad,c,e,_,hK,hc0⟩:=Kd.C_get h z83 i h0 h1;have hc:∀j u,c[j]?=some u→w.cell? (ad.add (i.toNat*3+j))=some u:=hc0;obtain rfl:=k83_open hK;exact⟨ad,e,hc 0 _ rfl,by rw[←add_field _ _ 1 (by omega)];exact hc 1 _ rfl,by rw[←add_field _ _ 2 (by omega)];exact hc 2 _ rfl⟩
end Go.Proofs.YtalfefmnlnkcaaaGreatDoor.P
end
section
namespace Go.Proofs.YtalfefmnlnkcaaaGreatDoor.P
open Go.RowKit Go.Proofs.YtalfefmnlnkcaaaGreatDoorW PrintWords PrintLast PrintMore
theorem viaP {B:Prop}(b:B:=by simp only[putAll,Act.put,lS_,l0_,lC_]):B:=b
theorem ofD {p:Prop}[Decidable p](h:decide p=true:=by first|(with_reducible assumption)|assumption):p:=of_decide_eq_true h
theorem bindA {α β:Type}{x:Option α}{f:α→Option β}{r:β}(h:x.bind f=some r):∃a,Aside0 (x=some a)∧f a=some r:=by
 obtain⟨a,h1,h2⟩:=oE_.mp h;exact⟨a,⟨h1⟩,h2⟩
theorem bindY {α β:Type}{y:α}{f:α→Option β}{r:β}(h:(some y).bind f=some r):∃z,Aside0 (z=y)∧f z=some r:=⟨y,⟨rfl⟩,h⟩
theorem bindZ {α β:Type}{y z:α}(hz:Aside0 (z=y)){f:α→Option β}{r:β}(h:(some y).bind f=some r):f z=some r:=hz.out ▸ h
theorem toY {α:Type}(y:α):∃z,Aside0 (z=y):=⟨y,⟨rfl⟩⟩
theorem cbl {w W:World}{a:Addr}{v:Value}(hb:Aside0 (Below w.heap.size w W))(h:w.cell? a=some v):W.cell? a=some v:=(hb.out.cell (wb_ w _ h)).trans h
theorem geB {w W:World}{g:Nat}(hg:g=W.heap.size)(h:Below w.heap.size w W):Aside0 (w.heap.size≤g):=⟨by rw[hg];exact below_size h⟩
theorem rt {α:Type}{d:Kd α}{e:Nat}{w:World}{base:Nat}{ok:Nat→Prop}{v:Value}{xs:List α}{g t:Nat}{cells:Array Value}(a:Aside0 (d.R e w base ok v xs))(b:Aside0 (w.heap[g]?=some (.cells cells t (0,0))))(ht:∀q,q∈e::d.E→q≠t:=by decide):Aside0 (d.R e w base (fun k=>ok k∧k≠g) v xs):=⟨Kd.R_types a.out b.out ht⟩
section
variable {P:Program}{ops:Array Oper}{rest:List Oper}{o:Oper}{a:Act}{Q:Exit→Act→World→Prop}{md:Region.Mode}{S:World→Prop}{ds:List Nat}{W:World}
theorem boxE (N:Tmp)(cs:Array Value)(t:TypeId)
  (h:∀g,g=W.heap.size→∀w1,w1.heap[g]?=some (.cells cs t (0,0))→Below W.heap.size W w1→wpList P ops Q rest (a.put o.dst (.pointer (some ⟨g,0,none⟩))) w1)
  (hd:o.dst=some N:=by rfl) (hgd:o.guard=none:=by rfl)
  (hrun:(execOp a.eval o).run P W=.ok (.value (.pointer (some ⟨W.heap.size,0,none⟩))) (W.alloc (.cells cs t (0,0))):=by first|(go_simp;done)|(go_simp;rfl)):wpList P ops Q (o::rest) a W:=box_event hgd hd hrun h
theorem gsL (N:Option Tmp){f:FuncId}{fn:Func}{as_:Array Operand}{ts:Array TypeId}(hf:P.funcs[f]?=some fn)(args:Array Value)
  (h:Calls P f args W fun e w'=>∃v,e=.returned v∧wpList P ops Q rest (a.put N v) w')
  (hd:o.dst=N:=by rfl) (hg:o.guard=none:=by rfl) (hname:(fn.name == "runtime.NumGoroutine")=false:=by kernel_rfl) (hb:fn.body.isSome=true:=by rfl)
  (hop:o.op=.call { callee:=.value (.func f),args:=as_,argTypes:=ts }:=by rfl)
  (hargs:as_.map a.eval=args:=by(try simp only[List.map_toArray,List.map_cons,List.map_nil]);first|done|rfl|(simp only[List.length_drop,lT_];rfl)):wpList P ops Q (o::rest) a W:=goesL_ N hd hg hf hname hb args hop hargs h
theorem boxF (N:Tmp)(cs:Array Value)(t:TypeId)
  (h:∀g,g=W.heap.size→∀w1,Aside0 (w1.heap[g]?=some (.cells cs t (0,0)))→Below W.heap.size W w1→wpList P ops Q rest (a.put o.dst (.pointer (some ⟨g,0,none⟩))) w1)
  (hd:o.dst=some N:=by rfl) (hgd:o.guard=none:=by rfl)
  (hrun:(execOp a.eval o).run P W=.ok (.value (.pointer (some ⟨W.heap.size,0,none⟩))) (W.alloc (.cells cs t (0,0))):=by first|(go_simp;done)|(go_simp;rfl)):wpList P ops Q (o::rest) a W:=box_event hgd hd hrun fun g hg w1 hb=>h g hg w1 ⟨hb⟩
theorem gR (f:FuncId)(N:Option Tmp){fn:Func}{as_:Array Operand}{ts:Array TypeId}{args:Array Value}{v:Value}{R:World→Prop}(hf:P.funcs[f]?=some fn)(hc:Calls P f args W fun e w'=>e=.returned v∧R w')
  (h:∀w',R w'→wpList P ops Q rest (a.put N v) w')
  (hd:o.dst=N:=by rfl) (hop:o.op=.call { callee:=.value (.func f),args:=as_,argTypes:=ts }:=by rfl) (hg:o.guard=none:=by rfl) (hname:(fn.name == "runtime.NumGoroutine")=false:=by kernel_rfl) (hb:fn.body.isSome=true:=by rfl)
  (hargs:as_.map a.eval=args:=by(try simp only[List.map_toArray,List.map_cons,List.map_nil]);first|done|rfl|(simp only[List.length_drop,lT_];rfl)):wpList P ops Q (o::rest) a W:=
 goesL_ N hd hg hf hname hb args hop hargs (hc.mono fun _ w' z=>⟨v,z.1,h w' z.2⟩)
theorem gV (f:FuncId)(N:Option Tmp){fn:Func}{as_:Array Operand}{ts:Array TypeId}{args:Array Value}{β:Type}{V:β→Value}{R:β→World→Prop}(hf:P.funcs[f]?=some fn)(hc:Calls P f args W fun e w'=>∃v,e=.returned (V v)∧R v w')
  (h:∀v w',R v w'→wpList P ops Q rest (a.put N (V v)) w')
  (hd:o.dst=N:=by rfl) (hop:o.op=.call { callee:=.value (.func f),args:=as_,argTypes:=ts }:=by rfl) (hg:o.guard=none:=by rfl) (hname:(fn.name == "runtime.NumGoroutine")=false:=by kernel_rfl) (hb:fn.body.isSome=true:=by rfl)
  (hargs:as_.map a.eval=args:=by(try simp only[List.map_toArray,List.map_cons,List.map_nil]);first|done|rfl|(simp only[List.length_drop,lT_];rfl)):wpList P ops Q (o::rest) a W:=
 goesL_ N hd hg hf hname hb args hop hargs (hc.mono fun _ w' z=>by obtain⟨v,z1,z2⟩:=z;exact⟨V v,z1,h v w' z2⟩)
theorem oneZ (i:Nat)(N:Option Tmp){oi:Oper}{fuel:Nat}{l:Array Bool}(l':Array Bool)
  (h:∀K:Act→World→Prop,Shut (∀a' w',S w'→(S w'→wpAnyLast P md ops Q S ds fuel l' a' w')→K a' w')→if Region.wanted oi (yielded ops a.tmps)=true then Oper.wp P oi a W K Q else K (a.put N undef) W)
  (hi:ops[i]?=some oi:=by rfl) (hN:oi.dst=N:=by rfl) (hc:readyB md ops l l' i=true:=by exact one_of HT_.out (by kernel_rfl)) (hd:i ∉ ds:=by decide):wpAnyLast P md ops Q S ds (fuel+1) l a W:=one_ l' hi hN hc hd h
theorem twoZ (i j:Nat)(Ni Nj:Option Tmp){oi oj:Oper}{fuel:Nat}{l:Array Bool}(li lj:Array Bool)
  (h1:∀K:Act→World→Prop,Shut (∀a' w',S w'→(S w'→wpAnyLast P md ops Q S ds fuel li a' w')→K a' w')→if Region.wanted oi (yielded ops a.tmps)=true then Oper.wp P oi a W K Q else K (a.put Ni undef) W)
  (h2:∀K:Act→World→Prop,Shut (∀a' w',S w'→(S w'→wpAnyLast P md ops Q S ds fuel lj a' w')→K a' w')→if Region.wanted oj (yielded ops a.tmps)=true then Oper.wp P oj a W K Q else K (a.put Nj undef) W)
  (hi:ops[i]?=some oi:=by rfl) (hj:ops[j]?=some oj:=by rfl) (hNi:oi.dst=Ni:=by rfl) (hNj:oj.dst=Nj:=by rfl)
  (hc:(Region.ready md ops l==[i,j]&&l.setIfInBounds i true==li&&l.setIfInBounds j true==lj)=true:=by exact two_of HT_.out (by kernel_rfl)) (hdi:i ∉ ds:=by decide) (hdj:j ∉ ds:=by decide):wpAnyLast P md ops Q S ds (fuel+1) l a W:=two_ li lj hi hj hNi hNj hc hdi hdj h1 h2
theorem nZ (N:Tmp){fuel:Nat}{l:Array Bool}{b a':Act}{v:Value}(h:wpAnyLast P md ops Q S ds fuel l a' W)(hb:a=b.put (some N) v:=by rfl)(ha:b.put (some N) v=a':=by(simp only[Act.put,lS_,l0_,lC_,i64_w,i32_w];rfl)):wpAnyLast P md ops Q S ds fuel l a W:=norm_ (hb.trans ha) h
theorem pureZ (i:Nat)(N:Option Tmp){v:Value}{fuel:Nat}{l:Array Bool}(l':Array Bool){a':Act}
  (h:wpAnyLast P md ops Q S ds fuel l' a' W) (hi:ops[i]?=some o:=by rfl) (hN:o.dst=N:=by rfl) (hc:anyB md ops l l' i=true:=by exact any_of HT_.out (by kernel_rfl))
  (hQ:∀c a w,Q (.panic c) (a.put o.dst v) w→Q (.panic c) a w:=by exact fun _ _ _ h=>h)
  (hy:Yields P ops o v a:=by exact Or.inl ⟨by rfl,by intro w';go_simp;with_reducible rfl⟩)
  (ha:a.put N v=a':=by(simp only[Act.put,lS_,l0_,lC_,i64_w,i32_w];rfl)):wpAnyLast P md ops Q S ds (fuel+1) l a W:=pure_ l' hi hN hc hQ hy ha h
theorem pureY (i:Nat)(N:Option Tmp){v:Value}{fuel:Nat}{l:Array Bool}(l':Array Bool){a':Act}
  (h:wpAnyLast P md ops Q S ds fuel l' a' W) (hi:ops[i]?=some o:=by rfl) (hN:o.dst=N:=by rfl) (hc:anyB md ops l l' i=true:=by kernel_rfl)
  (hQ:∀c a w,Q (.panic c) (a.put o.dst v) w→Q (.panic c) a w:=by exact fun _ _ _ h=>h)
  (hy:Yields P ops o v a:=by exact Or.inl ⟨by rfl,by intro w';go_simp;with_reducible rfl⟩)
  (ha:a.put N v=a':=by(simp only[Act.put,lS_,l0_,lC_,i64_w,i32_w];rfl)):wpAnyLast P md ops Q S ds (fuel+1) l a W:=pure_ l' hi hN hc hQ hy ha h
theorem takeZ2 (i:Nat)(N:Option Tmp){v:Value}{fuel:Nat}{l:Array Bool}(l':Array Bool)(hS:S W){a':Act}
  (h:wpAnyLast P md ops Q S ds fuel l' a' W) (hi:ops[i]?=some o:=by rfl) (hN:o.dst=N:=by rfl) (hc:takeB md ops ds l l' i=true:=by exact take_ofW HT_.out HW_.out (by kernel_rfl))
  (hQ:∀c a w,Q (.panic c) (a.put o.dst v) w→Q (.panic c) a w:=by exact fun _ _ _ h=>h)
  (hy:YieldsIf P ops S o v a:=by exact Or.inl ⟨by rfl,by rintro w' ⟨s0,s1⟩;go_simp;with_reducible rfl⟩)
  (ha:a.put N v=a':=by(simp only[Act.put,lS_,l0_,lC_,i64_w,i32_w];rfl)):wpAnyLast P md ops Q S ds (fuel+1) l a W:=take_ l' hi hN hc hQ hy hS ha h
theorem takeZ3 (i:Nat)(N:Option Tmp){v:Value}{fuel:Nat}{l:Array Bool}(l':Array Bool)(hS:S W){a':Act}
  (h:wpAnyLast P md ops Q S ds fuel l' a' W) (hi:ops[i]?=some o:=by rfl) (hN:o.dst=N:=by rfl) (hc:takeB md ops ds l l' i=true:=by exact take_ofW HT_.out HW_.out (by kernel_rfl))
  (hQ:∀c a w,Q (.panic c) (a.put o.dst v) w→Q (.panic c) a w:=by exact fun _ _ _ h=>h)
  (hy:YieldsIf P ops S o v a:=by exact Or.inl ⟨by rfl,by rintro w' ⟨s0,s1,s2⟩;go_simp;with_reducible rfl⟩)
  (ha:a.put N v=a':=by(simp only[Act.put,lS_,l0_,lC_,i64_w,i32_w];rfl)):wpAnyLast P md ops Q S ds (fuel+1) l a W:=take_ l' hi hN hc hQ hy hS ha h
theorem takeZ4 (i:Nat)(N:Option Tmp){v:Value}{fuel:Nat}{l:Array Bool}(l':Array Bool)(hS:S W){a':Act}
  (h:wpAnyLast P md ops Q S ds fuel l' a' W) (hi:ops[i]?=some o:=by rfl) (hN:o.dst=N:=by rfl) (hc:takeB md ops ds l l' i=true:=by exact take_ofW HT_.out HW_.out (by kernel_rfl))
  (hQ:∀c a w,Q (.panic c) (a.put o.dst v) w→Q (.panic c) a w:=by exact fun _ _ _ h=>h)
  (hy:YieldsIf P ops S o v a:=by exact Or.inl ⟨by rfl,by rintro w' ⟨s0,s1,s2,s3⟩;go_simp;with_reducible rfl⟩)
  (ha:a.put N v=a':=by(simp only[Act.put,lS_,l0_,lC_,i64_w,i32_w];rfl)):wpAnyLast P md ops Q S ds (fuel+1) l a W:=take_ l' hi hN hc hQ hy hS ha h
theorem takeY4 (i:Nat)(N:Option Tmp){v:Value}{fuel:Nat}{l:Array Bool}(l':Array Bool)(hS:S W){a':Act}
  (h:wpAnyLast P md ops Q S ds fuel l' a' W) (hi:ops[i]?=some o:=by rfl) (hN:o.dst=N:=by rfl) (hc:takeB md ops ds l l' i=true:=by kernel_rfl)
  (hQ:∀c a w,Q (.panic c) (a.put o.dst v) w→Q (.panic c) a w:=by exact fun _ _ _ h=>h)
  (hy:YieldsIf P ops S o v a:=by exact Or.inl ⟨by rfl,by rintro w' ⟨s0,s1,s2,s3⟩;go_simp;with_reducible rfl⟩)
  (ha:a.put N v=a':=by(simp only[Act.put,lS_,l0_,lC_,i64_w,i32_w];rfl)):wpAnyLast P md ops Q S ds (fuel+1) l a W:=take_ l' hi hN hc hQ hy hS ha h
theorem takeZ6 (i:Nat)(N:Option Tmp){v:Value}{fuel:Nat}{l:Array Bool}(l':Array Bool)(hS:S W){a':Act}
  (h:wpAnyLast P md ops Q S ds fuel l' a' W) (hi:ops[i]?=some o:=by rfl) (hN:o.dst=N:=by rfl) (hc:takeB md ops ds l l' i=true:=by exact take_ofW HT_.out HW_.out (by kernel_rfl))
  (hQ:∀c a w,Q (.panic c) (a.put o.dst v) w→Q (.panic c) a w:=by exact fun _ _ _ h=>h)
  (hy:YieldsIf P ops S o v a:=by exact Or.inl ⟨by rfl,by rintro w' ⟨s0,s1,s2,s3,s4,s5⟩;go_simp;with_reducible rfl⟩)
  (ha:a.put N v=a':=by(simp only[Act.put,lS_,l0_,lC_,i64_w,i32_w];rfl)):wpAnyLast P md ops Q S ds (fuel+1) l a W:=take_ l' hi hN hc hQ hy hS ha h
theorem takeZ16 (i:Nat)(N:Option Tmp){v:Value}{fuel:Nat}{l:Array Bool}(l':Array Bool)(hS:S W){a':Act}
  (h:wpAnyLast P md ops Q S ds fuel l' a' W) (hi:ops[i]?=some o:=by rfl) (hN:o.dst=N:=by rfl) (hc:takeB md ops ds l l' i=true:=by exact take_ofW HT_.out HW_.out (by kernel_rfl))
  (hQ:∀c a w,Q (.panic c) (a.put o.dst v) w→Q (.panic c) a w:=by exact fun _ _ _ h=>h)
  (hy:YieldsIf P ops S o v a:=by exact Or.inl ⟨by rfl,by rintro w' ⟨s0,s1,s2,s3,s4,s5,s6,s7,s8,s9,s10,s11,s12,s13,s14,s15⟩;go_simp;with_reducible rfl⟩)
  (ha:a.put N v=a':=by(simp only[Act.put,lS_,l0_,lC_,i64_w,i32_w];rfl)):wpAnyLast P md ops Q S ds (fuel+1) l a W:=take_ l' hi hN hc hQ hy hS ha h
end
theorem cf2 {w:World}{g:Nat}{t:TypeId}{x0 x1:Value}(h:Aside0 (w.heap[g]?=some (.cells #[x0,x1] t (0,0)))):w.cell? ⟨g,0,none⟩=some x0∧w.cell? ⟨g,1,none⟩=some x1∧w.frozen? ⟨g,0,none⟩=false∧w.frozen? ⟨g,1,none⟩=false:=⟨(blk_cell h.out 0).trans rfl,(blk_cell h.out 1).trans rfl,blk_frozen h.out 0,blk_frozen h.out 1⟩
theorem cf3 {w:World}{g:Nat}{t:TypeId}{x0 x1 x2:Value}(h:Aside0 (w.heap[g]?=some (.cells #[x0,x1,x2] t (0,0)))):w.cell? ⟨g,0,none⟩=some x0∧w.cell? ⟨g,1,none⟩=some x1∧w.cell? ⟨g,2,none⟩=some x2∧w.frozen? ⟨g,0,none⟩=false∧w.frozen? ⟨g,1,none⟩=false∧w.frozen? ⟨g,2,none⟩=false:=⟨(blk_cell h.out 0).trans rfl,(blk_cell h.out 1).trans rfl,(blk_cell h.out 2).trans rfl,blk_frozen h.out 0,blk_frozen h.out 1,blk_frozen h.out 2⟩
theorem cf4 {w:World}{g:Nat}{t:TypeId}{x0 x1 x2 x3:Value}(h:Aside0 (w.heap[g]?=some (.cells #[x0,x1,x2,x3] t (0,0)))):w.cell? ⟨g,0,none⟩=some x0∧w.cell? ⟨g,1,none⟩=some x1∧w.cell? ⟨g,2,none⟩=some x2∧w.cell? ⟨g,3,none⟩=some x3∧w.frozen? ⟨g,0,none⟩=false∧w.frozen? ⟨g,1,none⟩=false∧w.frozen? ⟨g,2,none⟩=false∧w.frozen? ⟨g,3,none⟩=false:=⟨(blk_cell h.out 0).trans rfl,(blk_cell h.out 1).trans rfl,(blk_cell h.out 2).trans rfl,(blk_cell h.out 3).trans rfl,blk_frozen h.out 0,blk_frozen h.out 1,blk_frozen h.out 2,blk_frozen h.out 3⟩
theorem cf5 {w:World}{g:Nat}{t:TypeId}{x0 x1 x2 x3 x4:Value}(h:Aside0 (w.heap[g]?=some (.cells #[x0,x1,x2,x3,x4] t (0,0)))):w.cell? ⟨g,0,none⟩=some x0∧w.cell? ⟨g,1,none⟩=some x1∧w.cell? ⟨g,2,none⟩=some x2∧w.cell? ⟨g,3,none⟩=some x3∧w.cell? ⟨g,4,none⟩=some x4∧w.frozen? ⟨g,0,none⟩=false∧w.frozen? ⟨g,1,none⟩=false∧w.frozen? ⟨g,2,none⟩=false∧w.frozen? ⟨g,3,none⟩=false∧w.frozen? ⟨g,4,none⟩=false:=⟨(blk_cell h.out 0).trans rfl,(blk_cell h.out 1).trans rfl,(blk_cell h.out 2).trans rfl,(blk_cell h.out 3).trans rfl,(blk_cell h.out 4).trans rfl,blk_frozen h.out 0,blk_frozen h.out 1,blk_frozen h.out 2,blk_frozen h.out 3,blk_frozen h.out 4⟩
abbrev yT:Bool:=true
abbrev yF:Bool:=false
abbrev yA (m n:Nat):Array Bool:=⟨List.replicate m true++List.replicate n false⟩
theorem A_ {p:Prop}(h:p):Aside0 p:=⟨h⟩
abbrev bS:=@below_step
abbrev bB:=@blk_below
abbrev rB:=@Kd.R_below
abbrev gC:=@gate_callee
abbrev gD:=@gate_dst
abbrev sI:=@oJ_
abbrev pR:=@bodyPost_ret
abbrev dT:=@decide_eq_true
abbrev dF:=@decide_eq_false
section
variable {α:Type}{r:α}{x y:Option α}{c:Prop}{i:Decidable c}
theorem iteN (h:(if c then x else none)=some r):c∧x=some r:=by
 by_cases hc:c
 ·rw[if_pos hc]at h;exact⟨hc,h⟩
 ·rw[if_neg hc]at h;cases h
theorem iteE (h:(if c then x else y)=some r):(c∧x=some r)∨(¬c∧y=some r):=by
 by_cases hc:c
 ·rw[if_pos hc]at h;exact .inl ⟨hc,h⟩
 ·rw[if_neg hc]at h;exact .inr ⟨hc,h⟩
theorem iteB {b:Bool}(h:(if b=true then x else y)=some r):(b=true∧x=some r)∨(b=false∧y=some r):=by cases b <;> simpa using h
theorem iteNd (h:(if c then x else none)=some r):decide c=true∧x=some r:=⟨decide_eq_true (iteN h).1,(iteN h).2⟩
theorem iteEd (h:(if c then x else y)=some r):(decide c=true∧x=some r)∨(decide c=false∧y=some r):=(iteE h).imp (fun z=>⟨decide_eq_true z.1,z.2⟩) (fun z=>⟨decide_eq_false z.1,z.2⟩)
end
section
variable {α:Type}{r:α}{x y:Option α}{a b:Int}
theorem gtT (h:a>b):decide (b<a)=true:=decide_eq_true h
theorem gtF (h:¬a>b):decide (b<a)=false:=decide_eq_false h
theorem geT (h:a≥b):decide (b≤a)=true:=decide_eq_true h
theorem geF (h:¬a≥b):decide (b≤a)=false:=decide_eq_false h
theorem iteEg {i:Decidable (a>b)}(h:(if a>b then x else y)=some r):(@decide (b<a) (Int.decLt b a)=true∧x=some r)∨(@decide (b<a) (Int.decLt b a)=false∧y=some r):=(iteE h).imp (fun z=>⟨gtT z.1,z.2⟩) (fun z=>⟨gtF z.1,z.2⟩)
theorem iteEe {i:Decidable (a≥b)}(h:(if a≥b then x else y)=some r):(@decide (b≤a) (Int.decLe b a)=true∧x=some r)∨(@decide (b≤a) (Int.decLe b a)=false∧y=some r):=(iteE h).imp (fun z=>⟨geT z.1,z.2⟩) (fun z=>⟨geF z.1,z.2⟩)
end
section
variable {α β:Type}[BEq β][LawfulBEq β]{r:α}{x y:Option α}{a b:β}
theorem eqT (h:a=b):(a==b)=true∧(a != b)=false:=⟨beq_iff_eq.mpr h,bne_eq_false_iff_eq.mpr h⟩
theorem eqF (h:¬a=b):(a==b)=false∧(a != b)=true:=⟨bN_.mpr h,bne_iff_ne.mpr h⟩
theorem iteEq {i:Decidable (a=b)}(h:(if a=b then x else y)=some r):((a==b)=true∧(a != b)=false∧x=some r)∨((a==b)=false∧(a != b)=true∧¬a=b∧y=some r):=
 (iteE h).imp (fun z=>⟨(eqT z.1).1,(eqT z.1).2,z.2⟩) (fun z=>⟨(eqF z.1).1,(eqF z.1).2,z.1,z.2⟩)
end
theorem atB {P Q R:Prop}[Decidable P][Decidable Q](f:P→Q→R)(p:decide P=true:=by first|(with_reducible assumption)|assumption)(q:decide Q=true:=by first|(with_reducible assumption)|assumption):R∧(P=True)∧(Q=True):=
 ⟨f (of_decide_eq_true p) (of_decide_eq_true q),eq_true (of_decide_eq_true p),eq_true (of_decide_eq_true q)⟩
section
variable {P:Program}{f:FuncId}{args:Array Value}{w:World}{S:Value→World→Prop}
theorem mR {v:Value}{Q:World→Prop}(h:Calls P f args w fun e w'=>e=.returned v∧Q w')(k:∀w',Q w'→S v w'):Calls P f args w fun e w'=>∃u,e=.returned u∧S u w':=h.mono (fun _ w' z=>⟨v,z.1,k w' z.2⟩)
end
section
variable {w W:World}{a b c d:Addr}{s t u v:Value}(hb:Aside0 (Below w.heap.size w W))(h1:w.cell? a=some s)(h2:w.cell? b=some t)(h3:w.cell? c=some u)(h4:w.cell? d=some v)
include hb h1 h2
theorem cb2:W.cell? a=some s∧W.cell? b=some t:=⟨cbl hb h1,cbl hb h2⟩
include h3
theorem cb3:W.cell? a=some s∧W.cell? b=some t∧W.cell? c=some u:=⟨cbl hb h1,cbl hb h2,cbl hb h3⟩
include h4
theorem cb4:W.cell? a=some s∧W.cell? b=some t∧W.cell? c=some u∧W.cell? d=some v:=⟨cbl hb h1,cbl hb h2,cbl hb h3,cbl hb h4⟩
end
theorem zz0 {B:Prop}(f:B:=by first|rfl|(simp[errW_none,errW_some] <;> rfl)|(simp[*,errW_none,errW_some] <;> rfl)):B:=f
theorem zz1 {B A0:Prop}(a0:Aside0 A0)(f:A0→B:=by intro g0_;repeat(first|(with_reducible first|exact g0_|apply below_alloc|apply pw_below_drewN|apply below_drew1)|exact g0_)):B:=f a0.out
theorem zz2 {B:Prop}(f:B:=by first|rfl|(simp only[i64_w,i32_w];done)|(simp only[aid_isEmpty,aid_isEmpty2];done)|(simp;done)|(simp[*];done)):B:=f
theorem zz4 {B:Prop}(f:B:=by first|(go_simp;done)|(go_simp;rfl)):B:=f
theorem zz5 {B A0:Prop}(a0:Aside0 A0)(f:A0→B:=by intro g0_;have:=g0_;omega):B:=f a0.out
theorem zz6 {B A0:Prop}(a0:Aside0 A0)(f:A0→B:=by intro g0_;first|(with_reducible exact g0_)|((with_reducible repeat(first|apply Kd.R_alloc|apply Kd.R_drewN|apply Kd.R_drew));exact g0_)):B:=f a0.out
theorem zz7 {B A0:Prop}(a0:Aside0 A0)(f:A0→B:=by intro g0_;repeat(first|(with_reducible first|exact g0_|apply Kept.alloc|apply Kept.drewN|apply Kept.drew)|exact g0_)):B:=f a0.out
theorem zz22 {B:Prop}(f:B:=by repeat(first|exact Drawn0.refl _|apply Drawn0.step)):B:=f
theorem zz24 {B:Prop}(f:B:=by first|exact Kd.R_nil _ _ _ _ _|exact Kd.N_nil _ _ _ _ _|exact Kd.V_nil _ _ _ _ _|exact Kd.Q_nil _ _ _ _ _|exact Kd.S_nil _ _ _ _ _):B:=f
theorem zz26 {B A0:Prop}(a0:Aside0 A0)(f:A0→B:=by intro g0_;have:=g0_;first|omega|exact lL_ _):B:=f a0.out
theorem zz28 {B A0 A1:Prop}(a0:Aside0 A0)(a1:Aside0 A1)(f:A0→A1→B:=by intro g0_ g1_;have:=g0_;have:=g1_;omega):B:=f a0.out a1.out
theorem zz33 {B:Prop}(f:B:=by first|omega|exact lL_ _):B:=f
theorem zz36 {B A0:Prop}(a0:Aside0 A0)(f:A0→B:=by intro g0_;first|(with_reducible exact g0_)|((with_reducible repeat(first|apply blk_drewN|apply blk_drew|apply blk_alloc));exact g0_)):B:=f a0.out
theorem zz37 {B A0 A1:Prop}(a0:Aside0 A0)(a1:Aside0 A1)(f:A0→A1→B:=by intro g0_ g1_;repeat(first|(with_reducible first|exact g0_|apply below_alloc|apply pw_below_drewN|apply below_drew1|refine below_set ?_ g1_)|exact g0_)):B:=f a0.out a1.out
theorem zz47 {B:Prop}(f:B:=by(try simp only[List.map_toArray,List.map_cons,List.map_nil]);first|done|rfl|(simp only[List.length_drop,lT_];rfl)):B:=f
theorem zz52 {B A0 A1 A2:Prop}(a0:Aside0 A0)(a1:Aside0 A1)(a2:Aside0 A2)(f:A0→A1→A2→B:=by intro g0_ g1_ g2_;repeat(first|(with_reducible first|exact g0_|apply below_alloc|apply pw_below_drewN|apply below_drew1|refine below_set ?_ g1_|refine below_set ?_ g2_)|exact g0_)):B:=f a0.out a1.out a2.out
theorem zz63 {B A0 A1:Prop}(a0:Aside0 A0)(a1:Aside0 A1)(f:A0→A1→B:=by intro g0_ g1_;repeat(first|exact(Kd.C_below g0_ g1_)|(with_reducible refine Kd.C_alloc ?_ _)|(with_reducible refine Kd.C_drewN ?_ _)|(with_reducible refine Kd.C_drew ?_))):B:=f a0.out a1.out
theorem zz79 {B A0:Prop}(a0:Aside0 A0)(f:A0→B:=by intro g0_;(with_reducible repeat(first|apply Kd.R_alloc|apply Kd.R_drewN|apply Kd.R_drew));exact Kd.R_mono g0_ (fun _ hk=>hk.2)):B:=f a0.out
theorem zz81 {B A0:Prop}(a0:Aside0 A0)(f:A0→B:=by intro g0_;(with_reducible repeat(first|apply Kd.R_alloc|apply Kd.R_drewN|apply Kd.R_drew));exact Kd.R_mono g0_ (fun _ hk=>⟨trivial,hk⟩)):B:=f a0.out
theorem zz82 {B A0:Prop}(a0:Aside0 A0)(f:A0→B:=by intro g0_;first|((repeat(first|(with_reducible first|exact g0_|refine blk_drewN ?_ _|refine blk_drew ?_|refine blk_alloc ?_ _|apply blk_put)|exact g0_));all_goals rfl;done)|(apply blk_put (i:=3);apply blk_put (i:=2);apply blk_put (i:=1);apply blk_put (i:=0);exact g0_;all_goals rfl)):B:=f a0.out
theorem zz83 {B A0:Prop}(a0:Aside0 A0)(f:A0→B:=by intro g0_;repeat(first|exact(Kd.R_reads' g0_).2.2|(with_reducible refine Kd.C_alloc ?_ _)|(with_reducible refine Kd.C_drewN ?_ _)|(with_reducible refine Kd.C_drew ?_))):B:=f a0.out
theorem zz84 {B A0:Prop}(a0:Aside0 A0)(f:A0→B:=by intro g0_;(with_reducible repeat(first|apply Kd.R_alloc|apply Kd.R_drewN|apply Kd.R_drew));exact Kd.R_mono g0_ (fun _ hk=>⟨hk.1.2,hk.2⟩)):B:=f a0.out
theorem zz85 {B A0:Prop}(a0:Aside0 A0)(f:A0→B:=by intro g0_;(with_reducible repeat(first|apply Kd.R_alloc|apply Kd.R_drewN|apply Kd.R_drew));exact Kd.R_mono g0_ (fun _ hk=>⟨hk.2,hk.1⟩)):B:=f a0.out
theorem zz86 {B A0 A1 A2 A3:Prop}(a0:Aside0 A0)(a1:Aside0 A1)(a2:Aside0 A2)(a3:Aside0 A3)(f:A0→A1→A2→A3→B:=by intro g0_ g1_ g2_ g3_;repeat(first|(with_reducible first|exact g0_|apply below_alloc|apply pw_below_drewN|apply below_drew1|refine below_set ?_ g1_|refine below_set ?_ g2_|refine below_set ?_ g3_)|exact g0_)):B:=f a0.out a1.out a2.out a3.out
theorem zz87 {B A0:Prop}(a0:Aside0 A0)(f:A0→B:=by intro g0_;apply Kd.R_mono;(focus ((repeat(first|(with_reducible first|exact g0_|apply Kd.R_alloc|apply Kd.R_drewN|apply Kd.R_drew|apply Kd.R_far)|exact g0_));all_goals (intro _ hk_;first|exact hk_.2|exact hk_.1.2|exact hk_.1.1.2|exact hk_.1.1.1.2|exact hk_.1.1.1.1.2|exact hk_.1.1.1.1.1.2|exact hk_.1.1.1.1.1.1.2)));intro _ hk_;first|exact trivial|(repeat' (with_reducible apply And.intro)) <;> first|exact hk_|exact hk_.2|exact hk_.1.2|exact hk_.1.1.2|exact hk_.1.1.1.2|exact hk_.1.1.1.1.2|exact hk_.1.1.1.1.1.2|exact hk_.1.1.1.1.1.1.2|exact hk_.1|exact hk_.1.1|exact hk_.1.1.1|exact hk_.1.1.1.1|exact hk_.1.1.1.1.1|exact hk_.1.1.1.1.1.1|exact hk_.2.2|exact hk_.1.2.2|exact hk_.1.1.2.2|exact hk_.1.1.1.2.2|exact hk_.1.1.1.1.2.2|exact hk_.1.1.1.1.1.2.2|exact hk_.1.1.1.1.1.1.2.2|exact hk_.2.2.2|exact hk_.1.2.2.2|exact hk_.1.1.2.2.2|exact hk_.1.1.1.2.2.2|exact hk_.1.1.1.1.2.2.2|exact hk_.1.1.1.1.1.2.2.2|exact hk_.1.1.1.1.1.1.2.2.2|exact hk_.2.2.2.2|exact hk_.1.2.2.2.2|exact hk_.1.1.2.2.2.2|exact hk_.1.1.1.2.2.2.2|exact hk_.1.1.1.1.2.2.2.2|exact hk_.1.1.1.1.1.2.2.2.2|exact hk_.1.1.1.1.1.1.2.2.2.2|exact hk_.2.2.2.2.2|exact hk_.1.2.2.2.2.2|exact hk_.1.1.2.2.2.2.2|exact hk_.1.1.1.2.2.2.2.2|exact hk_.1.1.1.1.2.2.2.2.2|exact hk_.1.1.1.1.1.2.2.2.2.2|exact hk_.1.1.1.1.1.1.2.2.2.2.2|exact hk_.2.1|exact hk_.1.2.1|exact hk_.1.1.2.1|exact hk_.1.1.1.2.1|exact hk_.1.1.1.1.2.1|exact hk_.1.1.1.1.1.2.1|exact hk_.2.2.1|exact hk_.1.2.2.1|exact hk_.1.1.2.2.1|exact hk_.1.1.1.2.2.1|exact hk_.1.1.1.1.2.2.1|exact hk_.1.1.1.1.1.2.2.1|exact hk_.2.2.2.1|exact hk_.1.2.2.2.1|exact hk_.1.1.2.2.2.1|exact hk_.1.1.1.2.2.2.1|exact hk_.1.1.1.1.2.2.2.1|exact hk_.1.1.1.1.1.2.2.2.1|exact hk_.2.2.2.2.1|exact hk_.1.2.2.2.2.1|exact hk_.1.1.2.2.2.2.1|exact hk_.1.1.1.2.2.2.2.1|exact hk_.1.1.1.1.2.2.2.2.1|exact hk_.1.1.1.1.1.2.2.2.2.1|exact hk_.2.2.2.2.2.1|exact hk_.1.2.2.2.2.2.1|exact hk_.1.1.2.2.2.2.2.1|exact hk_.1.1.1.2.2.2.2.2.1|exact hk_.1.1.1.1.2.2.2.2.2.1|exact hk_.1.1.1.1.1.2.2.2.2.2.1):B:=f a0.out
theorem zz88 {B A0 A1:Prop}(a0:Aside0 A0)(a1:Aside0 A1)(f:A0→A1→B:=by intro g0_ g1_;(repeat(first|(with_reducible first|exact g0_|refine blk_drewN ?_ _|refine blk_drew ?_|refine blk_alloc ?_ _|apply blk_put|apply blk_far)|exact g0_));all_goals first|rfl|exact g1_):B:=f a0.out a1.out
theorem zz116 {B:Prop}(f:B:=by first|rfl|(simp[errW_none,errW_some] <;> rfl)|(simp only[←hji4,←hji9];first|rfl|(simp[errW_none,errW_some] <;> rfl))|(simp[*,errW_none,errW_some] <;> rfl)):B:=f
theorem zz120 {B A0:Prop}(a0:Aside0 A0)(f:A0→B:=by intro g0_;(with_reducible repeat(first|apply Kd.R_alloc|apply Kd.R_drewN|apply Kd.R_drew));exact Kd.R_mono g0_ (fun _ hk=>trivial)):B:=f a0.out
theorem zz132 {B:Prop}(f:B:=by simp[intOf];omega):B:=f
theorem zz136 {B A0 A1:Prop}(a0:Aside0 A0)(a1:Aside0 A1)(f:A0→A1→B:=by intro g0_ g1_;(with_reducible repeat(first|apply Kd.R_alloc|apply Kd.R_drewN|apply Kd.R_drew));exact(Kd.R_mono (Kd.R_far (p:=⟨gb330,3,none⟩) (Kd.R_far (p:=⟨gb330,2,none⟩) (Kd.R_far (p:=⟨gb330,1,none⟩) (Kd.R_far (p:=⟨gb330,0,none⟩) (Kd.R_types g0_ g1_ (by decide)) (fun _ hk=>hk.2) (.string a0)) (fun _ hk=>hk.2) (.slice Ao31 t327.length co31)) (fun _ hk=>hk.2) (.bool t312)) (fun _ hk=>hk.2) (.string t313)) (fun _ h_=>h_.1))):B:=f a0.out a1.out
theorem zz138 {B:Prop}(f:B:=by(try simp only[List.map_toArray,List.map_cons,List.map_nil]);first|done|rfl|(simp only[List.length_drop,lT_];rfl)|(simp <;> repeat' (first|rfl|constructor))):B:=f
end Go.Proofs.YtalfefmnlnkcaaaGreatDoor.P
end
section
namespace Go.Proofs
open Go.Shelf
def Tryz.lays156_ren:Go.Shelf.Ren:=⟨fun|156=>93|165=>110|166=>111|169=>112|240=>130|241=>131|276=>141|277=>142|n=>n,fun|31=>22|9=>9|3=>3|4=>4|0=>0|20=>20|72=>121|76=>125|70=>119|37=>35|75=>124|127=>140|164=>147|5=>5|80=>127|n=>n,fun|n=>n⟩
theorem Tryz.lays156:Go.Proofs.Lays.n156 Tryz.prog Tryz.lays156_ren:={
 mixed:=by kernel_rfl
 f156:=Tryz.func93.trans (congrArg some (by kernel_rfl))
 f165:=Tryz.func110.trans (congrArg some (by kernel_rfl))
 f166:=Tryz.func111.trans (congrArg some (by kernel_rfl))
 f169:=Tryz.func112.trans (congrArg some (by kernel_rfl))
 f240:=Tryz.func130.trans (congrArg some (by kernel_rfl))
 f241:=Tryz.func131.trans (congrArg some (by kernel_rfl))
 f276:=Tryz.func141.trans (congrArg some (by kernel_rfl))
 f277:=Tryz.func142.trans (congrArg some (by kernel_rfl))
 t0:=Tryz.underlying0
 a0:=Tryz.isAgg0
 z0:=Tryz.sizeOf0
 v0:=Tryz.zeroValue0
 t3:=Tryz.underlying3
 a3:=Tryz.isAgg3
 z3:=Tryz.sizeOf3
 v3:=Tryz.zeroValue3
 t4:=Tryz.underlying4
 a4:=Tryz.isAgg4
 z4:=Tryz.sizeOf4
 v4:=Tryz.zeroValue4
 t9:=Tryz.underlying9
 a9:=Tryz.isAgg9
 z9:=Tryz.sizeOf9
 v9:=Tryz.zeroValue9
 t20:=Tryz.underlying20
 a20:=Tryz.isAgg20
 z20:=Tryz.sizeOf20
 v20:=Tryz.zeroValue20
 t31:=Tryz.underlying22
 a31:=Tryz.isAgg22
 z31:=Tryz.sizeOf22
 v31:=Tryz.zeroValue22
 t37:=Tryz.underlying35
 a37:=Tryz.isAgg35
 z37:=Tryz.sizeOf35
 v37:=Tryz.zeroValue35
 t70:=Tryz.underlying119
 a70:=Tryz.isAgg119
 z70:=Tryz.sizeOf119
 v70:=Tryz.zeroValue119
 t72:=Tryz.underlying121
 a72:=Tryz.isAgg121
 z72:=Tryz.sizeOf121
 v72:=Tryz.zeroValue121
 t75:=Tryz.underlying124
 a75:=Tryz.isAgg124
 z75:=Tryz.sizeOf124
 v75:=Tryz.zeroValue124
 t76:=Tryz.underlying125
 a76:=Tryz.isAgg125
 z76:=Tryz.sizeOf125
 v76:=Tryz.zeroValue125
 t127:=Tryz.underlying140
 a127:=Tryz.isAgg140
 z127:=Tryz.sizeOf140
 v127:=Tryz.zeroValue140
 t164:=Tryz.underlying147
 a164:=Tryz.isAgg147
 z164:=Tryz.sizeOf147
 v164:=Tryz.zeroValue147 }
theorem Tryz.Builder_Extra_156:Builder.Extra Tryz.prog Tryz.lays156_ren:={
 sizeBuilder:=by kernel_rfl
 liesBuilder:=by kernel_rfl
 t5:=Tryz.underlying5
 a5:=Tryz.isAgg5
 z5:=Tryz.sizeOf5
 v5:=Tryz.zeroValue5
 infoByte:=by kernel_rfl
 cellsByte:=by kernel_rfl
 sizeByte:=by kernel_rfl
 neB5:=by decide }
open Go.RowKit in
theorem Tryz.strings_Join_none (a:Option Addr)(c:Nat)(sep:BA)(w:World):
  Calls Tryz.prog 93 #[.slice a 0 c,.string sep] w fun e w'=>e=.returned (.string ⟨#[]⟩)∧w'=w:=Any.strings_Join_none Tryz.lays156 Tryz.Builder_Extra_156 a c sep w
open Go.RowKit in
theorem Tryz.strings_Join (bk o c:Nat)(xs:List BA)(sep:BA)(w:World)(hcells:∀(j:Nat) x,xs[j]?=some x→w.cell? ⟨bk,o+j,none⟩=some (.string x))(hbk:bk<w.heap.size)(hN:xs.length≤140737488355328)(hcap:xs.length≤c)(hlen:(Lib.join (xs.map (·.data.toList)) sep.data.toList).length≤140737488355328):
  Calls Tryz.prog 93 #[.slice (some ⟨bk,o,none⟩) xs.length c,.string sep] w fun e w'=>e=.returned (.string ⟨(Lib.join (xs.map (·.data.toList)) sep.data.toList).toArray⟩)∧Below w.heap.size w w':=Any.strings_Join Tryz.lays156 Tryz.Builder_Extra_156 bk o c xs sep w hcells hbk hN hcap hlen
def Tryz.lays119_ren:Go.Shelf.Ren:=⟨fun|119=>138|n=>n,fun|21=>21|4=>4|n=>n,fun|n=>n⟩
theorem Tryz.lays119:Go.Proofs.Lays.n119 Tryz.prog Tryz.lays119_ren:={
 mixed:=by kernel_rfl
 f119:=Tryz.func138.trans (congrArg some (by kernel_rfl))
 t4:=Tryz.underlying4
 a4:=Tryz.isAgg4
 z4:=Tryz.sizeOf4
 v4:=Tryz.zeroValue4
 t21:=Tryz.underlying21
 a21:=Tryz.isAgg21
 z21:=Tryz.sizeOf21
 v21:=Tryz.zeroValue21 }
theorem Tryz.utf8_ValidRune (r:Int)(w:World):
  Calls Tryz.prog 138 #[.int .i32 r] w fun e w'=>e=.returned (.bool (Lib.validRune r))∧w'=w:=Any.utf8_ValidRune Tryz.lays119 r w
def Tryz.lays137_ren:Go.Shelf.Ren:=⟨fun|137=>137|217=>132|266=>143|n=>n,fun|9=>9|5=>5|3=>3|n=>n,fun|n=>n⟩
theorem Tryz.lays137:Go.Proofs.Lays.n137 Tryz.prog Tryz.lays137_ren:={
 mixed:=by kernel_rfl
 f137:=Tryz.func137.trans (congrArg some (by kernel_rfl))
 f217:=Tryz.func132.trans (congrArg some (by kernel_rfl))
 f266:=Tryz.func143.trans (congrArg some (by kernel_rfl))
 t3:=Tryz.underlying3
 a3:=Tryz.isAgg3
 z3:=Tryz.sizeOf3
 v3:=Tryz.zeroValue3
 t5:=Tryz.underlying5
 a5:=Tryz.isAgg5
 z5:=Tryz.sizeOf5
 v5:=Tryz.zeroValue5
 t9:=Tryz.underlying9
 a9:=Tryz.isAgg9
 z9:=Tryz.sizeOf9
 v9:=Tryz.zeroValue9 }
open Go.RowKit in
theorem Tryz.strings_IndexByte (s:BA)(c:Int)(w:World):
  Calls Tryz.prog 137 #[.string s,.int .u8 c] w fun e w'=>e=.returned (.int .i64 (Lib.indexByte s.data.toList c.toNat.toUInt8))∧w'=w:=Any.strings_IndexByte Tryz.lays137 s c w
def Tryz.lays210_ren:Go.Shelf.Ren:=⟨fun|210=>120|206=>136|n=>n,fun|9=>9|4=>4|3=>3|n=>n,fun|n=>n⟩
theorem Tryz.lays210:Go.Proofs.Lays.n210 Tryz.prog Tryz.lays210_ren:={
 mixed:=by kernel_rfl
 f206:=Tryz.func136.trans (congrArg some (by kernel_rfl))
 f210:=Tryz.func120.trans (congrArg some (by kernel_rfl))
 t3:=Tryz.underlying3
 a3:=Tryz.isAgg3
 z3:=Tryz.sizeOf3
 v3:=Tryz.zeroValue3
 t4:=Tryz.underlying4
 a4:=Tryz.isAgg4
 z4:=Tryz.sizeOf4
 v4:=Tryz.zeroValue4
 t9:=Tryz.underlying9
 a9:=Tryz.isAgg9
 z9:=Tryz.sizeOf9
 v9:=Tryz.zeroValue9 }
open Go.RowKit in
theorem Tryz.stringslite_CutPrefix (s p:BA)(w:World):
  Calls Tryz.prog 120 #[.string s,.string p] w fun e w'=>e=.returned (.tuple #[.string ⟨(Lib.trimPrefix s.data.toList p.data.toList).toArray⟩,.bool (Lib.hasPrefix s.data.toList p.data.toList)])∧w'=w:=Any.stringslite_CutPrefix Tryz.lays210 s p w
def Tryz.lays103_ren:Go.Shelf.Ren:=⟨fun|103=>103|210=>120|206=>136|n=>n,fun|9=>9|4=>4|24=>105|3=>3|n=>n,fun|n=>n⟩
theorem Tryz.lays103:Go.Proofs.Lays.n103 Tryz.prog Tryz.lays103_ren:={
 mixed:=by kernel_rfl
 f103:=Tryz.func103.trans (congrArg some (by kernel_rfl))
 f206:=Tryz.func136.trans (congrArg some (by kernel_rfl))
 f210:=Tryz.func120.trans (congrArg some (by kernel_rfl))
 t3:=Tryz.underlying3
 a3:=Tryz.isAgg3
 z3:=Tryz.sizeOf3
 v3:=Tryz.zeroValue3
 t4:=Tryz.underlying4
 a4:=Tryz.isAgg4
 z4:=Tryz.sizeOf4
 v4:=Tryz.zeroValue4
 t9:=Tryz.underlying9
 a9:=Tryz.isAgg9
 z9:=Tryz.sizeOf9
 v9:=Tryz.zeroValue9
 t24:=Tryz.underlying105
 a24:=Tryz.isAgg105
 z24:=Tryz.sizeOf105
 v24:=Tryz.zeroValue105 }
open Go.RowKit in
theorem Tryz.strings_CutPrefix (s p:BA)(w:World):
  Calls Tryz.prog 103 #[.string s,.string p] w fun e w'=>e=.returned (.tuple #[.string ⟨(Lib.trimPrefix s.data.toList p.data.toList).toArray⟩,.bool (Lib.hasPrefix s.data.toList p.data.toList)])∧w'=w:=Any.strings_CutPrefix Tryz.lays103 s p w
def Tryz.lays219_ren:Go.Shelf.Ren:=⟨fun|219=>119|217=>132|225=>133|224=>134|267=>135|266=>143|314=>144|n=>n,fun|9=>9|3=>3|4=>4|5=>5|46=>139|146=>151|51=>150|n=>n,fun|1=>0|n=>n⟩
theorem Tryz.lays219:Go.Proofs.Lays.n219 Tryz.prog Tryz.lays219_ren:={
 mixed:=by kernel_rfl
 f217:=Tryz.func132.trans (congrArg some (by kernel_rfl))
 f219:=Tryz.func119.trans (congrArg some (by kernel_rfl))
 f224:=Tryz.func134.trans (congrArg some (by kernel_rfl))
 f225:=Tryz.func133.trans (congrArg some (by kernel_rfl))
 f266:=Tryz.func143.trans (congrArg some (by kernel_rfl))
 f267:=Tryz.func135.trans (congrArg some (by kernel_rfl))
 f314:=Tryz.func144.trans (congrArg some (by kernel_rfl))
 t3:=Tryz.underlying3
 a3:=Tryz.isAgg3
 z3:=Tryz.sizeOf3
 v3:=Tryz.zeroValue3
 t4:=Tryz.underlying4
 a4:=Tryz.isAgg4
 z4:=Tryz.sizeOf4
 v4:=Tryz.zeroValue4
 t5:=Tryz.underlying5
 a5:=Tryz.isAgg5
 z5:=Tryz.sizeOf5
 v5:=Tryz.zeroValue5
 t9:=Tryz.underlying9
 a9:=Tryz.isAgg9
 z9:=Tryz.sizeOf9
 v9:=Tryz.zeroValue9
 t46:=Tryz.underlying139
 a46:=Tryz.isAgg139
 z46:=Tryz.sizeOf139
 v46:=Tryz.zeroValue139
 t51:=Tryz.underlying150
 a51:=Tryz.isAgg150
 z51:=Tryz.sizeOf150
 v51:=Tryz.zeroValue150
 t146:=Tryz.underlying151
 a146:=Tryz.isAgg151
 z146:=Tryz.sizeOf151
 v146:=Tryz.zeroValue151
 g1:=by kernel_rfl }
open Go.RowKit Go.Lib in
theorem Tryz.stringslite_Index_one (s:BA)(c:UInt8)(w:World):
  Calls Tryz.prog 119 #[.string s,.string ⟨#[c]⟩] w fun e w'=>e=.returned (.int .i64 (Lib.indexByte s.data.toList c))∧w'=w:=Any.stringslite_Index_one Tryz.lays219 s c w
open Go.RowKit Go.Lib in
theorem Tryz.stringslite_Index (s sub:BA)(m:Int)(w:World)(hs:s.size<4294967281)(hm:w.cell? ⟨0,0,none⟩=some (.int .i64 m)):
  Calls Tryz.prog 119 #[.string s,.string sub] w fun e w'=>e=.returned (.int .i64 (Lib.index s.data.toList sub.data.toList))∧w'=w:=Any.stringslite_Index Tryz.lays219 s sub m w hs hm
def Tryz.lays143_ren:Go.Shelf.Ren:=⟨fun|143=>147|219=>119|217=>132|225=>133|224=>134|267=>135|266=>143|314=>144|n=>n,fun|9=>9|3=>3|4=>4|5=>5|46=>139|146=>151|51=>150|n=>n,fun|1=>0|n=>n⟩
theorem Tryz.lays143:Go.Proofs.Lays.n143 Tryz.prog Tryz.lays143_ren:={
 mixed:=by kernel_rfl
 f143:=Tryz.func147.trans (congrArg some (by kernel_rfl))
 f217:=Tryz.func132.trans (congrArg some (by kernel_rfl))
 f219:=Tryz.func119.trans (congrArg some (by kernel_rfl))
 f224:=Tryz.func134.trans (congrArg some (by kernel_rfl))
 f225:=Tryz.func133.trans (congrArg some (by kernel_rfl))
 f266:=Tryz.func143.trans (congrArg some (by kernel_rfl))
 f267:=Tryz.func135.trans (congrArg some (by kernel_rfl))
 f314:=Tryz.func144.trans (congrArg some (by kernel_rfl))
 t3:=Tryz.underlying3
 a3:=Tryz.isAgg3
 z3:=Tryz.sizeOf3
 v3:=Tryz.zeroValue3
 t4:=Tryz.underlying4
 a4:=Tryz.isAgg4
 z4:=Tryz.sizeOf4
 v4:=Tryz.zeroValue4
 t5:=Tryz.underlying5
 a5:=Tryz.isAgg5
 z5:=Tryz.sizeOf5
 v5:=Tryz.zeroValue5
 t9:=Tryz.underlying9
 a9:=Tryz.isAgg9
 z9:=Tryz.sizeOf9
 v9:=Tryz.zeroValue9
 t46:=Tryz.underlying139
 a46:=Tryz.isAgg139
 z46:=Tryz.sizeOf139
 v46:=Tryz.zeroValue139
 t51:=Tryz.underlying150
 a51:=Tryz.isAgg150
 z51:=Tryz.sizeOf150
 v51:=Tryz.zeroValue150
 t146:=Tryz.underlying151
 a146:=Tryz.isAgg151
 z146:=Tryz.sizeOf151
 v146:=Tryz.zeroValue151
 g1:=by kernel_rfl }
open Go.RowKit Go.Lib in
theorem Tryz.strings_Index (s sub:BA)(m:Int)(w:World)(hs:s.size<4294967281)(hm:w.cell? ⟨0,0,none⟩=some (.int .i64 m)):
  Calls Tryz.prog 147 #[.string s,.string sub] w fun e w'=>e=.returned (.int .i64 (Lib.index s.data.toList sub.data.toList))∧w'=w:=Any.strings_Index Tryz.lays143 s sub m w hs hm
def Tryz.lays220_ren:Go.Shelf.Ren:=⟨fun|220=>102|219=>119|217=>132|225=>133|224=>134|267=>135|266=>143|314=>144|n=>n,fun|9=>9|4=>4|3=>3|5=>5|46=>139|146=>151|51=>150|n=>n,fun|1=>0|n=>n⟩
theorem Tryz.lays220:Go.Proofs.Lays.n220 Tryz.prog Tryz.lays220_ren:={
 mixed:=by kernel_rfl
 f217:=Tryz.func132.trans (congrArg some (by kernel_rfl))
 f219:=Tryz.func119.trans (congrArg some (by kernel_rfl))
 f220:=Tryz.func102.trans (congrArg some (by kernel_rfl))
 f224:=Tryz.func134.trans (congrArg some (by kernel_rfl))
 f225:=Tryz.func133.trans (congrArg some (by kernel_rfl))
 f266:=Tryz.func143.trans (congrArg some (by kernel_rfl))
 f267:=Tryz.func135.trans (congrArg some (by kernel_rfl))
 f314:=Tryz.func144.trans (congrArg some (by kernel_rfl))
 t3:=Tryz.underlying3
 a3:=Tryz.isAgg3
 z3:=Tryz.sizeOf3
 v3:=Tryz.zeroValue3
 t4:=Tryz.underlying4
 a4:=Tryz.isAgg4
 z4:=Tryz.sizeOf4
 v4:=Tryz.zeroValue4
 t5:=Tryz.underlying5
 a5:=Tryz.isAgg5
 z5:=Tryz.sizeOf5
 v5:=Tryz.zeroValue5
 t9:=Tryz.underlying9
 a9:=Tryz.isAgg9
 z9:=Tryz.sizeOf9
 v9:=Tryz.zeroValue9
 t46:=Tryz.underlying139
 a46:=Tryz.isAgg139
 z46:=Tryz.sizeOf139
 v46:=Tryz.zeroValue139
 t51:=Tryz.underlying150
 a51:=Tryz.isAgg150
 z51:=Tryz.sizeOf150
 v51:=Tryz.zeroValue150
 t146:=Tryz.underlying151
 a146:=Tryz.isAgg151
 z146:=Tryz.sizeOf151
 v146:=Tryz.zeroValue151
 g1:=by kernel_rfl }
open Go.RowKit Go.Lib in
theorem Tryz.stringslite_Cut (s sep:BA)(m:Int)(w:World)(hs:s.size<4294967281)(hm:w.cell? ⟨0,0,none⟩=some (.int .i64 m)):
  Calls Tryz.prog 102 #[.string s,.string sep] w fun e w'=>e=.returned (.tuple #[.string ⟨(Lib.cut s.data.toList sep.data.toList).1.toArray⟩,.string ⟨(Lib.cut s.data.toList sep.data.toList).2.1.toArray⟩,.bool (Lib.cut s.data.toList sep.data.toList).2.2])∧∃n,w'=w.drewN n:=Any.stringslite_Cut Tryz.lays220 s sep m w hs hm
def Tryz.lays145_ren:Go.Shelf.Ren:=⟨fun|145=>88|220=>102|219=>119|217=>132|225=>133|224=>134|267=>135|266=>143|314=>144|n=>n,fun|9=>9|4=>4|59=>93|3=>3|5=>5|46=>139|146=>151|51=>150|n=>n,fun|1=>0|n=>n⟩
theorem Tryz.lays145:Go.Proofs.Lays.n145 Tryz.prog Tryz.lays145_ren:={
 mixed:=by kernel_rfl
 f145:=Tryz.func88.trans (congrArg some (by kernel_rfl))
 f217:=Tryz.func132.trans (congrArg some (by kernel_rfl))
 f219:=Tryz.func119.trans (congrArg some (by kernel_rfl))
 f220:=Tryz.func102.trans (congrArg some (by kernel_rfl))
 f224:=Tryz.func134.trans (congrArg some (by kernel_rfl))
 f225:=Tryz.func133.trans (congrArg some (by kernel_rfl))
 f266:=Tryz.func143.trans (congrArg some (by kernel_rfl))
 f267:=Tryz.func135.trans (congrArg some (by kernel_rfl))
 f314:=Tryz.func144.trans (congrArg some (by kernel_rfl))
 t3:=Tryz.underlying3
 a3:=Tryz.isAgg3
 z3:=Tryz.sizeOf3
 v3:=Tryz.zeroValue3
 t4:=Tryz.underlying4
 a4:=Tryz.isAgg4
 z4:=Tryz.sizeOf4
 v4:=Tryz.zeroValue4
 t5:=Tryz.underlying5
 a5:=Tryz.isAgg5
 z5:=Tryz.sizeOf5
 v5:=Tryz.zeroValue5
 t9:=Tryz.underlying9
 a9:=Tryz.isAgg9
 z9:=Tryz.sizeOf9
 v9:=Tryz.zeroValue9
 t46:=Tryz.underlying139
 a46:=Tryz.isAgg139
 z46:=Tryz.sizeOf139
 v46:=Tryz.zeroValue139
 t51:=Tryz.underlying150
 a51:=Tryz.isAgg150
 z51:=Tryz.sizeOf150
 v51:=Tryz.zeroValue150
 t59:=Tryz.underlying93
 a59:=Tryz.isAgg93
 z59:=Tryz.sizeOf93
 v59:=Tryz.zeroValue93
 t146:=Tryz.underlying151
 a146:=Tryz.isAgg151
 z146:=Tryz.sizeOf151
 v146:=Tryz.zeroValue151
 g1:=by kernel_rfl }
open Go.RowKit Go.Lib in
theorem Tryz.strings_Cut (s sep:BA)(m:Int)(w:World)(hs:s.size<4294967281)(hm:w.cell? ⟨0,0,none⟩=some (.int .i64 m)):
  Calls Tryz.prog 88 #[.string s,.string sep] w fun e w'=>e=.returned (.tuple #[.string ⟨(Lib.cut s.data.toList sep.data.toList).1.toArray⟩,.string ⟨(Lib.cut s.data.toList sep.data.toList).2.1.toArray⟩,.bool (Lib.cut s.data.toList sep.data.toList).2.2])∧∃n,w'=w.drewN n:=Any.strings_Cut Tryz.lays145 s sep m w hs hm
def Tryz.lays138_ren:Go.Shelf.Ren:=⟨fun|138=>146|195=>148|218=>150|143=>147|219=>119|217=>132|225=>133|224=>134|267=>135|266=>143|314=>144|n=>n,fun|9=>9|3=>3|4=>4|5=>5|0=>0|46=>139|146=>151|51=>150|n=>n,fun|1=>0|n=>n⟩
theorem Tryz.lays138:Go.Proofs.Lays.n138 Tryz.prog Tryz.lays138_ren:={
 mixed:=by kernel_rfl
 f138:=Tryz.func146.trans (congrArg some (by kernel_rfl))
 f143:=Tryz.func147.trans (congrArg some (by kernel_rfl))
 f195:=Tryz.func148.trans (congrArg some (by kernel_rfl))
 f217:=Tryz.func132.trans (congrArg some (by kernel_rfl))
 f218:=Tryz.func150.trans (congrArg some (by kernel_rfl))
 f219:=Tryz.func119.trans (congrArg some (by kernel_rfl))
 f224:=Tryz.func134.trans (congrArg some (by kernel_rfl))
 f225:=Tryz.func133.trans (congrArg some (by kernel_rfl))
 f266:=Tryz.func143.trans (congrArg some (by kernel_rfl))
 f267:=Tryz.func135.trans (congrArg some (by kernel_rfl))
 f314:=Tryz.func144.trans (congrArg some (by kernel_rfl))
 t0:=Tryz.underlying0
 a0:=Tryz.isAgg0
 z0:=Tryz.sizeOf0
 v0:=Tryz.zeroValue0
 t3:=Tryz.underlying3
 a3:=Tryz.isAgg3
 z3:=Tryz.sizeOf3
 v3:=Tryz.zeroValue3
 t4:=Tryz.underlying4
 a4:=Tryz.isAgg4
 z4:=Tryz.sizeOf4
 v4:=Tryz.zeroValue4
 t5:=Tryz.underlying5
 a5:=Tryz.isAgg5
 z5:=Tryz.sizeOf5
 v5:=Tryz.zeroValue5
 t9:=Tryz.underlying9
 a9:=Tryz.isAgg9
 z9:=Tryz.sizeOf9
 v9:=Tryz.zeroValue9
 t46:=Tryz.underlying139
 a46:=Tryz.isAgg139
 z46:=Tryz.sizeOf139
 v46:=Tryz.zeroValue139
 t51:=Tryz.underlying150
 a51:=Tryz.isAgg150
 z51:=Tryz.sizeOf150
 v51:=Tryz.zeroValue150
 t146:=Tryz.underlying151
 a146:=Tryz.isAgg151
 z146:=Tryz.sizeOf151
 v146:=Tryz.zeroValue151
 g1:=by kernel_rfl }
open Go.RowKit Go.Lib in
theorem Tryz.strings_Count_one (s:BA)(c:UInt8)(w:World):
  Calls Tryz.prog 146 #[.string s,.string ⟨#[c]⟩] w fun e w'=>e=.returned (.int .i64 (Lib.countByte s.data.toList c))∧w'=w:=Any.strings_Count_one Tryz.lays138 s c w
open Go.RowKit Go.Lib in
theorem Tryz.strings_Count (s sub:BA)(m:Int)(w:World)(hs:s.size<4294967281)(hm:w.cell? ⟨0,0,none⟩=some (.int .i64 m))(h2:2≤sub.size):
  Calls Tryz.prog 146 #[.string s,.string sub] w fun e w'=>e=.returned (.int .i64 (Lib.countB s sub))∧w'=w:=Any.strings_Count Tryz.lays138 s sub m w hs hm h2
def Tryz.lays206_ren:Go.Shelf.Ren:=⟨fun|206=>136|n=>n,fun|9=>9|4=>4|3=>3|n=>n,fun|n=>n⟩
theorem Tryz.lays206:Go.Proofs.Lays.n206 Tryz.prog Tryz.lays206_ren:={
 mixed:=by kernel_rfl
 f206:=Tryz.func136.trans (congrArg some (by kernel_rfl))
 t3:=Tryz.underlying3
 a3:=Tryz.isAgg3
 z3:=Tryz.sizeOf3
 v3:=Tryz.zeroValue3
 t4:=Tryz.underlying4
 a4:=Tryz.isAgg4
 z4:=Tryz.sizeOf4
 v4:=Tryz.zeroValue4
 t9:=Tryz.underlying9
 a9:=Tryz.isAgg9
 z9:=Tryz.sizeOf9
 v9:=Tryz.zeroValue9 }
open Go.RowKit Go.Lib in
theorem Tryz.stringslite_HasPrefix (s p:BA)(w:World):
  Calls Tryz.prog 136 #[.string s,.string p] w fun e w'=>e=.returned (.bool (Lib.hasPrefix s.data.toList p.data.toList))∧w'=w:=Any.stringslite_HasPrefix Tryz.lays206 s p w
def Tryz.lays152_ren:Go.Shelf.Ren:=⟨fun|152=>121|137=>137|119=>138|224=>134|225=>133|217=>132|266=>143|n=>n,fun|9=>9|21=>21|3=>3|4=>4|5=>5|0=>0|46=>139|n=>n,fun|n=>n⟩
theorem Tryz.lays152:Go.Proofs.Lays.n152 Tryz.prog Tryz.lays152_ren:={
 mixed:=by kernel_rfl
 f119:=Tryz.func138.trans (congrArg some (by kernel_rfl))
 f137:=Tryz.func137.trans (congrArg some (by kernel_rfl))
 f152:=Tryz.func121.trans (congrArg some (by kernel_rfl))
 f217:=Tryz.func132.trans (congrArg some (by kernel_rfl))
 f224:=Tryz.func134.trans (congrArg some (by kernel_rfl))
 f225:=Tryz.func133.trans (congrArg some (by kernel_rfl))
 f266:=Tryz.func143.trans (congrArg some (by kernel_rfl))
 t0:=Tryz.underlying0
 a0:=Tryz.isAgg0
 z0:=Tryz.sizeOf0
 v0:=Tryz.zeroValue0
 t3:=Tryz.underlying3
 a3:=Tryz.isAgg3
 z3:=Tryz.sizeOf3
 v3:=Tryz.zeroValue3
 t4:=Tryz.underlying4
 a4:=Tryz.isAgg4
 z4:=Tryz.sizeOf4
 v4:=Tryz.zeroValue4
 t5:=Tryz.underlying5
 a5:=Tryz.isAgg5
 z5:=Tryz.sizeOf5
 v5:=Tryz.zeroValue5
 t9:=Tryz.underlying9
 a9:=Tryz.isAgg9
 z9:=Tryz.sizeOf9
 v9:=Tryz.zeroValue9
 t21:=Tryz.underlying21
 a21:=Tryz.isAgg21
 z21:=Tryz.sizeOf21
 v21:=Tryz.zeroValue21
 t46:=Tryz.underlying139
 a46:=Tryz.isAgg139
 z46:=Tryz.sizeOf139
 v46:=Tryz.zeroValue139 }
open Go.RowKit Go.Lib in
theorem Tryz.strings_IndexRune_ascii (s:BA)(r:Int)(w:World)(h0:0≤r)(h1:r<128):
  Calls Tryz.prog 121 #[.string s,.int .i32 r] w fun e w'=>e=.returned (.int .i64 (Lib.indexByte s.data.toList r.toNat.toUInt8))∧w'=w:=Any.strings_IndexRune_ascii Tryz.lays152 s r w h0 h1
def Tryz.lays226_ren:Go.Shelf.Ren:=⟨fun|226=>122|n=>n,fun|3=>3|4=>4|n=>n,fun|n=>n⟩
theorem Tryz.lays226:Go.Proofs.Lays.n226 Tryz.prog Tryz.lays226_ren:={
 mixed:=by kernel_rfl
 f226:=Tryz.func122.trans (congrArg some (by kernel_rfl))
 t3:=Tryz.underlying3
 a3:=Tryz.isAgg3
 z3:=Tryz.sizeOf3
 v3:=Tryz.zeroValue3
 t4:=Tryz.underlying4
 a4:=Tryz.isAgg4
 z4:=Tryz.sizeOf4
 v4:=Tryz.zeroValue4 }
open Go.RowKit Go.Lib in
theorem Tryz.strings_shouldUseASCIISet (n:Int)(w:World):
  Calls Tryz.prog 122 #[.int .i64 n] w fun e w'=>e=.returned (.bool (decide (8<n)))∧w'=w:=Any.strings_shouldUseASCIISet Tryz.lays226 n w
def Tryz.lays153_ren:Go.Shelf.Ren:=⟨fun|153=>104|152=>121|226=>122|227=>123|228=>124|137=>137|119=>138|224=>134|225=>133|217=>132|266=>143|n=>n,fun|9=>9|3=>3|4=>4|5=>5|21=>21|117=>134|116=>133|0=>0|46=>139|124=>143|n=>n,fun|n=>n⟩
theorem Tryz.lays153:Go.Proofs.Lays.n153 Tryz.prog Tryz.lays153_ren:={
 mixed:=by kernel_rfl
 f119:=Tryz.func138.trans (congrArg some (by kernel_rfl))
 f137:=Tryz.func137.trans (congrArg some (by kernel_rfl))
 f152:=Tryz.func121.trans (congrArg some (by kernel_rfl))
 f153:=Tryz.func104.trans (congrArg some (by kernel_rfl))
 f217:=Tryz.func132.trans (congrArg some (by kernel_rfl))
 f224:=Tryz.func134.trans (congrArg some (by kernel_rfl))
 f225:=Tryz.func133.trans (congrArg some (by kernel_rfl))
 f226:=Tryz.func122.trans (congrArg some (by kernel_rfl))
 f227:=Tryz.func123.trans (congrArg some (by kernel_rfl))
 f228:=Tryz.func124.trans (congrArg some (by kernel_rfl))
 f266:=Tryz.func143.trans (congrArg some (by kernel_rfl))
 t0:=Tryz.underlying0
 a0:=Tryz.isAgg0
 z0:=Tryz.sizeOf0
 v0:=Tryz.zeroValue0
 t3:=Tryz.underlying3
 a3:=Tryz.isAgg3
 z3:=Tryz.sizeOf3
 v3:=Tryz.zeroValue3
 t4:=Tryz.underlying4
 a4:=Tryz.isAgg4
 z4:=Tryz.sizeOf4
 v4:=Tryz.zeroValue4
 t5:=Tryz.underlying5
 a5:=Tryz.isAgg5
 z5:=Tryz.sizeOf5
 v5:=Tryz.zeroValue5
 t9:=Tryz.underlying9
 a9:=Tryz.isAgg9
 z9:=Tryz.sizeOf9
 v9:=Tryz.zeroValue9
 t21:=Tryz.underlying21
 a21:=Tryz.isAgg21
 z21:=Tryz.sizeOf21
 v21:=Tryz.zeroValue21
 t46:=Tryz.underlying139
 a46:=Tryz.isAgg139
 z46:=Tryz.sizeOf139
 v46:=Tryz.zeroValue139
 t116:=Tryz.underlying133
 a116:=Tryz.isAgg133
 z116:=Tryz.sizeOf133
 t117:=Tryz.underlying134
 a117:=Tryz.isAgg134
 z117:=Tryz.sizeOf134
 v117:=Tryz.zeroValue134
 t124:=Tryz.underlying143
 a124:=Tryz.isAgg143
 z124:=Tryz.sizeOf143
 v124:=Tryz.zeroValue143 }
open Go.RowKit Go.Lib in
theorem Tryz.strings_IndexAny_long (hv116:∀w,(zeroValue 133).run Tryz.prog w=.ok (.agg (Array.replicate 256 (.bool false))) w)(s chars:BA)(w:World)(h2:2≤chars.size)(h8:8<s.size)(hs:s.size<4294967281)(hcs:chars.size<4294967281)(hascii:∀(j:Nat) b,chars.data.toList[j]?=some b→b.toNat<128):
  Calls Tryz.prog 104 #[.string s,.string chars] w fun e w'=>e=.returned (.int .i64 (Lib.indexAny s.data.toList chars.data.toList))∧w'=((w.alloc (.cells (Lib.setCells chars.data.toList) 133)).alloc (.cells (Lib.setCells chars.data.toList) 133)):=Any.strings_IndexAny_long Tryz.lays153 hv116 (by kernel_rfl) s chars w h2 h8 hs hcs hascii
open Go.RowKit Go.Lib in
theorem Tryz.strings_IndexAny (hv116:∀w,(zeroValue 133).run Tryz.prog w=.ok (.agg (Array.replicate 256 (.bool false))) w)(s chars:BA)(w:World)(hs:s.size<4294967281)(hcs:chars.size<4294967281)(has:∀(j:Nat) b,s.data.toList[j]?=some b→b.toNat<128)(hac:∀(j:Nat) b,chars.data.toList[j]?=some b→b.toNat<128):
  Calls Tryz.prog 104 #[.string s,.string chars] w fun e w'=>e=.returned (.int .i64 (Lib.indexAny s.data.toList chars.data.toList))∧Below w.heap.size w w':=Any.strings_IndexAny Tryz.lays153 hv116 (by kernel_rfl) s chars w hs hcs has hac
def Tryz.laysNm216_ren:Go.Shelf.Ren:=⟨fun|16=>125|n=>n,fun|24=>22|9=>9|4=>4|n=>n,fun|n=>n⟩
theorem Tryz.laysNm216:Go.Proofs.Lays2.n16 Tryz.prog Tryz.laysNm216_ren:={
 mixed:=by kernel_rfl
 f16:=Tryz.func125.trans (congrArg some (by kernel_rfl))
 t4:=Tryz.underlying4
 a4:=Tryz.isAgg4
 z4:=Tryz.sizeOf4
 v4:=Tryz.zeroValue4
 t9:=Tryz.underlying9
 a9:=Tryz.isAgg9
 z9:=Tryz.sizeOf9
 v9:=Tryz.zeroValue9
 t24:=Tryz.underlying22
 a24:=Tryz.isAgg22
 z24:=Tryz.sizeOf22
 v24:=Tryz.zeroValue22
 i9:=by kernel_rfl }
open Go.RowKit Go.Lib in
theorem Tryz.slices_Clone_string (b off n c:Nat)(zs:List BA)(w:World)(hz:n≤zs.length)(hbig:n*16≤140737488355328)(hc:∀j,j<zs.length→w.cell? ⟨b,off+j,none⟩=some (.string (zs.getD j bE_))):
  Calls Tryz.prog 125 #[.slice (some ⟨b,off,none⟩) n c] w fun e w'=>∃v',e=.returned v'∧w'.ownsRow w.heap.size 9 1 v' n ((zs.take n).map (Value.string))∧v'≠.slice none 0 0∧Below w.heap.size w w':=Any.slices_Clone_string Tryz.laysNm216 b off n c zs w hz hbig hc
open Go.RowKit Go.Lib in
theorem Tryz.slices_Clone_string_nil (n c:Nat)(w:World):
  Calls Tryz.prog 125 #[.slice none n c] w fun e w'=>e=.returned (.slice none 0 0)∧w'=w:=Any.slices_Clone_string_nil Tryz.laysNm216 n c w
open Go.RowKit Go.Lib in
theorem Tryz.slices_Clone_string_zero (a:Addr)(c:Nat)(w:World):
  Calls Tryz.prog 125 #[.slice (some a) 0 c] w fun e w'=>∃v',e=.returned v'∧w'.ownsRow w.heap.size 9 1 v' 0 []∧v'≠.slice none 0 0∧Below w.heap.size w w':=Any.slices_Clone_string_zero Tryz.laysNm216 a c w
end Go.Proofs
end
section
namespace Go.Proofs.YtalfefmnlnkcaaaGreatDoor.P
open Go.RowKit Go.Proofs.YtalfefmnlnkcaaaGreatDoorW PrintWords PrintLast PrintMore
attribute [local go_sem] max2_int min2_int max_two min_two max_three min_three max_four min_four
set_option maxHeartbeats 8000000
set_option maxRecDepth 100000
def laws_markText.l0:Nat→Int→BA→Option (BA)
 |0,_,_=>none
 |k+1,x0,x3=>if x0>0 then((some (([(wrap64 (48+(Int.tmod x0 10)))%256]:List Int):List Int)).bind fun y408=>(if(strOfNums y408).size+x3.size≤9223372036854775807 then(laws_markText.l0 k (wrap64 (Int.tdiv x0 10)) ((strOfNums y408)++x3))else(none)))else(if 1+x3.size≤9223372036854775807 then(some ((⟨#[109]⟩:BA)++x3))else(none))
def laws_markText.f (k:Nat)(a0:Int):Option (BA):=if a0≤0 then(some (⟨#[109,48]⟩:BA))else(laws_markText.l0 k a0 (⟨#[]⟩:BA))
theorem laws_markText.mono_l:∀k,(∀y0 y1,LeO (laws_markText.l0 k y0 y1) (laws_markText.l0 (k+1) y0 y1))
 |0=>by intros;intro r h;simp[laws_markText.l0]at h
 |k+1=>by
  have ih0:=laws_markText.mono_l k;intros;unfold laws_markText.l0;repeat' first|(with_reducible first|exact ih0 _ _|exact LeO.refl _|exact LeO.none _|refine LeO.ite ?_ ?_|refine LeO.bind ?_ (fun _=>?_))|exact LeO.none _|refine LeO.ite ?_ ?_|refine LeO.bind ?_ (fun _=>?_)
theorem laws_markText.mono:∀a0 k,LeO (laws_markText.f k a0) (laws_markText.f (k+1) a0):=by
 intro a0 k;have ih0:=laws_markText.mono_l k;unfold laws_markText.f
 repeat' first|(with_reducible first|exact ih0 _ _|exact LeO.refl _|exact LeO.none _|refine LeO.ite ?_ ?_|refine LeO.bind ?_ (fun _=>?_))|exact LeO.none _|refine LeO.ite ?_ ?_|refine LeO.bind ?_ (fun _=>?_)
theorem laws_markText.calls (k:Nat)(a0:Int)(r:BA)(w:World)(h:laws_markText.f k a0=some r):
  Calls Tryz.prog 26 #[.int .i64 a0] w fun e w'=>e=.returned (.string r)∧Below w.heap.size w w':=by
 have HB:=A_ (Below.refl w.heap.size w);unfold laws_markText.f at h;have H:=h;clear h;replace H:=iteEd H;rcases H with⟨c2b0,H⟩|⟨c2b0,H⟩
 ·obtain rfl:=sI H
  go_enter Tryz.func26,Tryz.ntmps26;go_wp2
  go_ret;exact⟨zz0,(zz1 HB)⟩
 ·have H':=A_ H
  clear H;go_enter Tryz.func26,Tryz.ntmps26;go_wp2
  go_loopg [0,3] k (fun kq v0 v3 w'=>∃(x0_1:Int)(x3_1:BA),v0=.int .i64 x0_1∧v3=.string x3_1∧Aside0 (laws_markText.l0 kq x0_1 x3_1=some r)∧Aside0 (kq≤k)∧Aside0 (Below w.heap.size w w'))
  case atStart=>exact⟨(a0),((⟨#[]⟩:BA)),zz2,zz2,H',⟨lL_ _⟩,⟨(zz1 HB)⟩⟩
  case round=>
   clear H';obtain⟨x0_1,x3_1,rfl,rfl,HA,HK1,HB⟩:=hrel;cases gk with
   |zero=>exact absurd HA.out (by simp[laws_markText.l0])
   |succ k1=>
    obtain⟨H⟩:=HA;simp only[laws_markText.l0]at H;replace H:=iteEg H;rcases H with⟨c3b0,H⟩|⟨c3b0,H⟩
    ·obtain⟨y408,Ny408⟩:=toY (([(wrap64 (48+(Int.tmod x0_1 10)))%256]:List Int))
     (first|with_reducible replace H:=bindZ Ny408 H|rw[←Ny408.out]at H|skip)
     replace H:=iteN H;obtain⟨c4,H⟩:=H;have c4b0:=eq_true c4;have c4b1:=dT c4;try have c4b2:(9223372036854775807<(strOfNums y408).size+x3_1.size)=False:=eq_false (nL_.2 c4);have H':=A_ H;clear H;go_wp2_with (first|((with_reducible refine gD (N:=12) rfl ?_);refine Kd.R_lit (Kd.int .u8) _ 5 ?hg (N:=12) ?hd (xs:=([(wrap64 (48+(Int.tmod x0_1 10)))%256]:List Int)) (inner:=[.int .u8 ((wrap64 (48+(Int.tmod x0_1 10)))%256)]) (ok:=fun _=>True) (okp:=fun _=>True) ?hr ?hp (fun _ hk=>hk) trivial (Below.refl _ _) (lL_ _) (by simp) ?_;(case hd=>rfl);(case hg=>rfl);(case hr=>exact zz4);(case hp=>exact(Reps.one (show Kd.M (Kd.int .u8) _ _ _ ((wrap64 (48+(Int.tmod x0_1 10)))%256) [.int .u8 ((wrap64 (48+(Int.tmod x0_1 10)))%256)]from rfl) (Reps.none _ _)));intro v409 w5 ho6 hb hg_ hnew_;clear hg_ hnew_;(first|rw[←Ny408.out]at ho6|(simp only[Int.reduceToNat]at ho6;rw[←Ny408.out]at ho6));have HO410:=A_ (Kd.R_lower ho6 (below_size (zz1 HB)));replace HB:=A_ (bS (zz1 HB) hb);clear hb ho6;have hcv7:=own_string (P:=Tryz.prog) Tryz.underlying35 Tryz.underlying5 Tryz.underlying9 (Kd.own_of_R HO410.out)))
     go_roundg k1
     case measure=>have:=HK1.out;omega
     case rel=>exact⟨(wrap64 (Int.tdiv x0_1 10)),((strOfNums y408)++x3_1),zz2,zz2,H',⟨(zz5 HK1)⟩,⟨(zz1 HB)⟩⟩
    ·replace H:=iteE H
     rcases H with⟨c8,H⟩|⟨c8,H⟩
     ·have c8b0:=eq_true c8
      have c8b1:=dT c8;try have c8b2:(9223372036854775807<1+x3_1.size)=False:=eq_false (nL_.2 c8);obtain rfl:=sI H;go_wp2;go_ret;exact⟨zz0,(zz1 HB)⟩
     ·exact absurd H (by simp)
def laws_markStringS.l0:Nat→List BA→Int→Int→Option (Int×List BA)
 |0,_,_,_=>none
 |k+1,x0,x1,x5=>if x5<(x0.length:Int)then((laws_markText.f k x1).bind fun t411=>(if 0≤x5 then(laws_markStringS.l0 k (x0.set (x5:Int).toNat t411) (wrap64 (x1+1)) (wrap64 (x5+1)))else(none)))else(some (x1,x0))
def laws_markStringS.f (k:Nat)(l0:List BA)(a1:Int):Option (Int×List BA):=laws_markStringS.l0 k l0 a1 0
theorem laws_markStringS.mono_l:∀k,(∀y0 y1 y2,LeO (laws_markStringS.l0 k y0 y1 y2) (laws_markStringS.l0 (k+1) y0 y1 y2))
 |0=>by intros;intro r h;simp[laws_markStringS.l0]at h
 |k+1=>by
  have ih0:=laws_markStringS.mono_l k;intros;unfold laws_markStringS.l0;repeat' first|(with_reducible first|exact ih0 _ _ _|exact laws_markText.mono _ _|exact LeO.refl _|exact LeO.none _|refine LeO.ite ?_ ?_|refine LeO.bind ?_ (fun _=>?_))|exact LeO.none _|refine LeO.ite ?_ ?_|refine LeO.bind ?_ (fun _=>?_)
theorem laws_markStringS.calls (k:Nat)(P0_:Nat→Prop)(u9000_:Value)(l0:List BA)(a1:Int)(r1:Int)(r2:List BA)(w0 w:World)(hB:Below w0.heap.size w0 w)(ho0:Kd.R Kd.string 9 w w0.heap.size P0_ u9000_ l0)(h:laws_markStringS.f k l0 a1=some (r1,r2)):
  Calls Tryz.prog 11 #[u9000_,.int .i64 a1] w fun e w'=>e=.returned (.int .i64 r1)∧Kd.R Kd.string 9 w' w0.heap.size (fun k_=>(P0_ k_∨w.heap.size≤k_)) u9000_ r2∧Below w0.heap.size w0 w'∧Kept w w' (fun k_=>P0_ k_):=by
 have HO0:=A_ (show Kd.R Kd.string 9 w w0.heap.size (fun k_=>(P0_ k_∨w.heap.size≤k_)) u9000_ l0 from Kd.R_mono ho0 (fun k_ hk=>(.inl hk)));have HK:=A_ (Kept.refl w (fun k_=>P0_ k_));have HW0:=A_ hB.size;have HB:=A_ hB;clear hB;unfold laws_markStringS.f at h;have H:=h;clear h;have H':=A_ H;clear H;go_enter Tryz.func11,Tryz.ntmps11;go_wp2
 go_loopg [1,5] k (fun kq v1 v5 w'=>∃(x0_1:List BA)(x1_1:Int)(x5_1:Int),v1=.int .i64 x1_1∧v5=.int .i64 x5_1∧Aside0 (laws_markStringS.l0 kq x0_1 x1_1 x5_1=some (r1,r2))∧Aside0 (kq≤k)∧Aside0 (Kd.R Kd.string 9 w' w0.heap.size (fun k_=>(P0_ k_∨w.heap.size≤k_)) u9000_ x0_1)∧Aside0 (Kept w w' (fun k_=>P0_ k_))∧Aside0 (Below w0.heap.size w0 w'))
 case atStart=>exact⟨(l0),(a1),(0),zz2,zz2,H',⟨lL_ _⟩,⟨(zz6 HO0)⟩,⟨(zz7 HK)⟩,⟨(zz1 HB)⟩⟩
 case round=>
  clear H';obtain⟨x0_1,x1_1,x5_1,rfl,rfl,HA,HK1,HO_0,HK,HB⟩:=hrel;cases gk with
  |zero=>exact absurd HA.out (by simp[laws_markStringS.l0])
  |succ k1=>
   obtain⟨H⟩:=HA;simp only[laws_markStringS.l0]at H;replace H:=iteEd H;rcases H with⟨c3b0,H⟩|⟨c3b0,H⟩
   ·replace H:=bindA H
    obtain⟨t411,A4,H⟩:=H;replace H:=iteNd H;obtain⟨c5b0,H⟩:=H;obtain⟨y412,Ny412⟩:=toY (x0_1.set (x5_1:Int).toNat t411);(first|with_reducible replace H:=bindZ Ny412 H|rw[←Ny412.out]at H|skip);have H':=A_ H;clear H;obtain⟨Ao7,co7,eo7⟩:=Kd.R_slice HO_0.out;subst eo7;go_wp2_with (first|(refine gR 26 (some 15) Tryz.func26 (laws_markText.calls k1 x1_1 t411 _ A4.out) ?_;rintro w8 hb;replace HO_0:=A_ (rB (zz6 HO_0) hb);replace HK:=A_ (Kept.below (S:=(fun k_=>P0_ k_)) (zz7 HK) hb);replace HB:=A_ (bS (zz1 HB) hb);(try clear hb);have p6:0≤(x5_1:Int):=ofD;have q6:(x5_1:Int)<((x0_1.length:Int):Int):=ofD;obtain⟨go6,co6,eo6,gb6,gl6,cl6,HG6⟩:=Kd.R_form HO_0.out (by omega);(first|cases eo6|(injection eo6 with ea_ en_ ec_;(first|subst ea_|(injection ea_ with ea_;subst ea_));subst ec_;clear en_));have GB6:=A_ gb6;have GG6:=A_ HG6;clear gb6 gl6 HG6;have HMgo6:=A_ (show(P0_ go6∨w.heap.size≤go6)from(HO_0.out.1 _ rfl));obtain⟨hx6_0,hf6_0⟩:=Kd.R_celln (⟨#[]⟩:BA) HO_0.out (x5_1:Int) p6 q6;replace p6:=eq_true p6;replace q6:=eq_true q6;obtain⟨hy9_,hz9_⟩:=Kd.R_celln (⟨#[]⟩:BA) HO_0.out (x5_1:Int) ofD ofD;have HP9:=Kd.R_putg HO_0.out (x5_1:Int) t411)|((with_reducible refine gate_store (t:=9) (p:=16) rfl ?_);refine store_event (t:=9) (p:=16) (v:=?vo_w10) (w1:=(w8.setCell ⟨go6,(x5_1:Int).toNat,none⟩ (.string t411))) ?hg ?ho ?hn ?hr ?_;(case ho=>rfl);(case hg=>rfl);(case hn=>rfl);(case hr=>exact zz4);intro w10 hw;have hg:w8.grownBy w10 (some go6):=(by rw[hw];exact HP9.2);have hp_:Kd.R Kd.string 9 w10 w0.heap.size (fun k_=>(P0_ k_∨w.heap.size≤k_)) (.slice (some ⟨go6,0,none⟩) x0_1.length co7) y412:=(by rw[hw,Ny412.out];exact HP9.1);clear HP9;replace HB:=A_ ((by rw[hw];exact below_set (HB.out) GB6.out:Below w0.heap.size w0 w10));replace HK:=A_ (Kept.of_grown (S:=(fun k_=>P0_ k_)) hg (zz7 HK) (fun k_ e_=>(HO_0.out.1 k_ e_)));replace HO_0:=A_ (hp_);clear hg hw hp_))
    go_roundg k1
    case measure=>have:=HK1.out;omega
    case rel=>exact⟨(y412),(wrap64 (x1_1+1)),(wrap64 (x5_1+1)),zz2,zz2,H',⟨(zz5 HK1)⟩,⟨(zz6 HO_0)⟩,⟨(zz7 HK)⟩,⟨(zz1 HB)⟩⟩
   ·simp only[oI_,pI_]at H
    obtain⟨rfl,rfl⟩:=H;obtain⟨Ao11,co11,eo11⟩:=Kd.R_slice HO_0.out;subst eo11;go_wp2;go_ret;exact⟨zz0,(zz6 HO_0),(zz1 HB),(zz7 HK)⟩
def laws_markRuleS.l0:Nat→List (S98)→Int→Int→Option (Int×(List (S98)))
 |0,_,_,_=>none
 |k+1,x0,x1,x5=>if x5<(x0.length:Int)then(if 0≤x5 then((some (x0.set (x5:Int).toNat (⟨((Int.tmod x1 3)==0),(rd_T98 x0 x5).f1⟩:S98):List (S98))).bind fun y413=>((laws_markText.f k (wrap64 (x1+1))).bind fun t414=>(laws_markRuleS.l0 k (y413.set (x5:Int).toNat (⟨(rd_T98 y413 x5).f0,t414⟩:S98)) (wrap64 ((wrap64 (x1+1))+1)) (wrap64 (x5+1)))))else(none))else(some (x1,x0))
def laws_markRuleS.f (k:Nat)(l0:List (S98))(a1:Int):Option (Int×(List (S98))):=laws_markRuleS.l0 k l0 a1 0
theorem laws_markRuleS.calls (k:Nat)(P0_:Nat→Prop)(u9000_:Value)(l0:List (S98))(a1:Int)(r1:Int)(r2:List (S98))(w0 w:World)(hB:Below w0.heap.size w0 w)(ho0:Kd.R k98 98 w w0.heap.size P0_ u9000_ l0)(h:laws_markRuleS.f k l0 a1=some (r1,r2)):
  Calls Tryz.prog 59 #[u9000_,.int .i64 a1] w fun e w'=>e=.returned (.int .i64 r1)∧Kd.R k98 98 w' w0.heap.size (fun k_=>(P0_ k_∨w.heap.size≤k_)) u9000_ r2∧Below w0.heap.size w0 w'∧Kept w w' (fun k_=>P0_ k_):=by
 have HO0:=A_ (show Kd.R k98 98 w w0.heap.size (fun k_=>(P0_ k_∨w.heap.size≤k_)) u9000_ l0 from Kd.R_mono ho0 (fun k_ hk=>(.inl hk)));have HK:=A_ (Kept.refl w (fun k_=>P0_ k_));have HW0:=A_ hB.size;have HB:=A_ hB;clear hB;unfold laws_markRuleS.f at h;have H:=h;clear h;have H':=A_ H;clear H;go_enter Tryz.func59,Tryz.ntmps59;go_wp2
 go_loopg [1,5] k (fun kq v1 v5 w'=>∃(x0_1:List (S98))(x1_1:Int)(x5_1:Int),v1=.int .i64 x1_1∧v5=.int .i64 x5_1∧Aside0 (laws_markRuleS.l0 kq x0_1 x1_1 x5_1=some (r1,r2))∧Aside0 (kq≤k)∧Aside0 (Kd.R k98 98 w' w0.heap.size (fun k_=>(P0_ k_∨w.heap.size≤k_)) u9000_ x0_1)∧Aside0 (Kept w w' (fun k_=>P0_ k_))∧Aside0 (Below w0.heap.size w0 w'))
 case atStart=>exact⟨(l0),(a1),(0),zz2,zz2,H',⟨lL_ _⟩,⟨(zz6 HO0)⟩,⟨(zz7 HK)⟩,⟨(zz1 HB)⟩⟩
 case round=>
  clear H';obtain⟨x0_1,x1_1,x5_1,rfl,rfl,HA,HK1,HO_0,HK,HB⟩:=hrel;cases gk with
  |zero=>exact absurd HA.out (by simp[laws_markRuleS.l0])
  |succ k1=>
   obtain⟨H⟩:=HA;simp only[laws_markRuleS.l0]at H;replace H:=iteEd H;rcases H with⟨c3b0,H⟩|⟨c3b0,H⟩
   ·replace H:=iteNd H
    obtain⟨c4b0,H⟩:=H;obtain⟨y413,Ny413⟩:=toY (x0_1.set (x5_1:Int).toNat (⟨((Int.tmod x1_1 3)==0),(rd_T98 x0_1 x5_1).f1⟩:S98));(first|with_reducible replace H:=bindZ Ny413 H|rw[←Ny413.out]at H|skip);replace H:=bindA H;obtain⟨t414,A6,H⟩:=H;obtain⟨y415,Ny415⟩:=toY (y413.set (x5_1:Int).toNat (⟨(rd_T98 y413 x5_1).f0,t414⟩:S98));(first|with_reducible replace H:=bindZ Ny415 H|rw[←Ny415.out]at H|skip);have H':=A_ H;clear H;obtain⟨Ao8,co8,eo8⟩:=Kd.R_slice HO_0.out;subst eo8;have p5:0≤(x5_1:Int):=ofD;have q5:(x5_1:Int)<((x0_1.length:Int):Int):=ofD;obtain⟨go5,co5,eo5,gb5,gl5,cl5,HG5⟩:=Kd.R_form HO_0.out (by omega);(first|cases eo5|(injection eo5 with ea_ en_ ec_;(first|subst ea_|(injection ea_ with ea_;subst ea_));subst ec_;clear en_));have GB5:=A_ gb5;have GG5:=A_ HG5;clear gb5 gl5 HG5;have HMgo5:=A_ (show(P0_ go5∨w.heap.size≤go5)from(HO_0.out.1 _ rfl));obtain⟨ce5,hcl5,hM5,hcc5,hfr5⟩:=Kd.R_elem HO_0.out z98 (x5_1:Int) p5 q5;obtain rfl:=k98_openM hM5;have hx5_0:wr.cell? ⟨go5,(x5_1:Int).toNat*2,none⟩=some (.bool ((rd_T98 x0_1 x5_1).f0)):=hcc5 0 _ rfl;have hx5_1:wr.cell? ⟨go5,(x5_1:Int).toNat*2+1,none⟩=some (.string ((rd_T98 x0_1 x5_1).f1)):=hcc5 1 _ rfl;have hf5_0:wr.frozen? ⟨go5,(x5_1:Int).toNat*2,none⟩=false:=hfr5 0;have hf5_1:wr.frozen? ⟨go5,(x5_1:Int).toNat*2+1,none⟩=false:=hfr5 1;clear hcl5 hcc5 hfr5 hM5;replace p5:=eq_true p5;replace q5:=eq_true q5;have HX9:=A_ (show Kd.R k98 98 wr w0.heap.size (fun k_=>(P0_ k_∨w.heap.size≤k_)) (.slice (some ⟨go5,0,none⟩) x0_1.length co8) x0_1 from(zz6 HO_0));obtain⟨ce9,hcl9,hM9,hcc9,hfr9⟩:=Kd.R_elem HX9.out z98 (x5_1:Int) ofD (by have h_:(x5_1:Int)<((x0_1.length:Int):Int):=ofD;first|exact h_|(have e_:=(Kd.R_reads' HO_0.out).1;omega)|simpa using h_);obtain rfl:=k98_openM hM9;have HP9:=Kd.R_seg HX9.out (x5_1:Int) ofD (by have h_:(x5_1:Int)<((x0_1.length:Int):Int):=ofD;first|exact h_|(have e_:=(Kd.R_reads' HO_0.out).1;omega)|simpa using h_) (seg:=[.bool ((Int.tmod x1_1 3)==0)]) (j:=0) hcl9 hcc9 (show 1≤2 from by decide) (x':=(⟨((Int.tmod x1_1 3)==0),(rd_T98 x0_1 x5_1).f1⟩:S98)) (k98_mkM _ _ _ (⟨((Int.tmod x1_1 3)==0),(rd_T98 x0_1 x5_1).f1⟩:S98) ) (fun _ hk=>hk);have hx9_0:=hcc9 0 _ rfl;(try simp only[show(k98).sz=2 from rfl,Nat.mul_one,Nat.add_zero]at hx9_0);have hf9_0:=hfr9 0;(try simp only[show(k98).sz=2 from rfl,Nat.mul_one,Nat.add_zero]at hf9_0);clear hcl9 hcc9 hfr9 hM9;go_wp2_with (first|((with_reducible refine gate_store (t:=4) (p:=18) rfl ?_);refine store_event (t:=4) (p:=18) (v:=?vo_w10) (w1:=(wr.setCell ⟨go5,(x5_1:Int).toNat*2,none⟩ (.bool ((Int.tmod x1_1 3)==0)))) ?hg ?ho ?hn ?hr ?_;(case ho=>rfl);(case hg=>rfl);(case hn=>rfl);(case hr=>exact zz4);intro w10 hw;have hg:wr.grownBy w10 (some go5):=(by rw[hw];exact HP9.2);have hp_:Kd.R k98 98 w10 w0.heap.size (fun k_=>(P0_ k_∨w.heap.size≤k_)) (.slice (some ⟨go5,0,none⟩) x0_1.length co8) y413:=(by rw[hw,Ny413.out];exact HP9.1);clear HP9;replace HB:=A_ ((by rw[hw];exact below_set (HB.out) GB5.out:Below w0.heap.size w0 w10));replace HK:=A_ (Kept.of_grown (S:=(fun k_=>P0_ k_)) hg (zz7 HK) (fun k_ e_=>(HO_0.out.1 k_ e_)));replace HO_0:=A_ (hp_);clear hg hw hp_)|(refine gR 26 (some 24) Tryz.func26 (laws_markText.calls k1 (wrap64 (x1_1+1)) t414 _ A6.out) ?_;rintro w11 hb;replace HO_0:=A_ (rB (zz6 HO_0) hb);replace HK:=A_ (Kept.below (S:=(fun k_=>P0_ k_)) (zz7 HK) hb);replace HB:=A_ (bS (zz1 HB) hb);(try clear hb);have p7:0≤(x5_1:Int):=ofD;have q7:(x5_1:Int)<((x0_1.length:Int):Int):=ofD;obtain⟨ce7,hcl7,hM7,hcc7,hfr7⟩:=Kd.R_elem HO_0.out z98 (x5_1:Int) p7 q7;obtain rfl:=k98_openM hM7;have hx7_0:w11.cell? ⟨go5,(x5_1:Int).toNat*2,none⟩=some (.bool ((rd_T98 y413 x5_1).f0)):=hcc7 0 _ rfl;have hx7_1:w11.cell? ⟨go5,(x5_1:Int).toNat*2+1,none⟩=some (.string ((rd_T98 y413 x5_1).f1)):=hcc7 1 _ rfl;have hf7_0:w11.frozen? ⟨go5,(x5_1:Int).toNat*2,none⟩=false:=hfr7 0;have hf7_1:w11.frozen? ⟨go5,(x5_1:Int).toNat*2+1,none⟩=false:=hfr7 1;clear hcl7 hcc7 hfr7 hM7;replace p7:=eq_true p7;replace q7:=eq_true q7;have HX12:=A_ (show Kd.R k98 98 w11 w0.heap.size (fun k_=>(P0_ k_∨w.heap.size≤k_)) (.slice (some ⟨go5,0,none⟩) x0_1.length co8) y413 from(zz6 HO_0));obtain⟨ce12,hcl12,hM12,hcc12,hfr12⟩:=Kd.R_elem HX12.out z98 (x5_1:Int) ofD (by have h_:(x5_1:Int)<((x0_1.length:Int):Int):=ofD;first|exact h_|(have e_:=(Kd.R_reads' HO_0.out).1;omega)|simpa using h_);obtain rfl:=k98_openM hM12;have HP12:=Kd.R_seg HX12.out (x5_1:Int) ofD (by have h_:(x5_1:Int)<((x0_1.length:Int):Int):=ofD;first|exact h_|(have e_:=(Kd.R_reads' HO_0.out).1;omega)|simpa using h_) (seg:=[.string t414]) (j:=1) hcl12 hcc12 (show 2≤2 from by decide) (x':=(⟨(rd_T98 y413 x5_1).f0,t414⟩:S98)) (k98_mkM _ _ _ (⟨(rd_T98 y413 x5_1).f0,t414⟩:S98) ) (fun _ hk=>hk);have hx12_1:=hcc12 1 _ rfl;(try simp only[show(k98).sz=2 from rfl,Nat.mul_one,Nat.add_zero]at hx12_1);have hf12_1:=hfr12 1;(try simp only[show(k98).sz=2 from rfl,Nat.mul_one,Nat.add_zero]at hf12_1);clear hcl12 hcc12 hfr12 hM12)|((with_reducible refine gate_store (t:=9) (p:=26) rfl ?_);refine store_event (t:=9) (p:=26) (v:=?vo_w13) (w1:=(w11.setCell ⟨go5,(x5_1:Int).toNat*2+1,none⟩ (.string t414))) ?hg ?ho ?hn ?hr ?_;(case ho=>rfl);(case hg=>rfl);(case hn=>rfl);(case hr=>exact zz4);intro w13 hw;have hg:w11.grownBy w13 (some go5):=(by rw[hw];exact HP12.2);have hp_:Kd.R k98 98 w13 w0.heap.size (fun k_=>(P0_ k_∨w.heap.size≤k_)) (.slice (some ⟨go5,0,none⟩) x0_1.length co8) y415:=(by rw[hw,Ny415.out];exact HP12.1);clear HP12;replace HB:=A_ ((by rw[hw];exact below_set (HB.out) GB5.out:Below w0.heap.size w0 w13));replace HK:=A_ (Kept.of_grown (S:=(fun k_=>P0_ k_)) hg (zz7 HK) (fun k_ e_=>(HO_0.out.1 k_ e_)));replace HO_0:=A_ (hp_);clear hg hw hp_))
    go_roundg k1
    case measure=>have:=HK1.out;omega
    case rel=>exact⟨(y415),(wrap64 ((wrap64 (x1_1+1))+1)),(wrap64 (x5_1+1)),zz2,zz2,H',⟨(zz5 HK1)⟩,⟨(zz6 HO_0)⟩,⟨(zz7 HK)⟩,⟨(zz1 HB)⟩⟩
   ·simp only[oI_,pI_]at H
    obtain⟨rfl,rfl⟩:=H;obtain⟨Ao14,co14,eo14⟩:=Kd.R_slice HO_0.out;subst eo14;go_wp2;go_ret;exact⟨zz0,(zz6 HO_0),(zz1 HB),(zz7 HK)⟩
def laws_markItemS.l0:Nat→List (S76)→Int→Int→Option (Int×(List (S76)))
 |0,_,_,_=>none
 |k+1,x0,x1,x5=>if x5<(x0.length:Int)then((laws_markText.f k x1).bind fun t416=>(if 0≤x5 then((some (x0.set (x5:Int).toNat (⟨t416,(rd_T76 x0 x5).f1⟩:S76):List (S76))).bind fun y417=>(laws_markItemS.l0 k (y417.set (x5:Int).toNat (⟨(rd_T76 y417 x5).f0,wrap64 (x1+1)⟩:S76)) (wrap64 ((wrap64 (x1+1))+1)) (wrap64 (x5+1))))else(none)))else(some (x1,x0))
def laws_markItemS.f (k:Nat)(l0:List (S76))(a1:Int):Option (Int×(List (S76))):=laws_markItemS.l0 k l0 a1 0
theorem laws_markItemS.calls (k:Nat)(P0_:Nat→Prop)(u9000_:Value)(l0:List (S76))(a1:Int)(r1:Int)(r2:List (S76))(w0 w:World)(hB:Below w0.heap.size w0 w)(ho0:Kd.R k76 76 w w0.heap.size P0_ u9000_ l0)(h:laws_markItemS.f k l0 a1=some (r1,r2)):
  Calls Tryz.prog 60 #[u9000_,.int .i64 a1] w fun e w'=>e=.returned (.int .i64 r1)∧Kd.R k76 76 w' w0.heap.size (fun k_=>(P0_ k_∨w.heap.size≤k_)) u9000_ r2∧Below w0.heap.size w0 w'∧Kept w w' (fun k_=>P0_ k_):=by
 have HO0:=A_ (show Kd.R k76 76 w w0.heap.size (fun k_=>(P0_ k_∨w.heap.size≤k_)) u9000_ l0 from Kd.R_mono ho0 (fun k_ hk=>(.inl hk)));have HK:=A_ (Kept.refl w (fun k_=>P0_ k_));have HW0:=A_ hB.size;have HB:=A_ hB;clear hB;unfold laws_markItemS.f at h;have H:=h;clear h;have H':=A_ H;clear H;go_enter Tryz.func60,Tryz.ntmps60;go_wp2
 go_loopg [1,5] k (fun kq v1 v5 w'=>∃(x0_1:List (S76))(x1_1:Int)(x5_1:Int),v1=.int .i64 x1_1∧v5=.int .i64 x5_1∧Aside0 (laws_markItemS.l0 kq x0_1 x1_1 x5_1=some (r1,r2))∧Aside0 (kq≤k)∧Aside0 (Kd.R k76 76 w' w0.heap.size (fun k_=>(P0_ k_∨w.heap.size≤k_)) u9000_ x0_1)∧Aside0 (Kept w w' (fun k_=>P0_ k_))∧Aside0 (Below w0.heap.size w0 w'))
 case atStart=>exact⟨(l0),(a1),(0),zz2,zz2,H',⟨lL_ _⟩,⟨(zz6 HO0)⟩,⟨(zz7 HK)⟩,⟨(zz1 HB)⟩⟩
 case round=>
  clear H';obtain⟨x0_1,x1_1,x5_1,rfl,rfl,HA,HK1,HO_0,HK,HB⟩:=hrel;cases gk with
  |zero=>exact absurd HA.out (by simp[laws_markItemS.l0])
  |succ k1=>
   obtain⟨H⟩:=HA;simp only[laws_markItemS.l0]at H;replace H:=iteEd H;rcases H with⟨c3b0,H⟩|⟨c3b0,H⟩
   ·replace H:=bindA H
    obtain⟨t416,A4,H⟩:=H;replace H:=iteNd H;obtain⟨c5b0,H⟩:=H;obtain⟨y417,Ny417⟩:=toY (x0_1.set (x5_1:Int).toNat (⟨t416,(rd_T76 x0_1 x5_1).f1⟩:S76));(first|with_reducible replace H:=bindZ Ny417 H|rw[←Ny417.out]at H|skip);obtain⟨y418,Ny418⟩:=toY (y417.set (x5_1:Int).toNat (⟨(rd_T76 y417 x5_1).f0,wrap64 (x1_1+1)⟩:S76));(first|with_reducible replace H:=bindZ Ny418 H|rw[←Ny418.out]at H|skip);have H':=A_ H;clear H;obtain⟨Ao8,co8,eo8⟩:=Kd.R_slice HO_0.out;subst eo8;go_wp2_with (first|(refine gR 26 (some 15) Tryz.func26 (laws_markText.calls k1 x1_1 t416 _ A4.out) ?_;rintro w9 hb;replace HO_0:=A_ (rB (zz6 HO_0) hb);replace HK:=A_ (Kept.below (S:=(fun k_=>P0_ k_)) (zz7 HK) hb);replace HB:=A_ (bS (zz1 HB) hb);(try clear hb);have p6:0≤(x5_1:Int):=ofD;have q6:(x5_1:Int)<((x0_1.length:Int):Int):=ofD;obtain⟨go6,co6,eo6,gb6,gl6,cl6,HG6⟩:=Kd.R_form HO_0.out (by omega);(first|cases eo6|(injection eo6 with ea_ en_ ec_;(first|subst ea_|(injection ea_ with ea_;subst ea_));subst ec_;clear en_));have GB6:=A_ gb6;have GG6:=A_ HG6;clear gb6 gl6 HG6;have HMgo6:=A_ (show(P0_ go6∨w.heap.size≤go6)from(HO_0.out.1 _ rfl));obtain⟨ce6,hcl6,hM6,hcc6,hfr6⟩:=Kd.R_elem HO_0.out z76 (x5_1:Int) p6 q6;obtain rfl:=k76_openM hM6;have hx6_0:w9.cell? ⟨go6,(x5_1:Int).toNat*2,none⟩=some (.string ((rd_T76 x0_1 x5_1).f0)):=hcc6 0 _ rfl;have hx6_1:w9.cell? ⟨go6,(x5_1:Int).toNat*2+1,none⟩=some (.int .i64 ((rd_T76 x0_1 x5_1).f1)):=hcc6 1 _ rfl;have hf6_0:w9.frozen? ⟨go6,(x5_1:Int).toNat*2,none⟩=false:=hfr6 0;have hf6_1:w9.frozen? ⟨go6,(x5_1:Int).toNat*2+1,none⟩=false:=hfr6 1;clear hcl6 hcc6 hfr6 hM6;replace p6:=eq_true p6;replace q6:=eq_true q6;have HX10:=A_ (show Kd.R k76 76 w9 w0.heap.size (fun k_=>(P0_ k_∨w.heap.size≤k_)) (.slice (some ⟨go6,0,none⟩) x0_1.length co8) x0_1 from(zz6 HO_0));obtain⟨ce10,hcl10,hM10,hcc10,hfr10⟩:=Kd.R_elem HX10.out z76 (x5_1:Int) ofD (by have h_:(x5_1:Int)<((x0_1.length:Int):Int):=ofD;first|exact h_|(have e_:=(Kd.R_reads' HO_0.out).1;omega)|simpa using h_);obtain rfl:=k76_openM hM10;have HP10:=Kd.R_seg HX10.out (x5_1:Int) ofD (by have h_:(x5_1:Int)<((x0_1.length:Int):Int):=ofD;first|exact h_|(have e_:=(Kd.R_reads' HO_0.out).1;omega)|simpa using h_) (seg:=[.string t416]) (j:=0) hcl10 hcc10 (show 1≤2 from by decide) (x':=(⟨t416,(rd_T76 x0_1 x5_1).f1⟩:S76)) (k76_mkM _ _ _ (⟨t416,(rd_T76 x0_1 x5_1).f1⟩:S76) ) (fun _ hk=>hk);have hx10_0:=hcc10 0 _ rfl;(try simp only[show(k76).sz=2 from rfl,Nat.mul_one,Nat.add_zero]at hx10_0);have hf10_0:=hfr10 0;(try simp only[show(k76).sz=2 from rfl,Nat.mul_one,Nat.add_zero]at hf10_0);clear hcl10 hcc10 hfr10 hM10)|((with_reducible refine gate_store (t:=9) (p:=17) rfl ?_);refine store_event (t:=9) (p:=17) (v:=?vo_w11) (w1:=(w9.setCell ⟨go6,(x5_1:Int).toNat*2,none⟩ (.string t416))) ?hg ?ho ?hn ?hr ?_;(case ho=>rfl);(case hg=>rfl);(case hn=>rfl);(case hr=>exact zz4);intro w11 hw;have hg:w9.grownBy w11 (some go6):=(by rw[hw];exact HP10.2);have hp_:Kd.R k76 76 w11 w0.heap.size (fun k_=>(P0_ k_∨w.heap.size≤k_)) (.slice (some ⟨go6,0,none⟩) x0_1.length co8) y417:=(by rw[hw,Ny417.out];exact HP10.1);clear HP10;replace HB:=A_ ((by rw[hw];exact below_set (HB.out) GB6.out:Below w0.heap.size w0 w11));replace HK:=A_ (Kept.of_grown (S:=(fun k_=>P0_ k_)) hg (zz7 HK) (fun k_ e_=>(HO_0.out.1 k_ e_)));replace HO_0:=A_ (hp_);clear hg hw hp_;have p7:0≤(x5_1:Int):=ofD;have q7:(x5_1:Int)<((x0_1.length:Int):Int):=ofD;obtain⟨ce7,hcl7,hM7,hcc7,hfr7⟩:=Kd.R_elem HO_0.out z76 (x5_1:Int) p7 q7;obtain rfl:=k76_openM hM7;have hx7_0:w11.cell? ⟨go6,(x5_1:Int).toNat*2,none⟩=some (.string ((rd_T76 y417 x5_1).f0)):=hcc7 0 _ rfl;have hx7_1:w11.cell? ⟨go6,(x5_1:Int).toNat*2+1,none⟩=some (.int .i64 ((rd_T76 y417 x5_1).f1)):=hcc7 1 _ rfl;have hf7_0:w11.frozen? ⟨go6,(x5_1:Int).toNat*2,none⟩=false:=hfr7 0;have hf7_1:w11.frozen? ⟨go6,(x5_1:Int).toNat*2+1,none⟩=false:=hfr7 1;clear hcl7 hcc7 hfr7 hM7;replace p7:=eq_true p7;replace q7:=eq_true q7;have HX12:=A_ (show Kd.R k76 76 w11 w0.heap.size (fun k_=>(P0_ k_∨w.heap.size≤k_)) (.slice (some ⟨go6,0,none⟩) x0_1.length co8) y417 from(zz6 HO_0));obtain⟨ce12,hcl12,hM12,hcc12,hfr12⟩:=Kd.R_elem HX12.out z76 (x5_1:Int) ofD (by have h_:(x5_1:Int)<((x0_1.length:Int):Int):=ofD;first|exact h_|(have e_:=(Kd.R_reads' HO_0.out).1;omega)|simpa using h_);obtain rfl:=k76_openM hM12;have HP12:=Kd.R_seg HX12.out (x5_1:Int) ofD (by have h_:(x5_1:Int)<((x0_1.length:Int):Int):=ofD;first|exact h_|(have e_:=(Kd.R_reads' HO_0.out).1;omega)|simpa using h_) (seg:=[.int .i64 (wrap64 (x1_1+1))]) (j:=1) hcl12 hcc12 (show 2≤2 from by decide) (x':=(⟨(rd_T76 y417 x5_1).f0,wrap64 (x1_1+1)⟩:S76)) (k76_mkM _ _ _ (⟨(rd_T76 y417 x5_1).f0,wrap64 (x1_1+1)⟩:S76) ) (fun _ hk=>hk);have hx12_1:=hcc12 1 _ rfl;(try simp only[show(k76).sz=2 from rfl,Nat.mul_one,Nat.add_zero]at hx12_1);have hf12_1:=hfr12 1;(try simp only[show(k76).sz=2 from rfl,Nat.mul_one,Nat.add_zero]at hf12_1);clear hcl12 hcc12 hfr12 hM12)|((with_reducible refine gate_store (t:=3) (p:=24) rfl ?_);refine store_event (t:=3) (p:=24) (v:=?vo_w13) (w1:=(w11.setCell ⟨go6,(x5_1:Int).toNat*2+1,none⟩ (.int .i64 (wrap64 (x1_1+1))))) ?hg ?ho ?hn ?hr ?_;(case ho=>rfl);(case hg=>rfl);(case hn=>rfl);(case hr=>exact zz4);intro w13 hw;have hg:w11.grownBy w13 (some go6):=(by rw[hw];exact HP12.2);have hp_:Kd.R k76 76 w13 w0.heap.size (fun k_=>(P0_ k_∨w.heap.size≤k_)) (.slice (some ⟨go6,0,none⟩) x0_1.length co8) y418:=(by rw[hw,Ny418.out];exact HP12.1);clear HP12;replace HB:=A_ ((by rw[hw];exact below_set (HB.out) GB6.out:Below w0.heap.size w0 w13));replace HK:=A_ (Kept.of_grown (S:=(fun k_=>P0_ k_)) hg (zz7 HK) (fun k_ e_=>(HO_0.out.1 k_ e_)));replace HO_0:=A_ (hp_);clear hg hw hp_))
    go_roundg k1
    case measure=>have:=HK1.out;omega
    case rel=>exact⟨(y418),(wrap64 ((wrap64 (x1_1+1))+1)),(wrap64 (x5_1+1)),zz2,zz2,H',⟨(zz5 HK1)⟩,⟨(zz6 HO_0)⟩,⟨(zz7 HK)⟩,⟨(zz1 HB)⟩⟩
   ·simp only[oI_,pI_]at H
    obtain⟨rfl,rfl⟩:=H;obtain⟨Ao14,co14,eo14⟩:=Kd.R_slice HO_0.out;subst eo14;go_wp2;go_ret;exact⟨zz0,(zz6 HO_0),(zz1 HB),(zz7 HK)⟩
def laws_markLookS.l0:Nat→List (S83)→Int→Int→Option (Int×(List (S83)))
 |0,_,_,_=>none
 |k+1,x0,x1,x5=>if x5<(x0.length:Int)then(if 0≤x5 then((some (x0.set (x5:Int).toNat (⟨x1,(rd_T83 x0 x5).f1,(rd_T83 x0 x5).f2⟩:S83):List (S83))).bind fun y420=>((laws_markText.f k (wrap64 (x1+1))).bind fun t421=>((some (y420.set (x5:Int).toNat (⟨(rd_T83 y420 x5).f0,t421,(rd_T83 y420 x5).f2⟩:S83):List (S83))).bind fun y422=>(laws_markLookS.l0 k (y422.set (x5:Int).toNat (⟨(rd_T83 y422 x5).f0,(rd_T83 y422 x5).f1,wrap64 ((wrap64 (x1+1))+1)⟩:S83)) (wrap64 ((wrap64 ((wrap64 (x1+1))+1))+1)) (wrap64 (x5+1))))))else(none))else(some (x1,x0))
def laws_markLookS.f (k:Nat)(l0:List (S83))(a1:Int):Option (Int×(List (S83))):=laws_markLookS.l0 k l0 a1 0
theorem laws_markLookS.calls (k:Nat)(P0_:Nat→Prop)(u9000_:Value)(l0:List (S83))(a1:Int)(r1:Int)(r2:List (S83))(w0 w:World)(hB:Below w0.heap.size w0 w)(ho0:Kd.R k83 83 w w0.heap.size P0_ u9000_ l0)(h:laws_markLookS.f k l0 a1=some (r1,r2)):
  Calls Tryz.prog 28 #[u9000_,.int .i64 a1] w fun e w'=>e=.returned (.int .i64 r1)∧Kd.R k83 83 w' w0.heap.size (fun k_=>(P0_ k_∨w.heap.size≤k_)) u9000_ r2∧Below w0.heap.size w0 w'∧Kept w w' (fun k_=>P0_ k_):=by
 have HO0:=A_ (show Kd.R k83 83 w w0.heap.size (fun k_=>(P0_ k_∨w.heap.size≤k_)) u9000_ l0 from Kd.R_mono ho0 (fun k_ hk=>(.inl hk)));have HK:=A_ (Kept.refl w (fun k_=>P0_ k_));have HW0:=A_ hB.size;have HB:=A_ hB;clear hB;unfold laws_markLookS.f at h;have H:=h;clear h;have H':=A_ H;clear H;go_enter Tryz.func28,Tryz.ntmps28;go_wp2
 go_loopg [1,5] k (fun kq v1 v5 w'=>∃(x0_1:List (S83))(x1_1:Int)(x5_1:Int),v1=.int .i64 x1_1∧v5=.int .i64 x5_1∧Aside0 (laws_markLookS.l0 kq x0_1 x1_1 x5_1=some (r1,r2))∧Aside0 (kq≤k)∧Aside0 (Kd.R k83 83 w' w0.heap.size (fun k_=>(P0_ k_∨w.heap.size≤k_)) u9000_ x0_1)∧Aside0 (Kept w w' (fun k_=>P0_ k_))∧Aside0 (Below w0.heap.size w0 w'))
 case atStart=>exact⟨(l0),(a1),(0),zz2,zz2,H',⟨lL_ _⟩,⟨(zz6 HO0)⟩,⟨(zz7 HK)⟩,⟨(zz1 HB)⟩⟩
 case round=>
  clear H';obtain⟨x0_1,x1_1,x5_1,rfl,rfl,HA,HK1,HO_0,HK,HB⟩:=hrel;cases gk with
  |zero=>exact absurd HA.out (by simp[laws_markLookS.l0])
  |succ k1=>
   obtain⟨H⟩:=HA;simp only[laws_markLookS.l0]at H;replace H:=iteEd H;rcases H with⟨c3b0,H⟩|⟨c3b0,H⟩
   ·replace H:=iteNd H
    obtain⟨c4b0,H⟩:=H;obtain⟨y420,Ny420⟩:=toY (x0_1.set (x5_1:Int).toNat (⟨x1_1,(rd_T83 x0_1 x5_1).f1,(rd_T83 x0_1 x5_1).f2⟩:S83));(first|with_reducible replace H:=bindZ Ny420 H|rw[←Ny420.out]at H|skip);replace H:=bindA H;obtain⟨t421,A6,H⟩:=H;obtain⟨y422,Ny422,H⟩:=bindY H;obtain⟨y423,Ny423⟩:=toY (y422.set (x5_1:Int).toNat (⟨(rd_T83 y422 x5_1).f0,(rd_T83 y422 x5_1).f1,wrap64 ((wrap64 (x1_1+1))+1)⟩:S83));(first|with_reducible replace H:=bindZ Ny423 H|rw[←Ny423.out]at H|skip);have H':=A_ H;clear H;obtain⟨Ao9,co9,eo9⟩:=Kd.R_slice HO_0.out;subst eo9;have p5:0≤(x5_1:Int):=ofD;have q5:(x5_1:Int)<((x0_1.length:Int):Int):=ofD;obtain⟨go5,co5,eo5,gb5,gl5,cl5,HG5⟩:=Kd.R_form HO_0.out (by omega);(first|cases eo5|(injection eo5 with ea_ en_ ec_;(first|subst ea_|(injection ea_ with ea_;subst ea_));subst ec_;clear en_));have GB5:=A_ gb5;have GG5:=A_ HG5;clear gb5 gl5 HG5;have HMgo5:=A_ (show(P0_ go5∨w.heap.size≤go5)from(HO_0.out.1 _ rfl));obtain⟨ce5,hcl5,hM5,hcc5,hfr5⟩:=Kd.R_elem HO_0.out z83 (x5_1:Int) p5 q5;obtain rfl:=k83_openM hM5;have hx5_0:wr.cell? ⟨go5,(x5_1:Int).toNat*3,none⟩=some (.int .i64 ((rd_T83 x0_1 x5_1).f0)):=hcc5 0 _ rfl;have hx5_1:wr.cell? ⟨go5,(x5_1:Int).toNat*3+1,none⟩=some (.string ((rd_T83 x0_1 x5_1).f1)):=hcc5 1 _ rfl;have hx5_2:wr.cell? ⟨go5,(x5_1:Int).toNat*3+2,none⟩=some (.int .i64 ((rd_T83 x0_1 x5_1).f2)):=hcc5 2 _ rfl;have hf5_0:wr.frozen? ⟨go5,(x5_1:Int).toNat*3,none⟩=false:=hfr5 0;have hf5_1:wr.frozen? ⟨go5,(x5_1:Int).toNat*3+1,none⟩=false:=hfr5 1;have hf5_2:wr.frozen? ⟨go5,(x5_1:Int).toNat*3+2,none⟩=false:=hfr5 2;clear hcl5 hcc5 hfr5 hM5;replace p5:=eq_true p5;replace q5:=eq_true q5;have HX10:=A_ (show Kd.R k83 83 wr w0.heap.size (fun k_=>(P0_ k_∨w.heap.size≤k_)) (.slice (some ⟨go5,0,none⟩) x0_1.length co9) x0_1 from(zz6 HO_0));obtain⟨ce10,hcl10,hM10,hcc10,hfr10⟩:=Kd.R_elem HX10.out z83 (x5_1:Int) ofD (by have h_:(x5_1:Int)<((x0_1.length:Int):Int):=ofD;first|exact h_|(have e_:=(Kd.R_reads' HO_0.out).1;omega)|simpa using h_);obtain rfl:=k83_openM hM10;have HP10:=Kd.R_seg HX10.out (x5_1:Int) ofD (by have h_:(x5_1:Int)<((x0_1.length:Int):Int):=ofD;first|exact h_|(have e_:=(Kd.R_reads' HO_0.out).1;omega)|simpa using h_) (seg:=[.int .i64 x1_1]) (j:=0) hcl10 hcc10 (show 1≤3 from by decide) (x':=(⟨x1_1,(rd_T83 x0_1 x5_1).f1,(rd_T83 x0_1 x5_1).f2⟩:S83)) (k83_mkM _ _ _ (⟨x1_1,(rd_T83 x0_1 x5_1).f1,(rd_T83 x0_1 x5_1).f2⟩:S83) ) (fun _ hk=>hk);have hx10_0:=hcc10 0 _ rfl;(try simp only[show(k83).sz=3 from rfl,Nat.mul_one,Nat.add_zero]at hx10_0);have hf10_0:=hfr10 0;(try simp only[show(k83).sz=3 from rfl,Nat.mul_one,Nat.add_zero]at hf10_0);clear hcl10 hcc10 hfr10 hM10;go_wp2_with (first|((with_reducible refine gate_store (t:=3) (p:=16) rfl ?_);refine store_event (t:=3) (p:=16) (v:=?vo_w11) (w1:=(wr.setCell ⟨go5,(x5_1:Int).toNat*3,none⟩ (.int .i64 x1_1))) ?hg ?ho ?hn ?hr ?_;(case ho=>rfl);(case hg=>rfl);(case hn=>rfl);(case hr=>exact zz4);intro w11 hw;have hg:wr.grownBy w11 (some go5):=(by rw[hw];exact HP10.2);have hp_:Kd.R k83 83 w11 w0.heap.size (fun k_=>(P0_ k_∨w.heap.size≤k_)) (.slice (some ⟨go5,0,none⟩) x0_1.length co9) y420:=(by rw[hw,Ny420.out];exact HP10.1);clear HP10;replace HB:=A_ ((by rw[hw];exact below_set (HB.out) GB5.out:Below w0.heap.size w0 w11));replace HK:=A_ (Kept.of_grown (S:=(fun k_=>P0_ k_)) hg (zz7 HK) (fun k_ e_=>(HO_0.out.1 k_ e_)));replace HO_0:=A_ (hp_);clear hg hw hp_)|(refine gR 26 (some 22) Tryz.func26 (laws_markText.calls k1 (wrap64 (x1_1+1)) t421 _ A6.out) ?_;rintro w12 hb;replace HO_0:=A_ (rB (zz6 HO_0) hb);replace HK:=A_ (Kept.below (S:=(fun k_=>P0_ k_)) (zz7 HK) hb);replace HB:=A_ (bS (zz1 HB) hb);(try clear hb);have p7:0≤(x5_1:Int):=ofD;have q7:(x5_1:Int)<((x0_1.length:Int):Int):=ofD;obtain⟨ce7,hcl7,hM7,hcc7,hfr7⟩:=Kd.R_elem HO_0.out z83 (x5_1:Int) p7 q7;obtain rfl:=k83_openM hM7;have hx7_0:w12.cell? ⟨go5,(x5_1:Int).toNat*3,none⟩=some (.int .i64 ((rd_T83 y420 x5_1).f0)):=hcc7 0 _ rfl;have hx7_1:w12.cell? ⟨go5,(x5_1:Int).toNat*3+1,none⟩=some (.string ((rd_T83 y420 x5_1).f1)):=hcc7 1 _ rfl;have hx7_2:w12.cell? ⟨go5,(x5_1:Int).toNat*3+2,none⟩=some (.int .i64 ((rd_T83 y420 x5_1).f2)):=hcc7 2 _ rfl;have hf7_0:w12.frozen? ⟨go5,(x5_1:Int).toNat*3,none⟩=false:=hfr7 0;have hf7_1:w12.frozen? ⟨go5,(x5_1:Int).toNat*3+1,none⟩=false:=hfr7 1;have hf7_2:w12.frozen? ⟨go5,(x5_1:Int).toNat*3+2,none⟩=false:=hfr7 2;clear hcl7 hcc7 hfr7 hM7;replace p7:=eq_true p7;replace q7:=eq_true q7;have HX13:=A_ (show Kd.R k83 83 w12 w0.heap.size (fun k_=>(P0_ k_∨w.heap.size≤k_)) (.slice (some ⟨go5,0,none⟩) x0_1.length co9) y420 from(zz6 HO_0));obtain⟨ce13,hcl13,hM13,hcc13,hfr13⟩:=Kd.R_elem HX13.out z83 (x5_1:Int) ofD (by have h_:(x5_1:Int)<((x0_1.length:Int):Int):=ofD;first|exact h_|(have e_:=(Kd.R_reads' HO_0.out).1;omega)|simpa using h_);obtain rfl:=k83_openM hM13;have HP13:=Kd.R_seg HX13.out (x5_1:Int) ofD (by have h_:(x5_1:Int)<((x0_1.length:Int):Int):=ofD;first|exact h_|(have e_:=(Kd.R_reads' HO_0.out).1;omega)|simpa using h_) (seg:=[.string t421]) (j:=1) hcl13 hcc13 (show 2≤3 from by decide) (x':=(⟨(rd_T83 y420 x5_1).f0,t421,(rd_T83 y420 x5_1).f2⟩:S83)) (k83_mkM _ _ _ (⟨(rd_T83 y420 x5_1).f0,t421,(rd_T83 y420 x5_1).f2⟩:S83) ) (fun _ hk=>hk);have hx13_1:=hcc13 1 _ rfl;(try simp only[show(k83).sz=3 from rfl,Nat.mul_one,Nat.add_zero]at hx13_1);have hf13_1:=hfr13 1;(try simp only[show(k83).sz=3 from rfl,Nat.mul_one,Nat.add_zero]at hf13_1);clear hcl13 hcc13 hfr13 hM13)|((with_reducible refine gate_store (t:=9) (p:=24) rfl ?_);refine store_event (t:=9) (p:=24) (v:=?vo_w14) (w1:=(w12.setCell ⟨go5,(x5_1:Int).toNat*3+1,none⟩ (.string t421))) ?hg ?ho ?hn ?hr ?_;(case ho=>rfl);(case hg=>rfl);(case hn=>rfl);(case hr=>exact zz4);intro w14 hw;have hg:w12.grownBy w14 (some go5):=(by rw[hw];exact HP13.2);have hp_:Kd.R k83 83 w14 w0.heap.size (fun k_=>(P0_ k_∨w.heap.size≤k_)) (.slice (some ⟨go5,0,none⟩) x0_1.length co9) y422:=(by rw[hw,Ny422.out];exact HP13.1);clear HP13;replace HB:=A_ ((by rw[hw];exact below_set (HB.out) GB5.out:Below w0.heap.size w0 w14));replace HK:=A_ (Kept.of_grown (S:=(fun k_=>P0_ k_)) hg (zz7 HK) (fun k_ e_=>(HO_0.out.1 k_ e_)));replace HO_0:=A_ (hp_);clear hg hw hp_;have p8:0≤(x5_1:Int):=ofD;have q8:(x5_1:Int)<((x0_1.length:Int):Int):=ofD;obtain⟨ce8,hcl8,hM8,hcc8,hfr8⟩:=Kd.R_elem HO_0.out z83 (x5_1:Int) p8 q8;obtain rfl:=k83_openM hM8;have hx8_0:w14.cell? ⟨go5,(x5_1:Int).toNat*3,none⟩=some (.int .i64 ((rd_T83 y422 x5_1).f0)):=hcc8 0 _ rfl;have hx8_1:w14.cell? ⟨go5,(x5_1:Int).toNat*3+1,none⟩=some (.string ((rd_T83 y422 x5_1).f1)):=hcc8 1 _ rfl;have hx8_2:w14.cell? ⟨go5,(x5_1:Int).toNat*3+2,none⟩=some (.int .i64 ((rd_T83 y422 x5_1).f2)):=hcc8 2 _ rfl;have hf8_0:w14.frozen? ⟨go5,(x5_1:Int).toNat*3,none⟩=false:=hfr8 0;have hf8_1:w14.frozen? ⟨go5,(x5_1:Int).toNat*3+1,none⟩=false:=hfr8 1;have hf8_2:w14.frozen? ⟨go5,(x5_1:Int).toNat*3+2,none⟩=false:=hfr8 2;clear hcl8 hcc8 hfr8 hM8;replace p8:=eq_true p8;replace q8:=eq_true q8;have HX15:=A_ (show Kd.R k83 83 w14 w0.heap.size (fun k_=>(P0_ k_∨w.heap.size≤k_)) (.slice (some ⟨go5,0,none⟩) x0_1.length co9) y422 from(zz6 HO_0));obtain⟨ce15,hcl15,hM15,hcc15,hfr15⟩:=Kd.R_elem HX15.out z83 (x5_1:Int) ofD (by have h_:(x5_1:Int)<((x0_1.length:Int):Int):=ofD;first|exact h_|(have e_:=(Kd.R_reads' HO_0.out).1;omega)|simpa using h_);obtain rfl:=k83_openM hM15;have HP15:=Kd.R_seg HX15.out (x5_1:Int) ofD (by have h_:(x5_1:Int)<((x0_1.length:Int):Int):=ofD;first|exact h_|(have e_:=(Kd.R_reads' HO_0.out).1;omega)|simpa using h_) (seg:=[.int .i64 (wrap64 ((wrap64 (x1_1+1))+1))]) (j:=2) hcl15 hcc15 (show 3≤3 from by decide) (x':=(⟨(rd_T83 y422 x5_1).f0,(rd_T83 y422 x5_1).f1,wrap64 ((wrap64 (x1_1+1))+1)⟩:S83)) (k83_mkM _ _ _ (⟨(rd_T83 y422 x5_1).f0,(rd_T83 y422 x5_1).f1,wrap64 ((wrap64 (x1_1+1))+1)⟩:S83) ) (fun _ hk=>hk);have hx15_2:=hcc15 2 _ rfl;(try simp only[show(k83).sz=3 from rfl,Nat.mul_one,Nat.add_zero]at hx15_2);have hf15_2:=hfr15 2;(try simp only[show(k83).sz=3 from rfl,Nat.mul_one,Nat.add_zero]at hf15_2);clear hcl15 hcc15 hfr15 hM15)|((with_reducible refine gate_store (t:=3) (p:=31) rfl ?_);refine store_event (t:=3) (p:=31) (v:=?vo_w16) (w1:=(w14.setCell ⟨go5,(x5_1:Int).toNat*3+2,none⟩ (.int .i64 (wrap64 ((wrap64 (x1_1+1))+1))))) ?hg ?ho ?hn ?hr ?_;(case ho=>rfl);(case hg=>rfl);(case hn=>rfl);(case hr=>exact zz4);intro w16 hw;have hg:w14.grownBy w16 (some go5):=(by rw[hw];exact HP15.2);have hp_:Kd.R k83 83 w16 w0.heap.size (fun k_=>(P0_ k_∨w.heap.size≤k_)) (.slice (some ⟨go5,0,none⟩) x0_1.length co9) y423:=(by rw[hw,Ny423.out];exact HP15.1);clear HP15;replace HB:=A_ ((by rw[hw];exact below_set (HB.out) GB5.out:Below w0.heap.size w0 w16));replace HK:=A_ (Kept.of_grown (S:=(fun k_=>P0_ k_)) hg (zz7 HK) (fun k_ e_=>(HO_0.out.1 k_ e_)));replace HO_0:=A_ (hp_);clear hg hw hp_))
    go_roundg k1
    case measure=>have:=HK1.out;omega
    case rel=>exact⟨(y423),(wrap64 ((wrap64 ((wrap64 (x1_1+1))+1))+1)),(wrap64 (x5_1+1)),zz2,zz2,H',⟨(zz5 HK1)⟩,⟨(zz6 HO_0)⟩,⟨(zz7 HK)⟩,⟨(zz1 HB)⟩⟩
   ·simp only[oI_,pI_]at H
    obtain⟨rfl,rfl⟩:=H;obtain⟨Ao17,co17,eo17⟩:=Kd.R_slice HO_0.out;subst eo17;go_wp2;go_ret;exact⟨zz0,(zz6 HO_0),(zz1 HB),(zz7 HK)⟩
def impl_allSmallLetters.l0:Nat→BA→Int→Option (Bool)
 |0,_,_=>none
 |k+1,x0,x3=>if x3<(x0.size:Int)then(if 0≤x3 then(if(bt x0 x3)<97 then(some false)else(if(bt x0 x3)>122 then(some false)else(impl_allSmallLetters.l0 k x0 (wrap64 (x3+1)))))else(none))else(some true)
def impl_allSmallLetters.f (k:Nat)(a0:BA):Option (Bool):=impl_allSmallLetters.l0 k a0 0
theorem impl_allSmallLetters.mono_l:∀k,(∀y0 y1,LeO (impl_allSmallLetters.l0 k y0 y1) (impl_allSmallLetters.l0 (k+1) y0 y1))
 |0=>by intros;intro r h;simp[impl_allSmallLetters.l0]at h
 |k+1=>by
  have ih0:=impl_allSmallLetters.mono_l k;intros;unfold impl_allSmallLetters.l0;repeat' first|(with_reducible first|exact ih0 _ _|exact LeO.refl _|exact LeO.none _|refine LeO.ite ?_ ?_|refine LeO.bind ?_ (fun _=>?_))|exact LeO.none _|refine LeO.ite ?_ ?_|refine LeO.bind ?_ (fun _=>?_)
theorem impl_allSmallLetters.mono:∀a0 k,LeO (impl_allSmallLetters.f k a0) (impl_allSmallLetters.f (k+1) a0):=by
 intro a0 k;have ih0:=impl_allSmallLetters.mono_l k;unfold impl_allSmallLetters.f
 repeat' first|(with_reducible first|exact ih0 _ _|exact LeO.refl _|exact LeO.none _|refine LeO.ite ?_ ?_|refine LeO.bind ?_ (fun _=>?_))|exact LeO.none _|refine LeO.ite ?_ ?_|refine LeO.bind ?_ (fun _=>?_)
theorem impl_allSmallLetters.calls (k:Nat)(a0:BA)(r:Bool)(w:World)(h:impl_allSmallLetters.f k a0=some r):
  Calls Tryz.prog 51 #[.string a0] w fun e w'=>e=.returned (.bool r)∧Drawn0 w w':=by
 unfold impl_allSmallLetters.f at h;have H:=h;clear h;have H':=A_ H;clear H;go_enter Tryz.func51,Tryz.ntmps51;go_wp2
 go_loopg [3] k (fun kq v3 w'=>∃(x3_1:Int),v3=.int .i64 x3_1∧Aside0 (impl_allSmallLetters.l0 kq a0 x3_1=some r)∧Aside0 (kq≤k)∧Drawn0 w w')
 case atStart=>exact⟨(0),zz2,H',⟨lL_ _⟩,zz22⟩
 case round=>
  clear H';obtain⟨x3_1,rfl,HA,HK1,⟨m1,rfl⟩⟩:=hrel;cases gk with
  |zero=>exact absurd HA.out (by simp[impl_allSmallLetters.l0])
  |succ k1=>
   obtain⟨H⟩:=HA;simp only[impl_allSmallLetters.l0]at H;replace H:=iteEd H;rcases H with⟨c2b0,H⟩|⟨c2b0,H⟩
   ·replace H:=iteNd H
    obtain⟨c3b0,H⟩:=H;replace H:=iteEd H;rcases H with⟨c5b0,H⟩|⟨c5b0,H⟩
    ·obtain rfl:=sI H
     have p4:0≤(x3_1:Int):=ofD;have q4:x3_1<(a0.size:Int):=ofD;have hx4:=bt_at a0 x3_1;replace p4:=eq_true p4;replace q4:=eq_true q4;go_wp2;go_ret;exact⟨zz2,zz22⟩
    ·replace H:=iteEg H
     rcases H with⟨c7b0,H⟩|⟨c7b0,H⟩
     ·obtain rfl:=sI H
      have p4:0≤(x3_1:Int):=ofD;have q4:x3_1<(a0.size:Int):=ofD;have hx4:=bt_at a0 x3_1;replace p4:=eq_true p4;replace q4:=eq_true q4;have p6:0≤(x3_1:Int):=ofD;have q6:x3_1<(a0.size:Int):=ofD;have hx6:=bt_at a0 x3_1;replace p6:=eq_true p6;replace q6:=eq_true q6;go_wp2;go_ret;exact⟨zz2,zz22⟩
     ·have H':=A_ H
      clear H;have p4:0≤(x3_1:Int):=ofD;have q4:x3_1<(a0.size:Int):=ofD;have hx4:=bt_at a0 x3_1;replace p4:=eq_true p4;replace q4:=eq_true q4;have p6:0≤(x3_1:Int):=ofD;have q6:x3_1<(a0.size:Int):=ofD;have hx6:=bt_at a0 x3_1;replace p6:=eq_true p6;replace q6:=eq_true q6;go_wp2
      go_roundg k1
      case measure=>have:=HK1.out;omega
      case rel=>exact⟨(wrap64 (x3_1+1)),zz2,H',⟨(zz5 HK1)⟩,zz22⟩
   ·obtain rfl:=sI H
    go_wp2;go_ret;exact⟨zz2,zz22⟩
mutual
def impl_PathClean.l0:Nat→List BA→List BA→Int→Int→Option (List BA)
 |0,_,_,_,_=>none
 |k+1,x3,x6,x7,x8=>if x8<x7 then(if 0≤x8 then(if x8<(x6.length:Int)then(if(rdOf bE_ x6 x8).toList=([]:List UInt8)then(impl_PathClean.j1 k x3 (rdOf bE_ x6 x8) x6 x7 x8 (rdOf bE_ x6 x8) ((rdOf bE_ x6 x8).toList==([]:List UInt8)))else(impl_PathClean.j1 k x3 (rdOf bE_ x6 x8) x6 x7 x8 (rdOf bE_ x6 x8) ((rdOf bE_ x6 x8).toList==([46]:List UInt8))))else(none))else(none))else(some x3)
def impl_PathClean.j1:Nat→List BA→BA→List BA→Int→Int→BA→Bool→Option (List BA)
 |0,_,_,_,_,_,_,_=>none
 |k+1,x3,x5,x6,x7,x8,x12,x13=>if x13=true then(impl_PathClean.l0 k x3 x6 x7 (wrap64 (x8+1)))else(if x12.toList=([46,46]:List UInt8)then(if(x3.length:Int)>0 then(if 0≤(wrap64 ((x3.length:Int)-1))then(if(wrap64 ((x3.length:Int)-1))≤(x3.length:Int)then(impl_PathClean.l0 k (x3.take ((wrap64 ((x3.length:Int)-1)):Int).toNat) x6 x7 (wrap64 (x8+1)))else(none))else(none))else(impl_PathClean.l0 k x3 x6 x7 (wrap64 (x8+1))))else(if x3.length<8796093022208 then(impl_PathClean.l0 k (x3++[x5]) x6 x7 (wrap64 (x8+1)))else(none)))
end
def impl_PathClean.f (k:Nat)(l0:List BA):Option (List BA):=impl_PathClean.l0 k ([]:List BA) l0 (l0.length:Int) 0
theorem impl_PathClean.calls (k:Nat)(A0:Option Addr)(c0:Nat)(l0:List BA)(r:List BA)(w:World)(hr0:Kd.C Kd.string w A0 l0.length l0)(hc0:l0.length≤c0)(h:impl_PathClean.f k l0=some r):
  Calls Tryz.prog 127 #[.slice A0 l0.length c0] w fun e w'=>∃v0_:Value,e=.returned (v0_)∧Kd.R Kd.string 9 w' w.heap.size (fun _=>True) v0_ r∧Below w.heap.size w w':=by
 have HR0:=A_ hr0;have HC0:=A_ hc0;clear hr0 hc0;have HB:=A_ (Below.refl w.heap.size w);unfold impl_PathClean.f at h;have H:=h;clear h;have H':=A_ H;clear H;go_enter Tryz.func127,Tryz.ntmps127;go_wp2
 go_step3
 go_wp2
 go_step3
 go_wp2
 go_loopg [3,8] k (fun kq v3 v8 w'=>∃(x3_1:List BA)(x8_1:Int),v8=.int .i64 x8_1∧Aside0 (impl_PathClean.l0 kq x3_1 l0 (l0.length:Int) x8_1=some r)∧Aside0 (kq≤k)∧Aside0 (Kd.R Kd.string 9 w' w.heap.size (fun _=>True) v3 x3_1)∧Aside0 (Below w.heap.size w w'))
 case atStart=>exact⟨(([]:List BA)),(0),zz2,H',⟨lL_ _⟩,⟨zz24⟩,⟨(zz1 HB)⟩⟩
 case round=>
  clear H';obtain⟨x3_1,x8_1,rfl,HA,HK1,HO_3,HB⟩:=hrel;cases gk with
  |zero=>exact absurd HA.out (by simp[impl_PathClean.l0])
  |succ k1=>
   obtain⟨H⟩:=HA;simp only[impl_PathClean.l0]at H;replace H:=iteEd H;rcases H with⟨c2b0,H⟩|⟨c2b0,H⟩
   ·replace H:=iteNd H
    obtain⟨c3b0,H⟩:=H;replace H:=iteNd H;obtain⟨c4b0,H⟩:=H;have HC5:=A_ H;clear H;obtain⟨⟨ad302,e302,hx302_0⟩,p302,q302⟩:=atB (Kd.at_string HR0.out x8_1);cases e302;replace hx302_0:=cbl HB hx302_0;go_upto_if 13 with(fail)
    go_cut [13] (fun v13 wc=>∃(kq:Nat)(x13_4:Bool),v13=.bool x13_4∧Aside0 (impl_PathClean.j1 kq x3_1 (rdOf bE_ l0 x8_1) l0 (l0.length:Int) x8_1 (rdOf bE_ l0 x8_1) x13_4=some r)∧Aside0 (kq≤k1)∧Aside0 (Kd.R Kd.string 9 wc w.heap.size (fun _=>True) u3 x3_1)∧Aside0 (Below w.heap.size w wc))
    case first=>
     obtain⟨H⟩:=HC5;replace H:=iteE H;rcases H with⟨c6,H⟩|⟨c6,H⟩
     ·have c6b0:((rdOf bE_ l0 x8_1).toList==([]:List UInt8))=true:=beq_iff_eq.mpr c6
      have c6i0:(rdOf bE_ l0 x8_1).toList.isEmpty=true:=(aid_isEmpty2 _).symm.trans c6b0;have c6b1:((rdOf bE_ l0 x8_1).toList != ([]:List UInt8))=false:=bne_eq_false_iff_eq.mpr c6;clear c6;(first|rw[c6b0]|(simp only[i64_w,i32_w];rw[c6b0])|skip);have H':=A_ H;clear H;go_wp2
      all_goals (first|(exfalso;have h_:(rdOf bE_ l0 x8_1).toList.isEmpty=false:=(by assumption);rw[c6i0]at h_;cases h_;done)|skip)
      go_meet
      case rel=>exact⟨_,(((rdOf bE_ l0 x8_1).toList==([]:List UInt8))),zz2,H',⟨(zz26 HK1)⟩,⟨(zz6 HO_3)⟩,⟨(zz1 HB)⟩⟩
     ·have c6b0:((rdOf bE_ l0 x8_1).toList==([]:List UInt8))=false:=bN_.mpr c6
      have c6i0:(rdOf bE_ l0 x8_1).toList.isEmpty=false:=(aid_isEmpty2 _).symm.trans c6b0;have c6b1:((rdOf bE_ l0 x8_1).toList != ([]:List UInt8))=true:=bne_iff_ne.mpr c6;(first|rw[c6b0]|(simp only[i64_w,i32_w];rw[c6b0])|skip);have H':=A_ H;clear H;go_wp2
      all_goals (first|(exfalso;have h_:(rdOf bE_ l0 x8_1).toList.isEmpty=true:=(by assumption);rw[c6i0]at h_;cases h_;done)|skip)
      go_meet
      case rel=>exact⟨_,(((rdOf bE_ l0 x8_1).toList==([46]:List UInt8))),zz2,H',⟨(zz26 HK1)⟩,⟨(zz6 HO_3)⟩,⟨(zz1 HB)⟩⟩
    case rest=>
     clear HC5;obtain⟨kq,x13_4,rfl,HA,HJ4,HO_3,HB⟩:=hcut;cases kq with
     |zero=>exact absurd HA.out (by simp[impl_PathClean.j1])
     |succ kj4=>
      obtain⟨H⟩:=HA;simp only[impl_PathClean.j1]at H;replace H:=iteB H;rcases H with⟨rfl,H⟩|⟨rfl,H⟩
      ·have H':=A_ H
       clear H;go_wp2
       go_roundg kj4
       case measure=>have:=HK1.out;have:=HJ4.out;omega
       case rel=>exact⟨(x3_1),(wrap64 (x8_1+1)),zz2,H',⟨(zz28 HK1 HJ4)⟩,⟨(zz6 HO_3)⟩,⟨(zz1 HB)⟩⟩
      ·replace H:=iteE H
       rcases H with⟨c8,H⟩|⟨c8,H⟩
       ·obtain⟨c8b0,c8b1⟩:=eqT c8
        clear c8;replace H:=iteE H;rcases H with⟨c9,H⟩|⟨c9,H⟩
        ·have c9b0:=gtT c9
         have c9b1:decide (0<x3_1.length)=true:=dT (by omega);clear c9;obtain⟨ji10,hji10⟩:∃j_:Int,(wrap64 ((x3_1.length:Int)-1))=j_:=⟨_,rfl⟩;(first|rw[hji10]at H|simp only[hji10]at H);have hji10w:(IntKind.i64.wrap ((x3_1.length:Int)-1))=ji10:=(i64_w _).trans hji10;replace H:=iteN H;obtain⟨c11,H⟩:=H;have c11b0:=eq_true c11;have c11b1:=dT c11;clear c11;replace H:=iteN H;obtain⟨c12,H⟩:=H;have c12b0:=eq_true c12;have c12b1:=dT c12;clear c12;obtain⟨y303,Ny303⟩:=toY (x3_1.take ((ji10):Int).toNat);(first|with_reducible replace H:=bindZ Ny303 H|rw[←Ny303.out]at H|skip);have H':=A_ H;clear H;obtain⟨Ao13,co13,eo13⟩:=Kd.R_slice HO_3.out;subst eo13;have q14:((ji10):Int)≤((x3_1.length:Int):Int):=ofD;obtain⟨i014,hi014,_,hsz14,_⟩:=info_parts info9;have hcut14:=cut_to (P:=Tryz.prog) 22 9 .i64 Tryz.underlying22 hi014 Ao13 x3_1.length co13 (ji10) ofD q14 (Kd.R_reads' HO_3.out).2.1;have hr14:=Kd.R_take (m:=((ji10):Int).toNat) HO_3.out (by omega);have hy14:y303.length=((ji10):Int).toNat:=(by rw[Ny303.out,lT_];omega);rw[←Ny303.out]at hr14;rw[←hy14]at hr14 hcut14;clear hy14 hi014 hsz14 HO_3;have HO305:=A_ hr14;clear hr14;replace q14:=eq_true q14;go_wp2
         go_roundg kj4
         case measure=>have:=HK1.out;have:=HJ4.out;omega
         case rel=>exact⟨(y303),(wrap64 (x8_1+1)),zz2,H',⟨(zz28 HK1 HJ4)⟩,⟨(zz6 HO305)⟩,⟨(zz1 HB)⟩⟩
        ·have c9b0:=gtF c9
         have c9b1:decide (0<x3_1.length)=false:=dF (by omega);clear c9;have H':=A_ H;clear H;obtain⟨Ao15,co15,eo15⟩:=Kd.R_slice HO_3.out;subst eo15;go_wp2
         go_roundg kj4
         case measure=>have:=HK1.out;have:=HJ4.out;omega
         case rel=>exact⟨(x3_1),(wrap64 (x8_1+1)),zz2,H',⟨(zz28 HK1 HJ4)⟩,⟨(zz6 HO_3)⟩,⟨(zz1 HB)⟩⟩
       ·obtain⟨c8b0,c8b1⟩:=eqF c8
        replace H:=iteN H;obtain⟨c16,H⟩:=H;have LMc16:=A_ c16;clear c16;obtain⟨y306,Ny306⟩:=toY (x3_1++[(rdOf bE_ l0 x8_1)]);(first|with_reducible replace H:=bindZ Ny306 H|rw[←Ny306.out]at H|skip);have H':=A_ H;clear H;go_wp2_with (first|((with_reducible refine gate_builtin (b:=.append) (xs:=#[.tmp 26,.tmp 28]) rfl ?_);at_builtin;refine Kd.R_append Kd.string (w0:=w) w.heap.size rfl (.tmp 26) (.tmp 28) 22 9 (.string ⟨#[]⟩) 16 rfl Tryz.underlying22 info9 rfl (by decide) (by omega) u3 x3_1 (rdOf bE_ l0 x8_1) [.string (rdOf bE_ l0 x8_1)] (fun _=>True) (fun _=>False) rfl rfl ?aP (fun _ hk=>hk.elim) ?aF ?aO ?aB ?aS ?aL ?_;(case aP=>exact rfl);(case aB=>exact(zz1 HB));(case aF=>exact(fun _ _=>trivial));(case aO=>exact(zz6 HO_3));(case aS=>exact(below_size (zz1 HB)));(case aL=>exact(zz5 LMc16));intro v307 w17 ho hb hg hat;rw[←Ny306.out]at ho;replace HB:=A_ (hb);have HO308:=A_ (ho);clear HO_3;clear ho hb hg hat))
        go_roundg kj4
        case measure=>have:=HK1.out;have:=HJ4.out;omega
        case rel=>exact⟨(y306),(wrap64 (x8_1+1)),zz2,H',⟨(zz28 HK1 HJ4)⟩,⟨(zz6 HO308)⟩,⟨(zz1 HB)⟩⟩
   ·obtain rfl:=sI H
    go_wp2;go_ret;exact⟨_,zz0,(zz6 HO_3),(zz1 HB)⟩
def slices_Index_string_string.l0:Nat→List BA→BA→Int→Int→Option (Int)
 |0,_,_,_,_=>none
 |k+1,x0,x1,x7,x8=>if x8<x7 then(if 0≤x8 then(if x8<(x0.length:Int)then(if x1.toList=(rdOf bE_ x0 x8).toList then(some x8)else(slices_Index_string_string.l0 k x0 x1 x7 (wrap64 (x8+1))))else(none))else(none))else(some (-1))
def slices_Index_string_string.f (k:Nat)(l0:List BA)(a1:BA):Option (Int):=slices_Index_string_string.l0 k l0 a1 (l0.length:Int) 0
theorem slices_Index_string_string.calls (k:Nat)(A0:Option Addr)(c0:Nat)(l0:List BA)(a1:BA)(r:Int)(w:World)(hr0:Kd.C Kd.string w A0 l0.length l0)(hc0:l0.length≤c0)(h:slices_Index_string_string.f k l0 a1=some r):
  Calls Tryz.prog 75 #[.slice A0 l0.length c0,.string a1] w fun e w'=>e=.returned (.int .i64 r)∧Drawn0 w w':=by
 have HR0:=A_ hr0;have HC0:=A_ hc0;clear hr0 hc0;unfold slices_Index_string_string.f at h;have H:=h;clear h;have H':=A_ H;clear H;go_enter Tryz.func75,Tryz.ntmps75;go_wp2
 go_loopg [8] k (fun kq v8 w'=>∃(x8_1:Int),v8=.int .i64 x8_1∧Aside0 (slices_Index_string_string.l0 kq l0 a1 (l0.length:Int) x8_1=some r)∧Aside0 (kq≤k)∧Drawn0 w w')
 case atStart=>exact⟨(0),zz2,H',⟨lL_ _⟩,zz22⟩
 case round=>
  clear H';obtain⟨x8_1,rfl,HA,HK1,⟨m1,rfl⟩⟩:=hrel;cases gk with
  |zero=>exact absurd HA.out (by simp[slices_Index_string_string.l0])
  |succ k1=>
   obtain⟨H⟩:=HA;simp only[slices_Index_string_string.l0]at H;replace H:=iteEd H;rcases H with⟨c3b0,H⟩|⟨c3b0,H⟩
   ·replace H:=iteNd H
    obtain⟨c4b0,H⟩:=H;replace H:=iteNd H;obtain⟨c5b0,H⟩:=H;replace H:=iteEq H;rcases H with⟨c6b0,c6b1,H⟩|⟨c6b0,c6b1,c6,H⟩
    ·obtain rfl:=sI H
     obtain⟨⟨ad373,e373,hx373_0⟩,p373,q373⟩:=atB (Kd.at_string HR0.out x8_1);cases e373;go_wp2;go_ret;exact⟨zz2,zz22⟩
    ·have H':=A_ H
     clear H;obtain⟨⟨ad373,e373,hx373_0⟩,p373,q373⟩:=atB (Kd.at_string HR0.out x8_1);cases e373;go_wp2
     go_roundg k1
     case measure=>have:=HK1.out;omega
     case rel=>exact⟨(wrap64 (x8_1+1)),zz2,H',⟨(zz5 HK1)⟩,zz22⟩
   ·obtain rfl:=sI H
    go_wp2;go_ret;exact⟨zz2,zz22⟩
def spec_l1Cut.l0:Nat→BA→Int→Int→Option (BA×BA×Bool)
 |0,_,_,_=>none
 |k+1,x0,x1,x7=>if x7<(x0.size:Int)then(if 0≤x7 then(if(bt x0 x7)=x1 then(if x7≤(x0.size:Int)then(if 0≤(wrap64 (x7+1))then(if(wrap64 (x7+1))≤(x0.size:Int)then(some (x0.extract 0 (x7:Int).toNat,x0.extract ((wrap64 (x7+1)):Int).toNat x0.size,true))else(none))else(none))else(none))else(spec_l1Cut.l0 k x0 x1 (wrap64 (x7+1))))else(none))else(some (x0,(⟨#[]⟩:BA),false))
def spec_l1Cut.f (k:Nat)(a0:BA)(a1:Int):Option (BA×BA×Bool):=spec_l1Cut.l0 k a0 a1 0
theorem spec_l1Cut.calls (k:Nat)(a0:BA)(a1:Int)(r1:BA)(r2:BA)(r3:Bool)(w:World)(h:spec_l1Cut.f k a0 a1=some (r1,r2,r3)):
  Calls Tryz.prog 69 #[.string a0,.int .u8 a1] w fun e w'=>e=.returned (.tuple #[.string r1,.string r2,.bool r3])∧Drawn0 w w':=by
 unfold spec_l1Cut.f at h;have H:=h;clear h;have H':=A_ H;clear H;go_enter Tryz.func69,Tryz.ntmps69;go_wp2
 repeat(go_quiet (fail);try go_wp2)
 go_loopg [7] k (fun kq v7 w'=>∃(x7_1:Int),v7=.int .i64 x7_1∧Aside0 (spec_l1Cut.l0 kq a0 a1 x7_1=some (r1,r2,r3))∧Aside0 (kq≤k)∧Drawn0 w w')
 case atStart=>exact⟨(0),zz2,H',⟨lL_ _⟩,zz22⟩
 case round=>
  clear H';obtain⟨x7_1,rfl,HA,HK1,⟨m1,rfl⟩⟩:=hrel;cases gk with
  |zero=>exact absurd HA.out (by simp[spec_l1Cut.l0])
  |succ k1=>
   obtain⟨H⟩:=HA;simp only[spec_l1Cut.l0]at H;replace H:=iteEd H;rcases H with⟨c3b0,H⟩|⟨c3b0,H⟩
   ·replace H:=iteNd H
    obtain⟨c4b0,H⟩:=H;replace H:=iteEq H;rcases H with⟨c6b0,c6b1,H⟩|⟨c6b0,c6b1,c6,H⟩
    ·have c7b0:=eq_true (ofD:0≤x7_1)
     replace H:=iteN H;obtain⟨c8,H⟩:=H;have c8b0:=eq_true c8;have c8b1:=dT c8;clear c8;obtain⟨ji9,hji9⟩:∃j_:Int,(wrap64 (x7_1+1))=j_:=⟨_,rfl⟩;(first|rw[hji9]at H|simp only[hji9]at H);have hji9w:(IntKind.i64.wrap (x7_1+1))=ji9:=(i64_w _).trans hji9;replace H:=iteN H;obtain⟨c10,H⟩:=H;have c10b0:=eq_true c10;have c10b1:=dT c10;clear c10;replace H:=iteN H;obtain⟨c11,H⟩:=H;have c11b0:=eq_true c11;have c11b1:=dT c11;clear c11;simp only[oI_,pI_]at H;obtain⟨rfl,rfl,rfl⟩:=H;have p5:0≤(x7_1:Int):=ofD;have q5:x7_1<(a0.size:Int):=ofD;have hx5:=bt_at a0 x7_1;replace p5:=eq_true p5;replace q5:=eq_true q5;go_wp2
     repeat(go_quiet (fail);try go_wp2)
     go_ret3
     exact⟨(by first|rfl|(simp only[i64_w,i32_w];done)|(simp only[aid_isEmpty,aid_isEmpty2];done)|(simp;done)|((simp only[←hji9] <;> (first|rfl|simp));done)|(simp[*];done)),zz22⟩
    ·have H':=A_ H
     clear H;have p5:0≤(x7_1:Int):=ofD;have q5:x7_1<(a0.size:Int):=ofD;have hx5:=bt_at a0 x7_1;replace p5:=eq_true p5;replace q5:=eq_true q5;go_wp2
     repeat(go_quiet (fail);try go_wp2)
     go_roundg k1
     case measure=>have:=HK1.out;omega
     case rel=>exact⟨(wrap64 (x7_1+1)),zz2,H',⟨(zz5 HK1)⟩,zz22⟩
   ·simp only[oI_,pI_]at H
    obtain⟨rfl,rfl,rfl⟩:=H;go_wp2
    repeat(go_quiet (fail);try go_wp2)
    go_ret3
    exact⟨zz2,zz22⟩
mutual
def spec_l1Hex.j0:Nat→Int→Bool→Option (Int)
 |0,_,_=>none
 |k+1,x0,x3=>if x3=true then(some ((x0-48)%256))else(if x0≥97 then(spec_l1Hex.j1 k x0 (decide (x0≤102)))else(spec_l1Hex.j1 k x0 false))
def spec_l1Hex.j1:Nat→Int→Bool→Option (Int)
 |0,_,_=>none
 |k+1,x0,x13=>if x13=true then(some (((x0-97)%256)+10))else(if x0≥65 then(if x0≤70 then(some (((x0-65)%256)+10))else(some (-1)))else(some (-1)))
end
def spec_l1Hex.f (k:Nat)(a0:Int):Option (Int):=if a0≥48 then(spec_l1Hex.j0 k a0 (decide (a0≤57)))else(spec_l1Hex.j0 k a0 false)
theorem spec_l1Hex.mono_l:∀k,(∀y0 y1,LeO (spec_l1Hex.j0 k y0 y1) (spec_l1Hex.j0 (k+1) y0 y1))∧(∀y0 y1,LeO (spec_l1Hex.j1 k y0 y1) (spec_l1Hex.j1 (k+1) y0 y1))
 |0=>by refine⟨?_,?_⟩ <;> (intros;intro r h;simp[spec_l1Hex.j0,spec_l1Hex.j1]at h)
 |k+1=>by
  obtain⟨ih0,ih1⟩:=spec_l1Hex.mono_l k;refine⟨?_,?_⟩ <;> intros <;> (first|unfold spec_l1Hex.j0|unfold spec_l1Hex.j1) <;>
  repeat' first|(with_reducible first|exact ih0 _ _|exact ih1 _ _|exact LeO.refl _|exact LeO.none _|refine LeO.ite ?_ ?_|refine LeO.bind ?_ (fun _=>?_))|exact LeO.none _|refine LeO.ite ?_ ?_|refine LeO.bind ?_ (fun _=>?_)
theorem spec_l1Hex.mono:∀a0 k,LeO (spec_l1Hex.f k a0) (spec_l1Hex.f (k+1) a0):=by
 intro a0 k;obtain⟨ih0,ih1⟩:=spec_l1Hex.mono_l k;unfold spec_l1Hex.f
 repeat' first|(with_reducible first|exact ih0 _ _|exact ih1 _ _|exact LeO.refl _|exact LeO.none _|refine LeO.ite ?_ ?_|refine LeO.bind ?_ (fun _=>?_))|exact LeO.none _|refine LeO.ite ?_ ?_|refine LeO.bind ?_ (fun _=>?_)
theorem spec_l1Hex.calls (k:Nat)(a0:Int)(r:Int)(w:World)(h:spec_l1Hex.f k a0=some r):
  Calls Tryz.prog 116 #[.int .u8 a0] w fun e w'=>e=.returned (.int .i64 r)∧Drawn0 w w':=by
 unfold spec_l1Hex.f at h;have H:=h;clear h;have HC2:=A_ H;clear H;go_enter Tryz.func116,Tryz.ntmps116;go_upto_region 1 with(fail)
 go_cut [3] (fun v3 wc=>∃(kq:Nat)(x3_1:Bool),v3=.bool x3_1∧Aside0 (spec_l1Hex.j0 kq a0 x3_1=some r)∧Aside0 (kq≤k)∧Drawn0 w wc)
 case first=>
  obtain⟨H⟩:=HC2;replace H:=iteEe H;rcases H with⟨c3b0,H⟩|⟨c3b0,H⟩
  ·(first|rw[c3b0]|(simp only[i64_w,i32_w];rw[c3b0])|skip)
   have H':=A_ H;clear H;go_wp2
   go_meet
   case rel=>exact⟨_,(decide (a0≤57)),zz2,H',⟨zz33⟩,zz22⟩
  ·(first|rw[c3b0]|(simp only[i64_w,i32_w];rw[c3b0])|skip)
   have H':=A_ H;clear H;go_wp2
   go_meet
   case rel=>exact⟨_,(false),zz2,H',⟨zz33⟩,zz22⟩
 case rest=>
  clear HC2;obtain⟨kq,x3_1,rfl,HA,HJ1,⟨mc1,rfl⟩⟩:=hcut;cases kq with
  |zero=>exact absurd HA.out (by simp[spec_l1Hex.j0])
  |succ kj1=>
   obtain⟨H⟩:=HA;simp only[spec_l1Hex.j0]at H;replace H:=iteB H;rcases H with⟨rfl,H⟩|⟨rfl,H⟩
   ·obtain rfl:=sI H
    go_wp2;go_ret;exact⟨zz2,zz22⟩
   ·have HC5:=A_ H
    clear H;go_upto_region 3 with(fail)
    go_cut [13] (fun v13 wc=>∃(kq:Nat)(x13_4:Bool),v13=.bool x13_4∧Aside0 (spec_l1Hex.j1 kq a0 x13_4=some r)∧Aside0 (kq≤kj1)∧Drawn0 w wc)
    case first=>
     obtain⟨H⟩:=HC5;replace H:=iteEe H;rcases H with⟨c6b0,H⟩|⟨c6b0,H⟩
     ·(first|rw[c6b0]|(simp only[i64_w,i32_w];rw[c6b0])|skip)
      have H':=A_ H;clear H;go_wp2
      go_meet
      case rel=>exact⟨_,(decide (a0≤102)),zz2,H',⟨(zz26 HJ1)⟩,zz22⟩
     ·(first|rw[c6b0]|(simp only[i64_w,i32_w];rw[c6b0])|skip)
      have H':=A_ H;clear H;go_wp2
      go_meet
      case rel=>exact⟨_,(false),zz2,H',⟨(zz26 HJ1)⟩,zz22⟩
    case rest=>
     clear HC5;obtain⟨kq,x13_4,rfl,HA,HJ4,⟨mc4,rfl⟩⟩:=hcut;cases kq with
     |zero=>exact absurd HA.out (by simp[spec_l1Hex.j1])
     |succ kj4=>
      obtain⟨H⟩:=HA;simp only[spec_l1Hex.j1]at H;replace H:=iteB H;rcases H with⟨rfl,H⟩|⟨rfl,H⟩
      ·obtain rfl:=sI H
       go_wp2;go_ret;exact⟨zz2,zz22⟩
      ·replace H:=iteE H
       rcases H with⟨c8,H⟩|⟨c8,H⟩
       ·have c8b0:=geT c8
        clear c8;replace H:=iteEd H;rcases H with⟨c9b0,H⟩|⟨c9b0,H⟩
        ·obtain rfl:=sI H
         go_wp2;go_ret;exact⟨zz2,zz22⟩
        ·obtain rfl:=sI H
         go_wp2;go_ret;exact⟨zz2,zz22⟩
       ·have c8b0:=geF c8
        clear c8;obtain rfl:=sI H;go_wp2;go_ret;exact⟨zz2,zz22⟩
def spec_l1Path.l0:Nat→BA→Int→BA→List BA→Bool→BA→Option (BA)
 |0,_,_,_,_,_,_=>none
 |k+1,x3,x4,x104000,x104001,x104002,x104003=>if x4<(x104001.length:Int)then(if x4>0 then(if x3.size+1≤9223372036854775807 then(if 0≤x4 then(if x3.size+1+(rdOf bE_ x104001 x4).size≤9223372036854775807 then(spec_l1Path.l0 k ((x3++(⟨#[47]⟩:BA))++(rdOf bE_ x104001 x4)) (wrap64 (x4+1)) x104000 x104001 x104002 x104003)else(none))else(none))else(none))else(if 0≤x4 then(if x3.size+(rdOf bE_ x104001 x4).size≤9223372036854775807 then(spec_l1Path.l0 k (x3++(rdOf bE_ x104001 x4)) (wrap64 (x4+1)) x104000 x104001 x104002 x104003)else(none))else(none)))else(if x104002=true then(if x3.size+1≤9223372036854775807 then(if x3.size+1+x104003.size≤9223372036854775807 then(some ((x3++(⟨#[63]⟩:BA))++x104003))else(none))else(none))else(some x3))
def spec_l1Path.f (k:Nat)(a0_0:BA)(l0_1:List BA)(a0_2:Bool)(a0_3:BA):Option (BA):=spec_l1Path.l0 k (⟨#[47]⟩:BA) 0 a0_0 l0_1 a0_2 a0_3
theorem spec_l1Path.mono_l:∀k,(∀y0 y1 y2 y3 y4 y5,LeO (spec_l1Path.l0 k y0 y1 y2 y3 y4 y5) (spec_l1Path.l0 (k+1) y0 y1 y2 y3 y4 y5))
 |0=>by intros;intro r h;simp[spec_l1Path.l0]at h
 |k+1=>by
  have ih0:=spec_l1Path.mono_l k;intros;unfold spec_l1Path.l0;repeat' first|(with_reducible first|exact ih0 _ _ _ _ _ _|exact LeO.refl _|exact LeO.none _|refine LeO.ite ?_ ?_|refine LeO.bind ?_ (fun _=>?_))|exact LeO.none _|refine LeO.ite ?_ ?_|refine LeO.bind ?_ (fun _=>?_)
theorem spec_l1Path.mono:∀a0 a1 a2 a3 k,LeO (spec_l1Path.f k a0 a1 a2 a3) (spec_l1Path.f (k+1) a0 a1 a2 a3):=by
 intro a0 a1 a2 a3 k;have ih0:=spec_l1Path.mono_l k;unfold spec_l1Path.f
 repeat' first|(with_reducible first|exact ih0 _ _ _ _ _ _|exact LeO.refl _|exact LeO.none _|refine LeO.ite ?_ ?_|refine LeO.bind ?_ (fun _=>?_))|exact LeO.none _|refine LeO.ite ?_ ?_|refine LeO.bind ?_ (fun _=>?_)
theorem spec_l1Path.calls (k:Nat)(a0_0:BA)(A0_1:Option Addr)(c0_1:Nat)(l0_1:List BA)(a0_2:Bool)(a0_3:BA)(r:BA)(w:World)(hr0_1:Kd.C Kd.string w A0_1 l0_1.length l0_1)(hc0_1:l0_1.length≤c0_1)(h:spec_l1Path.f k a0_0 l0_1 a0_2 a0_3=some r):
  Calls Tryz.prog 87 #[.agg #[.string a0_0,.slice A0_1 l0_1.length c0_1,.bool a0_2,.string a0_3]] w fun e w'=>e=.returned (.string r)∧Below w.heap.size w w':=by
 have hu70:=Tryz.underlying70;have HR0_1:=A_ hr0_1;have HC0_1:=A_ hc0_1;clear hr0_1 hc0_1;have HB:=A_ (Below.refl w.heap.size w);unfold spec_l1Path.f at h;have H:=h;clear h;have H':=A_ H;clear H;go_enter Tryz.func87,Tryz.ntmps87;go_wp2_with (first|(refine boxF 1 #[.string a0_0,.slice A0_1 l0_1.length c0_1,.bool a0_2,.string a0_3] 70 ?_;intro gb103 hg w2 BK103 hb;have GE103:=geB hg (zz1 HB);replace HB:=A_ (bS (zz1 HB) hb);clear hb hg))
 go_loopg [3,4] k (fun kq v3 v4 w'=>∃(x3_1:BA)(x4_1:Int),v3=.string x3_1∧v4=.int .i64 x4_1∧Aside0 (spec_l1Path.l0 kq x3_1 x4_1 a0_0 l0_1 a0_2 a0_3=some r)∧Aside0 (kq≤k)∧Aside0 (w'.heap[gb103]?=some (.cells #[.string a0_0,(.slice A0_1 l0_1.length c0_1),.bool a0_2,.string a0_3] 70 (0,0)))∧Aside0 (Below w.heap.size w w'))
 case atStart=>exact⟨((⟨#[47]⟩:BA)),(0),zz2,zz2,H',⟨lL_ _⟩,⟨(zz36 BK103)⟩,⟨(zz37 HB GE103)⟩⟩
 case round=>
  clear H';obtain⟨x3_1,x4_1,rfl,rfl,HA,HK1,BK103,HB⟩:=hrel;cases gk with
  |zero=>exact absurd HA.out (by simp[spec_l1Path.l0])
  |succ k1=>
   obtain⟨H⟩:=HA;simp only[spec_l1Path.l0]at H;replace H:=iteEd H;rcases H with⟨c3b0,H⟩|⟨c3b0,H⟩
   ·replace H:=iteEg H
    rcases H with⟨c4b0,H⟩|⟨c4b0,H⟩
    ·replace H:=iteN H
     obtain⟨c5,H⟩:=H;have c5b0:=eq_true c5;have c5b1:=dT c5;try have c5b2:(9223372036854775807<x3_1.size+1)=False:=eq_false (nL_.2 c5);replace H:=iteNd H;obtain⟨c6b0,H⟩:=H;replace H:=iteN H;obtain⟨c7,H⟩:=H;have c7b0:=eq_true c7;have c7b1:=dT c7;try have c7b2:(9223372036854775807<x3_1.size+1+(rdOf bE_ l0_1 x4_1).size)=False:=eq_false (nL_.2 c7);have H':=A_ H;clear H;obtain⟨_,_,_,_,_,_,_,_⟩:=cf4 BK103;obtain⟨⟨ad104,e104,hx104_0⟩,p104,q104⟩:=atB (Kd.at_string HR0_1.out x4_1);cases e104;replace hx104_0:=cbl HB hx104_0;go_wp2
     go_roundg k1
     case measure=>have:=HK1.out;omega
     case rel=>exact⟨((x3_1++(⟨#[47]⟩:BA))++(rdOf bE_ l0_1 x4_1)),(wrap64 (x4_1+1)),zz2,zz2,H',⟨(zz5 HK1)⟩,⟨(zz36 BK103)⟩,⟨(zz37 HB GE103)⟩⟩
    ·replace H:=iteNd H
     obtain⟨c9b0,H⟩:=H;replace H:=iteN H;obtain⟨c10,H⟩:=H;have c10b0:=eq_true c10;have c10b1:=dT c10;try have c10b2:(9223372036854775807<x3_1.size+(rdOf bE_ l0_1 x4_1).size)=False:=eq_false (nL_.2 c10);have H':=A_ H;clear H;obtain⟨_,_,_,_,_,_,_,_⟩:=cf4 BK103;obtain⟨⟨ad105,e105,hx105_0⟩,p105,q105⟩:=atB (Kd.at_string HR0_1.out x4_1);cases e105;replace hx105_0:=cbl HB hx105_0;go_wp2
     go_roundg k1
     case measure=>have:=HK1.out;omega
     case rel=>exact⟨(x3_1++(rdOf bE_ l0_1 x4_1)),(wrap64 (x4_1+1)),zz2,zz2,H',⟨(zz5 HK1)⟩,⟨(zz36 BK103)⟩,⟨(zz37 HB GE103)⟩⟩
   ·replace H:=iteB H
    rcases H with⟨rfl,H⟩|⟨rfl,H⟩
    ·replace H:=iteN H
     obtain⟨c13,H⟩:=H;have c13b0:=eq_true c13;have c13b1:=dT c13;try have c13b2:(9223372036854775807<x3_1.size+1)=False:=eq_false (nL_.2 c13);replace H:=iteN H;obtain⟨c14,H⟩:=H;have c14b0:=eq_true c14;have c14b1:=dT c14;try have c14b2:(9223372036854775807<x3_1.size+1+a0_3.size)=False:=eq_false (nL_.2 c14);obtain rfl:=sI H;obtain⟨_,_,_,_,_,_,_,_⟩:=cf4 BK103;go_wp2;go_ret;exact⟨zz0,(zz37 HB GE103)⟩
    ·obtain rfl:=sI H
     obtain⟨_,_,_,_,_,_,_,_⟩:=cf4 BK103;go_wp2;go_ret;exact⟨zz0,(zz37 HB GE103)⟩
def spec_l1Split.l0:Nat→Int→List BA→BA→Bool→Option (List BA)
 |0,_,_,_,_=>none
 |k+1,x1,x5,x6,x7=>if x7=true then((spec_l1Cut.f k x6 x1).bind fun bt132=>(if x5.length<8796093022208 then(spec_l1Split.l0 k x1 (x5++[bt132.1]) bt132.2.1 bt132.2.2)else(none)))else(some x5)
def spec_l1Split.f (k:Nat)(a0:BA)(a1:Int):Option (List BA):=spec_l1Split.l0 k a1 (([]:List BA)) a0 true
theorem spec_l1Split.calls (k:Nat)(a0:BA)(a1:Int)(r:List BA)(w:World)(h:spec_l1Split.f k a0 a1=some r):
  Calls Tryz.prog 99 #[.string a0,.int .u8 a1] w fun e w'=>∃v0_:Value,e=.returned (v0_)∧Kd.R Kd.string 9 w' w.heap.size (fun _=>True) v0_ r∧Below w.heap.size w w':=by
 have HB:=A_ (Below.refl w.heap.size w);unfold spec_l1Split.f at h;have H:=h;clear h;obtain⟨y129,Ny129⟩:=toY (([]:List BA));(first|with_reducible replace H:=bindZ Ny129 H|rw[←Ny129.out]at H|skip);have H':=A_ H;clear H;go_enter Tryz.func99,Tryz.ntmps99;go_wp2_with (first|((with_reducible refine gD (N:=9) rfl ?_);refine Kd.R_lit Kd.string _ 9 ?hg (N:=9) ?hd (xs:=([]:List BA)) (inner:=[]) (ok:=fun _=>True) (okp:=fun _=>True) ?hr ?hp (fun _ hk=>hk) trivial (Below.refl _ _) (lL_ _) (by simp) ?_;(case hd=>rfl);(case hg=>rfl);(case hr=>exact zz4);(case hp=>exact(Reps.none _ _));intro v130 w3 ho4 hb hg_ hnew_;clear hg_ hnew_;(first|rw[←Ny129.out]at ho4|(simp only[Int.reduceToNat]at ho4;rw[←Ny129.out]at ho4));have HO131:=A_ (Kd.R_lower ho4 (below_size (zz1 HB)));replace HB:=A_ (bS (zz1 HB) hb);clear hb ho4))
 go_loopg [5,6,7] k (fun kq v5 v6 v7 w'=>∃(x5_1:List BA)(x6_1:BA)(x7_1:Bool),v6=.string x6_1∧v7=.bool x7_1∧Aside0 (spec_l1Split.l0 kq a1 x5_1 x6_1 x7_1=some r)∧Aside0 (kq≤k)∧Aside0 (Kd.R Kd.string 9 w' w.heap.size (fun _=>True) v5 x5_1)∧Aside0 (Below w.heap.size w w'))
 case atStart=>exact⟨(y129),(a0),(true),zz2,zz2,H',⟨lL_ _⟩,⟨(zz6 HO131)⟩,⟨(zz1 HB)⟩⟩
 case round=>
  clear H';obtain⟨x5_1,x6_1,x7_1,rfl,rfl,HA,HK1,HO_5,HB⟩:=hrel;cases gk with
  |zero=>exact absurd HA.out (by simp[spec_l1Split.l0])
  |succ k1=>
   obtain⟨H⟩:=HA;simp only[spec_l1Split.l0]at H;replace H:=iteB H;rcases H with⟨rfl,H⟩|⟨rfl,H⟩
   ·replace H:=bindA H
    obtain⟨⟨t132,t133,t134⟩,A6,H⟩:=H;try dsimp only at H;replace H:=iteN H;obtain⟨c7,H⟩:=H;have LMc7:=A_ c7;clear c7;obtain⟨y135,Ny135⟩:=toY (x5_1++[t132]);(first|with_reducible replace H:=bindZ Ny135 H|rw[←Ny135.out]at H|skip);have H':=A_ H;clear H;go_wp2_with (first|(refine gR 69 (some 15) Tryz.func69 (spec_l1Cut.calls k1 x6_1 a1 t132 t133 t134 _ A6.out) ?_;rintro w' ⟨nd,rfl⟩)|((with_reducible refine gate_builtin (b:=.append) (xs:=#[.tmp 19,.tmp 21]) rfl ?_);at_builtin;refine Kd.R_append Kd.string (w0:=w) w.heap.size rfl (.tmp 19) (.tmp 21) 22 9 (.string ⟨#[]⟩) 16 rfl Tryz.underlying22 info9 rfl (by decide) (by omega) u5 x5_1 t132 [.string t132] (fun _=>True) (fun _=>False) rfl rfl ?aP (fun _ hk=>hk.elim) ?aF ?aO ?aB ?aS ?aL ?_;(case aP=>exact rfl);(case aB=>exact(zz1 HB));(case aF=>exact(fun _ _=>trivial));(case aO=>exact(zz6 HO_5));(case aS=>exact(below_size (zz1 HB)));(case aL=>exact(zz5 LMc7));intro v136 w8 ho hb hg hat;rw[←Ny135.out]at ho;replace HB:=A_ (hb);have HO137:=A_ (ho);clear HO_5;clear ho hb hg hat))
    go_roundg k1
    case measure=>have:=HK1.out;omega
    case rel=>exact⟨(y135),(t133),(t134),zz2,zz2,H',⟨(zz5 HK1)⟩,⟨(zz6 HO137)⟩,⟨(zz1 HB)⟩⟩
   ·obtain rfl:=sI H
    go_wp2;go_ret;exact⟨_,zz0,(zz6 HO_5),(zz1 HB)⟩
mutual
def spec_PathClean.l0:Nat→List BA→List BA→Int→Option (List BA)
 |0,_,_,_=>none
 |k+1,x0,x3,x4=>if x4<(x0.length:Int)then(if 0≤x4 then(if(rdOf bE_ x0 x4).toList=([]:List UInt8)then(spec_PathClean.j1 k x0 x3 x4 true)else(spec_PathClean.j1 k x0 x3 x4 ((rdOf bE_ x0 x4).toList==([46]:List UInt8))))else(none))else(some x3)
def spec_PathClean.j1:Nat→List BA→List BA→Int→Bool→Option (List BA)
 |0,_,_,_,_=>none
 |k+1,x0,x3,x4,x19=>if x19=true then(spec_PathClean.l0 k x0 x3 (wrap64 (x4+1)))else(if 0≤x4 then(if x4<(x0.length:Int)then(if(rdOf bE_ x0 x4).toList=([46,46]:List UInt8)then(if 0≤(mx (wrap64 ((x3.length:Int)-1)) 0)then(if(mx (wrap64 ((x3.length:Int)-1)) 0)≤(x3.length:Int)then(spec_PathClean.l0 k x0 (x3.take ((mx (wrap64 ((x3.length:Int)-1)) 0):Int).toNat) (wrap64 (x4+1)))else(none))else(none))else(if x3.length<8796093022208 then(spec_PathClean.l0 k x0 (x3++[rdOf bE_ x0 x4]) (wrap64 (x4+1)))else(none)))else(none))else(none))
end
def spec_PathClean.f (k:Nat)(l0:List BA):Option (List BA):=spec_PathClean.l0 k l0 (([]:List BA)) 0
theorem spec_PathClean.calls (k:Nat)(A0:Option Addr)(c0:Nat)(l0:List BA)(r:List BA)(w:World)(hr0:Kd.C Kd.string w A0 l0.length l0)(hc0:l0.length≤c0)(h:spec_PathClean.f k l0=some r):
  Calls Tryz.prog 101 #[.slice A0 l0.length c0] w fun e w'=>∃v0_:Value,e=.returned (v0_)∧Kd.R Kd.string 9 w' w.heap.size (fun _=>True) v0_ r∧Below w.heap.size w w':=by
 have HR0:=A_ hr0;have HC0:=A_ hc0;clear hr0 hc0;have HB:=A_ (Below.refl w.heap.size w);unfold spec_PathClean.f at h;have H:=h;clear h;obtain⟨y138,Ny138⟩:=toY (([]:List BA));(first|with_reducible replace H:=bindZ Ny138 H|rw[←Ny138.out]at H|skip);have H':=A_ H;clear H;go_enter Tryz.func101,Tryz.ntmps101;go_wp2_with (first|((with_reducible refine gD (N:=5) rfl ?_);refine Kd.R_lit Kd.string _ 9 ?hg (N:=5) ?hd (xs:=([]:List BA)) (inner:=[]) (ok:=fun _=>True) (okp:=fun _=>True) ?hr ?hp (fun _ hk=>hk) trivial (Below.refl _ _) (lL_ _) (by simp) ?_;(case hd=>rfl);(case hg=>rfl);(case hr=>exact zz4);(case hp=>exact(Reps.none _ _));intro v139 w2 ho3 hb hg_ hnew_;clear hg_ hnew_;(first|rw[←Ny138.out]at ho3|(simp only[Int.reduceToNat]at ho3;rw[←Ny138.out]at ho3));have HO140:=A_ (Kd.R_lower ho3 (below_size (zz1 HB)));replace HB:=A_ (bS (zz1 HB) hb);clear hb ho3))
 go_loopg [3,4] k (fun kq v3 v4 w'=>∃(x3_1:List BA)(x4_1:Int),v4=.int .i64 x4_1∧Aside0 (spec_PathClean.l0 kq l0 x3_1 x4_1=some r)∧Aside0 (kq≤k)∧Aside0 (Kd.R Kd.string 9 w' w.heap.size (fun _=>True) v3 x3_1)∧Aside0 (Below w.heap.size w w'))
 case atStart=>exact⟨(y138),(0),zz2,H',⟨lL_ _⟩,⟨(zz6 HO140)⟩,⟨(zz1 HB)⟩⟩
 case round=>
  clear H';obtain⟨x3_1,x4_1,rfl,HA,HK1,HO_3,HB⟩:=hrel;cases gk with
  |zero=>exact absurd HA.out (by simp[spec_PathClean.l0])
  |succ k1=>
   obtain⟨H⟩:=HA;simp only[spec_PathClean.l0]at H;replace H:=iteEd H;rcases H with⟨c4b0,H⟩|⟨c4b0,H⟩
   ·have HC5:=A_ H
    clear H;go_upto_region 6 with(fail)
    go_cut [19] (fun v19 wc=>∃(kq:Nat)(x19_4:Bool),v19=.bool x19_4∧Aside0 (spec_PathClean.j1 kq l0 x3_1 x4_1 x19_4=some r)∧Aside0 (kq≤k1)∧Aside0 (Kd.R Kd.string 9 wc w.heap.size (fun _=>True) u3 x3_1)∧Aside0 (Below w.heap.size w wc))
    case first=>
     obtain⟨H⟩:=HC5;replace H:=iteNd H;obtain⟨c6b0,H⟩:=H;(first|rw[c6b0]|(simp only[i64_w,i32_w];rw[c6b0])|skip);replace H:=iteEq H;rcases H with⟨c7b0,c7b1,H⟩|⟨c7b0,c7b1,c7,H⟩
     ·have H':=A_ H
      clear H;obtain⟨⟨ad141,e141,hx141_0⟩,p141,q141⟩:=atB (Kd.at_string HR0.out x4_1);cases e141;replace hx141_0:=cbl HB hx141_0;go_wp2
      go_meet
      case rel=>exact⟨_,(true),zz2,H',⟨(zz26 HK1)⟩,⟨(zz6 HO_3)⟩,⟨(zz1 HB)⟩⟩
     ·have H':=A_ H
      clear H;obtain⟨⟨ad141,e141,hx141_0⟩,p141,q141⟩:=atB (Kd.at_string HR0.out x4_1);cases e141;replace hx141_0:=cbl HB hx141_0;obtain⟨⟨ad142,e142,hx142_0⟩,p142,q142⟩:=atB (Kd.at_string HR0.out x4_1);obtain rfl:ad141=ad142:=(by injection e142);replace hx142_0:=cbl HB hx142_0;go_wp2
      go_meet
      case rel=>exact⟨_,(((rdOf bE_ l0 x4_1).toList==([46]:List UInt8))),zz2,H',⟨(zz26 HK1)⟩,⟨(zz6 HO_3)⟩,⟨(zz1 HB)⟩⟩
    case rest=>
     clear HC5;obtain⟨kq,x19_4,rfl,HA,HJ4,HO_3,HB⟩:=hcut;cases kq with
     |zero=>exact absurd HA.out (by simp[spec_PathClean.j1])
     |succ kj4=>
      obtain⟨H⟩:=HA;simp only[spec_PathClean.j1]at H;replace H:=iteB H;rcases H with⟨rfl,H⟩|⟨rfl,H⟩
      ·have H':=A_ H
       clear H;go_wp2
       go_roundg kj4
       case measure=>have:=HK1.out;have:=HJ4.out;omega
       case rel=>exact⟨(x3_1),(wrap64 (x4_1+1)),zz2,H',⟨(zz28 HK1 HJ4)⟩,⟨(zz6 HO_3)⟩,⟨(zz1 HB)⟩⟩
      ·replace H:=iteN H
       obtain⟨c9,H⟩:=H;have c9b0:=dT c9;clear c9;replace H:=iteNd H;obtain⟨c10b0,H⟩:=H;replace H:=iteEq H;rcases H with⟨c11b0,c11b1,H⟩|⟨c11b0,c11b1,c11,H⟩
       ·obtain⟨ji12,hji12⟩:∃j_:Int,(mx (wrap64 ((x3_1.length:Int)-1)) 0)=j_:=⟨_,rfl⟩
        (first|rw[hji12]at H|simp only[hji12]at H)
        have hji12_:(if(wrap64 ((x3_1.length:Int)-1))<0 then 0 else(wrap64 ((x3_1.length:Int)-1)))=ji12:=hji12;replace H:=iteN H;obtain⟨c13,H⟩:=H;have c13b0:=eq_true c13;have c13b1:=dT c13;clear c13;replace H:=iteN H;obtain⟨c14,H⟩:=H;have c14b0:=eq_true c14;have c14b1:=dT c14;clear c14;obtain⟨y144,Ny144⟩:=toY (x3_1.take ((ji12):Int).toNat);(first|with_reducible replace H:=bindZ Ny144 H|rw[←Ny144.out]at H|skip);have H':=A_ H;clear H;obtain⟨⟨ad143,e143,hx143_0⟩,p143,q143⟩:=atB (Kd.at_string HR0.out x4_1);cases e143;replace hx143_0:=cbl HB hx143_0;obtain⟨Ao15,co15,eo15⟩:=Kd.R_slice HO_3.out;subst eo15;have q16:((ji12):Int)≤((x3_1.length:Int):Int):=ofD;obtain⟨i016,hi016,_,hsz16,_⟩:=info_parts info9;have hcut16:=cut_to (P:=Tryz.prog) 22 9 .i64 Tryz.underlying22 hi016 Ao15 x3_1.length co15 (ji12) ofD q16 (Kd.R_reads' HO_3.out).2.1;have hr16:=Kd.R_take (m:=((ji12):Int).toNat) HO_3.out (by omega);have hy16:y144.length=((ji12):Int).toNat:=(by rw[Ny144.out,lT_];omega);rw[←Ny144.out]at hr16;rw[←hy16]at hr16 hcut16;clear hy16 hi016 hsz16 HO_3;have HO146:=A_ hr16;clear hr16;replace q16:=eq_true q16;go_wp2
        go_roundg kj4
        case measure=>have:=HK1.out;have:=HJ4.out;omega
        case rel=>exact⟨(y144),(wrap64 (x4_1+1)),zz2,H',⟨(zz28 HK1 HJ4)⟩,⟨(zz6 HO146)⟩,⟨(zz1 HB)⟩⟩
       ·replace H:=iteN H
        obtain⟨c17,H⟩:=H;have LMc17:=A_ c17;clear c17;obtain⟨y148,Ny148⟩:=toY (x3_1++[rdOf bE_ l0 x4_1]);(first|with_reducible replace H:=bindZ Ny148 H|rw[←Ny148.out]at H|skip);have H':=A_ H;clear H;obtain⟨⟨ad143,e143,hx143_0⟩,p143,q143⟩:=atB (Kd.at_string HR0.out x4_1);cases e143;replace hx143_0:=cbl HB hx143_0;obtain⟨⟨ad147,e147,hx147_0⟩,p147,q147⟩:=atB (Kd.at_string HR0.out x4_1);obtain rfl:ad143=ad147:=(by injection e147);replace hx147_0:=cbl HB hx147_0;go_wp2_with (first|((with_reducible refine gate_builtin (b:=.append) (xs:=#[.tmp 12,.tmp 17]) rfl ?_);at_builtin;refine Kd.R_append Kd.string (w0:=w) w.heap.size rfl (.tmp 12) (.tmp 17) 22 9 (.string ⟨#[]⟩) 16 rfl Tryz.underlying22 info9 rfl (by decide) (by omega) u3 x3_1 (rdOf bE_ l0 x4_1) [.string (rdOf bE_ l0 x4_1)] (fun _=>True) (fun _=>False) rfl rfl ?aP (fun _ hk=>hk.elim) ?aF ?aO ?aB ?aS ?aL ?_;(case aP=>exact rfl);(case aB=>exact(zz1 HB));(case aF=>exact(fun _ _=>trivial));(case aO=>exact(zz6 HO_3));(case aS=>exact(below_size (zz1 HB)));(case aL=>exact(zz5 LMc17));intro v149 w18 ho hb hg hat;rw[←Ny148.out]at ho;replace HB:=A_ (hb);have HO150:=A_ (ho);clear HO_3;clear ho hb hg hat))
        go_roundg kj4
        case measure=>have:=HK1.out;have:=HJ4.out;omega
        case rel=>exact⟨(y148),(wrap64 (x4_1+1)),zz2,H',⟨(zz28 HK1 HJ4)⟩,⟨(zz6 HO150)⟩,⟨(zz1 HB)⟩⟩
   ·obtain rfl:=sI H
    go_wp2;go_ret;exact⟨_,zz0,(zz6 HO_3),(zz1 HB)⟩
def spec_l12House.l0:Nat→BA→Int→BA→Int→List (S43)→List BA→List (S83)→Option (Int)
 |0,_,_,_,_,_,_,_=>none
 |k+1,x1,x5,x227000,x227001,x227002,x227003,x227004=>if x5<(x227002.length:Int)then(if 0≤x5 then(if((rd_T43 x227002 x5).f0).toList=x1.toList then(some x5)else(spec_l12House.l0 k x1 (wrap64 (x5+1)) x227000 x227001 x227002 x227003 x227004))else(none))else(some (-1))
def spec_l12House.f (k:Nat)(a0_0:BA)(a0_1:Int)(l0_2:List (S43))(l0_3:List BA)(l0_4:List (S83))(a1:BA):Option (Int):=spec_l12House.l0 k a1 0 a0_0 a0_1 l0_2 l0_3 l0_4
theorem spec_l12House.calls (k:Nat)(a0_0:BA)(a0_1:Int)(A0_2:Option Addr)(c0_2:Nat)(l0_2:List (S43))(A0_3:Option Addr)(c0_3:Nat)(l0_3:List BA)(A0_4:Option Addr)(c0_4:Nat)(l0_4:List (S83))(a1:BA)(r:Int)(w:World)(hr0_2:Kd.C k43 w A0_2 l0_2.length l0_2)(hc0_2:l0_2.length≤c0_2)(hr0_3:Kd.C Kd.string w A0_3 l0_3.length l0_3)(hc0_3:l0_3.length≤c0_3)(hr0_4:Kd.C k83 w A0_4 l0_4.length l0_4)(hc0_4:l0_4.length≤c0_4)(h:spec_l12House.f k a0_0 a0_1 l0_2 l0_3 l0_4 a1=some r):
  Calls Tryz.prog 50 #[.agg #[.string a0_0,.int .i64 a0_1,.slice A0_2 l0_2.length c0_2,.slice A0_3 l0_3.length c0_3,.slice A0_4 l0_4.length c0_4],.string a1] w fun e w'=>e=.returned (.int .i64 r)∧Below w.heap.size w w':=by
 have hu27:=Tryz.underlying27;have HR0_2:=A_ hr0_2;have HC0_2:=A_ hc0_2;clear hr0_2 hc0_2;have HR0_3:=A_ hr0_3;have HC0_3:=A_ hc0_3;clear hr0_3 hc0_3;have HR0_4:=A_ hr0_4;have HC0_4:=A_ hc0_4;clear hr0_4 hc0_4;have HB:=A_ (Below.refl w.heap.size w);unfold spec_l12House.f at h;have H:=h;clear h;have H':=A_ H;clear H;go_enter Tryz.func50,Tryz.ntmps50;go_wp2_with (first|(refine boxF 2 #[.string a0_0,.int .i64 a0_1,.slice A0_2 l0_2.length c0_2,.slice A0_3 l0_3.length c0_3,.slice A0_4 l0_4.length c0_4] 27 ?_;intro gb226 hg w3 BK226 hb;have GE226:=geB hg (zz1 HB);replace HB:=A_ (bS (zz1 HB) hb);clear hb hg))
 go_loopg [5] k (fun kq v5 w'=>∃(x5_1:Int),v5=.int .i64 x5_1∧Aside0 (spec_l12House.l0 kq a1 x5_1 a0_0 a0_1 l0_2 l0_3 l0_4=some r)∧Aside0 (kq≤k)∧Aside0 (w'.heap[gb226]?=some (.cells #[.string a0_0,.int .i64 a0_1,(.slice A0_2 l0_2.length c0_2),(.slice A0_3 l0_3.length c0_3),(.slice A0_4 l0_4.length c0_4)] 27 (0,0)))∧Aside0 (Below w.heap.size w w'))
 case atStart=>exact⟨(0),zz2,H',⟨lL_ _⟩,⟨(zz36 BK226)⟩,⟨(zz37 HB GE226)⟩⟩
 case round=>
  clear H';obtain⟨x5_1,rfl,HA,HK1,BK226,HB⟩:=hrel;cases gk with
  |zero=>exact absurd HA.out (by simp[spec_l12House.l0])
  |succ k1=>
   obtain⟨H⟩:=HA;simp only[spec_l12House.l0]at H;replace H:=iteEd H;rcases H with⟨c4b0,H⟩|⟨c4b0,H⟩
   ·replace H:=iteNd H
    obtain⟨c5b0,H⟩:=H;replace H:=iteEq H;rcases H with⟨c6b0,c6b1,H⟩|⟨c6b0,c6b1,c6,H⟩
    ·obtain rfl:=sI H
     obtain⟨_,_,_,_,_,_,_,_,_,_⟩:=cf5 BK226;obtain⟨⟨ad227,A227_3,c227_3,A227_4,c227_4,A227_7,c227_7,e227,hx227_0,hx227_1,hx227_2,hx227_3,hx227_4,hx227_5,hx227_6,hx227_7,hl227_3,hi227_3,hl227_4,hi227_4,hl227_7,hi227_7⟩,p227,q227⟩:=atB (at_T43 HR0_2.out x5_1);cases e227;obtain⟨hx227_0,hx227_1,hx227_2,hx227_3⟩:=cb4 HB hx227_0 hx227_1 hx227_2 hx227_3;obtain⟨hx227_4,hx227_5,hx227_6,hx227_7⟩:=cb4 HB hx227_4 hx227_5 hx227_6 hx227_7;have HR227_3:=A_ hi227_3;have HC227_3:=A_ hl227_3;clear hi227_3 hl227_3;have HR227_4:=A_ hi227_4;have HC227_4:=A_ hl227_4;clear hi227_4 hl227_4;have HR227_7:=A_ hi227_7;have HC227_7:=A_ hl227_7;clear hi227_7 hl227_7;go_wp2;go_ret;exact⟨zz0,(zz37 HB GE226)⟩
    ·have H':=A_ H
     clear H;obtain⟨_,_,_,_,_,_,_,_,_,_⟩:=cf5 BK226;obtain⟨⟨ad227,A227_3,c227_3,A227_4,c227_4,A227_7,c227_7,e227,hx227_0,hx227_1,hx227_2,hx227_3,hx227_4,hx227_5,hx227_6,hx227_7,hl227_3,hi227_3,hl227_4,hi227_4,hl227_7,hi227_7⟩,p227,q227⟩:=atB (at_T43 HR0_2.out x5_1);cases e227;obtain⟨hx227_0,hx227_1,hx227_2,hx227_3⟩:=cb4 HB hx227_0 hx227_1 hx227_2 hx227_3;obtain⟨hx227_4,hx227_5,hx227_6,hx227_7⟩:=cb4 HB hx227_4 hx227_5 hx227_6 hx227_7;have HR227_3:=A_ hi227_3;have HC227_3:=A_ hl227_3;clear hi227_3 hl227_3;have HR227_4:=A_ hi227_4;have HC227_4:=A_ hl227_4;clear hi227_4 hl227_4;have HR227_7:=A_ hi227_7;have HC227_7:=A_ hl227_7;clear hi227_7 hl227_7;go_wp2
     go_roundg k1
     case measure=>have:=HK1.out;omega
     case rel=>exact⟨(wrap64 (x5_1+1)),zz2,H',⟨(zz5 HK1)⟩,⟨(zz36 BK226)⟩,⟨(zz37 HB GE226)⟩⟩
   ·obtain rfl:=sI H
    obtain⟨_,_,_,_,_,_,_,_,_,_⟩:=cf5 BK226;go_wp2;go_ret;exact⟨zz0,(zz37 HB GE226)⟩
def laws_szStringS.l0:Nat→List BA→Int→Int→Option (Int)
 |0,_,_,_=>none
 |k+1,x0,x1,x5=>if x5<(x0.length:Int)then(if 0≤x5 then(if(wrap64 (x1-((rdOf bE_ x0 x5).size:Int)))<0 then(some (-1))else(laws_szStringS.l0 k x0 (wrap64 (x1-((rdOf bE_ x0 x5).size:Int))) (wrap64 (x5+1))))else(none))else(some x1)
def laws_szStringS.f (k:Nat)(l0:List BA)(a1:Int):Option (Int):=if(wrap64 (a1-(l0.length:Int)))<0 then(some (-1))else(laws_szStringS.l0 k l0 (wrap64 (a1-(l0.length:Int))) 0)
theorem laws_szStringS.calls (k:Nat)(A0:Option Addr)(c0:Nat)(l0:List BA)(a1:Int)(r:Int)(w:World)(hr0:Kd.C Kd.string w A0 l0.length l0)(hc0:l0.length≤c0)(h:laws_szStringS.f k l0 a1=some r):
  Calls Tryz.prog 5 #[.slice A0 l0.length c0,.int .i64 a1] w fun e w'=>e=.returned (.int .i64 r)∧Drawn0 w w':=by
 have HR0:=A_ hr0;have HC0:=A_ hc0;clear hr0 hc0;unfold laws_szStringS.f at h;have H:=h;clear h;replace H:=iteEd H;rcases H with⟨c3b0,H⟩|⟨c3b0,H⟩
 ·obtain rfl:=sI H
  go_enter Tryz.func5,Tryz.ntmps5;go_wp2
  go_ret;exact⟨zz2,zz22⟩
 ·have H':=A_ H
  clear H;go_enter Tryz.func5,Tryz.ntmps5;go_wp2
  go_loopg [1,5] k (fun kq v1 v5 w'=>∃(x1_1:Int)(x5_1:Int),v1=.int .i64 x1_1∧v5=.int .i64 x5_1∧Aside0 (laws_szStringS.l0 kq l0 x1_1 x5_1=some r)∧Aside0 (kq≤k)∧Drawn0 w w')
  case atStart=>exact⟨(wrap64 (a1-(l0.length:Int))),(0),zz2,zz2,H',⟨lL_ _⟩,zz22⟩
  case round=>
   clear H';obtain⟨x1_1,x5_1,rfl,rfl,HA,HK1,⟨m1,rfl⟩⟩:=hrel;cases gk with
   |zero=>exact absurd HA.out (by simp[laws_szStringS.l0])
   |succ k1=>
    obtain⟨H⟩:=HA;simp only[laws_szStringS.l0]at H;replace H:=iteEd H;rcases H with⟨c4b0,H⟩|⟨c4b0,H⟩
    ·replace H:=iteNd H
     obtain⟨c5b0,H⟩:=H;replace H:=iteEd H;rcases H with⟨c6b0,H⟩|⟨c6b0,H⟩
     ·obtain rfl:=sI H
      obtain⟨⟨ad101,e101,hx101_0⟩,p101,q101⟩:=atB (Kd.at_string HR0.out x5_1);cases e101;go_wp2;go_ret;exact⟨zz2,zz22⟩
     ·have H':=A_ H
      clear H;obtain⟨⟨ad101,e101,hx101_0⟩,p101,q101⟩:=atB (Kd.at_string HR0.out x5_1);cases e101;go_wp2
      go_roundg k1
      case measure=>have:=HK1.out;omega
      case rel=>exact⟨(wrap64 (x1_1-((rdOf bE_ l0 x5_1).size:Int))),(wrap64 (x5_1+1)),zz2,zz2,H',⟨(zz5 HK1)⟩,zz22⟩
    ·obtain rfl:=sI H
     go_wp2;go_ret;exact⟨zz2,zz22⟩
def laws_toStringS.l0:Nat→List BA→List BA→Int→Option (List BA)
 |0,_,_,_=>none
 |k+1,x0,x3,x4=>if x4<(x0.length:Int)then(if 0≤x4 then(if x4<(x3.length:Int)then(laws_toStringS.l0 k x0 (x3.set (x4:Int).toNat (rdOf bE_ x0 x4)) (wrap64 (x4+1)))else(none))else(none))else(some x3)
def laws_toStringS.f (k:Nat)(l0:List BA):Option (List BA):=if 0≤(l0.length:Int)then(if((l0.length:Int):Int).toNat≤17592186044416 then(laws_toStringS.l0 k l0 (List.replicate ((l0.length:Int):Int).toNat (⟨#[]⟩:BA)) 0)else(none))else(none)
theorem laws_toStringS.calls (k:Nat)(A0:Option Addr)(c0:Nat)(l0:List BA)(r:List BA)(w:World)(hr0:Kd.C Kd.string w A0 l0.length l0)(hc0:l0.length≤c0)(h:laws_toStringS.f k l0=some r):
  Calls Tryz.prog 7 #[.slice A0 l0.length c0] w fun e w'=>∃v0_:Value,e=.returned (v0_)∧Kd.R Kd.string 9 w' w.heap.size (fun _=>True) v0_ r∧Below w.heap.size w w':=by
 have HR0:=A_ hr0;have HC0:=A_ hc0;clear hr0 hc0;have HB:=A_ (Below.refl w.heap.size w);unfold laws_toStringS.f at h;have H:=h;clear h;replace H:=iteE H;rcases H with⟨c2,H⟩|⟨c2,H⟩
 ·have c2b0:=eq_true c2
  have c2b1:=dT c2;clear c2;replace H:=iteN H;obtain⟨c3,H⟩:=H;have c3b0:=eq_true c3;have c3b1:=dT c3;clear c3;obtain⟨y228,Ny228⟩:=toY (List.replicate ((l0.length:Int):Int).toNat (⟨#[]⟩:BA));(first|with_reducible replace H:=bindZ Ny228 H|rw[←Ny228.out]at H|skip);have H':=A_ H;clear H;go_enter Tryz.func7,Tryz.ntmps7;go_wp2_with (first|((with_reducible refine gD (N:=7) rfl ?_);refine Kd.R_make Kd.string _ 9 rfl (N:=7) rfl 22 _ _ rfl (l0.length:Int) rfl rfl Tryz.underlying22 (.string ⟨#[]⟩) 16 info9 rfl (by decide) (by omega) (⟨#[]⟩:BA) (ok:=fun _=>True) (okp:=fun _=>True) rfl (fun _ hk=>hk) trivial ofD (nT_ (mR_ _ (ofD:(l0.length:Int).toNat≤17592186044416)) (by omega)) (Below.refl _ _) (lL_ _) ?_;intro v229 w4 ho5 hb hg_ hnew_;clear hg_ hnew_;(first|rw[←Ny228.out]at ho5|(simp only[Int.reduceToNat]at ho5;rw[←Ny228.out]at ho5));have HO230:=A_ (Kd.R_lower ho5 (below_size (zz1 HB)));replace HB:=A_ (bS (zz1 HB) hb);clear hb ho5))
  go_loopg [4] k (fun kq v4 w'=>∃(x3_1:List BA)(x4_1:Int),v4=.int .i64 x4_1∧Aside0 (laws_toStringS.l0 kq l0 x3_1 x4_1=some r)∧Aside0 (kq≤k)∧Aside0 (Kd.R Kd.string 9 w' w.heap.size (fun _=>True) v229 x3_1)∧Aside0 (Below w.heap.size w w'))
  case atStart=>exact⟨(y228),(0),zz2,H',⟨lL_ _⟩,⟨(zz6 HO230)⟩,⟨(zz1 HB)⟩⟩
  case round=>
   clear H';obtain⟨x3_1,x4_1,rfl,HA,HK1,HO_3,HB⟩:=hrel;cases gk with
   |zero=>exact absurd HA.out (by simp[laws_toStringS.l0])
   |succ k1=>
    obtain⟨H⟩:=HA;simp only[laws_toStringS.l0]at H;replace H:=iteEd H;rcases H with⟨c6b0,H⟩|⟨c6b0,H⟩
    ·replace H:=iteNd H
     obtain⟨c7b0,H⟩:=H;replace H:=iteNd H;obtain⟨c8b0,H⟩:=H;obtain⟨y232,Ny232⟩:=toY (x3_1.set (x4_1:Int).toNat (rdOf bE_ l0 x4_1));(first|with_reducible replace H:=bindZ Ny232 H|rw[←Ny232.out]at H|skip);have H':=A_ H;clear H;obtain⟨⟨ad231,e231,hx231_0⟩,p231,q231⟩:=atB (Kd.at_string HR0.out x4_1);cases e231;replace hx231_0:=cbl HB hx231_0;have p9:0≤(x4_1:Int):=ofD;have q9:(x4_1:Int)<((x3_1.length:Int):Int):=ofD;obtain⟨go9,co9,eo9,gb9,gl9,cl9,HG9⟩:=Kd.R_form HO_3.out (by omega);(first|cases eo9|(injection eo9 with ea_ en_ ec_;(first|subst ea_|(injection ea_ with ea_;subst ea_));subst ec_;clear en_));have GB9:=A_ gb9;have GG9:=A_ HG9;clear gb9 gl9 HG9;obtain⟨hx9_0,hf9_0⟩:=Kd.R_celln (⟨#[]⟩:BA) HO_3.out (x4_1:Int) p9 q9;replace p9:=eq_true p9;replace q9:=eq_true q9;have HP10:=Kd.R_putg HO_3.out (x4_1:Int) (rdOf bE_ l0 x4_1);go_wp2_with (first|((with_reducible refine gate_store (t:=9) (p:=20) rfl ?_);refine store_event (t:=9) (p:=20) (v:=?vo_w11) (w1:=(wr.setCell ⟨go9,(x4_1:Int).toNat,none⟩ (.string (rdOf bE_ l0 x4_1)))) ?hg ?ho ?hn ?hr ?_;(case ho=>rfl);(case hg=>rfl);(case hn=>rfl);(case hr=>exact zz4);intro w11 hw;have hg:wr.grownBy w11 (some go9):=(by rw[hw];exact HP10.2);have hp_:Kd.R Kd.string 9 w11 w.heap.size (fun _=>True) (.slice (some ⟨go9,0,none⟩) x3_1.length co9) y232:=(by rw[hw,Ny232.out];exact HP10.1);clear HP10;replace HO_3:=A_ (hp_);replace HB:=A_ ((by rw[hw];exact below_set (HB.out) GB9.out:Below w.heap.size w w11));clear hg hw hp_))
     go_roundg k1
     case measure=>have:=HK1.out;omega
     case rel=>exact⟨(y232),(wrap64 (x4_1+1)),zz2,H',⟨(zz5 HK1)⟩,⟨(zz6 HO_3)⟩,⟨(zz1 HB)⟩⟩
    ·obtain rfl:=sI H
     go_wp2;go_ret;exact⟨_,zz0,(zz6 HO_3),(zz1 HB)⟩
 ·exact absurd H (by simp)
def laws_eqStringS.l0:Nat→List BA→List BA→Int→Option (Bool)
 |0,_,_,_=>none
 |k+1,x0,x1,x5=>if x5<(x0.length:Int)then(if 0≤x5 then(if x5<(x1.length:Int)then(if(rdOf bE_ x0 x5).toList=(rdOf bE_ x1 x5).toList then(laws_eqStringS.l0 k x0 x1 (wrap64 (x5+1)))else(some false))else(none))else(none))else(some true)
def laws_eqStringS.f (k:Nat)(l0:List BA)(l1:List BA):Option (Bool):=if(l0.length:Int)=(l1.length:Int)then(laws_eqStringS.l0 k l0 l1 0)else(some false)
theorem laws_eqStringS.mono_l:∀k,(∀y0 y1 y2,LeO (laws_eqStringS.l0 k y0 y1 y2) (laws_eqStringS.l0 (k+1) y0 y1 y2))
 |0=>by intros;intro r h;simp[laws_eqStringS.l0]at h
 |k+1=>by
  have ih0:=laws_eqStringS.mono_l k;intros;unfold laws_eqStringS.l0;repeat' first|(with_reducible first|exact ih0 _ _ _|exact LeO.refl _|exact LeO.none _|refine LeO.ite ?_ ?_|refine LeO.bind ?_ (fun _=>?_))|exact LeO.none _|refine LeO.ite ?_ ?_|refine LeO.bind ?_ (fun _=>?_)
theorem laws_eqStringS.calls (k:Nat)(A0:Option Addr)(c0:Nat)(l0:List BA)(A1:Option Addr)(c1:Nat)(l1:List BA)(r:Bool)(w:World)(hr0:Kd.C Kd.string w A0 l0.length l0)(hc0:l0.length≤c0)(hr1:Kd.C Kd.string w A1 l1.length l1)(hc1:l1.length≤c1)(h:laws_eqStringS.f k l0 l1=some r):
  Calls Tryz.prog 10 #[.slice A0 l0.length c0,.slice A1 l1.length c1] w fun e w'=>e=.returned (.bool r)∧Drawn0 w w':=by
 have HR0:=A_ hr0;have HC0:=A_ hc0;clear hr0 hc0;have HR1:=A_ hr1;have HC1:=A_ hc1;clear hr1 hc1;unfold laws_eqStringS.f at h;have H:=h;clear h;replace H:=iteE H;rcases H with⟨c3,H⟩|⟨c3,H⟩
 ·obtain⟨c3b0,c3b1⟩:=eqT c3
  have c3b2:(l0.length==l1.length)=true:=by first|simpa using c3|(simp at c3 ⊢;omega)
  clear c3;have H':=A_ H;clear H;go_enter Tryz.func10,Tryz.ntmps10;go_wp2
  repeat(go_quiet (fail);try go_wp2)
  go_loopg [5] k (fun kq v5 w'=>∃(x5_1:Int),v5=.int .i64 x5_1∧Aside0 (laws_eqStringS.l0 kq l0 l1 x5_1=some r)∧Aside0 (kq≤k)∧Drawn0 w w')
  case atStart=>exact⟨(0),zz2,H',⟨lL_ _⟩,zz22⟩
  case round=>
   clear H';obtain⟨x5_1,rfl,HA,HK1,⟨m1,rfl⟩⟩:=hrel;cases gk with
   |zero=>exact absurd HA.out (by simp[laws_eqStringS.l0])
   |succ k1=>
    obtain⟨H⟩:=HA;simp only[laws_eqStringS.l0]at H;replace H:=iteEd H;rcases H with⟨c4b0,H⟩|⟨c4b0,H⟩
    ·replace H:=iteNd H
     obtain⟨c5b0,H⟩:=H;replace H:=iteNd H;obtain⟨c6b0,H⟩:=H;replace H:=iteEq H;rcases H with⟨c7b0,c7b1,H⟩|⟨c7b0,c7b1,c7,H⟩
     ·have H':=A_ H
      clear H;obtain⟨⟨ad375,e375,hx375_0⟩,p375,q375⟩:=atB (Kd.at_string HR0.out x5_1);cases e375;obtain⟨⟨ad376,e376,hx376_0⟩,p376,q376⟩:=atB (Kd.at_string HR1.out x5_1);cases e376;go_wp2
      repeat(go_quiet (fail);try go_wp2)
      go_roundg k1
      case measure=>have:=HK1.out;omega
      case rel=>exact⟨(wrap64 (x5_1+1)),zz2,H',⟨(zz5 HK1)⟩,zz22⟩
     ·obtain rfl:=sI H
      obtain⟨⟨ad375,e375,hx375_0⟩,p375,q375⟩:=atB (Kd.at_string HR0.out x5_1);cases e375;obtain⟨⟨ad376,e376,hx376_0⟩,p376,q376⟩:=atB (Kd.at_string HR1.out x5_1);cases e376;go_wp2
      repeat(go_quiet (fail);try go_wp2)
      go_ret;exact⟨zz2,zz22⟩
    ·obtain rfl:=sI H
     go_wp2
     repeat(go_quiet (fail);try go_wp2)
     go_ret;exact⟨zz2,zz22⟩
 ·obtain⟨c3b0,c3b1⟩:=eqF c3
  have c3b2:(l0.length==l1.length)=false:=by first|simpa using c3|(simp at c3 ⊢;omega)
  obtain rfl:=sI H;go_enter Tryz.func10,Tryz.ntmps10;go_wp2
  repeat(go_quiet (fail);try go_wp2)
  go_ret;exact⟨zz2,zz22⟩
def laws_heldStringS.l0:Nat→List BA→Int→Int→Option (Int)
 |0,_,_,_=>none
 |k+1,x0,x1,x5=>if x5<(x0.length:Int)then(if 0≤x5 then((laws_markText.f k x1).bind fun t426=>(if(rdOf bE_ x0 x5).toList=t426.toList then(laws_heldStringS.l0 k x0 (wrap64 (x1+1)) (wrap64 (x5+1)))else(some (-1))))else(none))else(some x1)
def laws_heldStringS.f (k:Nat)(l0:List BA)(a1:Int):Option (Int):=laws_heldStringS.l0 k l0 a1 0
theorem laws_heldStringS.mono_l:∀k,(∀y0 y1 y2,LeO (laws_heldStringS.l0 k y0 y1 y2) (laws_heldStringS.l0 (k+1) y0 y1 y2))
 |0=>by intros;intro r h;simp[laws_heldStringS.l0]at h
 |k+1=>by
  have ih0:=laws_heldStringS.mono_l k;intros;unfold laws_heldStringS.l0;repeat' first|(with_reducible first|exact ih0 _ _ _|exact laws_markText.mono _ _|exact LeO.refl _|exact LeO.none _|refine LeO.ite ?_ ?_|refine LeO.bind ?_ (fun _=>?_))|exact LeO.none _|refine LeO.ite ?_ ?_|refine LeO.bind ?_ (fun _=>?_)
theorem laws_heldStringS.calls (k:Nat)(A0:Option Addr)(c0:Nat)(l0:List BA)(a1:Int)(r:Int)(w:World)(hr0:Kd.C Kd.string w A0 l0.length l0)(hc0:l0.length≤c0)(h:laws_heldStringS.f k l0 a1=some r):
  Calls Tryz.prog 30 #[.slice A0 l0.length c0,.int .i64 a1] w fun e w'=>e=.returned (.int .i64 r)∧Below w.heap.size w w':=by
 have HR0:=A_ hr0;have HC0:=A_ hc0;clear hr0 hc0;have HB:=A_ (Below.refl w.heap.size w);unfold laws_heldStringS.f at h;have H:=h;clear h;have H':=A_ H;clear H;go_enter Tryz.func30,Tryz.ntmps30;go_wp2
 go_loopg [1,5] k (fun kq v1 v5 w'=>∃(x1_1:Int)(x5_1:Int),v1=.int .i64 x1_1∧v5=.int .i64 x5_1∧Aside0 (laws_heldStringS.l0 kq l0 x1_1 x5_1=some r)∧Aside0 (kq≤k)∧Aside0 (Below w.heap.size w w'))
 case atStart=>exact⟨(a1),(0),zz2,zz2,H',⟨lL_ _⟩,⟨(zz1 HB)⟩⟩
 case round=>
  clear H';obtain⟨x1_1,x5_1,rfl,rfl,HA,HK1,HB⟩:=hrel;cases gk with
  |zero=>exact absurd HA.out (by simp[laws_heldStringS.l0])
  |succ k1=>
   obtain⟨H⟩:=HA;simp only[laws_heldStringS.l0]at H;replace H:=iteEd H;rcases H with⟨c3b0,H⟩|⟨c3b0,H⟩
   ·replace H:=iteNd H
    obtain⟨c4b0,H⟩:=H;replace H:=bindA H;obtain⟨t426,A5,H⟩:=H;have HF6:=A_ H;clear H;try go_wp2;replace HB:=A_ (below_drew1 HB.out);obtain⟨⟨ad425,e425,hx425_0⟩,p425,q425⟩:=atB (Kd.at_string HR0.out x5_1);have hw425_0:=hx425_0;cases e425;replace hx425_0:=cbl HB hx425_0;refine start_ (n:=7) (S:=fun w'=>w'.cell? (ad425.add (x5_1).toNat)=some (.string (rdOf bE_ l0 x5_1))) (ds:=[]) #[yF,yF,yF,yF,yF,yF,yF] (by kernel_rfl) rfl rfl (((HB.out.cell (wb_ w _ hw425_0)).trans hw425_0)) (fun hHeld=>?_);generalize wr.drew=w7 at HB hx425_0 hHeld ⊢;refine pureY 0 (some 12) (yA 1 6) ?_;refine pureY 1 (some 13) (yA 2 5) ?_;refine pureY 2 (some 14) (yA 3 4) ?_;refine pureY 4 (some 16) #[yT,yT,yT,yF,yT,yF,yF] ?_;refine take_ (i:=3) (N:=some 15) (v:=?_) (a':=?_) (yA 5 2) rfl rfl (by kernel_rfl) (fun _ _ _ h=>h) (Or.inl ⟨by rfl,?_⟩) hHeld ?_ ?_;rotate_left
    ·intro w' s0
     go_simp
     with_reducible rfl
    rotate_left
    ·simp only[Act.put,lS_,l0_,lC_,i64_w,i32_w]
     rfl
    refine one_ (i:=5) (N:=some 17) (yA 6 1) rfl rfl (by kernel_rfl) (by decide) (fun K hK=>?_);refine goes_ Tryz.func26 (by kernel_rfl) rfl #[.int .i64 x1_1] (by rfl) rfl rfl zz47 ?_;with_reducible refine(laws_markText.calls k1 x1_1 t426 _ A5.out).mono ?_;rintro e w8 ⟨rfl,hb⟩;refine⟨_,rfl,?_⟩;replace HB:=A_ (bS (zz1 HB) hb);(try clear hb)
    (try clear hb2)
    (try clear hk)
    (try clear hi)
    refine hK.out _ _ (((HB.out.cell (wb_ w _ hw425_0)).trans hw425_0)) (fun hHeld=>?_);clear hK K;refine nZ 17 ?_;refine pureY 6 (some 18) (yA 7 0) ?_;refine done_ (by kernel_rfl) ?_;go_upto_if 18 with(fail)
    obtain⟨H⟩:=HF6;replace H:=iteEq H;rcases H with⟨c9b0,c9b1,H⟩|⟨c9b0,c9b1,c9,H⟩
    ·(first|rw[c9b0]|(simp only[i64_w,i32_w];rw[c9b0])|skip)
     have H':=A_ H;clear H;go_wp2
     go_roundg k1
     case measure=>have:=HK1.out;omega
     case rel=>exact⟨(wrap64 (x1_1+1)),(wrap64 (x5_1+1)),zz2,zz2,H',⟨(zz5 HK1)⟩,⟨(zz1 HB)⟩⟩
    ·(first|rw[c9b0]|(simp only[i64_w,i32_w];rw[c9b0])|skip)
     obtain rfl:=sI H;go_wp2;go_ret;exact⟨zz0,(zz1 HB)⟩
   ·obtain rfl:=sI H
    go_wp2;go_ret;exact⟨zz0,(zz1 HB)⟩
def laws_heldLookS.l0:Nat→List (S83)→Int→Int→Option (Int)
 |0,_,_,_=>none
 |k+1,x0,x1,x5=>if x5<(x0.length:Int)then(if 0≤x5 then(if((rd_T83 x0 x5).f0)=x1 then((laws_markText.f k (wrap64 (x1+1))).bind fun t435=>(if((rd_T83 x0 x5).f1).toList=t435.toList then(if((rd_T83 x0 x5).f2)=(wrap64 ((wrap64 (x1+1))+1))then(laws_heldLookS.l0 k x0 (wrap64 ((wrap64 ((wrap64 (x1+1))+1))+1)) (wrap64 (x5+1)))else(some (-1)))else(some (-1))))else(some (-1)))else(none))else(some x1)
def laws_heldLookS.f (k:Nat)(l0:List (S83))(a1:Int):Option (Int):=laws_heldLookS.l0 k l0 a1 0
def laws_heldLookS.T7:Bool×List (List Nat×List Nat):=(true,[([],[]),([],[]),([0,1],[0,1]),([2],[2]),([3],[3]),([],[]),([5],[5]),([4,6],[4,6])])
def laws_heldLookS.B7:List Nat:=[0,0,3,7,15,0,32,127]
theorem laws_heldLookS.tab7:rtab .any (opsOf Tryz.f31 7)=laws_heldLookS.T7:=by kernel_rfl
theorem laws_heldLookS.bits7:waitsOk laws_heldLookS.T7.2 laws_heldLookS.B7=true:=by kernel_rfl
theorem laws_heldLookS.calls (k:Nat)(A0:Option Addr)(c0:Nat)(l0:List (S83))(a1:Int)(r:Int)(w:World)(hr0:Kd.C k83 w A0 l0.length l0)(hc0:l0.length≤c0)(h:laws_heldLookS.f k l0 a1=some r):
  Calls Tryz.prog 31 #[.slice A0 l0.length c0,.int .i64 a1] w fun e w'=>e=.returned (.int .i64 r)∧Below w.heap.size w w':=by
 have HR0:=A_ hr0;have HC0:=A_ hc0;clear hr0 hc0;have HB:=A_ (Below.refl w.heap.size w);unfold laws_heldLookS.f at h;have H:=h;clear h;have H':=A_ H;clear H;go_enter Tryz.func31,Tryz.ntmps31;go_wp2
 go_loopg [1,5] k (fun kq v1 v5 w'=>∃(x1_1:Int)(x5_1:Int),v1=.int .i64 x1_1∧v5=.int .i64 x5_1∧Aside0 (laws_heldLookS.l0 kq l0 x1_1 x5_1=some r)∧Aside0 (kq≤k)∧Aside0 (Below w.heap.size w w'))
 case atStart=>exact⟨(a1),(0),zz2,zz2,H',⟨lL_ _⟩,⟨(zz1 HB)⟩⟩
 case round=>
  clear H';obtain⟨x1_1,x5_1,rfl,rfl,HA,HK1,HB⟩:=hrel;cases gk with
  |zero=>exact absurd HA.out (by simp[laws_heldLookS.l0])
  |succ k1=>
   obtain⟨H⟩:=HA;simp only[laws_heldLookS.l0]at H;replace H:=iteEd H;rcases H with⟨c3b0,H⟩|⟨c3b0,H⟩
   ·replace H:=iteNd H
    obtain⟨c4b0,H⟩:=H;replace H:=iteEq H;rcases H with⟨c5b0,c5b1,H⟩|⟨c5b0,c5b1,c5,H⟩
    ·replace H:=bindA H
     obtain⟨t435,A6,H⟩:=H;have HF7:=A_ H;clear H;obtain⟨⟨ad433,e433,hx433_0,hx433_1,hx433_2⟩,p433,q433⟩:=atB (at_T83 HR0.out x5_1);cases e433;obtain⟨hx433_0,hx433_1,hx433_2⟩:=cb3 HB hx433_0 hx433_1 hx433_2;try go_wp2;replace HB:=A_ (below_drew1 HB.out);obtain⟨⟨ad434,e434,hx434_0,hx434_1,hx434_2⟩,p434,q434⟩:=atB (at_T83 HR0.out x5_1);have hw434_2:=hx434_2;have hw434_1:=hx434_1;have hw434_0:=hx434_0;obtain rfl:ad433=ad434:=(by injection e434);obtain⟨hx434_0,hx434_1,hx434_2⟩:=cb3 HB hx434_0 hx434_1 hx434_2;refine start_ (n:=8) (S:=fun w'=>w'.cell? (ad433.add ((x5_1).toNat*3))=some (.int .i64 ((rd_T83 l0 x5_1).f0))∧w'.cell? ⟨(ad433.add ((x5_1).toNat*3)).block,(ad433.add ((x5_1).toNat*3)).off+1,none⟩=some (.string ((rd_T83 l0 x5_1).f1))∧w'.cell? ⟨(ad433.add ((x5_1).toNat*3)).block,(ad433.add ((x5_1).toNat*3)).off+2,none⟩=some (.int .i64 ((rd_T83 l0 x5_1).f2))) (ds:=[]) #[yF,yF,yF,yF,yF,yF,yF,yF] (by kernel_rfl) rfl rfl ⟨((HB.out.cell (wb_ w _ hw434_0)).trans hw434_0),((HB.out.cell (wb_ w _ hw434_1)).trans hw434_1),((HB.out.cell (wb_ w _ hw434_2)).trans hw434_2)⟩ (fun hHeld=>?_);refine with_tabW laws_heldLookS.tab7 laws_heldLookS.bits7 (fun HT_ HW_=>?_);generalize wr.drew=w8 at HB hx434_0 hx434_1 hx434_2 hHeld ⊢;refine pureZ 0 (some 21) (yA 1 7) ?_;refine pureZ 1 (some 22) (yA 2 6) ?_;refine pureZ 2 (some 23) (yA 3 5) ?_;refine pureZ 3 (some 24) (yA 4 4) ?_;refine pureZ 5 (some 26) #[yT,yT,yT,yT,yF,yT,yF,yF] ?_;refine takeZ3 4 (some 25) (yA 6 2) hHeld ?_;refine oneZ 6 (some 27) (yA 7 1) (fun K hK=>?_);refine goes_ Tryz.func26 (by kernel_rfl) rfl #[.int .i64 (wrap64 (x1_1+1))] (by rfl) rfl rfl zz47 ?_;with_reducible refine(laws_markText.calls k1 (wrap64 (x1_1+1)) t435 _ A6.out).mono ?_;rintro e w9 ⟨rfl,hb⟩;refine⟨_,rfl,?_⟩;replace HB:=A_ (bS (zz1 HB) hb);(try clear hb)
     (try clear hb2)
     (try clear hk)
     (try clear hi)
     refine hK.out _ _ ⟨((HB.out.cell (wb_ w _ hw434_0)).trans hw434_0),((HB.out.cell (wb_ w _ hw434_1)).trans hw434_1),((HB.out.cell (wb_ w _ hw434_2)).trans hw434_2)⟩ (fun hHeld=>?_);clear hK K;refine nZ 27 ?_;refine pureZ 7 (some 28) (yA 8 0) ?_;refine done_ (done_of HT_.out (by kernel_rfl)) ?_;go_upto_if 28 with(fail)
     obtain⟨H⟩:=HF7;replace H:=iteEq H;rcases H with⟨c10b0,c10b1,H⟩|⟨c10b0,c10b1,c10,H⟩
     ·(first|rw[c10b0]|(simp only[i64_w,i32_w];rw[c10b0])|skip)
      replace H:=iteEq H;rcases H with⟨c11b0,c11b1,H⟩|⟨c11b0,c11b1,c11,H⟩
      ·have H':=A_ H
       clear H;obtain⟨⟨ad436,e436,hx436_0,hx436_1,hx436_2⟩,p436,q436⟩:=atB (at_T83 HR0.out x5_1);obtain rfl:ad433=ad436:=(by injection e436);obtain⟨hx436_0,hx436_1,hx436_2⟩:=cb3 HB hx436_0 hx436_1 hx436_2;go_wp2
       go_roundg k1
       case measure=>have:=HK1.out;omega
       case rel=>exact⟨(wrap64 ((wrap64 ((wrap64 (x1_1+1))+1))+1)),(wrap64 (x5_1+1)),zz2,zz2,H',⟨(zz5 HK1)⟩,⟨(zz1 HB)⟩⟩
      ·obtain rfl:=sI H
       obtain⟨⟨ad436,e436,hx436_0,hx436_1,hx436_2⟩,p436,q436⟩:=atB (at_T83 HR0.out x5_1);obtain rfl:ad433=ad436:=(by injection e436);obtain⟨hx436_0,hx436_1,hx436_2⟩:=cb3 HB hx436_0 hx436_1 hx436_2;go_wp2;go_ret;exact⟨zz0,(zz1 HB)⟩
     ·(first|rw[c10b0]|(simp only[i64_w,i32_w];rw[c10b0])|skip)
      obtain rfl:=sI H;go_wp2;go_ret;exact⟨zz0,(zz1 HB)⟩
    ·obtain rfl:=sI H
     obtain⟨⟨ad433,e433,hx433_0,hx433_1,hx433_2⟩,p433,q433⟩:=atB (at_T83 HR0.out x5_1);cases e433;obtain⟨hx433_0,hx433_1,hx433_2⟩:=cb3 HB hx433_0 hx433_1 hx433_2;go_wp2;go_ret;exact⟨zz0,(zz1 HB)⟩
   ·obtain rfl:=sI H
    go_wp2;go_ret;exact⟨zz0,(zz1 HB)⟩
def laws_heldRuleS.l0:Nat→List (S98)→Int→Int→Option (Int)
 |0,_,_,_=>none
 |k+1,x0,x1,x5=>if x5<(x0.length:Int)then(if 0≤x5 then(if(((rd_T98 x0 x5).f0) != ((Int.tmod x1 3)==0))=true then(some (-1))else((laws_markText.f k (wrap64 (x1+1))).bind fun t429=>(if((rd_T98 x0 x5).f1).toList=t429.toList then(laws_heldRuleS.l0 k x0 (wrap64 ((wrap64 (x1+1))+1)) (wrap64 (x5+1)))else(some (-1)))))else(none))else(some x1)
def laws_heldRuleS.f (k:Nat)(l0:List (S98))(a1:Int):Option (Int):=laws_heldRuleS.l0 k l0 a1 0
def laws_heldRuleS.T7:Bool×List (List Nat×List Nat):=(true,[([],[]),([],[]),([0,1],[0,1]),([2],[2]),([3],[3]),([],[]),([5],[5]),([4,6],[4,6])])
def laws_heldRuleS.B7:List Nat:=[0,0,3,7,15,0,32,127]
theorem laws_heldRuleS.tab7:rtab .any (opsOf Tryz.f61 7)=laws_heldRuleS.T7:=by kernel_rfl
theorem laws_heldRuleS.bits7:waitsOk laws_heldRuleS.T7.2 laws_heldRuleS.B7=true:=by kernel_rfl
theorem laws_heldRuleS.calls (k:Nat)(A0:Option Addr)(c0:Nat)(l0:List (S98))(a1:Int)(r:Int)(w:World)(hr0:Kd.C k98 w A0 l0.length l0)(hc0:l0.length≤c0)(h:laws_heldRuleS.f k l0 a1=some r):
  Calls Tryz.prog 61 #[.slice A0 l0.length c0,.int .i64 a1] w fun e w'=>e=.returned (.int .i64 r)∧Below w.heap.size w w':=by
 have HR0:=A_ hr0;have HC0:=A_ hc0;clear hr0 hc0;have HB:=A_ (Below.refl w.heap.size w);unfold laws_heldRuleS.f at h;have H:=h;clear h;have H':=A_ H;clear H;go_enter Tryz.func61,Tryz.ntmps61;go_wp2
 go_loopg [1,5] k (fun kq v1 v5 w'=>∃(x1_1:Int)(x5_1:Int),v1=.int .i64 x1_1∧v5=.int .i64 x5_1∧Aside0 (laws_heldRuleS.l0 kq l0 x1_1 x5_1=some r)∧Aside0 (kq≤k)∧Aside0 (Below w.heap.size w w'))
 case atStart=>exact⟨(a1),(0),zz2,zz2,H',⟨lL_ _⟩,⟨(zz1 HB)⟩⟩
 case round=>
  clear H';obtain⟨x1_1,x5_1,rfl,rfl,HA,HK1,HB⟩:=hrel;cases gk with
  |zero=>exact absurd HA.out (by simp[laws_heldRuleS.l0])
  |succ k1=>
   obtain⟨H⟩:=HA;simp only[laws_heldRuleS.l0]at H;replace H:=iteEd H;rcases H with⟨c3b0,H⟩|⟨c3b0,H⟩
   ·replace H:=iteNd H
    obtain⟨c4b0,H⟩:=H;replace H:=iteE H;rcases H with⟨c5,H⟩|⟨c5,H⟩
    ·have c5b0:(((rd_T98 l0 x5_1).f0) != ((Int.tmod x1_1 3)==0))=true:=c5
     (try(have c5b1:decide (((rd_T98 l0 x5_1).f0)=((Int.tmod x1_1 3)==0))=false:=by simpa using c5))
     (try(have c5b2:(((rd_T98 l0 x5_1).f0)==((Int.tmod x1_1 3)==0))=false:=by simpa using c5))
     (try(have c5b3:¬(((rd_T98 l0 x5_1).f0)=((Int.tmod x1_1 3)==0)):=by simpa using c5))
     clear c5;obtain rfl:=sI H;obtain⟨⟨ad427,e427,hx427_0,hx427_1⟩,p427,q427⟩:=atB (at_T98 HR0.out x5_1);cases e427;obtain⟨hx427_0,hx427_1⟩:=cb2 HB hx427_0 hx427_1;go_wp2;go_ret;exact⟨zz0,(zz1 HB)⟩
    ·have c5b0:(((rd_T98 l0 x5_1).f0) != ((Int.tmod x1_1 3)==0))=false:=by simpa using c5
     (try(have c5b1:decide (((rd_T98 l0 x5_1).f0)=((Int.tmod x1_1 3)==0))=true:=by simpa using c5))
     (try(have c5b2:(((rd_T98 l0 x5_1).f0)==((Int.tmod x1_1 3)==0))=true:=by simpa using c5))
     clear c5;replace H:=bindA H;obtain⟨t429,A6,H⟩:=H;have HF7:=A_ H;clear H;obtain⟨⟨ad427,e427,hx427_0,hx427_1⟩,p427,q427⟩:=atB (at_T98 HR0.out x5_1);cases e427;obtain⟨hx427_0,hx427_1⟩:=cb2 HB hx427_0 hx427_1;try go_wp2;replace HB:=A_ (below_drew1 HB.out);obtain⟨⟨ad428,e428,hx428_0,hx428_1⟩,p428,q428⟩:=atB (at_T98 HR0.out x5_1);have hw428_1:=hx428_1;have hw428_0:=hx428_0;obtain rfl:ad427=ad428:=(by injection e428);obtain⟨hx428_0,hx428_1⟩:=cb2 HB hx428_0 hx428_1;refine start_ (n:=8) (S:=fun w'=>w'.cell? (ad427.add ((x5_1).toNat*2))=some (.bool ((rd_T98 l0 x5_1).f0))∧w'.cell? ⟨(ad427.add ((x5_1).toNat*2)).block,(ad427.add ((x5_1).toNat*2)).off+1,none⟩=some (.string ((rd_T98 l0 x5_1).f1))) (ds:=[]) #[yF,yF,yF,yF,yF,yF,yF,yF] (by kernel_rfl) rfl rfl ⟨((HB.out.cell (wb_ w _ hw428_0)).trans hw428_0),((HB.out.cell (wb_ w _ hw428_1)).trans hw428_1)⟩ (fun hHeld=>?_);refine with_tabW laws_heldRuleS.tab7 laws_heldRuleS.bits7 (fun HT_ HW_=>?_);generalize wr.drew=w8 at HB hx428_0 hx428_1 hHeld ⊢;refine pureZ 0 (some 23) (yA 1 7) ?_;refine pureZ 1 (some 24) (yA 2 6) ?_;refine pureZ 2 (some 25) (yA 3 5) ?_;refine pureZ 3 (some 26) (yA 4 4) ?_;refine pureZ 5 (some 28) #[yT,yT,yT,yT,yF,yT,yF,yF] ?_;refine takeZ2 4 (some 27) (yA 6 2) hHeld ?_;refine oneZ 6 (some 29) (yA 7 1) (fun K hK=>?_);refine goes_ Tryz.func26 (by kernel_rfl) rfl #[.int .i64 (wrap64 (x1_1+1))] (by rfl) rfl rfl zz47 ?_;with_reducible refine(laws_markText.calls k1 (wrap64 (x1_1+1)) t429 _ A6.out).mono ?_;rintro e w9 ⟨rfl,hb⟩;refine⟨_,rfl,?_⟩;replace HB:=A_ (bS (zz1 HB) hb);(try clear hb)
     (try clear hb2)
     (try clear hk)
     (try clear hi)
     refine hK.out _ _ ⟨((HB.out.cell (wb_ w _ hw428_0)).trans hw428_0),((HB.out.cell (wb_ w _ hw428_1)).trans hw428_1)⟩ (fun hHeld=>?_);clear hK K;refine nZ 29 ?_;refine pureZ 7 (some 30) (yA 8 0) ?_;refine done_ (done_of HT_.out (by kernel_rfl)) ?_;go_upto_if 30 with(fail)
     obtain⟨H⟩:=HF7;replace H:=iteEq H;rcases H with⟨c10b0,c10b1,H⟩|⟨c10b0,c10b1,c10,H⟩
     ·(first|rw[c10b0]|(simp only[i64_w,i32_w];rw[c10b0])|skip)
      have H':=A_ H;clear H;go_wp2
      go_roundg k1
      case measure=>have:=HK1.out;omega
      case rel=>exact⟨(wrap64 ((wrap64 (x1_1+1))+1)),(wrap64 (x5_1+1)),zz2,zz2,H',⟨(zz5 HK1)⟩,⟨(zz1 HB)⟩⟩
     ·(first|rw[c10b0]|(simp only[i64_w,i32_w];rw[c10b0])|skip)
      obtain rfl:=sI H;go_wp2;go_ret;exact⟨zz0,(zz1 HB)⟩
   ·obtain rfl:=sI H
    go_wp2;go_ret;exact⟨zz0,(zz1 HB)⟩
def laws_heldItemS.l0:Nat→List (S76)→Int→Int→Option (Int)
 |0,_,_,_=>none
 |k+1,x0,x1,x5=>if x5<(x0.length:Int)then(if 0≤x5 then((laws_markText.f k x1).bind fun t431=>(if((rd_T76 x0 x5).f0).toList=t431.toList then(if((rd_T76 x0 x5).f1)=(wrap64 (x1+1))then(laws_heldItemS.l0 k x0 (wrap64 ((wrap64 (x1+1))+1)) (wrap64 (x5+1)))else(some (-1)))else(some (-1))))else(none))else(some x1)
def laws_heldItemS.f (k:Nat)(l0:List (S76))(a1:Int):Option (Int):=laws_heldItemS.l0 k l0 a1 0
def laws_heldItemS.T4:Bool×List (List Nat×List Nat):=(true,[([],[]),([],[]),([0,1],[0,1]),([2],[2]),([3],[3]),([],[]),([5],[5]),([4,6],[4,6])])
def laws_heldItemS.B4:List Nat:=[0,0,3,7,15,0,32,127]
theorem laws_heldItemS.tab4:rtab .any (opsOf Tryz.f62 4)=laws_heldItemS.T4:=by kernel_rfl
theorem laws_heldItemS.bits4:waitsOk laws_heldItemS.T4.2 laws_heldItemS.B4=true:=by kernel_rfl
theorem laws_heldItemS.calls (k:Nat)(A0:Option Addr)(c0:Nat)(l0:List (S76))(a1:Int)(r:Int)(w:World)(hr0:Kd.C k76 w A0 l0.length l0)(hc0:l0.length≤c0)(h:laws_heldItemS.f k l0 a1=some r):
  Calls Tryz.prog 62 #[.slice A0 l0.length c0,.int .i64 a1] w fun e w'=>e=.returned (.int .i64 r)∧Below w.heap.size w w':=by
 have HR0:=A_ hr0;have HC0:=A_ hc0;clear hr0 hc0;have HB:=A_ (Below.refl w.heap.size w);unfold laws_heldItemS.f at h;have H:=h;clear h;have H':=A_ H;clear H;go_enter Tryz.func62,Tryz.ntmps62;go_wp2
 go_loopg [1,5] k (fun kq v1 v5 w'=>∃(x1_1:Int)(x5_1:Int),v1=.int .i64 x1_1∧v5=.int .i64 x5_1∧Aside0 (laws_heldItemS.l0 kq l0 x1_1 x5_1=some r)∧Aside0 (kq≤k)∧Aside0 (Below w.heap.size w w'))
 case atStart=>exact⟨(a1),(0),zz2,zz2,H',⟨lL_ _⟩,⟨(zz1 HB)⟩⟩
 case round=>
  clear H';obtain⟨x1_1,x5_1,rfl,rfl,HA,HK1,HB⟩:=hrel;cases gk with
  |zero=>exact absurd HA.out (by simp[laws_heldItemS.l0])
  |succ k1=>
   obtain⟨H⟩:=HA;simp only[laws_heldItemS.l0]at H;replace H:=iteEd H;rcases H with⟨c3b0,H⟩|⟨c3b0,H⟩
   ·replace H:=iteNd H
    obtain⟨c4b0,H⟩:=H;replace H:=bindA H;obtain⟨t431,A5,H⟩:=H;have HF6:=A_ H;clear H;try go_wp2;replace HB:=A_ (below_drew1 HB.out);obtain⟨⟨ad430,e430,hx430_0,hx430_1⟩,p430,q430⟩:=atB (at_T76 HR0.out x5_1);have hw430_1:=hx430_1;have hw430_0:=hx430_0;cases e430;obtain⟨hx430_0,hx430_1⟩:=cb2 HB hx430_0 hx430_1;refine start_ (n:=8) (S:=fun w'=>w'.cell? (ad430.add ((x5_1).toNat*2))=some (.string ((rd_T76 l0 x5_1).f0))∧w'.cell? ⟨(ad430.add ((x5_1).toNat*2)).block,(ad430.add ((x5_1).toNat*2)).off+1,none⟩=some (.int .i64 ((rd_T76 l0 x5_1).f1))) (ds:=[]) #[yF,yF,yF,yF,yF,yF,yF,yF] (by kernel_rfl) rfl rfl ⟨((HB.out.cell (wb_ w _ hw430_0)).trans hw430_0),((HB.out.cell (wb_ w _ hw430_1)).trans hw430_1)⟩ (fun hHeld=>?_);refine with_tabW laws_heldItemS.tab4 laws_heldItemS.bits4 (fun HT_ HW_=>?_);generalize wr.drew=w7 at HB hx430_0 hx430_1 hHeld ⊢;refine pureZ 0 (some 12) (yA 1 7) ?_;refine pureZ 1 (some 13) (yA 2 6) ?_;refine pureZ 2 (some 14) (yA 3 5) ?_;refine pureZ 3 (some 15) (yA 4 4) ?_;refine pureZ 5 (some 17) #[yT,yT,yT,yT,yF,yT,yF,yF] ?_;refine takeZ2 4 (some 16) (yA 6 2) hHeld ?_;refine oneZ 6 (some 18) (yA 7 1) (fun K hK=>?_);refine goes_ Tryz.func26 (by kernel_rfl) rfl #[.int .i64 x1_1] (by rfl) rfl rfl zz47 ?_;with_reducible refine(laws_markText.calls k1 x1_1 t431 _ A5.out).mono ?_;rintro e w8 ⟨rfl,hb⟩;refine⟨_,rfl,?_⟩;replace HB:=A_ (bS (zz1 HB) hb);(try clear hb)
    (try clear hb2)
    (try clear hk)
    (try clear hi)
    refine hK.out _ _ ⟨((HB.out.cell (wb_ w _ hw430_0)).trans hw430_0),((HB.out.cell (wb_ w _ hw430_1)).trans hw430_1)⟩ (fun hHeld=>?_);clear hK K;refine nZ 18 ?_;refine pureZ 7 (some 19) (yA 8 0) ?_;refine done_ (done_of HT_.out (by kernel_rfl)) ?_;go_upto_if 19 with(fail)
    obtain⟨H⟩:=HF6;replace H:=iteEq H;rcases H with⟨c9b0,c9b1,H⟩|⟨c9b0,c9b1,c9,H⟩
    ·(first|rw[c9b0]|(simp only[i64_w,i32_w];rw[c9b0])|skip)
     replace H:=iteEq H;rcases H with⟨c10b0,c10b1,H⟩|⟨c10b0,c10b1,c10,H⟩
     ·have H':=A_ H
      clear H;obtain⟨⟨ad432,e432,hx432_0,hx432_1⟩,p432,q432⟩:=atB (at_T76 HR0.out x5_1);obtain rfl:ad430=ad432:=(by injection e432);obtain⟨hx432_0,hx432_1⟩:=cb2 HB hx432_0 hx432_1;go_wp2
      go_roundg k1
      case measure=>have:=HK1.out;omega
      case rel=>exact⟨(wrap64 ((wrap64 (x1_1+1))+1)),(wrap64 (x5_1+1)),zz2,zz2,H',⟨(zz5 HK1)⟩,⟨(zz1 HB)⟩⟩
     ·obtain rfl:=sI H
      obtain⟨⟨ad432,e432,hx432_0,hx432_1⟩,p432,q432⟩:=atB (at_T76 HR0.out x5_1);obtain rfl:ad430=ad432:=(by injection e432);obtain⟨hx432_0,hx432_1⟩:=cb2 HB hx432_0 hx432_1;go_wp2;go_ret;exact⟨zz0,(zz1 HB)⟩
    ·(first|rw[c9b0]|(simp only[i64_w,i32_w];rw[c9b0])|skip)
     obtain rfl:=sI H;go_wp2;go_ret;exact⟨zz0,(zz1 HB)⟩
   ·obtain rfl:=sI H
    go_wp2;go_ret;exact⟨zz0,(zz1 HB)⟩
def stringslite_HasPrefix.f (a0:BA)(a1:BA):Option (Bool):=if(a0.size:Int)≥(a1.size:Int)then(if 0≤(a1.size:Int)then(if(a1.size:Int)≤(a0.size:Int)then(some ((a0.extract 0 ((a1.size:Int):Int).toNat).toList==a1.toList))else(none))else(none))else(some false)
theorem stringslite_HasPrefix.calls (a0:BA)(a1:BA)(r:Bool)(w:World)(h:stringslite_HasPrefix.f a0 a1=some r):
  Calls Tryz.prog 136 #[.string a0,.string a1] w fun e w'=>e=.returned (.bool r)∧Drawn0 w w':=by
 unfold stringslite_HasPrefix.f at h;have H:=h;clear h;replace H:=iteE H;rcases H with⟨c3,H⟩|⟨c3,H⟩
 ·have c3b0:=geT c3
  have c3b1:decide (a1.size≤a0.size)=true:=dT (Int.ofNat_le.mp c3);clear c3;replace H:=iteN H;obtain⟨c4,H⟩:=H;have c4b0:=eq_true c4;have c4b1:=dT c4;clear c4;replace H:=iteN H;obtain⟨c5,H⟩:=H;have c5b0:=eq_true c5;have c5b1:=dT c5;clear c5;obtain rfl:=sI H;go_enter Tryz.func136,Tryz.ntmps136;go_wp2;go_ret;exact⟨zz2,zz22⟩
 ·have c3b0:=geF c3
  have c3b1:decide (a1.size≤a0.size)=false:=dF (fun h=>c3 (Int.ofNat_le.mpr h));clear c3;obtain rfl:=sI H;go_enter Tryz.func136,Tryz.ntmps136;go_wp2;go_ret;exact⟨zz2,zz22⟩
def stringslite_CutPrefix.f (a0:BA)(a1:BA):Option (BA×Bool):=(stringslite_HasPrefix.f a0 a1).bind fun t238=>(if t238=true then(if 0≤(a1.size:Int)then(if(a1.size:Int)≤(a0.size:Int)then(some (a0.extract ((a1.size:Int):Int).toNat a0.size,true))else(none))else(none))else(some (a0,false)))
theorem stringslite_CutPrefix.calls (a0:BA)(a1:BA)(r1:BA)(r2:Bool)(w:World)(h:stringslite_CutPrefix.f a0 a1=some (r1,r2)):
  Calls Tryz.prog 120 #[.string a0,.string a1] w fun e w'=>e=.returned (.tuple #[.string r1,.bool r2])∧Drawn0 w w':=by
 unfold stringslite_CutPrefix.f at h;have H:=h;clear h;replace H:=bindA H;obtain⟨t238,A3,H⟩:=H;have HF4:=A_ H;clear H;go_enter Tryz.func120,Tryz.ntmps120;go_upto_if 9 with(first|(refine gR 136 (some 8) Tryz.func136 (stringslite_HasPrefix.calls a0 a1 t238 _ A3.out) ?_;rintro w' ⟨nd,rfl⟩))
 obtain⟨H⟩:=HF4;replace H:=iteB H;rcases H with⟨rfl,H⟩|⟨rfl,H⟩
 ·replace H:=iteN H
  obtain⟨c6,H⟩:=H;have c6b0:=eq_true c6;have c6b1:=dT c6;clear c6;replace H:=iteN H;obtain⟨c7,H⟩:=H;have c7b0:=eq_true c7;have c7b1:=dT c7;clear c7;simp only[oI_,pI_]at H;obtain⟨rfl,rfl⟩:=H;go_wp2
  go_ret2
  exact⟨zz2,zz22⟩
 ·simp only[oI_,pI_]at H
  obtain⟨rfl,rfl⟩:=H;go_wp2
  go_ret2
  exact⟨zz2,zz22⟩
def strings_CutPrefix.f (a0:BA)(a1:BA):Option (BA×Bool):=(stringslite_CutPrefix.f a0 a1).bind fun bt239=>(some (bt239.1,bt239.2))
theorem strings_CutPrefix.calls (a0:BA)(a1:BA)(r1:BA)(r2:Bool)(w:World)(h:strings_CutPrefix.f a0 a1=some (r1,r2)):
  Calls Tryz.prog 103 #[.string a0,.string a1] w fun e w'=>e=.returned (.tuple #[.string r1,.bool r2])∧Drawn0 w w':=by
 unfold strings_CutPrefix.f at h;have H:=h;clear h;replace H:=bindA H;obtain⟨⟨t239,t240⟩,A3,H⟩:=H;try dsimp only at H;simp only[oI_,pI_]at H;obtain⟨rfl,rfl⟩:=H;go_enter Tryz.func103,Tryz.ntmps103;go_wp2_with (first|(refine gR 120 (some 8) Tryz.func120 (stringslite_CutPrefix.calls a0 a1 t239 t240 _ A3.out) ?_;rintro w' ⟨nd,rfl⟩))
 go_ret2
 exact⟨zz2,zz22⟩
def impl_standsForItself.f (a0:Int):Option (Bool):=if a0≥97 then(if a0≤122 then(some true)else(if a0≥48 then(if a0≤57 then(some true)else(if a0=46 then(some true)else(some (a0==45))))else(if a0=46 then(some true)else(some (a0==45)))))else(if a0≥48 then(if a0≤57 then(some true)else(if a0=46 then(some true)else(some (a0==45))))else(if a0=46 then(some true)else(some (a0==45))))
theorem impl_standsForItself.calls (a0:Int)(r:Bool)(w:World)(h:impl_standsForItself.f a0=some r):
  Calls Tryz.prog 115 #[.int .u8 a0] w fun e w'=>e=.returned (.bool r)∧Drawn0 w w':=by
 unfold impl_standsForItself.f at h;have H:=h;clear h;replace H:=iteEe H;rcases H with⟨c2b0,H⟩|⟨c2b0,H⟩
 ·replace H:=iteEd H
  rcases H with⟨c3b0,H⟩|⟨c3b0,H⟩
  ·obtain rfl:=sI H
   go_enter Tryz.func115,Tryz.ntmps115;go_wp2
   go_ret;exact⟨zz2,zz22⟩
  ·replace H:=iteEe H
   rcases H with⟨c4b0,H⟩|⟨c4b0,H⟩
   ·replace H:=iteEd H
    rcases H with⟨c5b0,H⟩|⟨c5b0,H⟩
    ·obtain rfl:=sI H
     go_enter Tryz.func115,Tryz.ntmps115;go_wp2
     go_ret;exact⟨zz2,zz22⟩
    ·replace H:=iteEq H
     rcases H with⟨c6b0,c6b1,H⟩|⟨c6b0,c6b1,c6,H⟩
     ·obtain rfl:=sI H
      go_enter Tryz.func115,Tryz.ntmps115;go_wp2
      go_ret;exact⟨zz2,zz22⟩
     ·obtain rfl:=sI H
      go_enter Tryz.func115,Tryz.ntmps115;go_wp2
      go_ret;exact⟨zz2,zz22⟩
   ·replace H:=iteEq H
    rcases H with⟨c7b0,c7b1,H⟩|⟨c7b0,c7b1,c7,H⟩
    ·obtain rfl:=sI H
     go_enter Tryz.func115,Tryz.ntmps115;go_wp2
     go_ret;exact⟨zz2,zz22⟩
    ·obtain rfl:=sI H
     go_enter Tryz.func115,Tryz.ntmps115;go_wp2
     go_ret;exact⟨zz2,zz22⟩
 ·replace H:=iteEe H
  rcases H with⟨c8b0,H⟩|⟨c8b0,H⟩
  ·replace H:=iteEd H
   rcases H with⟨c9b0,H⟩|⟨c9b0,H⟩
   ·obtain rfl:=sI H
    go_enter Tryz.func115,Tryz.ntmps115;go_wp2
    go_ret;exact⟨zz2,zz22⟩
   ·replace H:=iteEq H
    rcases H with⟨c10b0,c10b1,H⟩|⟨c10b0,c10b1,c10,H⟩
    ·obtain rfl:=sI H
     go_enter Tryz.func115,Tryz.ntmps115;go_wp2
     go_ret;exact⟨zz2,zz22⟩
    ·obtain rfl:=sI H
     go_enter Tryz.func115,Tryz.ntmps115;go_wp2
     go_ret;exact⟨zz2,zz22⟩
  ·replace H:=iteEq H
   rcases H with⟨c11b0,c11b1,H⟩|⟨c11b0,c11b1,c11,H⟩
   ·obtain rfl:=sI H
    go_enter Tryz.func115,Tryz.ntmps115;go_wp2
    go_ret;exact⟨zz2,zz22⟩
   ·obtain rfl:=sI H
    go_enter Tryz.func115,Tryz.ntmps115;go_wp2
    go_ret;exact⟨zz2,zz22⟩
def spec_l1Plain.f (a0:Int):Option (Bool):=if a0≥97 then(if a0≤122 then(some true)else(if a0≥48 then(if a0≤57 then(some true)else(if a0=46 then(some true)else(some (a0==45))))else(if a0=46 then(some true)else(some (a0==45)))))else(if a0≥48 then(if a0≤57 then(some true)else(if a0=46 then(some true)else(some (a0==45))))else(if a0=46 then(some true)else(some (a0==45))))
theorem spec_l1Plain.calls (a0:Int)(r:Bool)(w:World)(h:spec_l1Plain.f a0=some r):
  Calls Tryz.prog 117 #[.int .u8 a0] w fun e w'=>e=.returned (.bool r)∧Drawn0 w w':=by
 unfold spec_l1Plain.f at h;have H:=h;clear h;replace H:=iteEe H;rcases H with⟨c2b0,H⟩|⟨c2b0,H⟩
 ·replace H:=iteEd H
  rcases H with⟨c3b0,H⟩|⟨c3b0,H⟩
  ·obtain rfl:=sI H
   go_enter Tryz.func117,Tryz.ntmps117;go_wp2
   go_ret;exact⟨zz2,zz22⟩
  ·replace H:=iteEe H
   rcases H with⟨c4b0,H⟩|⟨c4b0,H⟩
   ·replace H:=iteEd H
    rcases H with⟨c5b0,H⟩|⟨c5b0,H⟩
    ·obtain rfl:=sI H
     go_enter Tryz.func117,Tryz.ntmps117;go_wp2
     go_ret;exact⟨zz2,zz22⟩
    ·replace H:=iteEq H
     rcases H with⟨c6b0,c6b1,H⟩|⟨c6b0,c6b1,c6,H⟩
     ·obtain rfl:=sI H
      go_enter Tryz.func117,Tryz.ntmps117;go_wp2
      go_ret;exact⟨zz2,zz22⟩
     ·obtain rfl:=sI H
      go_enter Tryz.func117,Tryz.ntmps117;go_wp2
      go_ret;exact⟨zz2,zz22⟩
   ·replace H:=iteEq H
    rcases H with⟨c7b0,c7b1,H⟩|⟨c7b0,c7b1,c7,H⟩
    ·obtain rfl:=sI H
     go_enter Tryz.func117,Tryz.ntmps117;go_wp2
     go_ret;exact⟨zz2,zz22⟩
    ·obtain rfl:=sI H
     go_enter Tryz.func117,Tryz.ntmps117;go_wp2
     go_ret;exact⟨zz2,zz22⟩
 ·replace H:=iteEe H
  rcases H with⟨c8b0,H⟩|⟨c8b0,H⟩
  ·replace H:=iteEd H
   rcases H with⟨c9b0,H⟩|⟨c9b0,H⟩
   ·obtain rfl:=sI H
    go_enter Tryz.func117,Tryz.ntmps117;go_wp2
    go_ret;exact⟨zz2,zz22⟩
   ·replace H:=iteEq H
    rcases H with⟨c10b0,c10b1,H⟩|⟨c10b0,c10b1,c10,H⟩
    ·obtain rfl:=sI H
     go_enter Tryz.func117,Tryz.ntmps117;go_wp2
     go_ret;exact⟨zz2,zz22⟩
    ·obtain rfl:=sI H
     go_enter Tryz.func117,Tryz.ntmps117;go_wp2
     go_ret;exact⟨zz2,zz22⟩
  ·replace H:=iteEq H
   rcases H with⟨c11b0,c11b1,H⟩|⟨c11b0,c11b1,c11,H⟩
   ·obtain rfl:=sI H
    go_enter Tryz.func117,Tryz.ntmps117;go_wp2
    go_ret;exact⟨zz2,zz22⟩
   ·obtain rfl:=sI H
    go_enter Tryz.func117,Tryz.ntmps117;go_wp2
    go_ret;exact⟨zz2,zz22⟩
def spec_l1Sign.f (a0:Int):Option (BA):=if 0≤(wrap64 (Int.tdiv a0 16))then(if(wrap64 (Int.tdiv a0 16))≤(wrap64 ((wrap64 (Int.tdiv a0 16))+1))then(if(wrap64 ((wrap64 (Int.tdiv a0 16))+1))≤16 then(if 1+((⟨#[48,49,50,51,52,53,54,55,56,57,65,66,67,68,69,70]⟩:BA).extract ((wrap64 (Int.tdiv a0 16)):Int).toNat ((wrap64 ((wrap64 (Int.tdiv a0 16))+1)):Int).toNat).size≤9223372036854775807 then(if 0≤(Int.tmod a0 16)then(if(Int.tmod a0 16)≤(wrap64 ((Int.tmod a0 16)+1))then(if(wrap64 ((Int.tmod a0 16)+1))≤16 then(if 1+(((⟨#[48,49,50,51,52,53,54,55,56,57,65,66,67,68,69,70]⟩:BA).extract ((wrap64 (Int.tdiv a0 16)):Int).toNat ((wrap64 ((wrap64 (Int.tdiv a0 16))+1)):Int).toNat).size)+((⟨#[48,49,50,51,52,53,54,55,56,57,65,66,67,68,69,70]⟩:BA).extract ((Int.tmod a0 16):Int).toNat ((wrap64 ((Int.tmod a0 16)+1)):Int).toNat).size≤9223372036854775807 then(some (((⟨#[37]⟩:BA)++((⟨#[48,49,50,51,52,53,54,55,56,57,65,66,67,68,69,70]⟩:BA).extract ((wrap64 (Int.tdiv a0 16)):Int).toNat ((wrap64 ((wrap64 (Int.tdiv a0 16))+1)):Int).toNat))++((⟨#[48,49,50,51,52,53,54,55,56,57,65,66,67,68,69,70]⟩:BA).extract ((Int.tmod a0 16):Int).toNat ((wrap64 ((Int.tmod a0 16)+1)):Int).toNat)))else(none))else(none))else(none))else(none))else(none))else(none))else(none))else(none)
theorem spec_l1Sign.calls (a0:Int)(r:BA)(w:World)(h:spec_l1Sign.f a0=some r):
  Calls Tryz.prog 118 #[.int .i64 a0] w fun e w'=>e=.returned (.string r)∧Drawn0 w w':=by
 unfold spec_l1Sign.f at h;have H:=h;clear h;obtain⟨ji2,hji2⟩:∃j_:Int,(wrap64 (Int.tdiv a0 16))=j_:=⟨_,rfl⟩;(first|rw[hji2]at H|simp only[hji2]at H);have hji2w:(IntKind.i64.wrap (Int.tdiv a0 16))=ji2:=(i64_w _).trans hji2;replace H:=iteE H;rcases H with⟨c3,H⟩|⟨c3,H⟩
 ·have c3b0:=eq_true c3
  have c3b1:=dT c3;clear c3;replace H:=iteN H;obtain⟨c4,H⟩:=H;have c4b0:=eq_true c4;have c4b1:=dT c4;replace H:=iteN H;obtain⟨c5,H⟩:=H;have c5b0:=eq_true c5;have c5b1:=dT c5;replace H:=iteN H;obtain⟨c6,H⟩:=H;have c6b0:=eq_true c6;have c6b1:=dT c6;try have c6b2:(9223372036854775807<1+((⟨#[48,49,50,51,52,53,54,55,56,57,65,66,67,68,69,70]⟩:BA).extract ((ji2):Int).toNat ((wrap64 ((ji2)+1)):Int).toNat).size)=False:=eq_false (nL_.2 c6);obtain⟨ji7,hji7⟩:∃j_:Int,(Int.tmod a0 16)=j_:=⟨_,rfl⟩;(first|rw[hji7]at H|simp only[hji7]at H);replace H:=iteN H;obtain⟨c8,H⟩:=H;have c8b0:=eq_true c8;have c8b1:=dT c8;clear c8;replace H:=iteN H;obtain⟨c9,H⟩:=H;have c9b0:=eq_true c9;have c9b1:=dT c9;replace H:=iteN H;obtain⟨c10,H⟩:=H;have c10b0:=eq_true c10;have c10b1:=dT c10;replace H:=iteN H;obtain⟨c11,H⟩:=H;have c11b0:=eq_true c11;have c11b1:=dT c11;try have c11b2:(9223372036854775807<1+(((⟨#[48,49,50,51,52,53,54,55,56,57,65,66,67,68,69,70]⟩:BA).extract ((ji2):Int).toNat ((wrap64 ((ji2)+1)):Int).toNat).size)+((⟨#[48,49,50,51,52,53,54,55,56,57,65,66,67,68,69,70]⟩:BA).extract ((ji7):Int).toNat ((wrap64 ((ji7)+1)):Int).toNat).size)=False:=eq_false (nL_.2 c11);obtain rfl:=sI H;go_enter Tryz.func118,Tryz.ntmps118;go_wp2
  repeat(go_quiet (fail);try go_wp2)
  go_ret;exact⟨(by first|rfl|(simp only[i64_w,i32_w];done)|(simp only[aid_isEmpty,aid_isEmpty2];done)|(simp;done)|(simp only[←hji2,←hji7] <;> (first|rfl|simp))|(simp[*];done)),zz22⟩
 ·exact absurd H (by simp)
def spec_l6In.f (a0:Int)(a1:Int)(a2:Int):Option (Bool):=if a0≥a1 then(some (decide (a0≤a2)))else(some false)
theorem spec_l6In.calls (a0:Int)(a1:Int)(a2:Int)(r:Bool)(w:World)(h:spec_l6In.f a0 a1 a2=some r):
  Calls Tryz.prog 47 #[.int .i64 a0,.int .i64 a1,.int .i64 a2] w fun e w'=>e=.returned (.bool r)∧Drawn0 w w':=by
 unfold spec_l6In.f at h;have H:=h;clear h;replace H:=iteEe H;rcases H with⟨c4b0,H⟩|⟨c4b0,H⟩
 ·obtain rfl:=sI H
  go_enter Tryz.func47,Tryz.ntmps47;go_wp2
  go_ret;exact⟨zz2,zz22⟩
 ·obtain rfl:=sI H
  go_enter Tryz.func47,Tryz.ntmps47;go_wp2
  go_ret;exact⟨zz2,zz22⟩
def laws_eqRule.f (a0_0:Bool)(a0_1:BA)(a1_0:Bool)(a1_1:BA):Option (Bool):=if(a0_0 != a1_0)=true then(some false)else(if a0_1.toList=a1_1.toList then(some true)else(some false))
theorem laws_eqRule.calls (a0_0:Bool)(a0_1:BA)(a1_0:Bool)(a1_1:BA)(r:Bool)(w:World)(h:laws_eqRule.f a0_0 a0_1 a1_0 a1_1=some r):
  Calls Tryz.prog 113 #[.agg #[.bool a0_0,.string a0_1],.agg #[.bool a1_0,.string a1_1]] w fun e w'=>e=.returned (.bool r)∧Below w.heap.size w w':=by
 have hu98:=Tryz.underlying98;have HB:=A_ (Below.refl w.heap.size w);unfold laws_eqRule.f at h;have H:=h;clear h;replace H:=iteE H;rcases H with⟨c3,H⟩|⟨c3,H⟩
 ·have c3b0:(a0_0 != a1_0)=true:=c3
  (try(have c3b9:¬((!(a0_0==a1_0))=false):=by cases hA_:a0_0 <;> cases hB_:a1_0 <;> simp[hA_,hB_]at c3b0 ⊢))
  (try(have c3b1:decide (a0_0=a1_0)=false:=by simpa using c3))
  (try(have c3b2:(a0_0==a1_0)=false:=by simpa using c3))
  (try(have c3b3:¬(a0_0=a1_0):=by simpa using c3))
  clear c3;obtain rfl:=sI H;go_enter Tryz.func113,Tryz.ntmps113;go_wp2_with (first|(refine boxF 2 #[.bool a0_0,.string a0_1] 98 ?_;intro gb377 hg w4 BK377 hb;have GE377:=geB hg (zz1 HB);replace HB:=A_ (bS (zz1 HB) hb);clear hb hg)|(refine boxF 3 #[.bool a1_0,.string a1_1] 98 ?_;intro gb378 hg w5 BK378 hb;have GE378:=geB hg (zz37 HB GE377);replace HB:=A_ (bS (zz37 HB GE377) hb);have NB377_378:=A_ ((by rw[hg];exact Nat.ne_of_lt (blk_lt (zz36 BK377)):gb377≠gb378));have NB378_377:=A_ ((by rw[hg];exact Nat.ne_of_gt (blk_lt (zz36 BK377)):gb378≠gb377));replace BK377:=A_ (bB (zz36 BK377) hb);clear hb hg;have hnb6:=NB377_378.out;have hnc6:=NB378_377.out;obtain⟨_,_,_,_⟩:=cf2 BK377;obtain⟨_,_,_,_⟩:=cf2 BK378));go_ret;exact⟨zz0,(zz52 HB GE377 GE378)⟩
 ·have c3b0:(a0_0 != a1_0)=false:=by simpa using c3
  (try(have c3b9:¬((!(a0_0==a1_0))=true):=by cases hA_:a0_0 <;> cases hB_:a1_0 <;> simp[hA_,hB_]at c3b0 ⊢))
  (try(have c3b1:decide (a0_0=a1_0)=true:=by simpa using c3))
  (try(have c3b2:(a0_0==a1_0)=true:=by simpa using c3))
  clear c3;replace H:=iteEq H;rcases H with⟨c9b0,c9b1,H⟩|⟨c9b0,c9b1,c9,H⟩
  ·obtain rfl:=sI H
   go_enter Tryz.func113,Tryz.ntmps113;go_wp2_with (first|(refine boxF 2 #[.bool a0_0,.string a0_1] 98 ?_;intro gb377 hg w10 BK377 hb;have GE377:=geB hg (zz1 HB);replace HB:=A_ (bS (zz1 HB) hb);clear hb hg)|(refine boxF 3 #[.bool a1_0,.string a1_1] 98 ?_;intro gb378 hg w11 BK378 hb;have GE378:=geB hg (zz37 HB GE377);replace HB:=A_ (bS (zz37 HB GE377) hb);have NB377_378:=A_ ((by rw[hg];exact Nat.ne_of_lt (blk_lt (zz36 BK377)):gb377≠gb378));have NB378_377:=A_ ((by rw[hg];exact Nat.ne_of_gt (blk_lt (zz36 BK377)):gb378≠gb377));replace BK377:=A_ (bB (zz36 BK377) hb);clear hb hg;have hnb12:=NB377_378.out;have hnc12:=NB378_377.out;obtain⟨_,_,_,_⟩:=cf2 BK377;obtain⟨_,_,_,_⟩:=cf2 BK378))
   go_ret;exact⟨zz0,(zz52 HB GE377 GE378)⟩
  ·obtain rfl:=sI H
   go_enter Tryz.func113,Tryz.ntmps113;go_wp2_with (first|(refine boxF 2 #[.bool a0_0,.string a0_1] 98 ?_;intro gb377 hg w15 BK377 hb;have GE377:=geB hg (zz1 HB);replace HB:=A_ (bS (zz1 HB) hb);clear hb hg)|(refine boxF 3 #[.bool a1_0,.string a1_1] 98 ?_;intro gb378 hg w16 BK378 hb;have GE378:=geB hg (zz37 HB GE377);replace HB:=A_ (bS (zz37 HB GE377) hb);have NB377_378:=A_ ((by rw[hg];exact Nat.ne_of_lt (blk_lt (zz36 BK377)):gb377≠gb378));have NB378_377:=A_ ((by rw[hg];exact Nat.ne_of_gt (blk_lt (zz36 BK377)):gb378≠gb377));replace BK377:=A_ (bB (zz36 BK377) hb);clear hb hg;have hnb17:=NB377_378.out;have hnc17:=NB378_377.out;obtain⟨_,_,_,_⟩:=cf2 BK377;obtain⟨_,_,_,_⟩:=cf2 BK378))
   go_ret;exact⟨zz0,(zz52 HB GE377 GE378)⟩
def laws_eqItem.f (a0_0:BA)(a0_1:Int)(a1_0:BA)(a1_1:Int):Option (Bool):=if a0_0.toList=a1_0.toList then(if a0_1=a1_1 then(some true)else(some false))else(some false)
theorem laws_eqItem.calls (a0_0:BA)(a0_1:Int)(a1_0:BA)(a1_1:Int)(r:Bool)(w:World)(h:laws_eqItem.f a0_0 a0_1 a1_0 a1_1=some r):
  Calls Tryz.prog 95 #[.agg #[.string a0_0,.int .i64 a0_1],.agg #[.string a1_0,.int .i64 a1_1]] w fun e w'=>e=.returned (.bool r)∧Below w.heap.size w w':=by
 have hu76:=Tryz.underlying76;have HB:=A_ (Below.refl w.heap.size w);unfold laws_eqItem.f at h;have H:=h;clear h;have HF3:=A_ H;clear H;go_enter Tryz.func95,Tryz.ntmps95;go_upto_if 9 with(first|(refine boxF 2 #[.string a0_0,.int .i64 a0_1] 76 ?_;intro gb386 hg w4 BK386 hb;have GE386:=geB hg (zz1 HB);replace HB:=A_ (bS (zz1 HB) hb);clear hb hg)|(refine boxF 3 #[.string a1_0,.int .i64 a1_1] 76 ?_;intro gb387 hg w5 BK387 hb;have GE387:=geB hg (zz37 HB GE386);replace HB:=A_ (bS (zz37 HB GE386) hb);have NB386_387:=A_ ((by rw[hg];exact Nat.ne_of_lt (blk_lt (zz36 BK386)):gb386≠gb387));have NB387_386:=A_ ((by rw[hg];exact Nat.ne_of_gt (blk_lt (zz36 BK386)):gb387≠gb386));replace BK386:=A_ (bB (zz36 BK386) hb);clear hb hg;have hnb6:=NB386_387.out;have hnc6:=NB387_386.out;obtain⟨_,_,_,_⟩:=cf2 BK386;obtain⟨_,_,_,_⟩:=cf2 BK387))
 obtain⟨H⟩:=HF3;replace H:=iteEq H;rcases H with⟨c9b0,c9b1,H⟩|⟨c9b0,c9b1,c9,H⟩
 ·(first|rw[c9b0]|(simp only[i64_w,i32_w];rw[c9b0])|skip)
  replace H:=iteEq H;rcases H with⟨c10b0,c10b1,H⟩|⟨c10b0,c10b1,c10,H⟩
  ·obtain rfl:=sI H
   have hnb11:=NB386_387.out;have hnc11:=NB387_386.out;obtain⟨_,_,_,_⟩:=cf2 BK386;obtain⟨_,_,_,_⟩:=cf2 BK387;go_wp2;go_ret;exact⟨zz0,(zz52 HB GE386 GE387)⟩
  ·obtain rfl:=sI H
   have hnb14:=NB386_387.out;have hnc14:=NB387_386.out;obtain⟨_,_,_,_⟩:=cf2 BK386;obtain⟨_,_,_,_⟩:=cf2 BK387;go_wp2;go_ret;exact⟨zz0,(zz52 HB GE386 GE387)⟩
 ·(first|rw[c9b0]|(simp only[i64_w,i32_w];rw[c9b0])|skip)
  obtain rfl:=sI H;go_wp2;go_ret;exact⟨zz0,(zz52 HB GE386 GE387)⟩
def laws_eqLook.f (a0_0:Int)(a0_1:BA)(a0_2:Int)(a1_0:Int)(a1_1:BA)(a1_2:Int):Option (Bool):=if a0_0=a1_0 then(if a0_1.toList=a1_1.toList then(if a0_2=a1_2 then(some true)else(some false))else(some false))else(some false)
theorem laws_eqLook.calls (a0_0:Int)(a0_1:BA)(a0_2:Int)(a1_0:Int)(a1_1:BA)(a1_2:Int)(r:Bool)(w:World)(h:laws_eqLook.f a0_0 a0_1 a0_2 a1_0 a1_1 a1_2=some r):
  Calls Tryz.prog 58 #[.agg #[.int .i64 a0_0,.string a0_1,.int .i64 a0_2],.agg #[.int .i64 a1_0,.string a1_1,.int .i64 a1_2]] w fun e w'=>e=.returned (.bool r)∧Below w.heap.size w w':=by
 have hu83:=Tryz.underlying83;have HB:=A_ (Below.refl w.heap.size w);unfold laws_eqLook.f at h;have H:=h;clear h;have HF3:=A_ H;clear H;go_enter Tryz.func58,Tryz.ntmps58;go_upto_if 9 with(first|(refine boxF 2 #[.int .i64 a0_0,.string a0_1,.int .i64 a0_2] 83 ?_;intro gb398 hg w4 BK398 hb;have GE398:=geB hg (zz1 HB);replace HB:=A_ (bS (zz1 HB) hb);clear hb hg)|(refine boxF 3 #[.int .i64 a1_0,.string a1_1,.int .i64 a1_2] 83 ?_;intro gb399 hg w5 BK399 hb;have GE399:=geB hg (zz37 HB GE398);replace HB:=A_ (bS (zz37 HB GE398) hb);have NB398_399:=A_ ((by rw[hg];exact Nat.ne_of_lt (blk_lt (zz36 BK398)):gb398≠gb399));have NB399_398:=A_ ((by rw[hg];exact Nat.ne_of_gt (blk_lt (zz36 BK398)):gb399≠gb398));replace BK398:=A_ (bB (zz36 BK398) hb);clear hb hg;have hnb6:=NB398_399.out;have hnc6:=NB399_398.out;obtain⟨_,_,_,_,_,_⟩:=cf3 BK398;obtain⟨_,_,_,_,_,_⟩:=cf3 BK399))
 obtain⟨H⟩:=HF3;replace H:=iteEq H;rcases H with⟨c9b0,c9b1,H⟩|⟨c9b0,c9b1,c9,H⟩
 ·(first|rw[c9b0]|(simp only[i64_w,i32_w];rw[c9b0])|skip)
  replace H:=iteEq H;rcases H with⟨c10b0,c10b1,H⟩|⟨c10b0,c10b1,c10,H⟩
  ·replace H:=iteEq H
   rcases H with⟨c11b0,c11b1,H⟩|⟨c11b0,c11b1,c11,H⟩
   ·obtain rfl:=sI H
    have hnb12:=NB398_399.out;have hnc12:=NB399_398.out;obtain⟨_,_,_,_,_,_⟩:=cf3 BK398;obtain⟨_,_,_,_,_,_⟩:=cf3 BK399;go_wp2;go_ret;exact⟨zz0,(zz52 HB GE398 GE399)⟩
   ·obtain rfl:=sI H
    have hnb15:=NB398_399.out;have hnc15:=NB399_398.out;obtain⟨_,_,_,_,_,_⟩:=cf3 BK398;obtain⟨_,_,_,_,_,_⟩:=cf3 BK399;go_wp2;go_ret;exact⟨zz0,(zz52 HB GE398 GE399)⟩
  ·obtain rfl:=sI H
   have hnb18:=NB398_399.out;have hnc18:=NB399_398.out;obtain⟨_,_,_,_,_,_⟩:=cf3 BK398;obtain⟨_,_,_,_,_,_⟩:=cf3 BK399;go_wp2;go_ret;exact⟨zz0,(zz52 HB GE398 GE399)⟩
 ·(first|rw[c9b0]|(simp only[i64_w,i32_w];rw[c9b0])|skip)
  obtain rfl:=sI H;go_wp2;go_ret;exact⟨zz0,(zz52 HB GE398 GE399)⟩

mutual
def spec_EscNorm.l0:Nat→BA→BA→Int→Option (BA×Bool)
 |0,_,_,_=>none
 |k+1,x0,x4,x5=>if x5<(x0.size:Int)then(if 0≤x5 then(if(bt x0 x5)=37 then(if(wrap64 (x5+2))≥(x0.size:Int)then(spec_EscNorm.j1 k x0 x4 x5 true)else(if 0≤(wrap64 (x5+1))then(if(wrap64 (x5+1))<(x0.size:Int)then((spec_l1Hex.f k (bt x0 (wrap64 (x5+1)))).bind fun t109=>(if t109<0 then(spec_EscNorm.j1 k x0 x4 x5 true)else(if 0≤(wrap64 (x5+2))then(if(wrap64 (x5+2))<(x0.size:Int)then((spec_l1Hex.f k (bt x0 (wrap64 (x5+2)))).bind fun t110=>(spec_EscNorm.j1 k x0 x4 x5 (decide (t110<0))))else(none))else(none))))else(none))else(none)))else(spec_EscNorm.j2 k x0 x4 x5 (wrap64 (bt x0 x5))))else(none))else(some (x4,true))
def spec_EscNorm.j2:Nat→BA→BA→Int→Int→Option (BA×Bool)
 |0,_,_,_,_=>none
 |k+1,x0,x4,x5,x6=>(spec_l1Plain.f ((x6)%256)).bind fun t113=>(if t113=true then((some (([(x6)%256]:List Int):List Int)).bind fun y114=>(if x4.size+(strOfNums y114).size≤9223372036854775807 then(spec_EscNorm.l0 k x0 (x4++(strOfNums y114)) (wrap64 (x5+1)))else(none)))else((spec_l1Sign.f x6).bind fun t117=>(if x4.size+t117.size≤9223372036854775807 then(spec_EscNorm.l0 k x0 (x4++t117) (wrap64 (x5+1)))else(none))))
def spec_EscNorm.j1:Nat→BA→BA→Int→Bool→Option (BA×Bool)
 |0,_,_,_,_=>none
 |k+1,x0,x4,x5,x44=>if x44=true then(some ((⟨#[]⟩:BA),false))else(if 0≤(wrap64 (x5+1))then(if(wrap64 (x5+1))<(x0.size:Int)then((spec_l1Hex.f k (bt x0 (wrap64 (x5+1)))).bind fun t111=>(if 0≤(wrap64 (x5+2))then(if(wrap64 (x5+2))<(x0.size:Int)then((spec_l1Hex.f k (bt x0 (wrap64 (x5+2)))).bind fun t112=>(spec_EscNorm.j2 k x0 x4 (wrap64 (x5+2)) (wrap64 ((wrap64 (t111*16))+t112))))else(none))else(none)))else(none))else(none))
end
def spec_EscNorm.f (k:Nat)(a0:BA):Option (BA×Bool):=if(a0.size:Int)>60 then(some ((⟨#[]⟩:BA),false))else(spec_EscNorm.l0 k a0 (⟨#[]⟩:BA) 0)
theorem spec_EscNorm.mono_l:∀k,(∀y0 y1 y2,LeO (spec_EscNorm.l0 k y0 y1 y2) (spec_EscNorm.l0 (k+1) y0 y1 y2))∧(∀y0 y1 y2 y3,LeO (spec_EscNorm.j2 k y0 y1 y2 y3) (spec_EscNorm.j2 (k+1) y0 y1 y2 y3))∧(∀y0 y1 y2 y3,LeO (spec_EscNorm.j1 k y0 y1 y2 y3) (spec_EscNorm.j1 (k+1) y0 y1 y2 y3))
 |0=>by refine⟨?_,?_,?_⟩ <;> (intros;intro r h;simp[spec_EscNorm.l0,spec_EscNorm.j2,spec_EscNorm.j1]at h)
 |k+1=>by
  obtain⟨ih0,ih1,ih2⟩:=spec_EscNorm.mono_l k;refine⟨?_,?_,?_⟩ <;> intros <;> (first|unfold spec_EscNorm.l0|unfold spec_EscNorm.j2|unfold spec_EscNorm.j1) <;>
  repeat' first|(with_reducible first|exact ih0 _ _ _|exact ih1 _ _ _ _|exact ih2 _ _ _ _|exact spec_l1Hex.mono _ _|exact LeO.refl _|exact LeO.none _|refine LeO.ite ?_ ?_|refine LeO.bind ?_ (fun _=>?_))|exact LeO.none _|refine LeO.ite ?_ ?_|refine LeO.bind ?_ (fun _=>?_)
theorem spec_EscNorm.mono:∀a0 k,LeO (spec_EscNorm.f k a0) (spec_EscNorm.f (k+1) a0):=by
 intro a0 k;obtain⟨ih0,ih1,ih2⟩:=spec_EscNorm.mono_l k;unfold spec_EscNorm.f
 repeat' first|(with_reducible first|exact ih0 _ _ _|exact ih1 _ _ _ _|exact ih2 _ _ _ _|exact spec_l1Hex.mono _ _|exact LeO.refl _|exact LeO.none _|refine LeO.ite ?_ ?_|refine LeO.bind ?_ (fun _=>?_))|exact LeO.none _|refine LeO.ite ?_ ?_|refine LeO.bind ?_ (fun _=>?_)
theorem spec_EscNorm.calls (k:Nat)(a0:BA)(r1:BA)(r2:Bool)(w:World)(h:spec_EscNorm.f k a0=some (r1,r2)):
  Calls Tryz.prog 100 #[.string a0] w fun e w'=>e=.returned (.tuple #[.string r1,.bool r2])∧Below w.heap.size w w':=by
 have HB:=A_ (Below.refl w.heap.size w);unfold spec_EscNorm.f at h;have H:=h;clear h;replace H:=iteE H;rcases H with⟨c2,H⟩|⟨c2,H⟩
 ·have c2b0:=gtT c2
  have c2b1:decide (60<a0.size)=true:=dT (by omega);clear c2;simp only[oI_,pI_]at H;obtain⟨rfl,rfl⟩:=H;go_enter Tryz.func100,Tryz.ntmps100;go_wp2
  repeat(go_quiet (fail);try go_wp2)
  go_ret2
  exact⟨zz0,(zz1 HB)⟩
 ·have c2b0:=gtF c2
  have c2b1:decide (60<a0.size)=false:=dF (by omega);clear c2;have H':=A_ H;clear H;go_enter Tryz.func100,Tryz.ntmps100;go_wp2
  repeat(go_quiet (fail);try go_wp2)
  go_loopg [4,5] k (fun kq v4 v5 w'=>∃(x4_1:BA)(x5_1:Int),v4=.string x4_1∧v5=.int .i64 x5_1∧Aside0 (spec_EscNorm.l0 kq a0 x4_1 x5_1=some (r1,r2))∧Aside0 (kq≤k)∧Aside0 (Below w.heap.size w w'))
  case atStart=>exact⟨((⟨#[]⟩:BA)),(0),zz2,zz2,H',⟨lL_ _⟩,⟨(zz1 HB)⟩⟩
  case round=>
   clear H';obtain⟨x4_1,x5_1,rfl,rfl,HA,HK1,HB⟩:=hrel;cases gk with
   |zero=>exact absurd HA.out (by simp[spec_EscNorm.l0])
   |succ k1=>
    obtain⟨H⟩:=HA;simp only[spec_EscNorm.l0]at H;replace H:=iteEd H;rcases H with⟨c3b0,H⟩|⟨c3b0,H⟩
    ·replace H:=iteNd H
     obtain⟨c4b0,H⟩:=H;have HC7:=A_ H;clear H;have p5:0≤(x5_1:Int):=ofD;have q5:x5_1<(a0.size:Int):=ofD;have hx5:=bt_at a0 x5_1;replace p5:=eq_true p5;replace q5:=eq_true q5;have p6:0≤(x5_1:Int):=ofD;have q6:x5_1<(a0.size:Int):=ofD;have hx6:=bt_at a0 x5_1;replace p6:=eq_true p6;replace q6:=eq_true q6;go_upto_if 23 with(fail)
     repeat(go_quiet (fail);go_upto_if 23 with(fail))
     go_cut [5,6] (fun v5 v6 wc=>∃(kq:Nat)(x5_6:Int)(x6_6:Int),v5=.int .i64 x5_6∧v6=.int .i64 x6_6∧Aside0 (spec_EscNorm.j2 kq a0 x4_1 x5_6 x6_6=some (r1,r2))∧Aside0 (kq≤k1)∧Aside0 (Below w.heap.size w wc))
     case first=>
      obtain⟨H⟩:=HC7;replace H:=iteEq H;rcases H with⟨c8b0,c8b1,H⟩|⟨c8b0,c8b1,c8,H⟩
      ·(first|rw[c8b0]|(simp only[i64_w,i32_w];rw[c8b0])|skip)
       have HC9:=A_ H;clear H;go_upto_region 9 with(fail)
       repeat(go_quiet (fail);go_upto_region 9 with(fail))
       go_cut [44] (fun v44 wc=>∃(kq:Nat)(x44_8:Bool),v44=.bool x44_8∧Aside0 (spec_EscNorm.j1 kq a0 x4_1 x5_1 x44_8=some (r1,r2))∧Aside0 (kq≤k1)∧Aside0 (Below w.heap.size w wc))
       case first=>
        obtain⟨H⟩:=HC9;replace H:=iteEe H;rcases H with⟨c10b0,H⟩|⟨c10b0,H⟩
        ·(first|rw[c10b0]|(simp only[i64_w,i32_w];rw[c10b0])|skip)
         have H':=A_ H;clear H;go_wp2
         repeat(go_quiet (fail);try go_wp2)
         go_meet
         case rel=>exact⟨_,(true),zz2,H',⟨(zz26 HK1)⟩,⟨(zz1 HB)⟩⟩
        ·(first|rw[c10b0]|(simp only[i64_w,i32_w];rw[c10b0])|skip)
         obtain⟨ji11,hji11⟩:∃j_:Int,(wrap64 (x5_1+1))=j_:=⟨_,rfl⟩;(first|rw[hji11]at H|simp only[hji11]at H);have hji11w:(IntKind.i64.wrap (x5_1+1))=ji11:=(i64_w _).trans hji11;replace H:=iteNd H;obtain⟨c12b0,H⟩:=H;replace H:=iteNd H;obtain⟨c13b0,H⟩:=H;replace H:=bindA H;obtain⟨t109,A15,H⟩:=H;have HF16:=A_ H;clear H;have p14:0≤((ji11):Int):=ofD;have q14:(ji11)<(a0.size:Int):=ofD;have hx14:=bt_at a0 (ji11);replace p14:=eq_true p14;replace q14:=eq_true q14;go_wp2_with (first|(go_at_call 116;(with_reducible refine(spec_l1Hex.calls k1 (bt a0 (ji11)) t109 _ A15.out).mono ?_);rintro e w' ⟨rfl,⟨nd,rfl⟩⟩;(try first|exact⟨rfl,_,dN_ _ _ _⟩|exact⟨rfl,_,Eq.trans (dN_ _ _ _) (congrArg (World.drewN _) (Nat.add_assoc _ _ _))⟩))|((with_reducible refine atG ?_ ?_ fun K_ hK_=>?_);rfl;exact undecG)|((with_reducible refine atI ?_ fun K_ hK_=>?_);exact undecI))
         repeat(go_quiet (first|(go_at_call 116;(with_reducible refine(spec_l1Hex.calls k1 (bt a0 (ji11)) t109 _ A15.out).mono ?_);rintro e w' ⟨rfl,⟨nd,rfl⟩⟩;(try first|exact⟨rfl,_,dN_ _ _ _⟩|exact⟨rfl,_,Eq.trans (dN_ _ _ _) (congrArg (World.drewN _) (Nat.add_assoc _ _ _))⟩))|((with_reducible refine atG ?_ ?_ fun K_ hK_=>?_);rfl;exact undecG)|((with_reducible refine atI ?_ fun K_ hK_=>?_);exact undecI));go_wp2_with (first|(go_at_call 116;(with_reducible refine(spec_l1Hex.calls k1 (bt a0 (ji11)) t109 _ A15.out).mono ?_);rintro e w' ⟨rfl,⟨nd,rfl⟩⟩;(try first|exact⟨rfl,_,dN_ _ _ _⟩|exact⟨rfl,_,Eq.trans (dN_ _ _ _) (congrArg (World.drewN _) (Nat.add_assoc _ _ _))⟩))|((with_reducible refine atG ?_ ?_ fun K_ hK_=>?_);rfl;exact undecG)|((with_reducible refine atI ?_ fun K_ hK_=>?_);exact undecI)))
         refine unG hK_ ?_;clear hK_ K_;obtain⟨H⟩:=HF16;replace H:=iteE H;rcases H with⟨c17,H⟩|⟨c17,H⟩
         ·have c17b0:=dT c17
          (first|refine iteT ?_|refine iteF ?_|skip)
          clear c17;(first|rw[c17b0]|(simp only[i64_w,i32_w];rw[c17b0])|skip);have H':=A_ H;clear H;(try((with_reducible refine upS ?_);go_simp));go_wp2
          repeat(go_quiet (fail);try go_wp2)
          go_meet
          case rel=>exact⟨_,(true),zz2,H',⟨(zz26 HK1)⟩,⟨(zz1 HB)⟩⟩
         ·have c17b0:=dF c17
          (first|refine iteT ?_|refine iteF ?_|skip)
          clear c17;(first|rw[c17b0]|(simp only[i64_w,i32_w];rw[c17b0])|skip);obtain⟨ji18,hji18⟩:∃j_:Int,(wrap64 (x5_1+2))=j_:=⟨_,rfl⟩;(first|rw[hji18]at H|simp only[hji18]at H)
          (try rw[hji18]at c10b0)
          have hji18w:(IntKind.i64.wrap (x5_1+2))=ji18:=(i64_w _).trans hji18;replace H:=iteNd H;obtain⟨c19b0,H⟩:=H;replace H:=iteNd H;obtain⟨c20b0,H⟩:=H;replace H:=bindA H;obtain⟨t110,A22,H⟩:=H;have H':=A_ H;clear H;have p21:0≤((ji18):Int):=ofD;have q21:(ji18)<(a0.size:Int):=ofD;have hx21:=bt_at a0 (ji18);replace p21:=eq_true p21;replace q21:=eq_true q21;go_wp2_with (first|(go_at_call 116;(with_reducible refine(spec_l1Hex.calls k1 (bt a0 (ji18)) t110 _ A22.out).mono ?_);rintro e w' ⟨rfl,⟨nd,rfl⟩⟩;(try first|exact⟨rfl,_,dN_ _ _ _⟩|exact⟨rfl,_,Eq.trans (dN_ _ _ _) (congrArg (World.drewN _) (Nat.add_assoc _ _ _))⟩)))
          repeat(go_quiet (first|(go_at_call 116;(with_reducible refine(spec_l1Hex.calls k1 (bt a0 (ji18)) t110 _ A22.out).mono ?_);rintro e w' ⟨rfl,⟨nd,rfl⟩⟩;(try first|exact⟨rfl,_,dN_ _ _ _⟩|exact⟨rfl,_,Eq.trans (dN_ _ _ _) (congrArg (World.drewN _) (Nat.add_assoc _ _ _))⟩)));try go_wp2_with (first|(go_at_call 116;(with_reducible refine(spec_l1Hex.calls k1 (bt a0 (ji18)) t110 _ A22.out).mono ?_);rintro e w' ⟨rfl,⟨nd,rfl⟩⟩;(try first|exact⟨rfl,_,dN_ _ _ _⟩|exact⟨rfl,_,Eq.trans (dN_ _ _ _) (congrArg (World.drewN _) (Nat.add_assoc _ _ _))⟩))))
          go_meet
          case rel=>exact⟨_,(decide (t110<0)),zz2,H',⟨(zz26 HK1)⟩,⟨(zz1 HB)⟩⟩
       case rest=>
        clear HC9;obtain⟨kq,x44_8,rfl,HA,HJ8,HB⟩:=hcut;cases kq with
        |zero=>exact absurd HA.out (by simp[spec_EscNorm.j1])
        |succ kj8=>
         obtain⟨H⟩:=HA;simp only[spec_EscNorm.j1]at H;replace H:=iteB H;rcases H with⟨rfl,H⟩|⟨rfl,H⟩
         ·simp only[oI_,pI_]at H
          obtain⟨rfl,rfl⟩:=H;go_wp2
          repeat(go_quiet (fail);try go_wp2)
          go_ret2
          exact⟨zz0,(zz1 HB)⟩
         ·obtain⟨ji24,hji24⟩:∃j_:Int,(wrap64 (x5_1+1))=j_:=⟨_,rfl⟩
          (first|rw[hji24]at H|simp only[hji24]at H)
          have hji24w:(IntKind.i64.wrap (x5_1+1))=ji24:=(i64_w _).trans hji24;replace H:=iteNd H;obtain⟨c25b0,H⟩:=H;replace H:=iteNd H;obtain⟨c26b0,H⟩:=H;replace H:=bindA H;obtain⟨t111,A28,H⟩:=H;obtain⟨ji29,hji29⟩:∃j_:Int,(wrap64 (x5_1+2))=j_:=⟨_,rfl⟩;(first|rw[hji29]at H|simp only[hji29]at H)
          (try rw[hji29]at A28)
          have hji29w:(IntKind.i64.wrap (x5_1+2))=ji29:=(i64_w _).trans hji29;replace H:=iteNd H;obtain⟨c30b0,H⟩:=H;replace H:=iteNd H;obtain⟨c31b0,H⟩:=H;replace H:=bindA H;obtain⟨t112,A33,H⟩:=H;have H':=A_ H;clear H;have p27:0≤((ji24):Int):=ofD;have q27:(ji24)<(a0.size:Int):=ofD;have hx27:=bt_at a0 (ji24);replace p27:=eq_true p27;replace q27:=eq_true q27;go_wp2_with (first|(go_at_call 116;(with_reducible refine(spec_l1Hex.calls kj8 (bt a0 (ji24)) t111 _ A28.out).mono ?_);rintro e w' ⟨rfl,⟨nd,rfl⟩⟩;(try first|exact⟨rfl,_,dN_ _ _ _⟩|exact⟨rfl,_,Eq.trans (dN_ _ _ _) (congrArg (World.drewN _) (Nat.add_assoc _ _ _))⟩);have p32:0≤((ji29):Int):=ofD;have q32:(ji29)<(a0.size:Int):=ofD;have hx32:=bt_at a0 (ji29);replace p32:=eq_true p32;replace q32:=eq_true q32)|(go_at_call 116;(with_reducible refine(spec_l1Hex.calls kj8 (bt a0 (ji29)) t112 _ A33.out).mono ?_);rintro e w' ⟨rfl,⟨nd,rfl⟩⟩;(try first|exact⟨rfl,_,dN_ _ _ _⟩|exact⟨rfl,_,Eq.trans (dN_ _ _ _) (congrArg (World.drewN _) (Nat.add_assoc _ _ _))⟩)))
          repeat(go_quiet (first|(go_at_call 116;(with_reducible refine(spec_l1Hex.calls kj8 (bt a0 (ji24)) t111 _ A28.out).mono ?_);rintro e w' ⟨rfl,⟨nd,rfl⟩⟩;(try first|exact⟨rfl,_,dN_ _ _ _⟩|exact⟨rfl,_,Eq.trans (dN_ _ _ _) (congrArg (World.drewN _) (Nat.add_assoc _ _ _))⟩);have p32:0≤((ji29):Int):=ofD;have q32:(ji29)<(a0.size:Int):=ofD;have hx32:=bt_at a0 (ji29);replace p32:=eq_true p32;replace q32:=eq_true q32)|(go_at_call 116;(with_reducible refine(spec_l1Hex.calls kj8 (bt a0 (ji29)) t112 _ A33.out).mono ?_);rintro e w' ⟨rfl,⟨nd,rfl⟩⟩;(try first|exact⟨rfl,_,dN_ _ _ _⟩|exact⟨rfl,_,Eq.trans (dN_ _ _ _) (congrArg (World.drewN _) (Nat.add_assoc _ _ _))⟩)));try go_wp2_with (first|(go_at_call 116;(with_reducible refine(spec_l1Hex.calls kj8 (bt a0 (ji24)) t111 _ A28.out).mono ?_);rintro e w' ⟨rfl,⟨nd,rfl⟩⟩;(try first|exact⟨rfl,_,dN_ _ _ _⟩|exact⟨rfl,_,Eq.trans (dN_ _ _ _) (congrArg (World.drewN _) (Nat.add_assoc _ _ _))⟩);have p32:0≤((ji29):Int):=ofD;have q32:(ji29)<(a0.size:Int):=ofD;have hx32:=bt_at a0 (ji29);replace p32:=eq_true p32;replace q32:=eq_true q32)|(go_at_call 116;(with_reducible refine(spec_l1Hex.calls kj8 (bt a0 (ji29)) t112 _ A33.out).mono ?_);rintro e w' ⟨rfl,⟨nd,rfl⟩⟩;(try first|exact⟨rfl,_,dN_ _ _ _⟩|exact⟨rfl,_,Eq.trans (dN_ _ _ _) (congrArg (World.drewN _) (Nat.add_assoc _ _ _))⟩))))
          go_meet
          case rel=>exact⟨_,(ji29),(wrap64 ((wrap64 (t111*16))+t112)),(by first|rfl|(simp only[i64_w,i32_w];done)|(simp only[aid_isEmpty,aid_isEmpty2];done)|(simp;done)|((simp only[←hji29] <;> (first|rfl|simp));done)|(simp[*];done)),zz2,H',⟨(by have:=HK1.out;have:=HJ8.out;first|omega|exact lL_ _)⟩,⟨(zz1 HB)⟩⟩
      ·(first|rw[c8b0]|(simp only[i64_w,i32_w];rw[c8b0])|skip)
       have H':=A_ H;clear H;go_wp2
       repeat(go_quiet (fail);try go_wp2)
       go_meet
       case rel=>exact⟨_,(x5_1),(wrap64 (bt a0 x5_1)),zz2,zz2,H',⟨(zz26 HK1)⟩,⟨(zz1 HB)⟩⟩
     case rest=>
      clear HC7;obtain⟨kq,x5_6,x6_6,rfl,rfl,HA,HJ6,HB⟩:=hcut;cases kq with
      |zero=>exact absurd HA.out (by simp[spec_EscNorm.j2])
      |succ kj6=>
       obtain⟨H⟩:=HA;simp only[spec_EscNorm.j2]at H;replace H:=bindA H;obtain⟨t113,A34,H⟩:=H;have HF35:=A_ H;clear H;go_upto_if 61 with(first|(go_at_call 117;(with_reducible refine(spec_l1Plain.calls ((x6_6)%256) t113 _ A34.out).mono ?_);rintro e w' ⟨rfl,⟨nd,rfl⟩⟩;(try first|exact⟨rfl,_,dN_ _ _ _⟩|exact⟨rfl,_,Eq.trans (dN_ _ _ _) (congrArg (World.drewN _) (Nat.add_assoc _ _ _))⟩)))
       repeat(go_quiet (first|(go_at_call 117;(with_reducible refine(spec_l1Plain.calls ((x6_6)%256) t113 _ A34.out).mono ?_);rintro e w' ⟨rfl,⟨nd,rfl⟩⟩;(try first|exact⟨rfl,_,dN_ _ _ _⟩|exact⟨rfl,_,Eq.trans (dN_ _ _ _) (congrArg (World.drewN _) (Nat.add_assoc _ _ _))⟩)));go_upto_if 61 with(first|(go_at_call 117;(with_reducible refine(spec_l1Plain.calls ((x6_6)%256) t113 _ A34.out).mono ?_);rintro e w' ⟨rfl,⟨nd,rfl⟩⟩;(try first|exact⟨rfl,_,dN_ _ _ _⟩|exact⟨rfl,_,Eq.trans (dN_ _ _ _) (congrArg (World.drewN _) (Nat.add_assoc _ _ _))⟩))))
       obtain⟨H⟩:=HF35;replace H:=iteB H;rcases H with⟨rfl,H⟩|⟨rfl,H⟩
       ·obtain⟨y114,Ny114,H⟩:=bindY H
        replace H:=iteN H;obtain⟨c37,H⟩:=H;have c37b0:=eq_true c37;have c37b1:=dT c37;try have c37b2:(9223372036854775807<x4_1.size+(strOfNums y114).size)=False:=eq_false (nL_.2 c37);have H':=A_ H;clear H;go_wp2_with (first|((with_reducible refine gD (N:=65) rfl ?_);refine Kd.R_lit (Kd.int .u8) _ 5 ?hg (N:=65) ?hd (xs:=([(x6_6)%256]:List Int)) (inner:=[.int .u8 ((x6_6)%256)]) (ok:=fun _=>True) (okp:=fun _=>True) ?hr ?hp (fun _ hk=>hk) trivial (Below.refl _ _) (lL_ _) (by simp) ?_;(case hd=>rfl);(case hg=>rfl);(case hr=>exact zz4);(case hp=>exact(Reps.one (show Kd.M (Kd.int .u8) _ _ _ ((x6_6)%256) [.int .u8 ((x6_6)%256)]from rfl) (Reps.none _ _)));intro v115 w38 ho39 hb hg_ hnew_;clear hg_ hnew_;(first|rw[←Ny114.out]at ho39|(simp only[Int.reduceToNat]at ho39;rw[←Ny114.out]at ho39));have HO116:=A_ (Kd.R_lower ho39 (below_size (zz1 HB)));replace HB:=A_ (bS (zz1 HB) hb);clear hb ho39;have hcv40:=own_string (P:=Tryz.prog) Tryz.underlying35 Tryz.underlying5 Tryz.underlying9 (Kd.own_of_R HO116.out)))
        repeat(go_quiet (first|((with_reducible refine gD (N:=65) rfl ?_);refine Kd.R_lit (Kd.int .u8) _ 5 ?hg (N:=65) ?hd (xs:=([(x6_6)%256]:List Int)) (inner:=[.int .u8 ((x6_6)%256)]) (ok:=fun _=>True) (okp:=fun _=>True) ?hr ?hp (fun _ hk=>hk) trivial (Below.refl _ _) (lL_ _) (by simp) ?_;(case hd=>rfl);(case hg=>rfl);(case hr=>exact zz4);(case hp=>exact(Reps.one (show Kd.M (Kd.int .u8) _ _ _ ((x6_6)%256) [.int .u8 ((x6_6)%256)]from rfl) (Reps.none _ _)));intro v115 w38 ho39 hb hg_ hnew_;clear hg_ hnew_;(first|rw[←Ny114.out]at ho39|(simp only[Int.reduceToNat]at ho39;rw[←Ny114.out]at ho39));have HO116:=A_ (Kd.R_lower ho39 (below_size (zz1 HB)));replace HB:=A_ (bS (zz1 HB) hb);clear hb ho39;have hcv40:=own_string (P:=Tryz.prog) Tryz.underlying35 Tryz.underlying5 Tryz.underlying9 (Kd.own_of_R HO116.out)));try go_wp2_with (first|((with_reducible refine gD (N:=65) rfl ?_);refine Kd.R_lit (Kd.int .u8) _ 5 ?hg (N:=65) ?hd (xs:=([(x6_6)%256]:List Int)) (inner:=[.int .u8 ((x6_6)%256)]) (ok:=fun _=>True) (okp:=fun _=>True) ?hr ?hp (fun _ hk=>hk) trivial (Below.refl _ _) (lL_ _) (by simp) ?_;(case hd=>rfl);(case hg=>rfl);(case hr=>exact zz4);(case hp=>exact(Reps.one (show Kd.M (Kd.int .u8) _ _ _ ((x6_6)%256) [.int .u8 ((x6_6)%256)]from rfl) (Reps.none _ _)));intro v115 w38 ho39 hb hg_ hnew_;clear hg_ hnew_;(first|rw[←Ny114.out]at ho39|(simp only[Int.reduceToNat]at ho39;rw[←Ny114.out]at ho39));have HO116:=A_ (Kd.R_lower ho39 (below_size (zz1 HB)));replace HB:=A_ (bS (zz1 HB) hb);clear hb ho39;have hcv40:=own_string (P:=Tryz.prog) Tryz.underlying35 Tryz.underlying5 Tryz.underlying9 (Kd.own_of_R HO116.out))))
        go_roundg kj6
        case measure=>have:=HK1.out;have:=HJ6.out;omega
        case rel=>exact⟨(x4_1++(strOfNums y114)),(wrap64 (x5_6+1)),zz2,zz2,H',⟨(zz28 HK1 HJ6)⟩,⟨(zz1 HB)⟩⟩
       ·replace H:=bindA H
        obtain⟨t117,A41,H⟩:=H;replace H:=iteN H;obtain⟨c42,H⟩:=H;have c42b0:=eq_true c42;have c42b1:=dT c42;try have c42b2:(9223372036854775807<x4_1.size+t117.size)=False:=eq_false (nL_.2 c42);have H':=A_ H;clear H;go_wp2_with (first|(go_at_call 118;(with_reducible refine(spec_l1Sign.calls x6_6 t117 _ A41.out).mono ?_);rintro e w' ⟨rfl,⟨nd,rfl⟩⟩;(try first|exact⟨rfl,_,dN_ _ _ _⟩|exact⟨rfl,_,Eq.trans (dN_ _ _ _) (congrArg (World.drewN _) (Nat.add_assoc _ _ _))⟩)))
        repeat(go_quiet (first|(go_at_call 118;(with_reducible refine(spec_l1Sign.calls x6_6 t117 _ A41.out).mono ?_);rintro e w' ⟨rfl,⟨nd,rfl⟩⟩;(try first|exact⟨rfl,_,dN_ _ _ _⟩|exact⟨rfl,_,Eq.trans (dN_ _ _ _) (congrArg (World.drewN _) (Nat.add_assoc _ _ _))⟩)));try go_wp2_with (first|(go_at_call 118;(with_reducible refine(spec_l1Sign.calls x6_6 t117 _ A41.out).mono ?_);rintro e w' ⟨rfl,⟨nd,rfl⟩⟩;(try first|exact⟨rfl,_,dN_ _ _ _⟩|exact⟨rfl,_,Eq.trans (dN_ _ _ _) (congrArg (World.drewN _) (Nat.add_assoc _ _ _))⟩))))
        go_roundg kj6
        case measure=>have:=HK1.out;have:=HJ6.out;omega
        case rel=>exact⟨(x4_1++t117),(wrap64 (x5_6+1)),zz2,zz2,H',⟨(zz28 HK1 HJ6)⟩,⟨(zz1 HB)⟩⟩
    ·simp only[oI_,pI_]at H
     obtain⟨rfl,rfl⟩:=H;go_wp2
     repeat(go_quiet (fail);try go_wp2)
     go_ret2
     exact⟨zz0,(zz1 HB)⟩
def spec_l1House.l0:Nat→BA→Int→Option (Bool)
 |0,_,_=>none
 |k+1,x0,x3=>if x3<(x0.size:Int)then(if 0≤x3 then(if(bt x0 x3)<97 then(some false)else(if(bt x0 x3)>122 then(some false)else(spec_l1House.l0 k x0 (wrap64 (x3+1)))))else(none))else((spec_l6In.f (x0.size:Int) 1 5).bind fun t108=>(some t108))
def spec_l1House.f (k:Nat)(a0:BA):Option (Bool):=spec_l1House.l0 k a0 0
theorem spec_l1House.mono_l:∀k,(∀y0 y1,LeO (spec_l1House.l0 k y0 y1) (spec_l1House.l0 (k+1) y0 y1))
 |0=>by intros;intro r h;simp[spec_l1House.l0]at h
 |k+1=>by
  have ih0:=spec_l1House.mono_l k;intros;unfold spec_l1House.l0;repeat' first|(with_reducible first|exact ih0 _ _|exact LeO.refl _|exact LeO.none _|refine LeO.ite ?_ ?_|refine LeO.bind ?_ (fun _=>?_))|exact LeO.none _|refine LeO.ite ?_ ?_|refine LeO.bind ?_ (fun _=>?_)
theorem spec_l1House.mono:∀a0 k,LeO (spec_l1House.f k a0) (spec_l1House.f (k+1) a0):=by
 intro a0 k;have ih0:=spec_l1House.mono_l k;unfold spec_l1House.f
 repeat' first|(with_reducible first|exact ih0 _ _|exact LeO.refl _|exact LeO.none _|refine LeO.ite ?_ ?_|refine LeO.bind ?_ (fun _=>?_))|exact LeO.none _|refine LeO.ite ?_ ?_|refine LeO.bind ?_ (fun _=>?_)
theorem spec_l1House.calls (k:Nat)(a0:BA)(r:Bool)(w:World)(h:spec_l1House.f k a0=some r):
  Calls Tryz.prog 85 #[.string a0] w fun e w'=>e=.returned (.bool r)∧Drawn0 w w':=by
 unfold spec_l1House.f at h;have H:=h;clear h;have H':=A_ H;clear H;go_enter Tryz.func85,Tryz.ntmps85;go_wp2
 go_loopg [3] k (fun kq v3 w'=>∃(x3_1:Int),v3=.int .i64 x3_1∧Aside0 (spec_l1House.l0 kq a0 x3_1=some r)∧Aside0 (kq≤k)∧Drawn0 w w')
 case atStart=>exact⟨(0),zz2,H',⟨lL_ _⟩,zz22⟩
 case round=>
  clear H';obtain⟨x3_1,rfl,HA,HK1,⟨m1,rfl⟩⟩:=hrel;cases gk with
  |zero=>exact absurd HA.out (by simp[spec_l1House.l0])
  |succ k1=>
   obtain⟨H⟩:=HA;simp only[spec_l1House.l0]at H;replace H:=iteEd H;rcases H with⟨c2b0,H⟩|⟨c2b0,H⟩
   ·replace H:=iteNd H
    obtain⟨c3b0,H⟩:=H;replace H:=iteEd H;rcases H with⟨c5b0,H⟩|⟨c5b0,H⟩
    ·obtain rfl:=sI H
     have p4:0≤(x3_1:Int):=ofD;have q4:x3_1<(a0.size:Int):=ofD;have hx4:=bt_at a0 x3_1;replace p4:=eq_true p4;replace q4:=eq_true q4;go_wp2;go_ret;exact⟨zz2,zz22⟩
    ·replace H:=iteEg H
     rcases H with⟨c7b0,H⟩|⟨c7b0,H⟩
     ·obtain rfl:=sI H
      have p4:0≤(x3_1:Int):=ofD;have q4:x3_1<(a0.size:Int):=ofD;have hx4:=bt_at a0 x3_1;replace p4:=eq_true p4;replace q4:=eq_true q4;have p6:0≤(x3_1:Int):=ofD;have q6:x3_1<(a0.size:Int):=ofD;have hx6:=bt_at a0 x3_1;replace p6:=eq_true p6;replace q6:=eq_true q6;go_wp2;go_ret;exact⟨zz2,zz22⟩
     ·have H':=A_ H
      clear H;have p4:0≤(x3_1:Int):=ofD;have q4:x3_1<(a0.size:Int):=ofD;have hx4:=bt_at a0 x3_1;replace p4:=eq_true p4;replace q4:=eq_true q4;have p6:0≤(x3_1:Int):=ofD;have q6:x3_1<(a0.size:Int):=ofD;have hx6:=bt_at a0 x3_1;replace p6:=eq_true p6;replace q6:=eq_true q6;go_wp2
      go_roundg k1
      case measure=>have:=HK1.out;omega
      case rel=>exact⟨(wrap64 (x3_1+1)),zz2,H',⟨(zz5 HK1)⟩,zz22⟩
   ·replace H:=bindA H
    obtain⟨t108,A8,H⟩:=H;obtain rfl:=sI H;go_wp2_with (first|(refine gR 47 (some 22) Tryz.func47 (spec_l6In.calls (a0.size:Int) 1 5 t108 _ A8.out) ?_;rintro w' ⟨nd,rfl⟩));go_ret;exact⟨zz2,zz22⟩
def spec_l2Name.l0:Nat→BA→Int→Option (Bool)
 |0,_,_=>none
 |k+1,x0,x3=>if x3<(x0.size:Int)then(if 0≤x3 then(if(bt x0 x3)<97 then(some false)else(if(bt x0 x3)>122 then(some false)else(spec_l2Name.l0 k x0 (wrap64 (x3+1)))))else(none))else((spec_l6In.f (x0.size:Int) 1 8).bind fun t102=>(some t102))
def spec_l2Name.f (k:Nat)(a0:BA):Option (Bool):=spec_l2Name.l0 k a0 0
theorem spec_l2Name.mono_l:∀k,(∀y0 y1,LeO (spec_l2Name.l0 k y0 y1) (spec_l2Name.l0 (k+1) y0 y1))
 |0=>by intros;intro r h;simp[spec_l2Name.l0]at h
 |k+1=>by
  have ih0:=spec_l2Name.mono_l k;intros;unfold spec_l2Name.l0;repeat' first|(with_reducible first|exact ih0 _ _|exact LeO.refl _|exact LeO.none _|refine LeO.ite ?_ ?_|refine LeO.bind ?_ (fun _=>?_))|exact LeO.none _|refine LeO.ite ?_ ?_|refine LeO.bind ?_ (fun _=>?_)
theorem spec_l2Name.mono:∀a0 k,LeO (spec_l2Name.f k a0) (spec_l2Name.f (k+1) a0):=by
 intro a0 k;have ih0:=spec_l2Name.mono_l k;unfold spec_l2Name.f
 repeat' first|(with_reducible first|exact ih0 _ _|exact LeO.refl _|exact LeO.none _|refine LeO.ite ?_ ?_|refine LeO.bind ?_ (fun _=>?_))|exact LeO.none _|refine LeO.ite ?_ ?_|refine LeO.bind ?_ (fun _=>?_)
theorem spec_l2Name.calls (k:Nat)(a0:BA)(r:Bool)(w:World)(h:spec_l2Name.f k a0=some r):
  Calls Tryz.prog 19 #[.string a0] w fun e w'=>e=.returned (.bool r)∧Drawn0 w w':=by
 unfold spec_l2Name.f at h;have H:=h;clear h;have H':=A_ H;clear H;go_enter Tryz.func19,Tryz.ntmps19;go_wp2
 go_loopg [3] k (fun kq v3 w'=>∃(x3_1:Int),v3=.int .i64 x3_1∧Aside0 (spec_l2Name.l0 kq a0 x3_1=some r)∧Aside0 (kq≤k)∧Drawn0 w w')
 case atStart=>exact⟨(0),zz2,H',⟨lL_ _⟩,zz22⟩
 case round=>
  clear H';obtain⟨x3_1,rfl,HA,HK1,⟨m1,rfl⟩⟩:=hrel;cases gk with
  |zero=>exact absurd HA.out (by simp[spec_l2Name.l0])
  |succ k1=>
   obtain⟨H⟩:=HA;simp only[spec_l2Name.l0]at H;replace H:=iteEd H;rcases H with⟨c2b0,H⟩|⟨c2b0,H⟩
   ·replace H:=iteNd H
    obtain⟨c3b0,H⟩:=H;replace H:=iteEd H;rcases H with⟨c5b0,H⟩|⟨c5b0,H⟩
    ·obtain rfl:=sI H
     have p4:0≤(x3_1:Int):=ofD;have q4:x3_1<(a0.size:Int):=ofD;have hx4:=bt_at a0 x3_1;replace p4:=eq_true p4;replace q4:=eq_true q4;go_wp2;go_ret;exact⟨zz2,zz22⟩
    ·replace H:=iteEg H
     rcases H with⟨c7b0,H⟩|⟨c7b0,H⟩
     ·obtain rfl:=sI H
      have p4:0≤(x3_1:Int):=ofD;have q4:x3_1<(a0.size:Int):=ofD;have hx4:=bt_at a0 x3_1;replace p4:=eq_true p4;replace q4:=eq_true q4;have p6:0≤(x3_1:Int):=ofD;have q6:x3_1<(a0.size:Int):=ofD;have hx6:=bt_at a0 x3_1;replace p6:=eq_true p6;replace q6:=eq_true q6;go_wp2;go_ret;exact⟨zz2,zz22⟩
     ·have H':=A_ H
      clear H;have p4:0≤(x3_1:Int):=ofD;have q4:x3_1<(a0.size:Int):=ofD;have hx4:=bt_at a0 x3_1;replace p4:=eq_true p4;replace q4:=eq_true q4;have p6:0≤(x3_1:Int):=ofD;have q6:x3_1<(a0.size:Int):=ofD;have hx6:=bt_at a0 x3_1;replace p6:=eq_true p6;replace q6:=eq_true q6;go_wp2
      go_roundg k1
      case measure=>have:=HK1.out;omega
      case rel=>exact⟨(wrap64 (x3_1+1)),zz2,H',⟨(zz5 HK1)⟩,zz22⟩
   ·replace H:=bindA H
    obtain⟨t102,A8,H⟩:=H;obtain rfl:=sI H;go_wp2_with (first|(refine gR 47 (some 22) Tryz.func47 (spec_l6In.calls (a0.size:Int) 1 8 t102 _ A8.out) ?_;rintro w' ⟨nd,rfl⟩));go_ret;exact⟨zz2,zz22⟩
def laws_eqRuleS.l0:Nat→List (S98)→List (S98)→Int→Option (Bool)
 |0,_,_,_=>none
 |k+1,x0,x1,x5=>if x5<(x0.length:Int)then(if 0≤x5 then(if x5<(x1.length:Int)then((laws_eqRule.f ((rd_T98 x0 x5).f0) ((rd_T98 x0 x5).f1) ((rd_T98 x1 x5).f0) ((rd_T98 x1 x5).f1)).bind fun t381=>(if t381=true then(laws_eqRuleS.l0 k x0 x1 (wrap64 (x5+1)))else(some false)))else(none))else(none))else(some true)
def laws_eqRuleS.f (k:Nat)(l0:List (S98))(l1:List (S98)):Option (Bool):=if(l0.length:Int)=(l1.length:Int)then(laws_eqRuleS.l0 k l0 l1 0)else(some false)
def laws_eqRuleS.T6:Bool×List (List Nat×List Nat):=(true,[([],[]),([],[]),([0,1],[0,1]),([2],[2]),([],[]),([],[]),([4,5],[4,5]),([6],[6]),([3,7],[3,7]),([8],[8])])
def laws_eqRuleS.B6:List Nat:=[0,0,3,7,0,0,48,112,255,511]
theorem laws_eqRuleS.tab6:rtab .any (opsOf Tryz.f94 6)=laws_eqRuleS.T6:=by kernel_rfl
theorem laws_eqRuleS.bits6:waitsOk laws_eqRuleS.T6.2 laws_eqRuleS.B6=true:=by kernel_rfl
theorem laws_eqRuleS.calls (k:Nat)(A0:Option Addr)(c0:Nat)(l0:List (S98))(A1:Option Addr)(c1:Nat)(l1:List (S98))(r:Bool)(w:World)(hr0:Kd.C k98 w A0 l0.length l0)(hc0:l0.length≤c0)(hr1:Kd.C k98 w A1 l1.length l1)(hc1:l1.length≤c1)(h:laws_eqRuleS.f k l0 l1=some r):
  Calls Tryz.prog 94 #[.slice A0 l0.length c0,.slice A1 l1.length c1] w fun e w'=>e=.returned (.bool r)∧Below w.heap.size w w':=by
 have hu98:=Tryz.underlying98;have HR0:=A_ hr0;have HC0:=A_ hc0;clear hr0 hc0;have HR1:=A_ hr1;have HC1:=A_ hc1;clear hr1 hc1;have HB:=A_ (Below.refl w.heap.size w);unfold laws_eqRuleS.f at h;have H:=h;clear h;replace H:=iteE H;rcases H with⟨c3,H⟩|⟨c3,H⟩
 ·obtain⟨c3b0,c3b1⟩:=eqT c3
  have c3b2:(l0.length==l1.length)=true:=by first|simpa using c3|(simp at c3 ⊢;omega)
  clear c3;have H':=A_ H;clear H;go_enter Tryz.func94,Tryz.ntmps94;go_wp2
  go_loopg [5] k (fun kq v5 w'=>∃(x5_1:Int),v5=.int .i64 x5_1∧Aside0 (laws_eqRuleS.l0 kq l0 l1 x5_1=some r)∧Aside0 (kq≤k)∧Aside0 (Below w.heap.size w w'))
  case atStart=>exact⟨(0),zz2,H',⟨lL_ _⟩,⟨(zz1 HB)⟩⟩
  case round=>
   clear H';obtain⟨x5_1,rfl,HA,HK1,HB⟩:=hrel;cases gk with
   |zero=>exact absurd HA.out (by simp[laws_eqRuleS.l0])
   |succ k1=>
    obtain⟨H⟩:=HA;simp only[laws_eqRuleS.l0]at H;replace H:=iteEd H;rcases H with⟨c4b0,H⟩|⟨c4b0,H⟩
    ·replace H:=iteNd H
     obtain⟨c5b0,H⟩:=H;replace H:=iteNd H;obtain⟨c6b0,H⟩:=H;replace H:=bindA H;obtain⟨t381,A7,H⟩:=H;have HF8:=A_ H;clear H;try go_wp2;replace HB:=A_ (below_drew1 HB.out);obtain⟨⟨ad379,e379,hx379_0,hx379_1⟩,p379,q379⟩:=atB (at_T98 HR0.out x5_1);have hw379_1:=hx379_1;have hw379_0:=hx379_0;cases e379;obtain⟨hx379_0,hx379_1⟩:=cb2 HB hx379_0 hx379_1;obtain⟨⟨ad380,e380,hx380_0,hx380_1⟩,p380,q380⟩:=atB (at_T98 HR1.out x5_1);have hw380_1:=hx380_1;have hw380_0:=hx380_0;cases e380;obtain⟨hx380_0,hx380_1⟩:=cb2 HB hx380_0 hx380_1;refine start_ (n:=10) (S:=fun w'=>w'.cell? (ad379.add ((x5_1).toNat*2))=some (.bool ((rd_T98 l0 x5_1).f0))∧w'.cell? ⟨(ad379.add ((x5_1).toNat*2)).block,(ad379.add ((x5_1).toNat*2)).off+1,none⟩=some (.string ((rd_T98 l0 x5_1).f1))∧w'.cell? (ad380.add ((x5_1).toNat*2))=some (.bool ((rd_T98 l1 x5_1).f0))∧w'.cell? ⟨(ad380.add ((x5_1).toNat*2)).block,(ad380.add ((x5_1).toNat*2)).off+1,none⟩=some (.string ((rd_T98 l1 x5_1).f1))) (ds:=[]) #[yF,yF,yF,yF,yF,yF,yF,yF,yF,yF] (by kernel_rfl) rfl rfl ⟨((HB.out.cell (wb_ w _ hw379_0)).trans hw379_0),((HB.out.cell (wb_ w _ hw379_1)).trans hw379_1),((HB.out.cell (wb_ w _ hw380_0)).trans hw380_0),((HB.out.cell (wb_ w _ hw380_1)).trans hw380_1)⟩ (fun hHeld=>?_);refine with_tabW laws_eqRuleS.tab6 laws_eqRuleS.bits6 (fun HT_ HW_=>?_);generalize wr.drew=w9 at HB hx379_0 hx379_1 hx380_0 hx380_1 hHeld ⊢;refine pureZ 0 (some 17) (yA 1 9) ?_;refine pureZ 1 (some 18) (yA 2 8) ?_;refine pureZ 2 (some 19) (yA 3 7) ?_;refine pureZ 4 (some 21) #[yT,yT,yT,yF,yT,yF,yF,yF,yF,yF] ?_;refine pureZ 5 (some 22) #[yT,yT,yT,yF,yT,yT,yF,yF,yF,yF] ?_;refine pureZ 6 (some 23) #[yT,yT,yT,yF,yT,yT,yT,yF,yF,yF] ?_;refine takeZ4 3 (some 20) (yA 7 3) hHeld ?_;refine takeZ4 7 (some 24) (yA 8 2) hHeld ?_;refine oneZ 8 (some 25) (yA 9 1) (fun K hK=>?_);refine goes_ Tryz.func113 (by kernel_rfl) rfl #[.agg #[.bool ((rd_T98 l0 x5_1).f0),.string ((rd_T98 l0 x5_1).f1)],.agg #[.bool ((rd_T98 l1 x5_1).f0),.string ((rd_T98 l1 x5_1).f1)]] (by rfl) rfl rfl zz47 ?_;with_reducible refine(laws_eqRule.calls ((rd_T98 l0 x5_1).f0) ((rd_T98 l0 x5_1).f1) ((rd_T98 l1 x5_1).f0) ((rd_T98 l1 x5_1).f1) t381 _ A7.out).mono ?_;rintro e w10 ⟨rfl,hb⟩;refine⟨_,rfl,?_⟩;replace HB:=A_ (bS (zz1 HB) hb);(try clear hb)
     (try clear hb2)
     (try clear hk)
     (try clear hi)
     refine hK.out _ _ ⟨((HB.out.cell (wb_ w _ hw379_0)).trans hw379_0),((HB.out.cell (wb_ w _ hw379_1)).trans hw379_1),((HB.out.cell (wb_ w _ hw380_0)).trans hw380_0),((HB.out.cell (wb_ w _ hw380_1)).trans hw380_1)⟩ (fun hHeld=>?_);clear hK K;refine nZ 25 ?_;refine pureZ 9 (some 26) (yA 10 0) ?_;refine done_ (done_of HT_.out (by kernel_rfl)) ?_;go_upto_if 26 with(fail)
     obtain⟨H⟩:=HF8;replace H:=iteB H;rcases H with⟨rfl,H⟩|⟨rfl,H⟩
     ·have H':=A_ H
      clear H;go_wp2
      go_roundg k1
      case measure=>have:=HK1.out;omega
      case rel=>exact⟨(wrap64 (x5_1+1)),zz2,H',⟨(zz5 HK1)⟩,⟨(zz1 HB)⟩⟩
     ·obtain rfl:=sI H
      go_wp2;go_ret;exact⟨zz0,(zz1 HB)⟩
    ·obtain rfl:=sI H
     go_wp2;go_ret;exact⟨zz0,(zz1 HB)⟩
 ·obtain⟨c3b0,c3b1⟩:=eqF c3
  have c3b2:(l0.length==l1.length)=false:=by first|simpa using c3|(simp at c3 ⊢;omega)
  obtain rfl:=sI H;go_enter Tryz.func94,Tryz.ntmps94;go_wp2;go_ret;exact⟨zz0,(zz1 HB)⟩
def laws_eqGroup.f (k:Nat)(l0_0:List BA)(l0_1:List (S98))(a0_2:Int)(l1_0:List BA)(l1_1:List (S98))(a1_2:Int):Option (Bool):=(laws_eqStringS.f k l0_0 l1_0).bind fun t384=>(if t384=true then((laws_eqRuleS.f k l0_1 l1_1).bind fun t385=>(if t385=true then(if a0_2=a1_2 then(some true)else(some false))else(some false)))else(some false))
theorem laws_eqGroup.calls (k:Nat)(A0_0:Option Addr)(c0_0:Nat)(l0_0:List BA)(A0_1:Option Addr)(c0_1:Nat)(l0_1:List (S98))(a0_2:Int)(A1_0:Option Addr)(c1_0:Nat)(l1_0:List BA)(A1_1:Option Addr)(c1_1:Nat)(l1_1:List (S98))(a1_2:Int)(r:Bool)(w:World)(hr0_0:Kd.C Kd.string w A0_0 l0_0.length l0_0)(hc0_0:l0_0.length≤c0_0)(hr0_1:Kd.C k98 w A0_1 l0_1.length l0_1)(hc0_1:l0_1.length≤c0_1)(hr1_0:Kd.C Kd.string w A1_0 l1_0.length l1_0)(hc1_0:l1_0.length≤c1_0)(hr1_1:Kd.C k98 w A1_1 l1_1.length l1_1)(hc1_1:l1_1.length≤c1_1)(h:laws_eqGroup.f k l0_0 l0_1 a0_2 l1_0 l1_1 a1_2=some r):
  Calls Tryz.prog 79 #[.agg #[.slice A0_0 l0_0.length c0_0,.slice A0_1 l0_1.length c0_1,.int .i64 a0_2],.agg #[.slice A1_0 l1_0.length c1_0,.slice A1_1 l1_1.length c1_1,.int .i64 a1_2]] w fun e w'=>e=.returned (.bool r)∧Below w.heap.size w w':=by
 have hu40:=Tryz.underlying40;have HR0_0:=A_ hr0_0;have HC0_0:=A_ hc0_0;clear hr0_0 hc0_0;have HR0_1:=A_ hr0_1;have HC0_1:=A_ hc0_1;clear hr0_1 hc0_1;have HR1_0:=A_ hr1_0;have HC1_0:=A_ hc1_0;clear hr1_0 hc1_0;have HR1_1:=A_ hr1_1;have HC1_1:=A_ hc1_1;clear hr1_1 hc1_1;have HB:=A_ (Below.refl w.heap.size w);unfold laws_eqGroup.f at h;have H:=h;clear h;replace H:=bindA H;obtain⟨t384,A3,H⟩:=H;have HF4:=A_ H;clear H;go_enter Tryz.func79,Tryz.ntmps79;go_upto_if 10 with(first|(refine boxF 2 #[.slice A0_0 l0_0.length c0_0,.slice A0_1 l0_1.length c0_1,.int .i64 a0_2] 40 ?_;intro gb382 hg w5 BK382 hb;have GE382:=geB hg (zz1 HB);replace HB:=A_ (bS (zz1 HB) hb);clear hb hg)|(refine boxF 3 #[.slice A1_0 l1_0.length c1_0,.slice A1_1 l1_1.length c1_1,.int .i64 a1_2] 40 ?_;intro gb383 hg w6 BK383 hb;have GE383:=geB hg (zz37 HB GE382);replace HB:=A_ (bS (zz37 HB GE382) hb);have NB382_383:=A_ ((by rw[hg];exact Nat.ne_of_lt (blk_lt (zz36 BK382)):gb382≠gb383));have NB383_382:=A_ ((by rw[hg];exact Nat.ne_of_gt (blk_lt (zz36 BK382)):gb383≠gb382));replace BK382:=A_ (bB (zz36 BK382) hb);clear hb hg;have hnb7:=NB382_383.out;have hnc7:=NB383_382.out;obtain⟨_,_,_,_,_,_⟩:=cf3 BK382;obtain⟨_,_,_,_,_,_⟩:=cf3 BK383)|(refine gR 10 (some 9) Tryz.func10 (laws_eqStringS.calls k _ _ l0_0 _ _ l1_0 t384 _ ?side1 ?side2 ?side3 ?side4 A3.out) ?_;(case side1=>exact(zz63 HR0_0 HB));(case side2=>exact HC0_0.out);(case side3=>exact(zz63 HR1_0 HB));(case side4=>exact HC1_0.out);rintro w' ⟨nd,rfl⟩))
 obtain⟨H⟩:=HF4;replace H:=iteB H;rcases H with⟨rfl,H⟩|⟨rfl,H⟩
 ·replace H:=bindA H
  obtain⟨t385,A11,H⟩:=H;have HF12:=A_ H;clear H;have hnb13:=NB382_383.out;have hnc13:=NB383_382.out;obtain⟨_,_,_,_,_,_⟩:=cf3 BK382;obtain⟨_,_,_,_,_,_⟩:=cf3 BK383;go_upto_if 16 with(first|(refine gR 94 (some 15) Tryz.func94 (laws_eqRuleS.calls k _ _ l0_1 _ _ l1_1 t385 _ ?side1 ?side2 ?side3 ?side4 A11.out) ?_;(case side1=>exact(zz63 HR0_1 HB));(case side2=>exact HC0_1.out);(case side3=>exact(zz63 HR1_1 HB));(case side4=>exact HC1_1.out);rintro w16 hb;replace BK382:=A_ (bB (zz36 BK382) hb);replace BK383:=A_ (bB (zz36 BK383) hb);replace HB:=A_ (bS (zz52 HB GE382 GE383) hb);(try clear hb)))
  obtain⟨H⟩:=HF12;replace H:=iteB H;rcases H with⟨rfl,H⟩|⟨rfl,H⟩
  ·replace H:=iteE H
   rcases H with⟨c18,H⟩|⟨c18,H⟩
   ·obtain⟨c18b0,c18b1⟩:=eqT c18
    clear c18;(first|rw[c18b0]|(simp only[i64_w,i32_w];rw[c18b0])|skip);obtain rfl:=sI H;have hnb19:=NB382_383.out;have hnc19:=NB383_382.out;obtain⟨_,_,_,_,_,_⟩:=cf3 BK382;obtain⟨_,_,_,_,_,_⟩:=cf3 BK383;go_wp2;go_ret;exact⟨zz0,(zz52 HB GE382 GE383)⟩
   ·obtain⟨c18b0,c18b1⟩:=eqF c18
    (first|rw[c18b0]|(simp only[i64_w,i32_w];rw[c18b0])|skip)
    obtain rfl:=sI H;have hnb22:=NB382_383.out;have hnc22:=NB383_382.out;obtain⟨_,_,_,_,_,_⟩:=cf3 BK382;obtain⟨_,_,_,_,_,_⟩:=cf3 BK383;go_wp2;go_ret;exact⟨zz0,(zz52 HB GE382 GE383)⟩
  ·obtain rfl:=sI H
   go_wp2;go_ret;exact⟨zz0,(zz52 HB GE382 GE383)⟩
 ·obtain rfl:=sI H
  go_wp2;go_ret;exact⟨zz0,(zz52 HB GE382 GE383)⟩
def laws_eqItemS.l0:Nat→List (S76)→List (S76)→Int→Option (Bool)
 |0,_,_,_=>none
 |k+1,x0,x1,x5=>if x5<(x0.length:Int)then(if 0≤x5 then(if x5<(x1.length:Int)then((laws_eqItem.f ((rd_T76 x0 x5).f0) ((rd_T76 x0 x5).f1) ((rd_T76 x1 x5).f0) ((rd_T76 x1 x5).f1)).bind fun t390=>(if t390=true then(laws_eqItemS.l0 k x0 x1 (wrap64 (x5+1)))else(some false)))else(none))else(none))else(some true)
def laws_eqItemS.f (k:Nat)(l0:List (S76))(l1:List (S76)):Option (Bool):=if(l0.length:Int)=(l1.length:Int)then(laws_eqItemS.l0 k l0 l1 0)else(some false)
def laws_eqItemS.T6:Bool×List (List Nat×List Nat):=(true,[([],[]),([],[]),([0,1],[0,1]),([2],[2]),([],[]),([],[]),([4,5],[4,5]),([6],[6]),([3,7],[3,7]),([8],[8])])
def laws_eqItemS.B6:List Nat:=[0,0,3,7,0,0,48,112,255,511]
theorem laws_eqItemS.tab6:rtab .any (opsOf Tryz.f80 6)=laws_eqItemS.T6:=by kernel_rfl
theorem laws_eqItemS.bits6:waitsOk laws_eqItemS.T6.2 laws_eqItemS.B6=true:=by kernel_rfl
theorem laws_eqItemS.calls (k:Nat)(A0:Option Addr)(c0:Nat)(l0:List (S76))(A1:Option Addr)(c1:Nat)(l1:List (S76))(r:Bool)(w:World)(hr0:Kd.C k76 w A0 l0.length l0)(hc0:l0.length≤c0)(hr1:Kd.C k76 w A1 l1.length l1)(hc1:l1.length≤c1)(h:laws_eqItemS.f k l0 l1=some r):
  Calls Tryz.prog 80 #[.slice A0 l0.length c0,.slice A1 l1.length c1] w fun e w'=>e=.returned (.bool r)∧Below w.heap.size w w':=by
 have hu76:=Tryz.underlying76;have HR0:=A_ hr0;have HC0:=A_ hc0;clear hr0 hc0;have HR1:=A_ hr1;have HC1:=A_ hc1;clear hr1 hc1;have HB:=A_ (Below.refl w.heap.size w);unfold laws_eqItemS.f at h;have H:=h;clear h;replace H:=iteE H;rcases H with⟨c3,H⟩|⟨c3,H⟩
 ·obtain⟨c3b0,c3b1⟩:=eqT c3
  have c3b2:(l0.length==l1.length)=true:=by first|simpa using c3|(simp at c3 ⊢;omega)
  clear c3;have H':=A_ H;clear H;go_enter Tryz.func80,Tryz.ntmps80;go_wp2
  go_loopg [5] k (fun kq v5 w'=>∃(x5_1:Int),v5=.int .i64 x5_1∧Aside0 (laws_eqItemS.l0 kq l0 l1 x5_1=some r)∧Aside0 (kq≤k)∧Aside0 (Below w.heap.size w w'))
  case atStart=>exact⟨(0),zz2,H',⟨lL_ _⟩,⟨(zz1 HB)⟩⟩
  case round=>
   clear H';obtain⟨x5_1,rfl,HA,HK1,HB⟩:=hrel;cases gk with
   |zero=>exact absurd HA.out (by simp[laws_eqItemS.l0])
   |succ k1=>
    obtain⟨H⟩:=HA;simp only[laws_eqItemS.l0]at H;replace H:=iteEd H;rcases H with⟨c4b0,H⟩|⟨c4b0,H⟩
    ·replace H:=iteNd H
     obtain⟨c5b0,H⟩:=H;replace H:=iteNd H;obtain⟨c6b0,H⟩:=H;replace H:=bindA H;obtain⟨t390,A7,H⟩:=H;have HF8:=A_ H;clear H;try go_wp2;replace HB:=A_ (below_drew1 HB.out);obtain⟨⟨ad388,e388,hx388_0,hx388_1⟩,p388,q388⟩:=atB (at_T76 HR0.out x5_1);have hw388_1:=hx388_1;have hw388_0:=hx388_0;cases e388;obtain⟨hx388_0,hx388_1⟩:=cb2 HB hx388_0 hx388_1;obtain⟨⟨ad389,e389,hx389_0,hx389_1⟩,p389,q389⟩:=atB (at_T76 HR1.out x5_1);have hw389_1:=hx389_1;have hw389_0:=hx389_0;cases e389;obtain⟨hx389_0,hx389_1⟩:=cb2 HB hx389_0 hx389_1;refine start_ (n:=10) (S:=fun w'=>w'.cell? (ad388.add ((x5_1).toNat*2))=some (.string ((rd_T76 l0 x5_1).f0))∧w'.cell? ⟨(ad388.add ((x5_1).toNat*2)).block,(ad388.add ((x5_1).toNat*2)).off+1,none⟩=some (.int .i64 ((rd_T76 l0 x5_1).f1))∧w'.cell? (ad389.add ((x5_1).toNat*2))=some (.string ((rd_T76 l1 x5_1).f0))∧w'.cell? ⟨(ad389.add ((x5_1).toNat*2)).block,(ad389.add ((x5_1).toNat*2)).off+1,none⟩=some (.int .i64 ((rd_T76 l1 x5_1).f1))) (ds:=[]) #[yF,yF,yF,yF,yF,yF,yF,yF,yF,yF] (by kernel_rfl) rfl rfl ⟨((HB.out.cell (wb_ w _ hw388_0)).trans hw388_0),((HB.out.cell (wb_ w _ hw388_1)).trans hw388_1),((HB.out.cell (wb_ w _ hw389_0)).trans hw389_0),((HB.out.cell (wb_ w _ hw389_1)).trans hw389_1)⟩ (fun hHeld=>?_);refine with_tabW laws_eqItemS.tab6 laws_eqItemS.bits6 (fun HT_ HW_=>?_);generalize wr.drew=w9 at HB hx388_0 hx388_1 hx389_0 hx389_1 hHeld ⊢;refine pureZ 0 (some 17) (yA 1 9) ?_;refine pureZ 1 (some 18) (yA 2 8) ?_;refine pureZ 2 (some 19) (yA 3 7) ?_;refine pureZ 4 (some 21) #[yT,yT,yT,yF,yT,yF,yF,yF,yF,yF] ?_;refine pureZ 5 (some 22) #[yT,yT,yT,yF,yT,yT,yF,yF,yF,yF] ?_;refine pureZ 6 (some 23) #[yT,yT,yT,yF,yT,yT,yT,yF,yF,yF] ?_;refine takeZ4 3 (some 20) (yA 7 3) hHeld ?_;refine takeZ4 7 (some 24) (yA 8 2) hHeld ?_;refine oneZ 8 (some 25) (yA 9 1) (fun K hK=>?_);refine goes_ Tryz.func95 (by kernel_rfl) rfl #[.agg #[.string ((rd_T76 l0 x5_1).f0),.int .i64 ((rd_T76 l0 x5_1).f1)],.agg #[.string ((rd_T76 l1 x5_1).f0),.int .i64 ((rd_T76 l1 x5_1).f1)]] (by rfl) rfl rfl zz47 ?_;with_reducible refine(laws_eqItem.calls ((rd_T76 l0 x5_1).f0) ((rd_T76 l0 x5_1).f1) ((rd_T76 l1 x5_1).f0) ((rd_T76 l1 x5_1).f1) t390 _ A7.out).mono ?_;rintro e w10 ⟨rfl,hb⟩;refine⟨_,rfl,?_⟩;replace HB:=A_ (bS (zz1 HB) hb);(try clear hb)
     (try clear hb2)
     (try clear hk)
     (try clear hi)
     refine hK.out _ _ ⟨((HB.out.cell (wb_ w _ hw388_0)).trans hw388_0),((HB.out.cell (wb_ w _ hw388_1)).trans hw388_1),((HB.out.cell (wb_ w _ hw389_0)).trans hw389_0),((HB.out.cell (wb_ w _ hw389_1)).trans hw389_1)⟩ (fun hHeld=>?_);clear hK K;refine nZ 25 ?_;refine pureZ 9 (some 26) (yA 10 0) ?_;refine done_ (done_of HT_.out (by kernel_rfl)) ?_;go_upto_if 26 with(fail)
     obtain⟨H⟩:=HF8;replace H:=iteB H;rcases H with⟨rfl,H⟩|⟨rfl,H⟩
     ·have H':=A_ H
      clear H;go_wp2
      go_roundg k1
      case measure=>have:=HK1.out;omega
      case rel=>exact⟨(wrap64 (x5_1+1)),zz2,H',⟨(zz5 HK1)⟩,⟨(zz1 HB)⟩⟩
     ·obtain rfl:=sI H
      go_wp2;go_ret;exact⟨zz0,(zz1 HB)⟩
    ·obtain rfl:=sI H
     go_wp2;go_ret;exact⟨zz0,(zz1 HB)⟩
 ·obtain⟨c3b0,c3b1⟩:=eqF c3
  have c3b2:(l0.length==l1.length)=false:=by first|simpa using c3|(simp at c3 ⊢;omega)
  obtain rfl:=sI H;go_enter Tryz.func80,Tryz.ntmps80;go_wp2;go_ret;exact⟨zz0,(zz1 HB)⟩
def laws_eqHouse.f (k:Nat)(a0_0:BA)(a0_1:Int)(a0_2:Bool)(l0_3:List BA)(l0_4:List (S98))(a0_5:Int)(a0_6:Int)(l0_7:List (S76))(a1_0:BA)(a1_1:Int)(a1_2:Bool)(l1_3:List BA)(l1_4:List (S98))(a1_5:Int)(a1_6:Int)(l1_7:List (S76)):Option (Bool):=if a0_0.toList=a1_0.toList then(if a0_1=a1_1 then(if(a0_2 != a1_2)=true then(some false)else((laws_eqGroup.f k l0_3 l0_4 a0_5 l1_3 l1_4 a1_5).bind fun t393=>(if t393=true then(if a0_6=a1_6 then((laws_eqItemS.f k l0_7 l1_7).bind fun t394=>(if t394=true then(some true)else(some false)))else(some false))else(some false))))else(some false))else(some false)
theorem laws_eqHouse.calls (k:Nat)(a0_0:BA)(a0_1:Int)(a0_2:Bool)(A0_3:Option Addr)(c0_3:Nat)(l0_3:List BA)(A0_4:Option Addr)(c0_4:Nat)(l0_4:List (S98))(a0_5:Int)(a0_6:Int)(A0_7:Option Addr)(c0_7:Nat)(l0_7:List (S76))(a1_0:BA)(a1_1:Int)(a1_2:Bool)(A1_3:Option Addr)(c1_3:Nat)(l1_3:List BA)(A1_4:Option Addr)(c1_4:Nat)(l1_4:List (S98))(a1_5:Int)(a1_6:Int)(A1_7:Option Addr)(c1_7:Nat)(l1_7:List (S76))(r:Bool)(w:World)(hr0_3:Kd.C Kd.string w A0_3 l0_3.length l0_3)(hc0_3:l0_3.length≤c0_3)(hr0_4:Kd.C k98 w A0_4 l0_4.length l0_4)(hc0_4:l0_4.length≤c0_4)(hr0_7:Kd.C k76 w A0_7 l0_7.length l0_7)(hc0_7:l0_7.length≤c0_7)(hr1_3:Kd.C Kd.string w A1_3 l1_3.length l1_3)(hc1_3:l1_3.length≤c1_3)(hr1_4:Kd.C k98 w A1_4 l1_4.length l1_4)(hc1_4:l1_4.length≤c1_4)(hr1_7:Kd.C k76 w A1_7 l1_7.length l1_7)(hc1_7:l1_7.length≤c1_7)(h:laws_eqHouse.f k a0_0 a0_1 a0_2 l0_3 l0_4 a0_5 a0_6 l0_7 a1_0 a1_1 a1_2 l1_3 l1_4 a1_5 a1_6 l1_7=some r):
  Calls Tryz.prog 57 #[.agg #[.string a0_0,.int .i64 a0_1,.bool a0_2,.slice A0_3 l0_3.length c0_3,.slice A0_4 l0_4.length c0_4,.int .i64 a0_5,.int .i64 a0_6,.slice A0_7 l0_7.length c0_7],.agg #[.string a1_0,.int .i64 a1_1,.bool a1_2,.slice A1_3 l1_3.length c1_3,.slice A1_4 l1_4.length c1_4,.int .i64 a1_5,.int .i64 a1_6,.slice A1_7 l1_7.length c1_7]] w fun e w'=>e=.returned (.bool r)∧Below w.heap.size w w':=by
 have hu43:=Tryz.underlying43;have hu40:=Tryz.underlying40;have HR0_3:=A_ hr0_3;have HC0_3:=A_ hc0_3;clear hr0_3 hc0_3;have HR0_4:=A_ hr0_4;have HC0_4:=A_ hc0_4;clear hr0_4 hc0_4;have HR0_7:=A_ hr0_7;have HC0_7:=A_ hc0_7;clear hr0_7 hc0_7;have HR1_3:=A_ hr1_3;have HC1_3:=A_ hc1_3;clear hr1_3 hc1_3;have HR1_4:=A_ hr1_4;have HC1_4:=A_ hc1_4;clear hr1_4 hc1_4;have HR1_7:=A_ hr1_7;have HC1_7:=A_ hc1_7;clear hr1_7 hc1_7;have HB:=A_ (Below.refl w.heap.size w);unfold laws_eqHouse.f at h;have H:=h;clear h;have HF3:=A_ H;clear H;go_enter Tryz.func57,Tryz.ntmps57;go_upto_if 9 with(first|(refine boxF 2 #[.string a0_0,.int .i64 a0_1,.bool a0_2,.slice A0_3 l0_3.length c0_3,.slice A0_4 l0_4.length c0_4,.int .i64 a0_5,.int .i64 a0_6,.slice A0_7 l0_7.length c0_7] 43 ?_;intro gb391 hg w4 BK391 hb;have GE391:=geB hg (zz1 HB);replace HB:=A_ (bS (zz1 HB) hb);clear hb hg)|(refine boxF 3 #[.string a1_0,.int .i64 a1_1,.bool a1_2,.slice A1_3 l1_3.length c1_3,.slice A1_4 l1_4.length c1_4,.int .i64 a1_5,.int .i64 a1_6,.slice A1_7 l1_7.length c1_7] 43 ?_;intro gb392 hg w5 BK392 hb;have GE392:=geB hg (zz37 HB GE391);replace HB:=A_ (bS (zz37 HB GE391) hb);have NB391_392:=A_ ((by rw[hg];exact Nat.ne_of_lt (blk_lt (zz36 BK391)):gb391≠gb392));have NB392_391:=A_ ((by rw[hg];exact Nat.ne_of_gt (blk_lt (zz36 BK391)):gb392≠gb391));replace BK391:=A_ (bB (zz36 BK391) hb);clear hb hg;have hnb6:=NB391_392.out;have hnc6:=NB392_391.out;have hcz7_0:w5.cell? ⟨gb391,0,none⟩=some (.string a0_0):=(blk_cell BK391.out 0).trans rfl;have hcz7_1:w5.cell? ⟨gb391,1,none⟩=some (.int .i64 a0_1):=(blk_cell BK391.out 1).trans rfl;have hcz7_2:w5.cell? ⟨gb391,2,none⟩=some (.bool a0_2):=(blk_cell BK391.out 2).trans rfl;have hcz7_3:w5.cell? ⟨gb391,3,none⟩=some (.slice A0_3 l0_3.length c0_3):=(blk_cell BK391.out 3).trans rfl;have hcz7_4:w5.cell? ⟨gb391,4,none⟩=some (.slice A0_4 l0_4.length c0_4):=(blk_cell BK391.out 4).trans rfl;have hcz7_5:w5.cell? ⟨gb391,5,none⟩=some (.int .i64 a0_5):=(blk_cell BK391.out 5).trans rfl;have hcz7_6:w5.cell? ⟨gb391,6,none⟩=some (.int .i64 a0_6):=(blk_cell BK391.out 6).trans rfl;have hcz7_7:w5.cell? ⟨gb391,7,none⟩=some (.slice A0_7 l0_7.length c0_7):=(blk_cell BK391.out 7).trans rfl;have hfz7_0:=blk_frozen BK391.out 0;have hfz7_1:=blk_frozen BK391.out 1;have hfz7_2:=blk_frozen BK391.out 2;have hfz7_3:=blk_frozen BK391.out 3;have hfz7_4:=blk_frozen BK391.out 4;have hfz7_5:=blk_frozen BK391.out 5;have hfz7_6:=blk_frozen BK391.out 6;have hfz7_7:=blk_frozen BK391.out 7;have hcz8_0:w5.cell? ⟨gb392,0,none⟩=some (.string a1_0):=(blk_cell BK392.out 0).trans rfl;have hcz8_1:w5.cell? ⟨gb392,1,none⟩=some (.int .i64 a1_1):=(blk_cell BK392.out 1).trans rfl;have hcz8_2:w5.cell? ⟨gb392,2,none⟩=some (.bool a1_2):=(blk_cell BK392.out 2).trans rfl;have hcz8_3:w5.cell? ⟨gb392,3,none⟩=some (.slice A1_3 l1_3.length c1_3):=(blk_cell BK392.out 3).trans rfl;have hcz8_4:w5.cell? ⟨gb392,4,none⟩=some (.slice A1_4 l1_4.length c1_4):=(blk_cell BK392.out 4).trans rfl;have hcz8_5:w5.cell? ⟨gb392,5,none⟩=some (.int .i64 a1_5):=(blk_cell BK392.out 5).trans rfl;have hcz8_6:w5.cell? ⟨gb392,6,none⟩=some (.int .i64 a1_6):=(blk_cell BK392.out 6).trans rfl;have hcz8_7:w5.cell? ⟨gb392,7,none⟩=some (.slice A1_7 l1_7.length c1_7):=(blk_cell BK392.out 7).trans rfl;have hfz8_0:=blk_frozen BK392.out 0;have hfz8_1:=blk_frozen BK392.out 1;have hfz8_2:=blk_frozen BK392.out 2;have hfz8_3:=blk_frozen BK392.out 3;have hfz8_4:=blk_frozen BK392.out 4;have hfz8_5:=blk_frozen BK392.out 5;have hfz8_6:=blk_frozen BK392.out 6;have hfz8_7:=blk_frozen BK392.out 7))
 obtain⟨H⟩:=HF3;replace H:=iteEq H;rcases H with⟨c9b0,c9b1,H⟩|⟨c9b0,c9b1,c9,H⟩
 ·(first|rw[c9b0]|(simp only[i64_w,i32_w];rw[c9b0])|skip)
  replace H:=iteEq H;rcases H with⟨c10b0,c10b1,H⟩|⟨c10b0,c10b1,c10,H⟩
  ·replace H:=iteE H
   rcases H with⟨c11,H⟩|⟨c11,H⟩
   ·have c11b0:(a0_2 != a1_2)=true:=c11
    (try(have c11b9:¬((!(a0_2==a1_2))=false):=by cases hA_:a0_2 <;> cases hB_:a1_2 <;> simp[hA_,hB_]at c11b0 ⊢))
    (try(have c11b1:decide (a0_2=a1_2)=false:=by simpa using c11))
    (try(have c11b2:(a0_2==a1_2)=false:=by simpa using c11))
    (try(have c11b3:¬(a0_2=a1_2):=by simpa using c11))
    clear c11;obtain rfl:=sI H;have hnb12:=NB391_392.out;have hnc12:=NB392_391.out;have hcz13_0:w5.cell? ⟨gb391,0,none⟩=some (.string a0_0):=(blk_cell BK391.out 0).trans rfl;have hcz13_1:w5.cell? ⟨gb391,1,none⟩=some (.int .i64 a0_1):=(blk_cell BK391.out 1).trans rfl;have hcz13_2:w5.cell? ⟨gb391,2,none⟩=some (.bool a0_2):=(blk_cell BK391.out 2).trans rfl;have hcz13_3:w5.cell? ⟨gb391,3,none⟩=some (.slice A0_3 l0_3.length c0_3):=(blk_cell BK391.out 3).trans rfl;have hcz13_4:w5.cell? ⟨gb391,4,none⟩=some (.slice A0_4 l0_4.length c0_4):=(blk_cell BK391.out 4).trans rfl;have hcz13_5:w5.cell? ⟨gb391,5,none⟩=some (.int .i64 a0_5):=(blk_cell BK391.out 5).trans rfl;have hcz13_6:w5.cell? ⟨gb391,6,none⟩=some (.int .i64 a0_6):=(blk_cell BK391.out 6).trans rfl;have hcz13_7:w5.cell? ⟨gb391,7,none⟩=some (.slice A0_7 l0_7.length c0_7):=(blk_cell BK391.out 7).trans rfl;have hfz13_0:=blk_frozen BK391.out 0;have hfz13_1:=blk_frozen BK391.out 1;have hfz13_2:=blk_frozen BK391.out 2;have hfz13_3:=blk_frozen BK391.out 3;have hfz13_4:=blk_frozen BK391.out 4;have hfz13_5:=blk_frozen BK391.out 5;have hfz13_6:=blk_frozen BK391.out 6;have hfz13_7:=blk_frozen BK391.out 7;have hcz14_0:w5.cell? ⟨gb392,0,none⟩=some (.string a1_0):=(blk_cell BK392.out 0).trans rfl;have hcz14_1:w5.cell? ⟨gb392,1,none⟩=some (.int .i64 a1_1):=(blk_cell BK392.out 1).trans rfl;have hcz14_2:w5.cell? ⟨gb392,2,none⟩=some (.bool a1_2):=(blk_cell BK392.out 2).trans rfl;have hcz14_3:w5.cell? ⟨gb392,3,none⟩=some (.slice A1_3 l1_3.length c1_3):=(blk_cell BK392.out 3).trans rfl;have hcz14_4:w5.cell? ⟨gb392,4,none⟩=some (.slice A1_4 l1_4.length c1_4):=(blk_cell BK392.out 4).trans rfl;have hcz14_5:w5.cell? ⟨gb392,5,none⟩=some (.int .i64 a1_5):=(blk_cell BK392.out 5).trans rfl;have hcz14_6:w5.cell? ⟨gb392,6,none⟩=some (.int .i64 a1_6):=(blk_cell BK392.out 6).trans rfl;have hcz14_7:w5.cell? ⟨gb392,7,none⟩=some (.slice A1_7 l1_7.length c1_7):=(blk_cell BK392.out 7).trans rfl;have hfz14_0:=blk_frozen BK392.out 0;have hfz14_1:=blk_frozen BK392.out 1;have hfz14_2:=blk_frozen BK392.out 2;have hfz14_3:=blk_frozen BK392.out 3;have hfz14_4:=blk_frozen BK392.out 4;have hfz14_5:=blk_frozen BK392.out 5;have hfz14_6:=blk_frozen BK392.out 6;have hfz14_7:=blk_frozen BK392.out 7;go_wp2;go_ret;exact⟨zz0,(zz52 HB GE391 GE392)⟩
   ·have c11b0:(a0_2 != a1_2)=false:=by simpa using c11
    (try(have c11b9:¬((!(a0_2==a1_2))=true):=by cases hA_:a0_2 <;> cases hB_:a1_2 <;> simp[hA_,hB_]at c11b0 ⊢))
    (try(have c11b1:decide (a0_2=a1_2)=true:=by simpa using c11))
    (try(have c11b2:(a0_2==a1_2)=true:=by simpa using c11))
    clear c11;replace H:=bindA H;obtain⟨t393,A15,H⟩:=H;have HF16:=A_ H;clear H;have hnb17:=NB391_392.out;have hnc17:=NB392_391.out;have hcz18_0:w5.cell? ⟨gb391,0,none⟩=some (.string a0_0):=(blk_cell BK391.out 0).trans rfl;have hcz18_1:w5.cell? ⟨gb391,1,none⟩=some (.int .i64 a0_1):=(blk_cell BK391.out 1).trans rfl;have hcz18_2:w5.cell? ⟨gb391,2,none⟩=some (.bool a0_2):=(blk_cell BK391.out 2).trans rfl;have hcz18_3:w5.cell? ⟨gb391,3,none⟩=some (.slice A0_3 l0_3.length c0_3):=(blk_cell BK391.out 3).trans rfl;have hcz18_4:w5.cell? ⟨gb391,4,none⟩=some (.slice A0_4 l0_4.length c0_4):=(blk_cell BK391.out 4).trans rfl;have hcz18_5:w5.cell? ⟨gb391,5,none⟩=some (.int .i64 a0_5):=(blk_cell BK391.out 5).trans rfl;have hcz18_6:w5.cell? ⟨gb391,6,none⟩=some (.int .i64 a0_6):=(blk_cell BK391.out 6).trans rfl;have hcz18_7:w5.cell? ⟨gb391,7,none⟩=some (.slice A0_7 l0_7.length c0_7):=(blk_cell BK391.out 7).trans rfl;have hfz18_0:=blk_frozen BK391.out 0;have hfz18_1:=blk_frozen BK391.out 1;have hfz18_2:=blk_frozen BK391.out 2;have hfz18_3:=blk_frozen BK391.out 3;have hfz18_4:=blk_frozen BK391.out 4;have hfz18_5:=blk_frozen BK391.out 5;have hfz18_6:=blk_frozen BK391.out 6;have hfz18_7:=blk_frozen BK391.out 7;have hcz19_0:w5.cell? ⟨gb392,0,none⟩=some (.string a1_0):=(blk_cell BK392.out 0).trans rfl;have hcz19_1:w5.cell? ⟨gb392,1,none⟩=some (.int .i64 a1_1):=(blk_cell BK392.out 1).trans rfl;have hcz19_2:w5.cell? ⟨gb392,2,none⟩=some (.bool a1_2):=(blk_cell BK392.out 2).trans rfl;have hcz19_3:w5.cell? ⟨gb392,3,none⟩=some (.slice A1_3 l1_3.length c1_3):=(blk_cell BK392.out 3).trans rfl;have hcz19_4:w5.cell? ⟨gb392,4,none⟩=some (.slice A1_4 l1_4.length c1_4):=(blk_cell BK392.out 4).trans rfl;have hcz19_5:w5.cell? ⟨gb392,5,none⟩=some (.int .i64 a1_5):=(blk_cell BK392.out 5).trans rfl;have hcz19_6:w5.cell? ⟨gb392,6,none⟩=some (.int .i64 a1_6):=(blk_cell BK392.out 6).trans rfl;have hcz19_7:w5.cell? ⟨gb392,7,none⟩=some (.slice A1_7 l1_7.length c1_7):=(blk_cell BK392.out 7).trans rfl;have hfz19_0:=blk_frozen BK392.out 0;have hfz19_1:=blk_frozen BK392.out 1;have hfz19_2:=blk_frozen BK392.out 2;have hfz19_3:=blk_frozen BK392.out 3;have hfz19_4:=blk_frozen BK392.out 4;have hfz19_5:=blk_frozen BK392.out 5;have hfz19_6:=blk_frozen BK392.out 6;have hfz19_7:=blk_frozen BK392.out 7;go_upto_if 25 with(first|(refine gR 79 (some 24) Tryz.func79 (laws_eqGroup.calls k _ _ l0_3 _ _ l0_4 a0_5 _ _ l1_3 _ _ l1_4 a1_5 t393 _ ?side1 ?side2 ?side3 ?side4 ?side5 ?side6 ?side7 ?side8 A15.out) ?_;(case side1=>exact(zz63 HR0_3 HB));(case side2=>exact HC0_3.out);(case side3=>exact(zz63 HR0_4 HB));(case side4=>exact HC0_4.out);(case side5=>exact(zz63 HR1_3 HB));(case side6=>exact HC1_3.out);(case side7=>exact(zz63 HR1_4 HB));(case side8=>exact HC1_4.out);rintro w20 hb;replace BK391:=A_ (bB (zz36 BK391) hb);replace BK392:=A_ (bB (zz36 BK392) hb);replace HB:=A_ (bS (zz52 HB GE391 GE392) hb);(try clear hb)))
    obtain⟨H⟩:=HF16;replace H:=iteB H;rcases H with⟨rfl,H⟩|⟨rfl,H⟩
    ·replace H:=iteE H
     rcases H with⟨c22,H⟩|⟨c22,H⟩
     ·obtain⟨c22b0,c22b1⟩:=eqT c22
      clear c22;(first|rw[c22b0]|(simp only[i64_w,i32_w];rw[c22b0])|skip);replace H:=bindA H;obtain⟨t394,A23,H⟩:=H;have HF24:=A_ H;clear H;have hnb25:=NB391_392.out;have hnc25:=NB392_391.out;have hcz26_0:w20.cell? ⟨gb391,0,none⟩=some (.string a0_0):=(blk_cell BK391.out 0).trans rfl;have hcz26_1:w20.cell? ⟨gb391,1,none⟩=some (.int .i64 a0_1):=(blk_cell BK391.out 1).trans rfl;have hcz26_2:w20.cell? ⟨gb391,2,none⟩=some (.bool a0_2):=(blk_cell BK391.out 2).trans rfl;have hcz26_3:w20.cell? ⟨gb391,3,none⟩=some (.slice A0_3 l0_3.length c0_3):=(blk_cell BK391.out 3).trans rfl;have hcz26_4:w20.cell? ⟨gb391,4,none⟩=some (.slice A0_4 l0_4.length c0_4):=(blk_cell BK391.out 4).trans rfl;have hcz26_5:w20.cell? ⟨gb391,5,none⟩=some (.int .i64 a0_5):=(blk_cell BK391.out 5).trans rfl;have hcz26_6:w20.cell? ⟨gb391,6,none⟩=some (.int .i64 a0_6):=(blk_cell BK391.out 6).trans rfl;have hcz26_7:w20.cell? ⟨gb391,7,none⟩=some (.slice A0_7 l0_7.length c0_7):=(blk_cell BK391.out 7).trans rfl;have hfz26_0:=blk_frozen BK391.out 0;have hfz26_1:=blk_frozen BK391.out 1;have hfz26_2:=blk_frozen BK391.out 2;have hfz26_3:=blk_frozen BK391.out 3;have hfz26_4:=blk_frozen BK391.out 4;have hfz26_5:=blk_frozen BK391.out 5;have hfz26_6:=blk_frozen BK391.out 6;have hfz26_7:=blk_frozen BK391.out 7;have hcz27_0:w20.cell? ⟨gb392,0,none⟩=some (.string a1_0):=(blk_cell BK392.out 0).trans rfl;have hcz27_1:w20.cell? ⟨gb392,1,none⟩=some (.int .i64 a1_1):=(blk_cell BK392.out 1).trans rfl;have hcz27_2:w20.cell? ⟨gb392,2,none⟩=some (.bool a1_2):=(blk_cell BK392.out 2).trans rfl;have hcz27_3:w20.cell? ⟨gb392,3,none⟩=some (.slice A1_3 l1_3.length c1_3):=(blk_cell BK392.out 3).trans rfl;have hcz27_4:w20.cell? ⟨gb392,4,none⟩=some (.slice A1_4 l1_4.length c1_4):=(blk_cell BK392.out 4).trans rfl;have hcz27_5:w20.cell? ⟨gb392,5,none⟩=some (.int .i64 a1_5):=(blk_cell BK392.out 5).trans rfl;have hcz27_6:w20.cell? ⟨gb392,6,none⟩=some (.int .i64 a1_6):=(blk_cell BK392.out 6).trans rfl;have hcz27_7:w20.cell? ⟨gb392,7,none⟩=some (.slice A1_7 l1_7.length c1_7):=(blk_cell BK392.out 7).trans rfl;have hfz27_0:=blk_frozen BK392.out 0;have hfz27_1:=blk_frozen BK392.out 1;have hfz27_2:=blk_frozen BK392.out 2;have hfz27_3:=blk_frozen BK392.out 3;have hfz27_4:=blk_frozen BK392.out 4;have hfz27_5:=blk_frozen BK392.out 5;have hfz27_6:=blk_frozen BK392.out 6;have hfz27_7:=blk_frozen BK392.out 7;go_upto_if 36 with(first|(refine gR 80 (some 35) Tryz.func80 (laws_eqItemS.calls k _ _ l0_7 _ _ l1_7 t394 _ ?side1 ?side2 ?side3 ?side4 A23.out) ?_;(case side1=>exact(zz63 HR0_7 HB));(case side2=>exact HC0_7.out);(case side3=>exact(zz63 HR1_7 HB));(case side4=>exact HC1_7.out);rintro w28 hb;replace BK391:=A_ (bB (zz36 BK391) hb);replace BK392:=A_ (bB (zz36 BK392) hb);replace HB:=A_ (bS (zz52 HB GE391 GE392) hb);(try clear hb)))
      obtain⟨H⟩:=HF24;replace H:=iteB H;rcases H with⟨rfl,H⟩|⟨rfl,H⟩
      ·obtain rfl:=sI H
       go_wp2;go_ret;exact⟨zz0,(zz52 HB GE391 GE392)⟩
      ·obtain rfl:=sI H
       go_wp2;go_ret;exact⟨zz0,(zz52 HB GE391 GE392)⟩
     ·obtain⟨c22b0,c22b1⟩:=eqF c22
      (first|rw[c22b0]|(simp only[i64_w,i32_w];rw[c22b0])|skip)
      obtain rfl:=sI H;have hnb30:=NB391_392.out;have hnc30:=NB392_391.out;have hcz31_0:w20.cell? ⟨gb391,0,none⟩=some (.string a0_0):=(blk_cell BK391.out 0).trans rfl;have hcz31_1:w20.cell? ⟨gb391,1,none⟩=some (.int .i64 a0_1):=(blk_cell BK391.out 1).trans rfl;have hcz31_2:w20.cell? ⟨gb391,2,none⟩=some (.bool a0_2):=(blk_cell BK391.out 2).trans rfl;have hcz31_3:w20.cell? ⟨gb391,3,none⟩=some (.slice A0_3 l0_3.length c0_3):=(blk_cell BK391.out 3).trans rfl;have hcz31_4:w20.cell? ⟨gb391,4,none⟩=some (.slice A0_4 l0_4.length c0_4):=(blk_cell BK391.out 4).trans rfl;have hcz31_5:w20.cell? ⟨gb391,5,none⟩=some (.int .i64 a0_5):=(blk_cell BK391.out 5).trans rfl;have hcz31_6:w20.cell? ⟨gb391,6,none⟩=some (.int .i64 a0_6):=(blk_cell BK391.out 6).trans rfl;have hcz31_7:w20.cell? ⟨gb391,7,none⟩=some (.slice A0_7 l0_7.length c0_7):=(blk_cell BK391.out 7).trans rfl;have hfz31_0:=blk_frozen BK391.out 0;have hfz31_1:=blk_frozen BK391.out 1;have hfz31_2:=blk_frozen BK391.out 2;have hfz31_3:=blk_frozen BK391.out 3;have hfz31_4:=blk_frozen BK391.out 4;have hfz31_5:=blk_frozen BK391.out 5;have hfz31_6:=blk_frozen BK391.out 6;have hfz31_7:=blk_frozen BK391.out 7;have hcz32_0:w20.cell? ⟨gb392,0,none⟩=some (.string a1_0):=(blk_cell BK392.out 0).trans rfl;have hcz32_1:w20.cell? ⟨gb392,1,none⟩=some (.int .i64 a1_1):=(blk_cell BK392.out 1).trans rfl;have hcz32_2:w20.cell? ⟨gb392,2,none⟩=some (.bool a1_2):=(blk_cell BK392.out 2).trans rfl;have hcz32_3:w20.cell? ⟨gb392,3,none⟩=some (.slice A1_3 l1_3.length c1_3):=(blk_cell BK392.out 3).trans rfl;have hcz32_4:w20.cell? ⟨gb392,4,none⟩=some (.slice A1_4 l1_4.length c1_4):=(blk_cell BK392.out 4).trans rfl;have hcz32_5:w20.cell? ⟨gb392,5,none⟩=some (.int .i64 a1_5):=(blk_cell BK392.out 5).trans rfl;have hcz32_6:w20.cell? ⟨gb392,6,none⟩=some (.int .i64 a1_6):=(blk_cell BK392.out 6).trans rfl;have hcz32_7:w20.cell? ⟨gb392,7,none⟩=some (.slice A1_7 l1_7.length c1_7):=(blk_cell BK392.out 7).trans rfl;have hfz32_0:=blk_frozen BK392.out 0;have hfz32_1:=blk_frozen BK392.out 1;have hfz32_2:=blk_frozen BK392.out 2;have hfz32_3:=blk_frozen BK392.out 3;have hfz32_4:=blk_frozen BK392.out 4;have hfz32_5:=blk_frozen BK392.out 5;have hfz32_6:=blk_frozen BK392.out 6;have hfz32_7:=blk_frozen BK392.out 7;go_wp2;go_ret;exact⟨zz0,(zz52 HB GE391 GE392)⟩
    ·obtain rfl:=sI H
     go_wp2;go_ret;exact⟨zz0,(zz52 HB GE391 GE392)⟩
  ·obtain rfl:=sI H
   have hnb33:=NB391_392.out;have hnc33:=NB392_391.out;have hcz34_0:w5.cell? ⟨gb391,0,none⟩=some (.string a0_0):=(blk_cell BK391.out 0).trans rfl;have hcz34_1:w5.cell? ⟨gb391,1,none⟩=some (.int .i64 a0_1):=(blk_cell BK391.out 1).trans rfl;have hcz34_2:w5.cell? ⟨gb391,2,none⟩=some (.bool a0_2):=(blk_cell BK391.out 2).trans rfl;have hcz34_3:w5.cell? ⟨gb391,3,none⟩=some (.slice A0_3 l0_3.length c0_3):=(blk_cell BK391.out 3).trans rfl;have hcz34_4:w5.cell? ⟨gb391,4,none⟩=some (.slice A0_4 l0_4.length c0_4):=(blk_cell BK391.out 4).trans rfl;have hcz34_5:w5.cell? ⟨gb391,5,none⟩=some (.int .i64 a0_5):=(blk_cell BK391.out 5).trans rfl;have hcz34_6:w5.cell? ⟨gb391,6,none⟩=some (.int .i64 a0_6):=(blk_cell BK391.out 6).trans rfl;have hcz34_7:w5.cell? ⟨gb391,7,none⟩=some (.slice A0_7 l0_7.length c0_7):=(blk_cell BK391.out 7).trans rfl;have hfz34_0:=blk_frozen BK391.out 0;have hfz34_1:=blk_frozen BK391.out 1;have hfz34_2:=blk_frozen BK391.out 2;have hfz34_3:=blk_frozen BK391.out 3;have hfz34_4:=blk_frozen BK391.out 4;have hfz34_5:=blk_frozen BK391.out 5;have hfz34_6:=blk_frozen BK391.out 6;have hfz34_7:=blk_frozen BK391.out 7;have hcz35_0:w5.cell? ⟨gb392,0,none⟩=some (.string a1_0):=(blk_cell BK392.out 0).trans rfl;have hcz35_1:w5.cell? ⟨gb392,1,none⟩=some (.int .i64 a1_1):=(blk_cell BK392.out 1).trans rfl;have hcz35_2:w5.cell? ⟨gb392,2,none⟩=some (.bool a1_2):=(blk_cell BK392.out 2).trans rfl;have hcz35_3:w5.cell? ⟨gb392,3,none⟩=some (.slice A1_3 l1_3.length c1_3):=(blk_cell BK392.out 3).trans rfl;have hcz35_4:w5.cell? ⟨gb392,4,none⟩=some (.slice A1_4 l1_4.length c1_4):=(blk_cell BK392.out 4).trans rfl;have hcz35_5:w5.cell? ⟨gb392,5,none⟩=some (.int .i64 a1_5):=(blk_cell BK392.out 5).trans rfl;have hcz35_6:w5.cell? ⟨gb392,6,none⟩=some (.int .i64 a1_6):=(blk_cell BK392.out 6).trans rfl;have hcz35_7:w5.cell? ⟨gb392,7,none⟩=some (.slice A1_7 l1_7.length c1_7):=(blk_cell BK392.out 7).trans rfl;have hfz35_0:=blk_frozen BK392.out 0;have hfz35_1:=blk_frozen BK392.out 1;have hfz35_2:=blk_frozen BK392.out 2;have hfz35_3:=blk_frozen BK392.out 3;have hfz35_4:=blk_frozen BK392.out 4;have hfz35_5:=blk_frozen BK392.out 5;have hfz35_6:=blk_frozen BK392.out 6;have hfz35_7:=blk_frozen BK392.out 7;go_wp2;go_ret;exact⟨zz0,(zz52 HB GE391 GE392)⟩
 ·(first|rw[c9b0]|(simp only[i64_w,i32_w];rw[c9b0])|skip)
  obtain rfl:=sI H;go_wp2;go_ret;exact⟨zz0,(zz52 HB GE391 GE392)⟩
def laws_eqHouseS.l0:Nat→List (S43)→List (S43)→Int→Option (Bool)
 |0,_,_,_=>none
 |k+1,x0,x1,x5=>if x5<(x0.length:Int)then(if 0≤x5 then(if x5<(x1.length:Int)then((laws_eqHouse.f k ((rd_T43 x0 x5).f0) ((rd_T43 x0 x5).f1) ((rd_T43 x0 x5).f2) ((rd_T43 x0 x5).f3.f0) ((rd_T43 x0 x5).f3.f1) ((rd_T43 x0 x5).f3.f2) ((rd_T43 x0 x5).f4) ((rd_T43 x0 x5).f5) ((rd_T43 x1 x5).f0) ((rd_T43 x1 x5).f1) ((rd_T43 x1 x5).f2) ((rd_T43 x1 x5).f3.f0) ((rd_T43 x1 x5).f3.f1) ((rd_T43 x1 x5).f3.f2) ((rd_T43 x1 x5).f4) ((rd_T43 x1 x5).f5)).bind fun t397=>(if t397=true then(laws_eqHouseS.l0 k x0 x1 (wrap64 (x5+1)))else(some false)))else(none))else(none))else(some true)
def laws_eqHouseS.f (k:Nat)(l0:List (S43))(l1:List (S43)):Option (Bool):=if(l0.length:Int)=(l1.length:Int)then(laws_eqHouseS.l0 k l0 l1 0)else(some false)
def laws_eqHouseS.T6:Bool×List (List Nat×List Nat):=(true,[([],[]),([],[]),([0,1],[0,1]),([2],[2]),([],[]),([],[]),([4,5],[4,5]),([6],[6]),([3,7],[3,7]),([8],[8])])
def laws_eqHouseS.B6:List Nat:=[0,0,3,7,0,0,48,112,255,511]
theorem laws_eqHouseS.tab6:rtab .any (opsOf Tryz.f24 6)=laws_eqHouseS.T6:=by kernel_rfl
theorem laws_eqHouseS.bits6:waitsOk laws_eqHouseS.T6.2 laws_eqHouseS.B6=true:=by kernel_rfl
theorem laws_eqHouseS.calls (k:Nat)(A0:Option Addr)(c0:Nat)(l0:List (S43))(A1:Option Addr)(c1:Nat)(l1:List (S43))(r:Bool)(w:World)(hr0:Kd.C k43 w A0 l0.length l0)(hc0:l0.length≤c0)(hr1:Kd.C k43 w A1 l1.length l1)(hc1:l1.length≤c1)(h:laws_eqHouseS.f k l0 l1=some r):
  Calls Tryz.prog 24 #[.slice A0 l0.length c0,.slice A1 l1.length c1] w fun e w'=>e=.returned (.bool r)∧Below w.heap.size w w':=by
 have hu43:=Tryz.underlying43;have HR0:=A_ hr0;have HC0:=A_ hc0;clear hr0 hc0;have HR1:=A_ hr1;have HC1:=A_ hc1;clear hr1 hc1;have HB:=A_ (Below.refl w.heap.size w);unfold laws_eqHouseS.f at h;have H:=h;clear h;replace H:=iteE H;rcases H with⟨c3,H⟩|⟨c3,H⟩
 ·obtain⟨c3b0,c3b1⟩:=eqT c3
  have c3b2:(l0.length==l1.length)=true:=by first|simpa using c3|(simp at c3 ⊢;omega)
  clear c3;have H':=A_ H;clear H;go_enter Tryz.func24,Tryz.ntmps24;go_wp2
  go_loopg [5] k (fun kq v5 w'=>∃(x5_1:Int),v5=.int .i64 x5_1∧Aside0 (laws_eqHouseS.l0 kq l0 l1 x5_1=some r)∧Aside0 (kq≤k)∧Aside0 (Below w.heap.size w w'))
  case atStart=>exact⟨(0),zz2,H',⟨lL_ _⟩,⟨(zz1 HB)⟩⟩
  case round=>
   clear H';obtain⟨x5_1,rfl,HA,HK1,HB⟩:=hrel;cases gk with
   |zero=>exact absurd HA.out (by simp[laws_eqHouseS.l0])
   |succ k1=>
    obtain⟨H⟩:=HA;simp only[laws_eqHouseS.l0]at H;replace H:=iteEd H;rcases H with⟨c4b0,H⟩|⟨c4b0,H⟩
    ·replace H:=iteNd H
     obtain⟨c5b0,H⟩:=H;replace H:=iteNd H;obtain⟨c6b0,H⟩:=H;replace H:=bindA H;obtain⟨t397,A7,H⟩:=H;have HF8:=A_ H;clear H;try go_wp2;replace HB:=A_ (below_drew1 HB.out);have p395:0≤(x5_1:Int):=ofD;have q395:x5_1<(l0.length:Int):=ofD;obtain⟨ad395,A395_3,c395_3,A395_4,c395_4,A395_7,c395_7,e395,hx395_0,hx395_1,hx395_2,hx395_3,hx395_4,hx395_5,hx395_6,hx395_7,hl395_3,hi395_3,hl395_4,hi395_4,hl395_7,hi395_7⟩:=at_T43 HR0.out x5_1 p395 q395;have hw395_7:=hx395_7;have hw395_6:=hx395_6;have hw395_5:=hx395_5;have hw395_4:=hx395_4;have hw395_3:=hx395_3;have hw395_2:=hx395_2;have hw395_1:=hx395_1;have hw395_0:=hx395_0;cases e395;obtain⟨hx395_0,hx395_1,hx395_2,hx395_3⟩:=cb4 HB hx395_0 hx395_1 hx395_2 hx395_3;obtain⟨hx395_4,hx395_5,hx395_6,hx395_7⟩:=cb4 HB hx395_4 hx395_5 hx395_6 hx395_7;have HR395_3:=A_ hi395_3;have HC395_3:=A_ hl395_3;clear hi395_3 hl395_3;have HR395_4:=A_ hi395_4;have HC395_4:=A_ hl395_4;clear hi395_4 hl395_4;have HR395_7:=A_ hi395_7;have HC395_7:=A_ hl395_7;clear hi395_7 hl395_7;replace p395:=eq_true p395;replace q395:=eq_true q395;have p396:0≤(x5_1:Int):=ofD;have q396:x5_1<(l1.length:Int):=ofD;obtain⟨ad396,A396_3,c396_3,A396_4,c396_4,A396_7,c396_7,e396,hx396_0,hx396_1,hx396_2,hx396_3,hx396_4,hx396_5,hx396_6,hx396_7,hl396_3,hi396_3,hl396_4,hi396_4,hl396_7,hi396_7⟩:=at_T43 HR1.out x5_1 p396 q396;have hw396_7:=hx396_7;have hw396_6:=hx396_6;have hw396_5:=hx396_5;have hw396_4:=hx396_4;have hw396_3:=hx396_3;have hw396_2:=hx396_2;have hw396_1:=hx396_1;have hw396_0:=hx396_0;cases e396;obtain⟨hx396_0,hx396_1,hx396_2,hx396_3⟩:=cb4 HB hx396_0 hx396_1 hx396_2 hx396_3;obtain⟨hx396_4,hx396_5,hx396_6,hx396_7⟩:=cb4 HB hx396_4 hx396_5 hx396_6 hx396_7;have HR396_3:=A_ hi396_3;have HC396_3:=A_ hl396_3;clear hi396_3 hl396_3;have HR396_4:=A_ hi396_4;have HC396_4:=A_ hl396_4;clear hi396_4 hl396_4;have HR396_7:=A_ hi396_7;have HC396_7:=A_ hl396_7;clear hi396_7 hl396_7;replace p396:=eq_true p396;replace q396:=eq_true q396;refine start_ (n:=10) (S:=fun w'=>w'.cell? (ad395.add ((x5_1).toNat*8))=some (.string ((rd_T43 l0 x5_1).f0))∧w'.cell? ⟨(ad395.add ((x5_1).toNat*8)).block,(ad395.add ((x5_1).toNat*8)).off+1,none⟩=some (.int .i64 ((rd_T43 l0 x5_1).f1))∧w'.cell? ⟨(ad395.add ((x5_1).toNat*8)).block,(ad395.add ((x5_1).toNat*8)).off+2,none⟩=some (.bool ((rd_T43 l0 x5_1).f2))∧w'.cell? ⟨(ad395.add ((x5_1).toNat*8)).block,(ad395.add ((x5_1).toNat*8)).off+3,none⟩=some (.slice A395_3 ((rd_T43 l0 x5_1).f3.f0).length c395_3)∧w'.cell? ⟨(ad395.add ((x5_1).toNat*8)).block,(ad395.add ((x5_1).toNat*8)).off+4,none⟩=some (.slice A395_4 ((rd_T43 l0 x5_1).f3.f1).length c395_4)∧w'.cell? ⟨(ad395.add ((x5_1).toNat*8)).block,(ad395.add ((x5_1).toNat*8)).off+5,none⟩=some (.int .i64 ((rd_T43 l0 x5_1).f3.f2))∧w'.cell? ⟨(ad395.add ((x5_1).toNat*8)).block,(ad395.add ((x5_1).toNat*8)).off+6,none⟩=some (.int .i64 ((rd_T43 l0 x5_1).f4))∧w'.cell? ⟨(ad395.add ((x5_1).toNat*8)).block,(ad395.add ((x5_1).toNat*8)).off+7,none⟩=some (.slice A395_7 ((rd_T43 l0 x5_1).f5).length c395_7)∧w'.cell? (ad396.add ((x5_1).toNat*8))=some (.string ((rd_T43 l1 x5_1).f0))∧w'.cell? ⟨(ad396.add ((x5_1).toNat*8)).block,(ad396.add ((x5_1).toNat*8)).off+1,none⟩=some (.int .i64 ((rd_T43 l1 x5_1).f1))∧w'.cell? ⟨(ad396.add ((x5_1).toNat*8)).block,(ad396.add ((x5_1).toNat*8)).off+2,none⟩=some (.bool ((rd_T43 l1 x5_1).f2))∧w'.cell? ⟨(ad396.add ((x5_1).toNat*8)).block,(ad396.add ((x5_1).toNat*8)).off+3,none⟩=some (.slice A396_3 ((rd_T43 l1 x5_1).f3.f0).length c396_3)∧w'.cell? ⟨(ad396.add ((x5_1).toNat*8)).block,(ad396.add ((x5_1).toNat*8)).off+4,none⟩=some (.slice A396_4 ((rd_T43 l1 x5_1).f3.f1).length c396_4)∧w'.cell? ⟨(ad396.add ((x5_1).toNat*8)).block,(ad396.add ((x5_1).toNat*8)).off+5,none⟩=some (.int .i64 ((rd_T43 l1 x5_1).f3.f2))∧w'.cell? ⟨(ad396.add ((x5_1).toNat*8)).block,(ad396.add ((x5_1).toNat*8)).off+6,none⟩=some (.int .i64 ((rd_T43 l1 x5_1).f4))∧w'.cell? ⟨(ad396.add ((x5_1).toNat*8)).block,(ad396.add ((x5_1).toNat*8)).off+7,none⟩=some (.slice A396_7 ((rd_T43 l1 x5_1).f5).length c396_7)) (ds:=[]) #[yF,yF,yF,yF,yF,yF,yF,yF,yF,yF] (by kernel_rfl) rfl rfl ⟨((HB.out.cell (wb_ w _ hw395_0)).trans hw395_0),((HB.out.cell (wb_ w _ hw395_1)).trans hw395_1),((HB.out.cell (wb_ w _ hw395_2)).trans hw395_2),((HB.out.cell (wb_ w _ hw395_3)).trans hw395_3),((HB.out.cell (wb_ w _ hw395_4)).trans hw395_4),((HB.out.cell (wb_ w _ hw395_5)).trans hw395_5),((HB.out.cell (wb_ w _ hw395_6)).trans hw395_6),((HB.out.cell (wb_ w _ hw395_7)).trans hw395_7),((HB.out.cell (wb_ w _ hw396_0)).trans hw396_0),((HB.out.cell (wb_ w _ hw396_1)).trans hw396_1),((HB.out.cell (wb_ w _ hw396_2)).trans hw396_2),((HB.out.cell (wb_ w _ hw396_3)).trans hw396_3),((HB.out.cell (wb_ w _ hw396_4)).trans hw396_4),((HB.out.cell (wb_ w _ hw396_5)).trans hw396_5),((HB.out.cell (wb_ w _ hw396_6)).trans hw396_6),((HB.out.cell (wb_ w _ hw396_7)).trans hw396_7)⟩ (fun hHeld=>?_);refine with_tabW laws_eqHouseS.tab6 laws_eqHouseS.bits6 (fun HT_ HW_=>?_);generalize wr.drew=w9 at HB HR395_3 HR395_4 HR395_7 HR396_3 HR396_4 HR396_7 hx395_0 hx395_1 hx395_2 hx395_3 hx395_4 hx395_5 hx395_6 hx395_7 hx396_0 hx396_1 hx396_2 hx396_3 hx396_4 hx396_5 hx396_6 hx396_7 hHeld ⊢;refine pureZ 0 (some 17) (yA 1 9) ?_;refine pureZ 1 (some 18) (yA 2 8) ?_;refine pureZ 2 (some 19) (yA 3 7) ?_;refine pureZ 4 (some 21) #[yT,yT,yT,yF,yT,yF,yF,yF,yF,yF] ?_;refine pureZ 5 (some 22) #[yT,yT,yT,yF,yT,yT,yF,yF,yF,yF] ?_;refine pureZ 6 (some 23) #[yT,yT,yT,yF,yT,yT,yT,yF,yF,yF] ?_;refine takeZ16 3 (some 20) (yA 7 3) hHeld ?_;refine takeZ16 7 (some 24) (yA 8 2) hHeld ?_;refine oneZ 8 (some 25) (yA 9 1) (fun K hK=>?_);refine goes_ Tryz.func57 (by kernel_rfl) rfl #[.agg #[.string ((rd_T43 l0 x5_1).f0),.int .i64 ((rd_T43 l0 x5_1).f1),.bool ((rd_T43 l0 x5_1).f2),.slice A395_3 ((rd_T43 l0 x5_1).f3.f0).length c395_3,.slice A395_4 ((rd_T43 l0 x5_1).f3.f1).length c395_4,.int .i64 ((rd_T43 l0 x5_1).f3.f2),.int .i64 ((rd_T43 l0 x5_1).f4),.slice A395_7 ((rd_T43 l0 x5_1).f5).length c395_7],.agg #[.string ((rd_T43 l1 x5_1).f0),.int .i64 ((rd_T43 l1 x5_1).f1),.bool ((rd_T43 l1 x5_1).f2),.slice A396_3 ((rd_T43 l1 x5_1).f3.f0).length c396_3,.slice A396_4 ((rd_T43 l1 x5_1).f3.f1).length c396_4,.int .i64 ((rd_T43 l1 x5_1).f3.f2),.int .i64 ((rd_T43 l1 x5_1).f4),.slice A396_7 ((rd_T43 l1 x5_1).f5).length c396_7]] (by rfl) rfl rfl zz47 ?_;with_reducible refine(laws_eqHouse.calls k1 ((rd_T43 l0 x5_1).f0) ((rd_T43 l0 x5_1).f1) ((rd_T43 l0 x5_1).f2) _ _ ((rd_T43 l0 x5_1).f3.f0) _ _ ((rd_T43 l0 x5_1).f3.f1) ((rd_T43 l0 x5_1).f3.f2) ((rd_T43 l0 x5_1).f4) _ _ ((rd_T43 l0 x5_1).f5) ((rd_T43 l1 x5_1).f0) ((rd_T43 l1 x5_1).f1) ((rd_T43 l1 x5_1).f2) _ _ ((rd_T43 l1 x5_1).f3.f0) _ _ ((rd_T43 l1 x5_1).f3.f1) ((rd_T43 l1 x5_1).f3.f2) ((rd_T43 l1 x5_1).f4) _ _ ((rd_T43 l1 x5_1).f5) t397 _ ?side1 ?side2 ?side3 ?side4 ?side5 ?side6 ?side7 ?side8 ?side9 ?side10 ?side11 ?side12 A7.out).mono ?_
     (case side1=>exact(zz63 HR395_3 HB))
     (case side2=>exact HC395_3.out)
     (case side3=>exact(zz63 HR395_4 HB))
     (case side4=>exact HC395_4.out)
     (case side5=>exact(zz63 HR395_7 HB))
     (case side6=>exact HC395_7.out)
     (case side7=>exact(zz63 HR396_3 HB))
     (case side8=>exact HC396_3.out)
     (case side9=>exact(zz63 HR396_4 HB))
     (case side10=>exact HC396_4.out)
     (case side11=>exact(zz63 HR396_7 HB))
     (case side12=>exact HC396_7.out)
     rintro e w10 ⟨rfl,hb⟩;refine⟨_,rfl,?_⟩;replace HB:=A_ (bS (zz1 HB) hb);(try clear hb)
     (try clear hb2)
     (try clear hk)
     (try clear hi)
     refine hK.out _ _ ⟨((HB.out.cell (wb_ w _ hw395_0)).trans hw395_0),((HB.out.cell (wb_ w _ hw395_1)).trans hw395_1),((HB.out.cell (wb_ w _ hw395_2)).trans hw395_2),((HB.out.cell (wb_ w _ hw395_3)).trans hw395_3),((HB.out.cell (wb_ w _ hw395_4)).trans hw395_4),((HB.out.cell (wb_ w _ hw395_5)).trans hw395_5),((HB.out.cell (wb_ w _ hw395_6)).trans hw395_6),((HB.out.cell (wb_ w _ hw395_7)).trans hw395_7),((HB.out.cell (wb_ w _ hw396_0)).trans hw396_0),((HB.out.cell (wb_ w _ hw396_1)).trans hw396_1),((HB.out.cell (wb_ w _ hw396_2)).trans hw396_2),((HB.out.cell (wb_ w _ hw396_3)).trans hw396_3),((HB.out.cell (wb_ w _ hw396_4)).trans hw396_4),((HB.out.cell (wb_ w _ hw396_5)).trans hw396_5),((HB.out.cell (wb_ w _ hw396_6)).trans hw396_6),((HB.out.cell (wb_ w _ hw396_7)).trans hw396_7)⟩ (fun hHeld=>?_);clear hK K;refine nZ 25 ?_;refine pureZ 9 (some 26) (yA 10 0) ?_;refine done_ (done_of HT_.out (by kernel_rfl)) ?_;go_upto_if 26 with(fail)
     obtain⟨H⟩:=HF8;replace H:=iteB H;rcases H with⟨rfl,H⟩|⟨rfl,H⟩
     ·have H':=A_ H
      clear H;go_wp2
      go_roundg k1
      case measure=>have:=HK1.out;omega
      case rel=>exact⟨(wrap64 (x5_1+1)),zz2,H',⟨(zz5 HK1)⟩,⟨(zz1 HB)⟩⟩
     ·obtain rfl:=sI H
      go_wp2;go_ret;exact⟨zz0,(zz1 HB)⟩
    ·obtain rfl:=sI H
     go_wp2;go_ret;exact⟨zz0,(zz1 HB)⟩
 ·obtain⟨c3b0,c3b1⟩:=eqF c3
  have c3b2:(l0.length==l1.length)=false:=by first|simpa using c3|(simp at c3 ⊢;omega)
  obtain rfl:=sI H;go_enter Tryz.func24,Tryz.ntmps24;go_wp2;go_ret;exact⟨zz0,(zz1 HB)⟩
end Go.Proofs.YtalfefmnlnkcaaaGreatDoor.P
end
