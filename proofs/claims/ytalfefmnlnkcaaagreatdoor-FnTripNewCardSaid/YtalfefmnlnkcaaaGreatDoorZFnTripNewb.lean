/- Part 2 of the proof of FnTripNew: the plain functions of what it reaches, that Go comes to just their answers, what they answer, and the words that the walks use; conditions: each theorem's own. -/
import Derived.Test.YtalfefmnlnkcaaaGreatDoorZFnTripNewa
import Derived.Laws.StructEq
import Derived.RowKit
import Derived.Test.YtalfefmnlnkcaaaGreatDoorProg
import Derived.Below
import Derived.Deep.Draws
import Derived.Deep.AppendLies
import Derived.Maps.AppendAt
import Derived.OwnWalk
import Derived.Laws.BytesArg
import Derived.Laws.MakeOwn
import Derived.Laws.OwnMore
import Derived.Deep.OwnRows
import Derived.Tactics
import Derived.Lib.ConvBytes
import Derived.Laws.Slices
import Derived.WalkKit
import Derived.KernelRfl
import Derived.RowKit3
import Derived.Deep.LoopGhost
import Derived.Deep.QuietTactic
import Derived.BigQuiet
import Derived.WideLaws
import Derived.Deep.DeepCutAuto
import Derived.Deep.CutBlock
import Derived.Deep.RegionHeld3
import Derived.Laws.Rows
import Derived.Lib.AppendStr
import Derived.ArgAppend
import Derived.Laws.IdiomCopy
import Derived.OrdersHeld
import Derived.Laws.BitsLemmas
import Derived.Shelf.Strings.Builder1
import Derived.Shelf.Strings.Builder2
import Derived.Shelf.Strings.OnBuilder
import Derived.Shelf.Small.Utf8
import Derived.Shelf.Small.Strs
import Derived.Shelf.Small.Wraps
import Derived.Shelf.Strings.BuilderF
import Derived.Shelf.Strings.BuilderK
import Derived.Shelf.Strings.Builder2Cap
import Derived.Shelf.Strings.Search1
import Derived.Shelf.Strings.Search2
import Derived.Shelf.Strings.Search3
import Derived.Shelf.Strings.Cut
import Derived.Shelf.Strings.Count
import Derived.Shelf.LaysM
import Derived.Shelf.Strings.Shaped
import Derived.Shelf.Strings.Prefix
import Derived.Shelf.Strings.Runes
import Derived.Shelf.Strings.IndexAny
import Derived.Shelf.Strings.AsciiSet
import Derived.Shelf.Strings.IndexAnyAll
import Derived.Shelf.Unicode.DecodeSlow
import Derived.Shelf.Strings.BuilderCap
import Derived.Shelf.Slices.Turned
import Derived.Ground.Names2Prog
import Derived.Shelf.Slices.Clone

set_option linter.unusedVariables false
set_option linter.unusedSimpArgs false
section
namespace Go.Proofs.YtalfefmnlnkcaaaGreatDoorW.PrintWords
open Go.RowKit
section
variable {P:Program}{d:Nat}{xs ys:Array Value}{f:Field}{fs:List Field}{a b:Value}{r s:Bool}{w:World}
theorem eqf_last (hn:(f.name == "_")=false)(ha:(part f.type xs f.offset).run P w=.ok a w)(hb:(part f.type ys f.offset).run P w=.ok b w)(he:(Op.equalIn d f.type a b).run P w=.ok r w):(Op.eqFields d xs ys [f]).run P w=.ok r w:=by
 have hn':f.name ≠ "_" := by simpa using hn
 simp only[Op.eqFields,if_pos hn',Sem.run_bind,ha,hb,he,Result.andThen_ok];cases r <;> simp
theorem eqf_cons (hn:(f.name == "_")=false)(ha:(part f.type xs f.offset).run P w=.ok a w)(hb:(part f.type ys f.offset).run P w=.ok b w)(he:(Op.equalIn d f.type a b).run P w=.ok r w)(hr:(Op.eqFields d xs ys fs).run P w=.ok s w):(Op.eqFields d xs ys (f::fs)).run P w=.ok (r&&s) w:=by
 have hn':f.name ≠ "_" := by simpa using hn
 rw[Op.eqFields];simp only[if_pos hn',Sem.run_bind,ha,hb,he,Result.andThen_ok];cases r
 ·simp
 ·simpa using hr
theorem eqA_of {t:TypeId}{fs:Array Field}(hu:P.underlying t=some (.struct fs))(hp:P.stoodInHeld t=false)(h:(Op.eqFields d xs ys fs.toList).run P w=.ok r w):(Op.equalIn (d+1) t (.agg xs) (.agg ys)).run P w=.ok r w:=by
 have hf:P.fieldsOf t=fs:=by simp[Program.fieldsOf,hu]
 rw[run_equalIn_struct (P:=P) w d t xs ys (by rw[hf];exact hu) hp,hf];exact h
end
end Go.Proofs.YtalfefmnlnkcaaaGreatDoorW.PrintWords
end
section
namespace Go.Proofs.YtalfefmnlnkcaaaGreatDoor.P
theorem aid_isEmpty (l:List UInt8):(l != ([]:List UInt8)) = !l.isEmpty:=by cases l <;> rfl
theorem aid_isEmpty2 (l:List UInt8):(l==([]:List UInt8))=l.isEmpty:=by cases l <;> rfl
end Go.Proofs.YtalfefmnlnkcaaaGreatDoor.P
end
section
namespace Go.Proofs.YtalfefmnlnkcaaaGreatDoor.P
open Go.RowKit Go.Proofs.YtalfefmnlnkcaaaGreatDoorW PrintWords
structure Undec (c:Prop):Prop where mk::(out:True)
theorem Undec.y_ {c:Prop}(_:c):Undec c:=⟨trivial⟩
theorem Undec.n_ {c:Prop}(_:¬c):Undec c:=⟨trivial⟩
theorem undecG {b:Bool}(h:Undec (b=true):=by(fail_if_success exact Undec.y_ rfl);(fail_if_success exact Undec.n_ (by decide));exact Undec.mk trivial):Undec (b=true):=h
theorem undecI {c:Prop}(h:Undec c:=by(fail_if_success exact Undec.y_ (by first|(with_reducible assumption)|((try simp only[decide_eq_true_eq,decide_eq_false_iff_not]at *);omega)|decide));(fail_if_success exact Undec.n_ (by first|(with_reducible assumption)|((try simp only[decide_eq_true_eq,decide_eq_false_iff_not]at *);omega)|decide));exact Undec.mk trivial):Undec c:=h
def MetP (J:Prop):Prop:=J
theorem atG {P:Program}{ops:Array Oper}{Q:Exit→Act→World→Prop}{a:Act}{w:World}{rest:List Oper}{d:Option Tmp}{op:Op}{ty:TypeId}{pos:String}{af:Array Edge}{j:Nat}{g b:Bool}
  (_hy:yielded ops a.tmps j=some b) (_nl:Undec (b=true)) (h:∀K:Prop,Aside0 (K=wpList P ops Q (⟨d,op,ty,pos,af,some (j,g)⟩::rest) a w)→MetP K):
  wpList P ops Q (⟨d,op,ty,pos,af,some (j,g)⟩::rest) a w:=h _ ⟨rfl⟩
theorem atI {c A B:Prop}[Decidable c](_nl:Undec c)(h:∀K:Prop,Aside0 (K=if c then A else B)→MetP K):if c then A else B:=h _ ⟨rfl⟩
theorem unG {A K:Prop}(hK:Aside0 (K=A))(h:A):MetP K:=by rw[hK.out];exact h
theorem iteT {c A B:Prop}[Decidable c](h:A)(hc:c:=by first|rfl|(with_reducible assumption)|omega|decide|exact List.length_eq_zero_iff.mp (by omega)|(intro h_;simp only[h_,List.length_nil]at *;omega)):if c then A else B:=by rw[if_pos hc];exact h
theorem iteF {c A B:Prop}[Decidable c](h:B)(hc:¬c:=by first|(with_reducible assumption)|decide|omega|exact fun h_=>h_ (List.length_eq_zero_iff.mp (by omega))|(intro h_;simp only[h_,List.length_nil]at *;omega)):if c then A else B:=by rw[if_neg hc];exact h
theorem upS {P:Program}{o:Oper}{a:Act}{next:Act→World→Prop}{Q:Exit→Act→World→Prop}{r:Result Next}(h:Oper.upon P o a next Q r):Oper.upon P o a next Q r:=h
end Go.Proofs.YtalfefmnlnkcaaaGreatDoor.P
end
section
namespace Go.Proofs.YtalfefmnlnkcaaaGreatDoor.P
open Go.RowKit Go.Proofs.YtalfefmnlnkcaaaGreatDoorW PrintWords PrintLast PrintMore
attribute [local go_sem] max2_int min2_int max_two min_two max_three min_three max_four min_four
def errW:Option Int→Value
 |none=>.nilIface
 |some c=>.iface 0 (.int .i64 c)
theorem errW_none:errW none=.nilIface:=rfl
theorem errW_some (c:Int):errW (some c)=.iface 0 (.int .i64 c):=rfl
theorem info5:(Tryz.prog.info? 5).map (fun i=>(i.zero,i.size,i.bytes))=some (some (.int .u8 0),1,1):=by kernel_rfl
theorem info9:(Tryz.prog.info? 9).map (fun i=>(i.zero,i.size,i.bytes))=some (some (.string ⟨#[]⟩),1,16):=by kernel_rfl
structure S98 where
 f0:Bool
 f1:BA
def z98:S98:=⟨false,(⟨#[]⟩:BA)⟩
def k98:Kd S98:=Kd.iso (Kd.pair Kd.bool Kd.string) (fun x:S98=>(x.f0,x.f1))
theorem k98_open {w:World}{x:S98}{cs:List Value}(h:k98.K w x cs):cs=[.bool x.f0,.string x.f1]:=by
 obtain⟨_,_,rfl,rfl,rfl⟩:=h;exact rfl
def rd_T98 (xs:List S98)(i:Int):S98:=xs.getD i.toNat z98
theorem at_T98 {w:World}{A:Option Addr}{n:Nat}{xs:List S98}(h:Kd.C k98 w A n xs)(i:Int)(h0:0≤i)(h1:i<n):∃ad , A=some ad∧w.cell? (ad.add (i.toNat*2))=some (.bool (rd_T98 xs i).f0)∧w.cell? ⟨(ad.add (i.toNat*2)).block,(ad.add (i.toNat*2)).off+1,none⟩=some (.string (rd_T98 xs i).f1):=by
 obtain⟨ad,c,e,_,hK,hc0⟩:=Kd.C_get h z98 i h0 h1;have hc:∀j u,c[j]?=some u→w.cell? (ad.add (i.toNat*2+j))=some u:=hc0;obtain rfl:=k98_open hK;exact⟨ad,e,hc 0 _ rfl,by rw[←add_field _ _ 1 (by omega)];exact hc 1 _ rfl⟩
structure S40 where
 f0:(List BA)
 f1:(List S98)
 f2:Int
def z40:S40:=⟨([]:List BA),([]:List S98),(0:Int)⟩
def k40:Kd S40:=Kd.iso (Kd.pair (Kd.slice 9 Kd.string) (Kd.pair (Kd.slice 98 k98) (Kd.int .i64))) (fun x:S40=>(x.f0,x.f1,x.f2))
theorem k40_open {w:World}{x:S40}{cs:List Value}(h:k40.K w x cs):∃A0 c0 A1 c1,cs=[.slice A0 x.f0.length c0,.slice A1 x.f1.length c1,.int .i64 x.f2]∧x.f0.length≤c0∧Kd.string.C w A0 x.f0.length x.f0∧x.f1.length≤c1∧k98.C w A1 x.f1.length x.f1:=by
 obtain⟨_,_,rfl,⟨A0,c0,rfl,l0,g0⟩,⟨_,_,rfl,⟨A1,c1,rfl,l1,g1⟩,rfl⟩⟩:=h;exact⟨A0,c0,A1,c1,rfl,l0,g0,l1,g1⟩
theorem k40_openM {w:World}{base:Nat}{ok:Nat→Prop}{x:S40}{cs:List Value}(h:k40.M w base ok x cs):∃v0 v1,cs=[v0,v1,.int .i64 x.f2]∧Kd.string.R 9 w base ok v0 x.f0∧k98.R 98 w base ok v1 x.f1:=by
 obtain⟨_,_,rfl,⟨v0,rfl,g0⟩,⟨_,_,rfl,⟨v1,rfl,g1⟩,rfl⟩⟩:=h;exact⟨v0,v1,rfl,g0,g1⟩
theorem k40_mkM (w:World)(base:Nat)(ok:Nat→Prop)(x:S40){v0:Value}(g0:Kd.string.R 9 w base ok v0 x.f0){v1:Value}(g1:k98.R 98 w base ok v1 x.f1):k40.M w base ok x [v0,v1,.int .i64 x.f2]:=⟨[v0],[v1,.int .i64 x.f2],rfl,⟨v0,rfl,g0⟩,⟨[v1],[.int .i64 x.f2],rfl,⟨v1,rfl,g1⟩,rfl⟩⟩
structure S76 where
 f0:BA
 f1:Int
def z76:S76:=⟨(⟨#[]⟩:BA),(0:Int)⟩
def k76:Kd S76:=Kd.iso (Kd.pair Kd.string (Kd.int .i64)) (fun x:S76=>(x.f0,x.f1))
theorem k76_open {w:World}{x:S76}{cs:List Value}(h:k76.K w x cs):cs=[.string x.f0,.int .i64 x.f1]:=by
 obtain⟨_,_,rfl,rfl,rfl⟩:=h;exact rfl
theorem k76_mkM (w:World)(base:Nat)(ok:Nat→Prop)(x:S76)  : k76.M w base ok x [.string x.f0,.int .i64 x.f1]:=⟨[.string x.f0],[.int .i64 x.f1],rfl,rfl,rfl⟩
def rd_T76 (xs:List S76)(i:Int):S76:=xs.getD i.toNat z76
theorem at_T76 {w:World}{A:Option Addr}{n:Nat}{xs:List S76}(h:Kd.C k76 w A n xs)(i:Int)(h0:0≤i)(h1:i<n):∃ad , A=some ad∧w.cell? (ad.add (i.toNat*2))=some (.string (rd_T76 xs i).f0)∧w.cell? ⟨(ad.add (i.toNat*2)).block,(ad.add (i.toNat*2)).off+1,none⟩=some (.int .i64 (rd_T76 xs i).f1):=by
 obtain⟨ad,c,e,_,hK,hc0⟩:=Kd.C_get h z76 i h0 h1;have hc:∀j u,c[j]?=some u→w.cell? (ad.add (i.toNat*2+j))=some u:=hc0;obtain rfl:=k76_open hK;exact⟨ad,e,hc 0 _ rfl,by rw[←add_field _ _ 1 (by omega)];exact hc 1 _ rfl⟩
structure S43 where
 f0:BA
 f1:Int
 f2:Bool
 f3:S40
 f4:Int
 f5:(List S76)
def z43:S43:=⟨(⟨#[]⟩:BA),(0:Int),false,z40,(0:Int),([]:List S76)⟩
def k43:Kd S43:=Kd.iso (Kd.pair Kd.string (Kd.pair (Kd.int .i64) (Kd.pair Kd.bool (Kd.pair k40 (Kd.pair (Kd.int .i64) (Kd.slice 76 k76)))))) (fun x:S43=>(x.f0,x.f1,x.f2,x.f3,x.f4,x.f5))
theorem k43_open {w:World}{x:S43}{cs:List Value}(h:k43.K w x cs):∃A3 c3 A4 c4 A7 c7,cs=[.string x.f0,.int .i64 x.f1,.bool x.f2,.slice A3 x.f3.f0.length c3,.slice A4 x.f3.f1.length c4,.int .i64 x.f3.f2,.int .i64 x.f4,.slice A7 x.f5.length c7]∧x.f3.f0.length≤c3∧Kd.string.C w A3 x.f3.f0.length x.f3.f0∧x.f3.f1.length≤c4∧k98.C w A4 x.f3.f1.length x.f3.f1∧x.f5.length≤c7∧k76.C w A7 x.f5.length x.f5:=by
 obtain⟨_,_,rfl,rfl,⟨_,_,rfl,rfl,⟨_,_,rfl,rfl,⟨_,_,rfl,s3,⟨_,_,rfl,rfl,⟨A7,c7,rfl,l7,g7⟩⟩⟩⟩⟩⟩:=h;obtain⟨A3,c3,A4,c4,rfl,l3,g3,l4,g4⟩:=k40_open s3;exact⟨A3,c3,A4,c4,A7,c7,rfl,l3,g3,l4,g4,l7,g7⟩
theorem k43_openM {w:World}{base:Nat}{ok:Nat→Prop}{x:S43}{cs:List Value}(h:k43.M w base ok x cs):∃v3 v4 v7,cs=[.string x.f0,.int .i64 x.f1,.bool x.f2,v3,v4,.int .i64 x.f3.f2,.int .i64 x.f4,v7]∧Kd.string.R 9 w base ok v3 x.f3.f0∧k98.R 98 w base ok v4 x.f3.f1∧k76.R 76 w base ok v7 x.f5:=by
 obtain⟨_,_,rfl,rfl,⟨_,_,rfl,rfl,⟨_,_,rfl,rfl,⟨_,_,rfl,s3,⟨_,_,rfl,rfl,⟨v7,rfl,g7⟩⟩⟩⟩⟩⟩:=h;obtain⟨v3,v4,rfl,g3,g4⟩:=k40_openM s3;exact⟨v3,v4,v7,rfl,g3,g4,g7⟩
theorem k43_mkM (w:World)(base:Nat)(ok:Nat→Prop)(x:S43){v3:Value}(g3:Kd.string.R 9 w base ok v3 x.f3.f0){v4:Value}(g4:k98.R 98 w base ok v4 x.f3.f1){v7:Value}(g7:k76.R 76 w base ok v7 x.f5):k43.M w base ok x [.string x.f0,.int .i64 x.f1,.bool x.f2,v3,v4,.int .i64 x.f3.f2,.int .i64 x.f4,v7]:=⟨[.string x.f0],[.int .i64 x.f1,.bool x.f2,v3,v4,.int .i64 x.f3.f2,.int .i64 x.f4,v7],rfl,rfl,⟨[.int .i64 x.f1],[.bool x.f2,v3,v4,.int .i64 x.f3.f2,.int .i64 x.f4,v7],rfl,rfl,⟨[.bool x.f2],[v3,v4,.int .i64 x.f3.f2,.int .i64 x.f4,v7],rfl,rfl,⟨[v3,v4,.int .i64 x.f3.f2],[.int .i64 x.f4,v7],rfl,(k40_mkM w base ok x.f3 g3 g4),⟨[.int .i64 x.f4],[v7],rfl,rfl,⟨v7,rfl,g7⟩⟩⟩⟩⟩⟩
def rd_T43 (xs:List S43)(i:Int):S43:=xs.getD i.toNat z43
theorem at_T43 {w:World}{A:Option Addr}{n:Nat}{xs:List S43}(h:Kd.C k43 w A n xs)(i:Int)(h0:0≤i)(h1:i<n):∃ad A3 c3 A4 c4 A7 c7,A=some ad∧w.cell? (ad.add (i.toNat*8))=some (.string (rd_T43 xs i).f0)∧w.cell? ⟨(ad.add (i.toNat*8)).block,(ad.add (i.toNat*8)).off+1,none⟩=some (.int .i64 (rd_T43 xs i).f1)∧w.cell? ⟨(ad.add (i.toNat*8)).block,(ad.add (i.toNat*8)).off+2,none⟩=some (.bool (rd_T43 xs i).f2)∧w.cell? ⟨(ad.add (i.toNat*8)).block,(ad.add (i.toNat*8)).off+3,none⟩=some (.slice A3 (rd_T43 xs i).f3.f0.length c3)∧w.cell? ⟨(ad.add (i.toNat*8)).block,(ad.add (i.toNat*8)).off+4,none⟩=some (.slice A4 (rd_T43 xs i).f3.f1.length c4)∧w.cell? ⟨(ad.add (i.toNat*8)).block,(ad.add (i.toNat*8)).off+5,none⟩=some (.int .i64 (rd_T43 xs i).f3.f2)∧w.cell? ⟨(ad.add (i.toNat*8)).block,(ad.add (i.toNat*8)).off+6,none⟩=some (.int .i64 (rd_T43 xs i).f4)∧w.cell? ⟨(ad.add (i.toNat*8)).block,(ad.add (i.toNat*8)).off+7,none⟩=some (.slice A7 (rd_T43 xs i).f5.length c7)∧(rd_T43 xs i).f3.f0.length≤c3∧Kd.string.C w A3 (rd_T43 xs i).f3.f0.length (rd_T43 xs i).f3.f0∧(rd_T43 xs i).f3.f1.length≤c4∧k98.C w A4 (rd_T43 xs i).f3.f1.length (rd_T43 xs i).f3.f1∧(rd_T43 xs i).f5.length≤c7∧k76.C w A7 (rd_T43 xs i).f5.length (rd_T43 xs i).f5:=by
 obtain⟨ad,c,e,_,hK,hc0⟩:=Kd.C_get h z43 i h0 h1;have hc:∀j u,c[j]?=some u→w.cell? (ad.add (i.toNat*8+j))=some u:=hc0;obtain⟨A3,c3,A4,c4,A7,c7,rfl,l3,g3,l4,g4,l7,g7⟩:=k43_open hK;exact⟨ad,A3,c3,A4,c4,A7,c7,e,hc 0 _ rfl,by rw[←add_field _ _ 1 (by omega)];exact hc 1 _ rfl,by rw[←add_field _ _ 2 (by omega)];exact hc 2 _ rfl,by rw[←add_field _ _ 3 (by omega)];exact hc 3 _ rfl,by rw[←add_field _ _ 4 (by omega)];exact hc 4 _ rfl,by rw[←add_field _ _ 5 (by omega)];exact hc 5 _ rfl,by rw[←add_field _ _ 6 (by omega)];exact hc 6 _ rfl,by rw[←add_field _ _ 7 (by omega)];exact hc 7 _ rfl,l3,g3,l4,g4,l7,g7⟩
structure S83 where
 f0:Int
 f1:BA
 f2:Int
def z83:S83:=⟨(0:Int),(⟨#[]⟩:BA),(0:Int)⟩
def k83:Kd S83:=Kd.iso (Kd.pair (Kd.int .i64) (Kd.pair Kd.string (Kd.int .i64))) (fun x:S83=>(x.f0,x.f1,x.f2))
theorem k83_open {w:World}{x:S83}{cs:List Value}(h:k83.K w x cs):cs=[.int .i64 x.f0,.string x.f1,.int .i64 x.f2]:=by
 obtain⟨_,_,rfl,rfl,⟨_,_,rfl,rfl,rfl⟩⟩:=h;exact rfl
def rd_T83 (xs:List S83)(i:Int):S83:=xs.getD i.toNat z83
theorem at_T83 {w:World}{A:Option Addr}{n:Nat}{xs:List S83}(h:Kd.C k83 w A n xs)(i:Int)(h0:0≤i)(h1:i<n):∃ad , A=some ad∧w.cell? (ad.add (i.toNat*3))=some (.int .i64 (rd_T83 xs i).f0)∧w.cell? ⟨(ad.add (i.toNat*3)).block,(ad.add (i.toNat*3)).off+1,none⟩=some (.string (rd_T83 xs i).f1)∧w.cell? ⟨(ad.add (i.toNat*3)).block,(ad.add (i.toNat*3)).off+2,none⟩=some (.int .i64 (rd_T83 xs i).f2):=by
 obtain⟨ad,c,e,_,hK,hc0⟩:=Kd.C_get h z83 i h0 h1;have hc:∀j u,c[j]?=some u→w.cell? (ad.add (i.toNat*3+j))=some u:=hc0;obtain rfl:=k83_open hK;exact⟨ad,e,hc 0 _ rfl,by rw[←add_field _ _ 1 (by omega)];exact hc 1 _ rfl,by rw[←add_field _ _ 2 (by omega)];exact hc 2 _ rfl⟩
structure S101 where
 f0:BA
 f1:BA
 f2:BA
 f3:Int
def z101:S101:=⟨(⟨#[]⟩:BA),(⟨#[]⟩:BA),(⟨#[]⟩:BA),(0:Int)⟩
def k101:Kd S101:=Kd.iso (Kd.pair Kd.string (Kd.pair Kd.string (Kd.pair Kd.string (Kd.int .i64)))) (fun x:S101=>(x.f0,x.f1,x.f2,x.f3))
theorem k101_open {w:World}{x:S101}{cs:List Value}(h:k101.K w x cs):cs=[.string x.f0,.string x.f1,.string x.f2,.int .i64 x.f3]:=by
 obtain⟨_,_,rfl,rfl,⟨_,_,rfl,rfl,⟨_,_,rfl,rfl,rfl⟩⟩⟩:=h;exact rfl
def rd_T101 (xs:List S101)(i:Int):S101:=xs.getD i.toNat z101
theorem at_T101 {w:World}{A:Option Addr}{n:Nat}{xs:List S101}(h:Kd.C k101 w A n xs)(i:Int)(h0:0≤i)(h1:i<n):∃ad , A=some ad∧w.cell? (ad.add (i.toNat*4))=some (.string (rd_T101 xs i).f0)∧w.cell? ⟨(ad.add (i.toNat*4)).block,(ad.add (i.toNat*4)).off+1,none⟩=some (.string (rd_T101 xs i).f1)∧w.cell? ⟨(ad.add (i.toNat*4)).block,(ad.add (i.toNat*4)).off+2,none⟩=some (.string (rd_T101 xs i).f2)∧w.cell? ⟨(ad.add (i.toNat*4)).block,(ad.add (i.toNat*4)).off+3,none⟩=some (.int .i64 (rd_T101 xs i).f3):=by
 obtain⟨ad,c,e,_,hK,hc0⟩:=Kd.C_get h z101 i h0 h1;have hc:∀j u,c[j]?=some u→w.cell? (ad.add (i.toNat*4+j))=some u:=hc0;obtain rfl:=k101_open hK;exact⟨ad,e,hc 0 _ rfl,by rw[←add_field _ _ 1 (by omega)];exact hc 1 _ rfl,by rw[←add_field _ _ 2 (by omega)];exact hc 2 _ rfl,by rw[←add_field _ _ 3 (by omega)];exact hc 3 _ rfl⟩
end Go.Proofs.YtalfefmnlnkcaaaGreatDoor.P
end
section
namespace Go.Proofs.YtalfefmnlnkcaaaGreatDoor.P
open Go.RowKit Go.Proofs.YtalfefmnlnkcaaaGreatDoorW PrintWords PrintLast PrintMore
theorem viaP {B:Prop}(b:B:=by simp only[putAll,Act.put,lS_,l0_,lC_]):B:=b
theorem ofD {p:Prop}[Decidable p](h:decide p=true:=by first|(with_reducible assumption)|assumption):p:=of_decide_eq_true h
theorem bindA {α β:Type}{x:Option α}{f:α→Option β}{r:β}(h:x.bind f=some r):∃a,Aside0 (x=some a)∧f a=some r:=by
 obtain⟨a,h1,h2⟩:=oE_.mp h;exact⟨a,⟨h1⟩,h2⟩
theorem bindY {α β:Type}{y:α}{f:α→Option β}{r:β}(h:(some y).bind f=some r):∃z,Aside0 (z=y)∧f z=some r:=⟨y,⟨rfl⟩,h⟩
theorem bindZ {α β:Type}{y z:α}(hz:Aside0 (z=y)){f:α→Option β}{r:β}(h:(some y).bind f=some r):f z=some r:=hz.out ▸ h
theorem toY {α:Type}(y:α):∃z,Aside0 (z=y):=⟨y,⟨rfl⟩⟩
theorem cbl {w W:World}{a:Addr}{v:Value}(hb:Aside0 (Below w.heap.size w W))(h:w.cell? a=some v):W.cell? a=some v:=(hb.out.cell (wb_ w _ h)).trans h
theorem geB {w W:World}{g:Nat}(hg:g=W.heap.size)(h:Below w.heap.size w W):Aside0 (w.heap.size≤g):=⟨by rw[hg];exact below_size h⟩
theorem rt {α:Type}{d:Kd α}{e:Nat}{w:World}{base:Nat}{ok:Nat→Prop}{v:Value}{xs:List α}{g t:Nat}{cells:Array Value}(a:Aside0 (d.R e w base ok v xs))(b:Aside0 (w.heap[g]?=some (.cells cells t (0,0))))(ht:∀q,q∈e::d.E→q≠t:=by decide):Aside0 (d.R e w base (fun k=>ok k∧k≠g) v xs):=⟨Kd.R_types a.out b.out ht⟩
section
variable {P:Program}{ops:Array Oper}{rest:List Oper}{o:Oper}{a:Act}{Q:Exit→Act→World→Prop}{md:Region.Mode}{S:World→Prop}{ds:List Nat}{W:World}
theorem boxE (N:Tmp)(cs:Array Value)(t:TypeId)
  (h:∀g,g=W.heap.size→∀w1,w1.heap[g]?=some (.cells cs t (0,0))→Below W.heap.size W w1→wpList P ops Q rest (a.put o.dst (.pointer (some ⟨g,0,none⟩))) w1)
  (hd:o.dst=some N:=by rfl) (hgd:o.guard=none:=by rfl)
  (hrun:(execOp a.eval o).run P W=.ok (.value (.pointer (some ⟨W.heap.size,0,none⟩))) (W.alloc (.cells cs t (0,0))):=by first|(go_simp;done)|(go_simp;rfl)):wpList P ops Q (o::rest) a W:=box_event hgd hd hrun h
theorem gsL (N:Option Tmp){f:FuncId}{fn:Func}{as_:Array Operand}{ts:Array TypeId}(hf:P.funcs[f]?=some fn)(args:Array Value)
  (h:Calls P f args W fun e w'=>∃v,e=.returned v∧wpList P ops Q rest (a.put N v) w')
  (hd:o.dst=N:=by rfl) (hg:o.guard=none:=by rfl) (hname:(fn.name == "runtime.NumGoroutine")=false:=by kernel_rfl) (hb:fn.body.isSome=true:=by rfl)
  (hop:o.op=.call { callee:=.value (.func f),args:=as_,argTypes:=ts }:=by rfl)
  (hargs:as_.map a.eval=args:=by(try simp only[List.map_toArray,List.map_cons,List.map_nil]);first|done|rfl|(simp only[List.length_drop,lT_];rfl)):wpList P ops Q (o::rest) a W:=goesL_ N hd hg hf hname hb args hop hargs h
theorem boxF (N:Tmp)(cs:Array Value)(t:TypeId)
  (h:∀g,g=W.heap.size→∀w1,Aside0 (w1.heap[g]?=some (.cells cs t (0,0)))→Below W.heap.size W w1→wpList P ops Q rest (a.put o.dst (.pointer (some ⟨g,0,none⟩))) w1)
  (hd:o.dst=some N:=by rfl) (hgd:o.guard=none:=by rfl)
  (hrun:(execOp a.eval o).run P W=.ok (.value (.pointer (some ⟨W.heap.size,0,none⟩))) (W.alloc (.cells cs t (0,0))):=by first|(go_simp;done)|(go_simp;rfl)):wpList P ops Q (o::rest) a W:=box_event hgd hd hrun fun g hg w1 hb=>h g hg w1 ⟨hb⟩
theorem gR (f:FuncId)(N:Option Tmp){fn:Func}{as_:Array Operand}{ts:Array TypeId}{args:Array Value}{v:Value}{R:World→Prop}(hf:P.funcs[f]?=some fn)(hc:Calls P f args W fun e w'=>e=.returned v∧R w')
  (h:∀w',R w'→wpList P ops Q rest (a.put N v) w')
  (hd:o.dst=N:=by rfl) (hop:o.op=.call { callee:=.value (.func f),args:=as_,argTypes:=ts }:=by rfl) (hg:o.guard=none:=by rfl) (hname:(fn.name == "runtime.NumGoroutine")=false:=by kernel_rfl) (hb:fn.body.isSome=true:=by rfl)
  (hargs:as_.map a.eval=args:=by(try simp only[List.map_toArray,List.map_cons,List.map_nil]);first|done|rfl|(simp only[List.length_drop,lT_];rfl)):wpList P ops Q (o::rest) a W:=
 goesL_ N hd hg hf hname hb args hop hargs (hc.mono fun _ w' z=>⟨v,z.1,h w' z.2⟩)
theorem gV (f:FuncId)(N:Option Tmp){fn:Func}{as_:Array Operand}{ts:Array TypeId}{args:Array Value}{β:Type}{V:β→Value}{R:β→World→Prop}(hf:P.funcs[f]?=some fn)(hc:Calls P f args W fun e w'=>∃v,e=.returned (V v)∧R v w')
  (h:∀v w',R v w'→wpList P ops Q rest (a.put N (V v)) w')
  (hd:o.dst=N:=by rfl) (hop:o.op=.call { callee:=.value (.func f),args:=as_,argTypes:=ts }:=by rfl) (hg:o.guard=none:=by rfl) (hname:(fn.name == "runtime.NumGoroutine")=false:=by kernel_rfl) (hb:fn.body.isSome=true:=by rfl)
  (hargs:as_.map a.eval=args:=by(try simp only[List.map_toArray,List.map_cons,List.map_nil]);first|done|rfl|(simp only[List.length_drop,lT_];rfl)):wpList P ops Q (o::rest) a W:=
 goesL_ N hd hg hf hname hb args hop hargs (hc.mono fun _ w' z=>by obtain⟨v,z1,z2⟩:=z;exact⟨V v,z1,h v w' z2⟩)
theorem oneZ (i:Nat)(N:Option Tmp){oi:Oper}{fuel:Nat}{l:Array Bool}(l':Array Bool)
  (h:∀K:Act→World→Prop,Shut (∀a' w',S w'→(S w'→wpAnyLast P md ops Q S ds fuel l' a' w')→K a' w')→if Region.wanted oi (yielded ops a.tmps)=true then Oper.wp P oi a W K Q else K (a.put N undef) W)
  (hi:ops[i]?=some oi:=by rfl) (hN:oi.dst=N:=by rfl) (hc:readyB md ops l l' i=true:=by exact one_of HT_.out (by kernel_rfl)) (hd:i ∉ ds:=by decide):wpAnyLast P md ops Q S ds (fuel+1) l a W:=one_ l' hi hN hc hd h
theorem twoZ (i j:Nat)(Ni Nj:Option Tmp){oi oj:Oper}{fuel:Nat}{l:Array Bool}(li lj:Array Bool)
  (h1:∀K:Act→World→Prop,Shut (∀a' w',S w'→(S w'→wpAnyLast P md ops Q S ds fuel li a' w')→K a' w')→if Region.wanted oi (yielded ops a.tmps)=true then Oper.wp P oi a W K Q else K (a.put Ni undef) W)
  (h2:∀K:Act→World→Prop,Shut (∀a' w',S w'→(S w'→wpAnyLast P md ops Q S ds fuel lj a' w')→K a' w')→if Region.wanted oj (yielded ops a.tmps)=true then Oper.wp P oj a W K Q else K (a.put Nj undef) W)
  (hi:ops[i]?=some oi:=by rfl) (hj:ops[j]?=some oj:=by rfl) (hNi:oi.dst=Ni:=by rfl) (hNj:oj.dst=Nj:=by rfl)
  (hc:(Region.ready md ops l==[i,j]&&l.setIfInBounds i true==li&&l.setIfInBounds j true==lj)=true:=by exact two_of HT_.out (by kernel_rfl)) (hdi:i ∉ ds:=by decide) (hdj:j ∉ ds:=by decide):wpAnyLast P md ops Q S ds (fuel+1) l a W:=two_ li lj hi hj hNi hNj hc hdi hdj h1 h2
theorem nZ (N:Tmp){fuel:Nat}{l:Array Bool}{b a':Act}{v:Value}(h:wpAnyLast P md ops Q S ds fuel l a' W)(hb:a=b.put (some N) v:=by rfl)(ha:b.put (some N) v=a':=by(simp only[Act.put,lS_,l0_,lC_,i64_w,i32_w];rfl)):wpAnyLast P md ops Q S ds fuel l a W:=norm_ (hb.trans ha) h
theorem pureZ (i:Nat)(N:Option Tmp){v:Value}{fuel:Nat}{l:Array Bool}(l':Array Bool){a':Act}
  (h:wpAnyLast P md ops Q S ds fuel l' a' W) (hi:ops[i]?=some o:=by rfl) (hN:o.dst=N:=by rfl) (hc:anyB md ops l l' i=true:=by exact any_of HT_.out (by kernel_rfl))
  (hQ:∀c a w,Q (.panic c) (a.put o.dst v) w→Q (.panic c) a w:=by exact fun _ _ _ h=>h)
  (hy:Yields P ops o v a:=by exact Or.inl ⟨by rfl,by intro w';go_simp;with_reducible rfl⟩)
  (ha:a.put N v=a':=by(simp only[Act.put,lS_,l0_,lC_,i64_w,i32_w];rfl)):wpAnyLast P md ops Q S ds (fuel+1) l a W:=pure_ l' hi hN hc hQ hy ha h
theorem pureY (i:Nat)(N:Option Tmp){v:Value}{fuel:Nat}{l:Array Bool}(l':Array Bool){a':Act}
  (h:wpAnyLast P md ops Q S ds fuel l' a' W) (hi:ops[i]?=some o:=by rfl) (hN:o.dst=N:=by rfl) (hc:anyB md ops l l' i=true:=by kernel_rfl)
  (hQ:∀c a w,Q (.panic c) (a.put o.dst v) w→Q (.panic c) a w:=by exact fun _ _ _ h=>h)
  (hy:Yields P ops o v a:=by exact Or.inl ⟨by rfl,by intro w';go_simp;with_reducible rfl⟩)
  (ha:a.put N v=a':=by(simp only[Act.put,lS_,l0_,lC_,i64_w,i32_w];rfl)):wpAnyLast P md ops Q S ds (fuel+1) l a W:=pure_ l' hi hN hc hQ hy ha h
theorem takeZ4 (i:Nat)(N:Option Tmp){v:Value}{fuel:Nat}{l:Array Bool}(l':Array Bool)(hS:S W){a':Act}
  (h:wpAnyLast P md ops Q S ds fuel l' a' W) (hi:ops[i]?=some o:=by rfl) (hN:o.dst=N:=by rfl) (hc:takeB md ops ds l l' i=true:=by exact take_ofW HT_.out HW_.out (by kernel_rfl))
  (hQ:∀c a w,Q (.panic c) (a.put o.dst v) w→Q (.panic c) a w:=by exact fun _ _ _ h=>h)
  (hy:YieldsIf P ops S o v a:=by exact Or.inl ⟨by rfl,by rintro w' ⟨s0,s1,s2,s3⟩;go_simp;with_reducible rfl⟩)
  (ha:a.put N v=a':=by(simp only[Act.put,lS_,l0_,lC_,i64_w,i32_w];rfl)):wpAnyLast P md ops Q S ds (fuel+1) l a W:=take_ l' hi hN hc hQ hy hS ha h
theorem takeY4 (i:Nat)(N:Option Tmp){v:Value}{fuel:Nat}{l:Array Bool}(l':Array Bool)(hS:S W){a':Act}
  (h:wpAnyLast P md ops Q S ds fuel l' a' W) (hi:ops[i]?=some o:=by rfl) (hN:o.dst=N:=by rfl) (hc:takeB md ops ds l l' i=true:=by kernel_rfl)
  (hQ:∀c a w,Q (.panic c) (a.put o.dst v) w→Q (.panic c) a w:=by exact fun _ _ _ h=>h)
  (hy:YieldsIf P ops S o v a:=by exact Or.inl ⟨by rfl,by rintro w' ⟨s0,s1,s2,s3⟩;go_simp;with_reducible rfl⟩)
  (ha:a.put N v=a':=by(simp only[Act.put,lS_,l0_,lC_,i64_w,i32_w];rfl)):wpAnyLast P md ops Q S ds (fuel+1) l a W:=take_ l' hi hN hc hQ hy hS ha h
end
theorem cf2 {w:World}{g:Nat}{t:TypeId}{x0 x1:Value}(h:Aside0 (w.heap[g]?=some (.cells #[x0,x1] t (0,0)))):w.cell? ⟨g,0,none⟩=some x0∧w.cell? ⟨g,1,none⟩=some x1∧w.frozen? ⟨g,0,none⟩=false∧w.frozen? ⟨g,1,none⟩=false:=⟨(blk_cell h.out 0).trans rfl,(blk_cell h.out 1).trans rfl,blk_frozen h.out 0,blk_frozen h.out 1⟩
theorem cf3 {w:World}{g:Nat}{t:TypeId}{x0 x1 x2:Value}(h:Aside0 (w.heap[g]?=some (.cells #[x0,x1,x2] t (0,0)))):w.cell? ⟨g,0,none⟩=some x0∧w.cell? ⟨g,1,none⟩=some x1∧w.cell? ⟨g,2,none⟩=some x2∧w.frozen? ⟨g,0,none⟩=false∧w.frozen? ⟨g,1,none⟩=false∧w.frozen? ⟨g,2,none⟩=false:=⟨(blk_cell h.out 0).trans rfl,(blk_cell h.out 1).trans rfl,(blk_cell h.out 2).trans rfl,blk_frozen h.out 0,blk_frozen h.out 1,blk_frozen h.out 2⟩
theorem cf4 {w:World}{g:Nat}{t:TypeId}{x0 x1 x2 x3:Value}(h:Aside0 (w.heap[g]?=some (.cells #[x0,x1,x2,x3] t (0,0)))):w.cell? ⟨g,0,none⟩=some x0∧w.cell? ⟨g,1,none⟩=some x1∧w.cell? ⟨g,2,none⟩=some x2∧w.cell? ⟨g,3,none⟩=some x3∧w.frozen? ⟨g,0,none⟩=false∧w.frozen? ⟨g,1,none⟩=false∧w.frozen? ⟨g,2,none⟩=false∧w.frozen? ⟨g,3,none⟩=false:=⟨(blk_cell h.out 0).trans rfl,(blk_cell h.out 1).trans rfl,(blk_cell h.out 2).trans rfl,(blk_cell h.out 3).trans rfl,blk_frozen h.out 0,blk_frozen h.out 1,blk_frozen h.out 2,blk_frozen h.out 3⟩
theorem cf5 {w:World}{g:Nat}{t:TypeId}{x0 x1 x2 x3 x4:Value}(h:Aside0 (w.heap[g]?=some (.cells #[x0,x1,x2,x3,x4] t (0,0)))):w.cell? ⟨g,0,none⟩=some x0∧w.cell? ⟨g,1,none⟩=some x1∧w.cell? ⟨g,2,none⟩=some x2∧w.cell? ⟨g,3,none⟩=some x3∧w.cell? ⟨g,4,none⟩=some x4∧w.frozen? ⟨g,0,none⟩=false∧w.frozen? ⟨g,1,none⟩=false∧w.frozen? ⟨g,2,none⟩=false∧w.frozen? ⟨g,3,none⟩=false∧w.frozen? ⟨g,4,none⟩=false:=⟨(blk_cell h.out 0).trans rfl,(blk_cell h.out 1).trans rfl,(blk_cell h.out 2).trans rfl,(blk_cell h.out 3).trans rfl,(blk_cell h.out 4).trans rfl,blk_frozen h.out 0,blk_frozen h.out 1,blk_frozen h.out 2,blk_frozen h.out 3,blk_frozen h.out 4⟩
abbrev yT:Bool:=true
abbrev yF:Bool:=false
abbrev yA (m n:Nat):Array Bool:=⟨List.replicate m true++List.replicate n false⟩
theorem A_ {p:Prop}(h:p):Aside0 p:=⟨h⟩
abbrev bS:=@below_step
abbrev bB:=@blk_below
abbrev rB:=@Kd.R_below
abbrev gC:=@gate_callee
abbrev gD:=@gate_dst
abbrev sI:=@oJ_
abbrev pR:=@bodyPost_ret
abbrev dT:=@decide_eq_true
abbrev dF:=@decide_eq_false
section
variable {α:Type}{r:α}{x y:Option α}{c:Prop}{i:Decidable c}
theorem iteN (h:(if c then x else none)=some r):c∧x=some r:=by
 by_cases hc:c
 ·rw[if_pos hc]at h;exact⟨hc,h⟩
 ·rw[if_neg hc]at h;cases h
theorem iteM (h:(if c then none else y)=some r):¬c∧y=some r:=by
 by_cases hc:c
 ·rw[if_pos hc]at h;cases h
 ·rw[if_neg hc]at h;exact⟨hc,h⟩
theorem iteE (h:(if c then x else y)=some r):(c∧x=some r)∨(¬c∧y=some r):=by
 by_cases hc:c
 ·rw[if_pos hc]at h;exact .inl ⟨hc,h⟩
 ·rw[if_neg hc]at h;exact .inr ⟨hc,h⟩
theorem iteB {b:Bool}(h:(if b=true then x else y)=some r):(b=true∧x=some r)∨(b=false∧y=some r):=by cases b <;> simpa using h
theorem iteNd (h:(if c then x else none)=some r):decide c=true∧x=some r:=⟨decide_eq_true (iteN h).1,(iteN h).2⟩
theorem iteEd (h:(if c then x else y)=some r):(decide c=true∧x=some r)∨(decide c=false∧y=some r):=(iteE h).imp (fun z=>⟨decide_eq_true z.1,z.2⟩) (fun z=>⟨decide_eq_false z.1,z.2⟩)
end
section
variable {α:Type}{r:α}{x y:Option α}{a b:Int}
theorem gtT (h:a>b):decide (b<a)=true:=decide_eq_true h
theorem gtF (h:¬a>b):decide (b<a)=false:=decide_eq_false h
theorem geT (h:a≥b):decide (b≤a)=true:=decide_eq_true h
theorem geF (h:¬a≥b):decide (b≤a)=false:=decide_eq_false h
theorem iteEg {i:Decidable (a>b)}(h:(if a>b then x else y)=some r):(@decide (b<a) (Int.decLt b a)=true∧x=some r)∨(@decide (b<a) (Int.decLt b a)=false∧y=some r):=(iteE h).imp (fun z=>⟨gtT z.1,z.2⟩) (fun z=>⟨gtF z.1,z.2⟩)
theorem iteEe {i:Decidable (a≥b)}(h:(if a≥b then x else y)=some r):(@decide (b≤a) (Int.decLe b a)=true∧x=some r)∨(@decide (b≤a) (Int.decLe b a)=false∧y=some r):=(iteE h).imp (fun z=>⟨geT z.1,z.2⟩) (fun z=>⟨geF z.1,z.2⟩)
end
section
variable {α β:Type}[BEq β][LawfulBEq β]{r:α}{x y:Option α}{a b:β}
theorem eqT (h:a=b):(a==b)=true∧(a != b)=false:=⟨beq_iff_eq.mpr h,bne_eq_false_iff_eq.mpr h⟩
theorem eqF (h:¬a=b):(a==b)=false∧(a != b)=true:=⟨bN_.mpr h,bne_iff_ne.mpr h⟩
theorem iteEq {i:Decidable (a=b)}(h:(if a=b then x else y)=some r):((a==b)=true∧(a != b)=false∧x=some r)∨((a==b)=false∧(a != b)=true∧¬a=b∧y=some r):=
 (iteE h).imp (fun z=>⟨(eqT z.1).1,(eqT z.1).2,z.2⟩) (fun z=>⟨(eqF z.1).1,(eqF z.1).2,z.1,z.2⟩)
end
theorem atB {P Q R:Prop}[Decidable P][Decidable Q](f:P→Q→R)(p:decide P=true:=by first|(with_reducible assumption)|assumption)(q:decide Q=true:=by first|(with_reducible assumption)|assumption):R∧(P=True)∧(Q=True):=
 ⟨f (of_decide_eq_true p) (of_decide_eq_true q),eq_true (of_decide_eq_true p),eq_true (of_decide_eq_true q)⟩
section
variable {P:Program}{f:FuncId}{args:Array Value}{w:World}{S:Value→World→Prop}
theorem mR {v:Value}{Q:World→Prop}(h:Calls P f args w fun e w'=>e=.returned v∧Q w')(k:∀w',Q w'→S v w'):Calls P f args w fun e w'=>∃u,e=.returned u∧S u w':=h.mono (fun _ w' z=>⟨v,z.1,k w' z.2⟩)
end
section
variable {w W:World}{a b c d:Addr}{s t u v:Value}(hb:Aside0 (Below w.heap.size w W))(h1:w.cell? a=some s)(h2:w.cell? b=some t)(h3:w.cell? c=some u)(h4:w.cell? d=some v)
include hb h1 h2
theorem cb2:W.cell? a=some s∧W.cell? b=some t:=⟨cbl hb h1,cbl hb h2⟩
include h3
theorem cb3:W.cell? a=some s∧W.cell? b=some t∧W.cell? c=some u:=⟨cbl hb h1,cbl hb h2,cbl hb h3⟩
include h4
theorem cb4:W.cell? a=some s∧W.cell? b=some t∧W.cell? c=some u∧W.cell? d=some v:=⟨cbl hb h1,cbl hb h2,cbl hb h3,cbl hb h4⟩
end
theorem zz2 {B A0:Prop}(a0:Aside0 A0)(f:A0→B:=by intro g0_;repeat(first|(with_reducible first|exact g0_|apply below_alloc|apply pw_below_drewN|apply below_drew1)|exact g0_)):B:=f a0.out
theorem zz3 {B A0:Prop}(a0:Aside0 A0)(f:A0→B:=by intro g0_;first|(with_reducible exact g0_)|((with_reducible repeat(first|apply blk_drewN|apply blk_drew|apply blk_alloc));exact g0_)):B:=f a0.out
theorem zz4 {B A0 A1:Prop}(a0:Aside0 A0)(a1:Aside0 A1)(f:A0→A1→B:=by intro g0_ g1_;repeat(first|(with_reducible first|exact g0_|apply below_alloc|apply pw_below_drewN|apply below_drew1|refine below_set ?_ g1_)|exact g0_)):B:=f a0.out a1.out
theorem zz5 {B:Prop}(f:B:=by first|rfl|(simp only[i64_w,i32_w];done)|(simp only[aid_isEmpty,aid_isEmpty2];done)|(simp;done)|(simp[*];done)):B:=f
theorem zz6 {B:Prop}(f:B:=by first|omega|exact lL_ _):B:=f
theorem zz7 {B A0:Prop}(a0:Aside0 A0)(f:A0→B:=by intro g0_;repeat(first|(with_reducible first|exact g0_|apply IsS87.alloc|apply IsS87.drewN|apply IsS87.drew|apply IsS87.set_1)|exact g0_)):B:=f a0.out
theorem zz8 {B A0:Prop}(a0:Aside0 A0)(f:A0→B:=by intro g0_;repeat(first|(with_reducible first|exact g0_|apply KeepBut.set_|apply keep_drewN|apply keep_drew|apply keep_alloc)|exact g0_)):B:=f a0.out
theorem zz9 {B A0 A1:Prop}(a0:Aside0 A0)(a1:Aside0 A1)(f:A0→A1→B:=by intro g0_ g1_;repeat(first|(with_reducible first|exact g0_|apply below_alloc|apply pw_below_drewN|apply below_drew1|refine below_set ?_ (IsS87.ge g1_))|exact g0_)):B:=f a0.out a1.out
theorem zz11 {B:Prop}(f:B:=by first|rfl|(simp[errW_none,errW_some] <;> rfl)|(simp[*,errW_none,errW_some] <;> rfl)):B:=f
theorem zz12 {B:Prop}(f:B:=by first|rfl|(simp[errW_none,errW_some] <;> rfl)|(simp only[←hji9];first|rfl|(simp[errW_none,errW_some] <;> rfl))|(simp[*,errW_none,errW_some] <;> rfl)):B:=f
theorem zz15 {B A0:Prop}(a0:Aside0 A0)(f:A0→B:=by intro g0_;have:=g0_;omega):B:=f a0.out
theorem zz16 {B:Prop}(f:B:=by repeat(first|exact Drawn0.refl _|apply Drawn0.step)):B:=f
theorem zz18 {B A0:Prop}(a0:Aside0 A0)(f:A0→B:=by intro g0_;have:=g0_;first|omega|exact lL_ _):B:=f a0.out
theorem zz21 {B:Prop}(f:B:=by first|(go_simp;done)|(go_simp;rfl)):B:=f
theorem zz22 {B A0:Prop}(a0:Aside0 A0)(f:A0→B:=by intro g0_;repeat(first|exact(Kd.R_reads' g0_).2.2|(with_reducible refine Kd.C_alloc ?_ _)|(with_reducible refine Kd.C_drewN ?_ _)|(with_reducible refine Kd.C_drew ?_))):B:=f a0.out
theorem zz23 {B A0:Prop}(a0:Aside0 A0)(f:A0→B:=by intro g0_;first|(with_reducible exact g0_)|((with_reducible repeat(first|apply Kd.R_alloc|apply Kd.R_drewN|apply Kd.R_drew));exact g0_)):B:=f a0.out
theorem zz25 {B:Prop}(f:B:=by first|exact Kd.R_nil _ _ _ _ _|exact Kd.N_nil _ _ _ _ _|exact Kd.V_nil _ _ _ _ _|exact Kd.Q_nil _ _ _ _ _|exact Kd.S_nil _ _ _ _ _):B:=f
theorem zz28 {B A0 A1:Prop}(a0:Aside0 A0)(a1:Aside0 A1)(f:A0→A1→B:=by intro g0_ g1_;have:=g0_;have:=g1_;omega):B:=f a0.out a1.out
theorem zz33 {B A0:Prop}(a0:Aside0 A0)(f:A0→B:=by intro g0_;repeat(first|exact g0_|(with_reducible refine Kd.C_alloc ?_ _)|(with_reducible refine Kd.C_drewN ?_ _)|(with_reducible refine Kd.C_drew ?_))):B:=f a0.out
theorem zz46 {B A0 A1 A2:Prop}(a0:Aside0 A0)(a1:Aside0 A1)(a2:Aside0 A2)(f:A0→A1→A2→B:=by intro g0_ g1_ g2_;repeat(first|(with_reducible first|exact g0_|apply below_alloc|apply pw_below_drewN|apply below_drew1|refine below_set ?_ g1_|refine below_set ?_ g2_)|exact g0_)):B:=f a0.out a1.out a2.out
theorem zz56 {B A0:Prop}(a0:Aside0 A0)(f:A0→B:=by intro g0_;first|((repeat(first|(with_reducible first|exact g0_|refine blk_drewN ?_ _|refine blk_drew ?_|refine blk_alloc ?_ _|apply blk_put)|exact g0_));all_goals rfl;done)|(apply blk_put (i:=1);apply blk_put (i:=0);exact g0_;all_goals rfl)):B:=f a0.out
theorem zz61 {B:Prop}(f:B:=by(try simp only[List.map_toArray,List.map_cons,List.map_nil]);first|done|rfl|(simp only[List.length_drop,lT_];rfl)):B:=f
theorem zz62 {B A0 A1:Prop}(a0:Aside0 A0)(a1:Aside0 A1)(f:A0→A1→B:=by intro g0_ g1_;repeat(first|exact(Kd.C_below g0_ g1_)|(with_reducible refine Kd.C_alloc ?_ _)|(with_reducible refine Kd.C_drewN ?_ _)|(with_reducible refine Kd.C_drew ?_))):B:=f a0.out a1.out
theorem zz68 {B A0 A1:Prop}(a0:Aside0 A0)(a1:Aside0 A1)(f:A0→A1→B:=by intro g0_ g1_;repeat(first|(with_reducible first|exact g0_|apply IsS87.alloc|apply IsS87.drewN|apply IsS87.drew|apply IsS87.set_1|refine IsS87.far ?_ g1_ _)|exact g0_)):B:=f a0.out a1.out
theorem zz69 {B A0 A1 A2:Prop}(a0:Aside0 A0)(a1:Aside0 A1)(a2:Aside0 A2)(f:A0→A1→A2→B:=by intro g0_ g1_ g2_;repeat(first|(with_reducible first|exact g0_|apply below_alloc|apply pw_below_drewN|apply below_drew1|refine below_set ?_ (IsS87.ge g1_)|refine below_set ?_ g2_)|exact g0_)):B:=f a0.out a1.out a2.out
theorem zz71 {B A0:Prop}(a0:Aside0 A0)(f:A0→B:=by intro g0_;first|((repeat(first|(with_reducible first|exact g0_|refine blk_drewN ?_ _|refine blk_drew ?_|refine blk_alloc ?_ _|apply blk_put)|exact g0_));all_goals rfl;done)|(apply blk_put (i:=3);apply blk_put (i:=2);apply blk_put (i:=1);apply blk_put (i:=0);exact g0_;all_goals rfl)):B:=f a0.out
theorem zz72 {B A0 A1:Prop}(a0:Aside0 A0)(a1:Aside0 A1)(f:A0→A1→B:=by intro g0_ g1_;repeat(first|(with_reducible first|exact g0_|apply KeepBut.set_|apply keep_drewN|apply keep_drew|apply keep_alloc|refine keep_far ?_ g1_ _)|exact g0_)):B:=f a0.out a1.out
theorem zz74 {B A0:Prop}(a0:Aside0 A0)(f:A0→B:=by intro g0_;(with_reducible repeat(first|apply Kd.R_alloc|apply Kd.R_drewN|apply Kd.R_drew));exact Kd.R_mono g0_ (fun _ hk=>hk.2)):B:=f a0.out
theorem zz75 {B A0:Prop}(a0:Aside0 A0)(f:A0→B:=by intro g0_;apply Kd.R_mono;(focus ((repeat(first|(with_reducible first|exact g0_|apply Kd.R_alloc|apply Kd.R_drewN|apply Kd.R_drew|apply Kd.R_far)|exact g0_));all_goals (intro _ hk_;first|exact hk_.2|exact hk_.1.2|exact hk_.1.1.2|exact hk_.1.1.1.2|exact hk_.1.1.1.1.2|exact hk_.1.1.1.1.1.2|exact hk_.1.1.1.1.1.1.2)));intro _ hk_;first|exact trivial|(repeat' (with_reducible apply And.intro)) <;> first|exact hk_|exact hk_.2|exact hk_.1.2|exact hk_.1.1.2|exact hk_.1.1.1.2|exact hk_.1.1.1.1.2|exact hk_.1.1.1.1.1.2|exact hk_.1.1.1.1.1.1.2|exact hk_.1|exact hk_.1.1|exact hk_.1.1.1|exact hk_.1.1.1.1|exact hk_.1.1.1.1.1|exact hk_.1.1.1.1.1.1|exact hk_.2.2|exact hk_.1.2.2|exact hk_.1.1.2.2|exact hk_.1.1.1.2.2|exact hk_.1.1.1.1.2.2|exact hk_.1.1.1.1.1.2.2|exact hk_.1.1.1.1.1.1.2.2|exact hk_.2.2.2|exact hk_.1.2.2.2|exact hk_.1.1.2.2.2|exact hk_.1.1.1.2.2.2|exact hk_.1.1.1.1.2.2.2|exact hk_.1.1.1.1.1.2.2.2|exact hk_.1.1.1.1.1.1.2.2.2|exact hk_.2.2.2.2|exact hk_.1.2.2.2.2|exact hk_.1.1.2.2.2.2|exact hk_.1.1.1.2.2.2.2|exact hk_.1.1.1.1.2.2.2.2|exact hk_.1.1.1.1.1.2.2.2.2|exact hk_.1.1.1.1.1.1.2.2.2.2|exact hk_.2.2.2.2.2|exact hk_.1.2.2.2.2.2|exact hk_.1.1.2.2.2.2.2|exact hk_.1.1.1.2.2.2.2.2|exact hk_.1.1.1.1.2.2.2.2.2|exact hk_.1.1.1.1.1.2.2.2.2.2|exact hk_.1.1.1.1.1.1.2.2.2.2.2|exact hk_.2.1|exact hk_.1.2.1|exact hk_.1.1.2.1|exact hk_.1.1.1.2.1|exact hk_.1.1.1.1.2.1|exact hk_.1.1.1.1.1.2.1|exact hk_.2.2.1|exact hk_.1.2.2.1|exact hk_.1.1.2.2.1|exact hk_.1.1.1.2.2.1|exact hk_.1.1.1.1.2.2.1|exact hk_.1.1.1.1.1.2.2.1|exact hk_.2.2.2.1|exact hk_.1.2.2.2.1|exact hk_.1.1.2.2.2.1|exact hk_.1.1.1.2.2.2.1|exact hk_.1.1.1.1.2.2.2.1|exact hk_.1.1.1.1.1.2.2.2.1|exact hk_.2.2.2.2.1|exact hk_.1.2.2.2.2.1|exact hk_.1.1.2.2.2.2.1|exact hk_.1.1.1.2.2.2.2.1|exact hk_.1.1.1.1.2.2.2.2.1|exact hk_.1.1.1.1.1.2.2.2.2.1|exact hk_.2.2.2.2.2.1|exact hk_.1.2.2.2.2.2.1|exact hk_.1.1.2.2.2.2.2.1|exact hk_.1.1.1.2.2.2.2.2.1|exact hk_.1.1.1.1.2.2.2.2.2.1|exact hk_.1.1.1.1.1.2.2.2.2.2.1):B:=f a0.out
theorem zz77 {B A0 A1:Prop}(a0:Aside0 A0)(a1:Aside0 A1)(f:A0→A1→B:=by intro g0_ g1_;(with_reducible repeat(first|apply Kd.R_alloc|apply Kd.R_drewN|apply Kd.R_drew));exact(Kd.R_mono (Kd.R_far (p:=⟨gb500,2,none⟩) (Kd.R_types g0_ g1_ (by decide)) (fun _ hk=>hk.2) (.bool true)) (fun _ h_=>h_.1))):B:=f a0.out a1.out
theorem zz79 {B A0 A1:Prop}(a0:Aside0 A0)(a1:Aside0 A1)(f:A0→A1→B:=by intro g0_ g1_;(with_reducible repeat(first|apply Kd.R_alloc|apply Kd.R_drewN|apply Kd.R_drew));exact(Kd.R_mono (Kd.R_far (p:=⟨gb500,3,none⟩) (Kd.R_types g0_ g1_ (by decide)) (fun _ hk=>hk.2) (.string t516)) (fun _ h_=>h_.1))):B:=f a0.out a1.out
theorem zz84 {B A0:Prop}(a0:Aside0 A0)(f:A0→B:=by intro g0_;(with_reducible repeat(first|apply Kd.R_alloc|apply Kd.R_drewN|apply Kd.R_drew));exact Kd.R_mono g0_ (fun _ hk=>trivial)):B:=f a0.out
theorem zz86 {B:Prop}(f:B:=by have:=wb_ _ _ hx605_0;first|rwa [add_block]at this|exact this):B:=f
theorem zz90 {B A0 A1:Prop}(a0:Aside0 A0)(a1:Aside0 A1)(f:A0→A1→B:=by intro g0_ g1_;(repeat(first|(with_reducible first|exact g0_|refine blk_drewN ?_ _|refine blk_drew ?_|refine blk_alloc ?_ _|apply blk_put|apply blk_far)|exact g0_));all_goals first|rfl|exact g1_):B:=f a0.out a1.out
theorem zz91 {B A0:Prop}(a0:Aside0 A0)(f:A0→B:=by intro g0_;first|((repeat(first|(with_reducible first|exact g0_|refine blk_drewN ?_ _|refine blk_drew ?_|refine blk_alloc ?_ _|apply blk_put)|exact g0_));all_goals rfl;done)|(apply blk_put (i:=2);apply blk_put (i:=1);apply blk_put (i:=0);exact g0_;all_goals rfl)):B:=f a0.out
theorem zz94 {B A0:Prop}(a0:Aside0 A0)(f:A0→B:=by intro g0_;(with_reducible repeat(first|apply Kd.R_alloc|apply Kd.R_drewN|apply Kd.R_drew));exact Kd.R_mono g0_ (fun _ hk=>⟨trivial,hk⟩)):B:=f a0.out
theorem zz95 {B A0:Prop}(a0:Aside0 A0)(f:A0→B:=by intro g0_;(with_reducible repeat(first|apply Kd.R_alloc|apply Kd.R_drewN|apply Kd.R_drew));exact Kd.R_mono g0_ (fun _ hk=>⟨hk.1.2,hk.2⟩)):B:=f a0.out
theorem zz96 {B A0:Prop}(a0:Aside0 A0)(f:A0→B:=by intro g0_;(with_reducible repeat(first|apply Kd.R_alloc|apply Kd.R_drewN|apply Kd.R_drew));exact Kd.R_mono g0_ (fun _ hk=>⟨hk.2,hk.1⟩)):B:=f a0.out
theorem zz97 {B A0 A1 A2 A3:Prop}(a0:Aside0 A0)(a1:Aside0 A1)(a2:Aside0 A2)(a3:Aside0 A3)(f:A0→A1→A2→A3→B:=by intro g0_ g1_ g2_ g3_;repeat(first|(with_reducible first|exact g0_|apply below_alloc|apply pw_below_drewN|apply below_drew1|refine below_set ?_ g1_|refine below_set ?_ g2_|refine below_set ?_ g3_)|exact g0_)):B:=f a0.out a1.out a2.out a3.out
theorem zz120 {B:Prop}(f:B:=by first|rfl|(simp[errW_none,errW_some] <;> rfl)|(simp only[←hji4,←hji9];first|rfl|(simp[errW_none,errW_some] <;> rfl))|(simp[*,errW_none,errW_some] <;> rfl)):B:=f
theorem zz135 {B:Prop}(f:B:=by simp[intOf];omega):B:=f
theorem zz139 {B A0 A1:Prop}(a0:Aside0 A0)(a1:Aside0 A1)(f:A0→A1→B:=by intro g0_ g1_;(with_reducible repeat(first|apply Kd.R_alloc|apply Kd.R_drewN|apply Kd.R_drew));exact(Kd.R_mono (Kd.R_far (p:=⟨gb330,3,none⟩) (Kd.R_far (p:=⟨gb330,2,none⟩) (Kd.R_far (p:=⟨gb330,1,none⟩) (Kd.R_far (p:=⟨gb330,0,none⟩) (Kd.R_types g0_ g1_ (by decide)) (fun _ hk=>hk.2) (.string a0)) (fun _ hk=>hk.2) (.slice Ao31 t327.length co31)) (fun _ hk=>hk.2) (.bool t312)) (fun _ hk=>hk.2) (.string t313)) (fun _ h_=>h_.1))):B:=f a0.out a1.out
theorem zz141 {B:Prop}(f:B:=by(try simp only[List.map_toArray,List.map_cons,List.map_nil]);first|done|rfl|(simp only[List.length_drop,lT_];rfl)|(simp <;> repeat' (first|rfl|constructor))):B:=f
theorem zz155 {B A0 A1:Prop}(a0:Aside0 A0)(a1:Aside0 A1)(f:A0→A1→B:=by intro g0_ g1_;(with_reducible repeat(first|apply Kd.R_alloc|apply Kd.R_drewN|apply Kd.R_drew));exact(Kd.R_mono (Kd.R_far (p:=⟨gb611,1,none⟩) (Kd.R_far (p:=⟨gb611,0,none⟩) (Kd.R_types g0_ g1_ (by decide)) (fun _ hk=>hk.2) (.string ((rd_T76 l0_7 x19_1).f0))) (fun _ hk=>hk.2) (.int .i64 ((rd_T76 l0_7 x19_1).f1))) (fun _ h_=>h_.1))):B:=f a0.out a1.out
theorem zz166 {B A0:Prop}(a0:Aside0 A0)(f:A0→B:=by intro g0_;(with_reducible repeat(first|apply Kd.S_alloc|apply Kd.S_drewN|apply Kd.S_drew));exact g0_):B:=f a0.out
theorem zz167 {B A0 A1:Prop}(a0:Aside0 A0)(a1:Aside0 A1)(f:A0→A1→B:=by intro g0_ g1_;(with_reducible repeat(first|apply Kd.R_alloc|apply Kd.R_drewN|apply Kd.R_drew));exact(Kd.R_mono (Kd.R_far (p:=⟨gb660,4,none⟩) (Kd.R_far (p:=⟨gb660,3,none⟩) (Kd.R_far (p:=⟨gb660,2,none⟩) (Kd.R_far (p:=⟨gb660,1,none⟩) (Kd.R_far (p:=⟨gb660,0,none⟩) (Kd.R_types g0_ g1_ (by decide)) (fun _ hk=>hk.2) (.string t648)) (fun _ hk=>hk.2) (.int .i64 t649)) (fun _ hk=>hk.2) (.slice Ao12 t650.length co12)) (fun _ hk=>hk.2) (.slice Ao13 t653.length co13)) (fun _ hk=>hk.2) (.slice Ao14 t656.length co14)) (fun _ h_=>h_.1))):B:=f a0.out a1.out
theorem zz169 {B A0 A1:Prop}(a0:Aside0 A0)(a1:Aside0 A1)(f:A0→A1→B:=by intro g0_ g1_;(with_reducible repeat(first|apply Kd.S_alloc|apply Kd.S_drewN|apply Kd.S_drew));exact(Kd.S_mono (Kd.S_far (p:=⟨gb660,4,none⟩) (Kd.S_far (p:=⟨gb660,3,none⟩) (Kd.S_far (p:=⟨gb660,2,none⟩) (Kd.S_far (p:=⟨gb660,1,none⟩) (Kd.S_far (p:=⟨gb660,0,none⟩) (Kd.S_types g0_ g1_ (by decide)) (fun _ hk=>hk.2) (.string t648)) (fun _ hk=>hk.2) (.int .i64 t649)) (fun _ hk=>hk.2) (.slice Ao12 t650.length co12)) (fun _ hk=>hk.2) (.slice Ao13 t653.length co13)) (fun _ hk=>hk.2) (.slice Ao14 t656.length co14)) (fun _ h_=>h_.1))):B:=f a0.out a1.out
theorem zz170 {B A0:Prop}(a0:Aside0 A0)(f:A0→B:=by intro g0_;first|((repeat(first|(with_reducible first|exact g0_|refine blk_drewN ?_ _|refine blk_drew ?_|refine blk_alloc ?_ _|apply blk_put)|exact g0_));all_goals rfl;done)|(apply blk_put (i:=4);apply blk_put (i:=3);apply blk_put (i:=2);apply blk_put (i:=1);apply blk_put (i:=0);exact g0_;all_goals rfl)):B:=f a0.out
theorem zz173 {B A0 A1:Prop}(a0:Aside0 A0)(a1:Aside0 A1)(f:A0→A1→B:=by intro g0_ g1_;(with_reducible repeat(first|apply Kd.S_alloc|apply Kd.S_drewN|apply Kd.S_drew));exact(Kd.S_mono (Kd.S_far (p:=⟨gb673,4,none⟩) (Kd.S_far (p:=⟨gb673,3,none⟩) (Kd.S_far (p:=⟨gb673,2,none⟩) (Kd.S_far (p:=⟨gb673,1,none⟩) (Kd.S_far (p:=⟨gb673,0,none⟩) (Kd.S_types g0_ g1_ (by decide)) (fun _ hk=>hk.2) (.string t661)) (fun _ hk=>hk.2) (.int .i64 t662)) (fun _ hk=>hk.2) (.slice Ao19 t663.length co19)) (fun _ hk=>hk.2) (.slice Ao20 t666.length co20)) (fun _ hk=>hk.2) (.slice Ao21 t669.length co21)) (fun _ h_=>h_.1))):B:=f a0.out a1.out
theorem zz175 {B A0 A1:Prop}(a0:Aside0 A0)(a1:Aside0 A1)(f:A0→A1→B:=by intro g0_ g1_;(with_reducible repeat(first|apply Kd.R_alloc|apply Kd.R_drewN|apply Kd.R_drew));exact(Kd.R_mono (Kd.R_far (p:=⟨gb673,4,none⟩) (Kd.R_far (p:=⟨gb673,3,none⟩) (Kd.R_far (p:=⟨gb673,2,none⟩) (Kd.R_far (p:=⟨gb673,1,none⟩) (Kd.R_far (p:=⟨gb673,0,none⟩) (Kd.R_types g0_ g1_ (by decide)) (fun _ hk=>hk.2) (.string t661)) (fun _ hk=>hk.2) (.int .i64 t662)) (fun _ hk=>hk.2) (.slice Ao19 t663.length co19)) (fun _ hk=>hk.2) (.slice Ao20 t666.length co20)) (fun _ hk=>hk.2) (.slice Ao21 t669.length co21)) (fun _ h_=>h_.1))):B:=f a0.out a1.out
theorem zz181 {B A0:Prop}(a0:Aside0 A0)(f:A0→B:=by intro g0_;(with_reducible repeat(first|apply Kd.S_alloc|apply Kd.S_drewN|apply Kd.S_drew));exact Kd.S_mono g0_ (fun _ hk=>⟨hk.1.1.2,⟨hk.1.1.1,⟨hk.1.2,hk.2⟩⟩⟩)):B:=f a0.out
theorem zz182 {B A0:Prop}(a0:Aside0 A0)(f:A0→B:=by intro g0_;(with_reducible repeat(first|apply Kd.S_alloc|apply Kd.S_drewN|apply Kd.S_drew));exact Kd.S_mono g0_ (fun _ hk=>⟨hk.1.1.2,⟨hk.1.2,⟨hk.2,hk.1.1.1⟩⟩⟩)):B:=f a0.out
theorem zz184 {B A0:Prop}(a0:Aside0 A0)(f:A0→B:=by intro g0_;repeat(first|exact(Kd.S_reads' g0_).2.2|(with_reducible refine Kd.C_alloc ?_ _)|(with_reducible refine Kd.C_drewN ?_ _)|(with_reducible refine Kd.C_drew ?_))):B:=f a0.out
end Go.Proofs.YtalfefmnlnkcaaaGreatDoor.P
end
section
namespace Go.Proofs
open Go.Shelf
def Tryz.lays156_ren:Go.Shelf.Ren:=⟨fun|156=>93|165=>110|166=>111|169=>112|240=>130|241=>131|276=>141|277=>142|n=>n,fun|31=>22|9=>9|3=>3|4=>4|0=>0|20=>20|72=>121|76=>125|70=>119|37=>35|75=>124|127=>140|164=>147|5=>5|80=>127|n=>n,fun|n=>n⟩
theorem Tryz.lays156:Go.Proofs.Lays.n156 Tryz.prog Tryz.lays156_ren:={
 mixed:=by kernel_rfl
 f156:=Tryz.func93.trans (congrArg some (by kernel_rfl))
 f165:=Tryz.func110.trans (congrArg some (by kernel_rfl))
 f166:=Tryz.func111.trans (congrArg some (by kernel_rfl))
 f169:=Tryz.func112.trans (congrArg some (by kernel_rfl))
 f240:=Tryz.func130.trans (congrArg some (by kernel_rfl))
 f241:=Tryz.func131.trans (congrArg some (by kernel_rfl))
 f276:=Tryz.func141.trans (congrArg some (by kernel_rfl))
 f277:=Tryz.func142.trans (congrArg some (by kernel_rfl))
 t0:=Tryz.underlying0
 a0:=Tryz.isAgg0
 z0:=Tryz.sizeOf0
 v0:=Tryz.zeroValue0
 t3:=Tryz.underlying3
 a3:=Tryz.isAgg3
 z3:=Tryz.sizeOf3
 v3:=Tryz.zeroValue3
 t4:=Tryz.underlying4
 a4:=Tryz.isAgg4
 z4:=Tryz.sizeOf4
 v4:=Tryz.zeroValue4
 t9:=Tryz.underlying9
 a9:=Tryz.isAgg9
 z9:=Tryz.sizeOf9
 v9:=Tryz.zeroValue9
 t20:=Tryz.underlying20
 a20:=Tryz.isAgg20
 z20:=Tryz.sizeOf20
 v20:=Tryz.zeroValue20
 t31:=Tryz.underlying22
 a31:=Tryz.isAgg22
 z31:=Tryz.sizeOf22
 v31:=Tryz.zeroValue22
 t37:=Tryz.underlying35
 a37:=Tryz.isAgg35
 z37:=Tryz.sizeOf35
 v37:=Tryz.zeroValue35
 t70:=Tryz.underlying119
 a70:=Tryz.isAgg119
 z70:=Tryz.sizeOf119
 v70:=Tryz.zeroValue119
 t72:=Tryz.underlying121
 a72:=Tryz.isAgg121
 z72:=Tryz.sizeOf121
 v72:=Tryz.zeroValue121
 t75:=Tryz.underlying124
 a75:=Tryz.isAgg124
 z75:=Tryz.sizeOf124
 v75:=Tryz.zeroValue124
 t76:=Tryz.underlying125
 a76:=Tryz.isAgg125
 z76:=Tryz.sizeOf125
 v76:=Tryz.zeroValue125
 t127:=Tryz.underlying140
 a127:=Tryz.isAgg140
 z127:=Tryz.sizeOf140
 v127:=Tryz.zeroValue140
 t164:=Tryz.underlying147
 a164:=Tryz.isAgg147
 z164:=Tryz.sizeOf147
 v164:=Tryz.zeroValue147 }
theorem Tryz.Builder_Extra_156:Builder.Extra Tryz.prog Tryz.lays156_ren:={
 sizeBuilder:=by kernel_rfl
 liesBuilder:=by kernel_rfl
 t5:=Tryz.underlying5
 a5:=Tryz.isAgg5
 z5:=Tryz.sizeOf5
 v5:=Tryz.zeroValue5
 infoByte:=by kernel_rfl
 cellsByte:=by kernel_rfl
 sizeByte:=by kernel_rfl
 neB5:=by decide }
open Go.RowKit in
theorem Tryz.strings_Join_none (a:Option Addr)(c:Nat)(sep:BA)(w:World):
  Calls Tryz.prog 93 #[.slice a 0 c,.string sep] w fun e w'=>e=.returned (.string ⟨#[]⟩)∧w'=w:=Any.strings_Join_none Tryz.lays156 Tryz.Builder_Extra_156 a c sep w
open Go.RowKit in
theorem Tryz.strings_Join (bk o c:Nat)(xs:List BA)(sep:BA)(w:World)(hcells:∀(j:Nat) x,xs[j]?=some x→w.cell? ⟨bk,o+j,none⟩=some (.string x))(hbk:bk<w.heap.size)(hN:xs.length≤140737488355328)(hcap:xs.length≤c)(hlen:(Lib.join (xs.map (·.data.toList)) sep.data.toList).length≤140737488355328):
  Calls Tryz.prog 93 #[.slice (some ⟨bk,o,none⟩) xs.length c,.string sep] w fun e w'=>e=.returned (.string ⟨(Lib.join (xs.map (·.data.toList)) sep.data.toList).toArray⟩)∧Below w.heap.size w w':=Any.strings_Join Tryz.lays156 Tryz.Builder_Extra_156 bk o c xs sep w hcells hbk hN hcap hlen
def Tryz.lays119_ren:Go.Shelf.Ren:=⟨fun|119=>138|n=>n,fun|21=>21|4=>4|n=>n,fun|n=>n⟩
theorem Tryz.lays119:Go.Proofs.Lays.n119 Tryz.prog Tryz.lays119_ren:={
 mixed:=by kernel_rfl
 f119:=Tryz.func138.trans (congrArg some (by kernel_rfl))
 t4:=Tryz.underlying4
 a4:=Tryz.isAgg4
 z4:=Tryz.sizeOf4
 v4:=Tryz.zeroValue4
 t21:=Tryz.underlying21
 a21:=Tryz.isAgg21
 z21:=Tryz.sizeOf21
 v21:=Tryz.zeroValue21 }
theorem Tryz.utf8_ValidRune (r:Int)(w:World):
  Calls Tryz.prog 138 #[.int .i32 r] w fun e w'=>e=.returned (.bool (Lib.validRune r))∧w'=w:=Any.utf8_ValidRune Tryz.lays119 r w
def Tryz.lays137_ren:Go.Shelf.Ren:=⟨fun|137=>137|217=>132|266=>143|n=>n,fun|9=>9|5=>5|3=>3|n=>n,fun|n=>n⟩
theorem Tryz.lays137:Go.Proofs.Lays.n137 Tryz.prog Tryz.lays137_ren:={
 mixed:=by kernel_rfl
 f137:=Tryz.func137.trans (congrArg some (by kernel_rfl))
 f217:=Tryz.func132.trans (congrArg some (by kernel_rfl))
 f266:=Tryz.func143.trans (congrArg some (by kernel_rfl))
 t3:=Tryz.underlying3
 a3:=Tryz.isAgg3
 z3:=Tryz.sizeOf3
 v3:=Tryz.zeroValue3
 t5:=Tryz.underlying5
 a5:=Tryz.isAgg5
 z5:=Tryz.sizeOf5
 v5:=Tryz.zeroValue5
 t9:=Tryz.underlying9
 a9:=Tryz.isAgg9
 z9:=Tryz.sizeOf9
 v9:=Tryz.zeroValue9 }
open Go.RowKit in
theorem Tryz.strings_IndexByte (s:BA)(c:Int)(w:World):
  Calls Tryz.prog 137 #[.string s,.int .u8 c] w fun e w'=>e=.returned (.int .i64 (Lib.indexByte s.data.toList c.toNat.toUInt8))∧w'=w:=Any.strings_IndexByte Tryz.lays137 s c w
def Tryz.lays210_ren:Go.Shelf.Ren:=⟨fun|210=>120|206=>136|n=>n,fun|9=>9|4=>4|3=>3|n=>n,fun|n=>n⟩
theorem Tryz.lays210:Go.Proofs.Lays.n210 Tryz.prog Tryz.lays210_ren:={
 mixed:=by kernel_rfl
 f206:=Tryz.func136.trans (congrArg some (by kernel_rfl))
 f210:=Tryz.func120.trans (congrArg some (by kernel_rfl))
 t3:=Tryz.underlying3
 a3:=Tryz.isAgg3
 z3:=Tryz.sizeOf3
 v3:=Tryz.zeroValue3
 t4:=Tryz.underlying4
 a4:=Tryz.isAgg4
 z4:=Tryz.sizeOf4
 v4:=Tryz.zeroValue4
 t9:=Tryz.underlying9
 a9:=Tryz.isAgg9
 z9:=Tryz.sizeOf9
 v9:=Tryz.zeroValue9 }
open Go.RowKit in
theorem Tryz.stringslite_CutPrefix (s p:BA)(w:World):
  Calls Tryz.prog 120 #[.string s,.string p] w fun e w'=>e=.returned (.tuple #[.string ⟨(Lib.trimPrefix s.data.toList p.data.toList).toArray⟩,.bool (Lib.hasPrefix s.data.toList p.data.toList)])∧w'=w:=Any.stringslite_CutPrefix Tryz.lays210 s p w
def Tryz.lays103_ren:Go.Shelf.Ren:=⟨fun|103=>103|210=>120|206=>136|n=>n,fun|9=>9|4=>4|24=>105|3=>3|n=>n,fun|n=>n⟩
theorem Tryz.lays103:Go.Proofs.Lays.n103 Tryz.prog Tryz.lays103_ren:={
 mixed:=by kernel_rfl
 f103:=Tryz.func103.trans (congrArg some (by kernel_rfl))
 f206:=Tryz.func136.trans (congrArg some (by kernel_rfl))
 f210:=Tryz.func120.trans (congrArg some (by kernel_rfl))
 t3:=Tryz.underlying3
 a3:=Tryz.isAgg3
 z3:=Tryz.sizeOf3
 v3:=Tryz.zeroValue3
 t4:=Tryz.underlying4
 a4:=Tryz.isAgg4
 z4:=Tryz.sizeOf4
 v4:=Tryz.zeroValue4
 t9:=Tryz.underlying9
 a9:=Tryz.isAgg9
 z9:=Tryz.sizeOf9
 v9:=Tryz.zeroValue9
 t24:=Tryz.underlying105
 a24:=Tryz.isAgg105
 z24:=Tryz.sizeOf105
 v24:=Tryz.zeroValue105 }
open Go.RowKit in
theorem Tryz.strings_CutPrefix (s p:BA)(w:World):
  Calls Tryz.prog 103 #[.string s,.string p] w fun e w'=>e=.returned (.tuple #[.string ⟨(Lib.trimPrefix s.data.toList p.data.toList).toArray⟩,.bool (Lib.hasPrefix s.data.toList p.data.toList)])∧w'=w:=Any.strings_CutPrefix Tryz.lays103 s p w
def Tryz.lays219_ren:Go.Shelf.Ren:=⟨fun|219=>119|217=>132|225=>133|224=>134|267=>135|266=>143|314=>144|n=>n,fun|9=>9|3=>3|4=>4|5=>5|46=>139|146=>151|51=>150|n=>n,fun|1=>0|n=>n⟩
theorem Tryz.lays219:Go.Proofs.Lays.n219 Tryz.prog Tryz.lays219_ren:={
 mixed:=by kernel_rfl
 f217:=Tryz.func132.trans (congrArg some (by kernel_rfl))
 f219:=Tryz.func119.trans (congrArg some (by kernel_rfl))
 f224:=Tryz.func134.trans (congrArg some (by kernel_rfl))
 f225:=Tryz.func133.trans (congrArg some (by kernel_rfl))
 f266:=Tryz.func143.trans (congrArg some (by kernel_rfl))
 f267:=Tryz.func135.trans (congrArg some (by kernel_rfl))
 f314:=Tryz.func144.trans (congrArg some (by kernel_rfl))
 t3:=Tryz.underlying3
 a3:=Tryz.isAgg3
 z3:=Tryz.sizeOf3
 v3:=Tryz.zeroValue3
 t4:=Tryz.underlying4
 a4:=Tryz.isAgg4
 z4:=Tryz.sizeOf4
 v4:=Tryz.zeroValue4
 t5:=Tryz.underlying5
 a5:=Tryz.isAgg5
 z5:=Tryz.sizeOf5
 v5:=Tryz.zeroValue5
 t9:=Tryz.underlying9
 a9:=Tryz.isAgg9
 z9:=Tryz.sizeOf9
 v9:=Tryz.zeroValue9
 t46:=Tryz.underlying139
 a46:=Tryz.isAgg139
 z46:=Tryz.sizeOf139
 v46:=Tryz.zeroValue139
 t51:=Tryz.underlying150
 a51:=Tryz.isAgg150
 z51:=Tryz.sizeOf150
 v51:=Tryz.zeroValue150
 t146:=Tryz.underlying151
 a146:=Tryz.isAgg151
 z146:=Tryz.sizeOf151
 v146:=Tryz.zeroValue151
 g1:=by kernel_rfl }
open Go.RowKit Go.Lib in
theorem Tryz.stringslite_Index_one (s:BA)(c:UInt8)(w:World):
  Calls Tryz.prog 119 #[.string s,.string ⟨#[c]⟩] w fun e w'=>e=.returned (.int .i64 (Lib.indexByte s.data.toList c))∧w'=w:=Any.stringslite_Index_one Tryz.lays219 s c w
open Go.RowKit Go.Lib in
theorem Tryz.stringslite_Index (s sub:BA)(m:Int)(w:World)(hs:s.size<4294967281)(hm:w.cell? ⟨0,0,none⟩=some (.int .i64 m)):
  Calls Tryz.prog 119 #[.string s,.string sub] w fun e w'=>e=.returned (.int .i64 (Lib.index s.data.toList sub.data.toList))∧w'=w:=Any.stringslite_Index Tryz.lays219 s sub m w hs hm
def Tryz.lays143_ren:Go.Shelf.Ren:=⟨fun|143=>147|219=>119|217=>132|225=>133|224=>134|267=>135|266=>143|314=>144|n=>n,fun|9=>9|3=>3|4=>4|5=>5|46=>139|146=>151|51=>150|n=>n,fun|1=>0|n=>n⟩
theorem Tryz.lays143:Go.Proofs.Lays.n143 Tryz.prog Tryz.lays143_ren:={
 mixed:=by kernel_rfl
 f143:=Tryz.func147.trans (congrArg some (by kernel_rfl))
 f217:=Tryz.func132.trans (congrArg some (by kernel_rfl))
 f219:=Tryz.func119.trans (congrArg some (by kernel_rfl))
 f224:=Tryz.func134.trans (congrArg some (by kernel_rfl))
 f225:=Tryz.func133.trans (congrArg some (by kernel_rfl))
 f266:=Tryz.func143.trans (congrArg some (by kernel_rfl))
 f267:=Tryz.func135.trans (congrArg some (by kernel_rfl))
 f314:=Tryz.func144.trans (congrArg some (by kernel_rfl))
 t3:=Tryz.underlying3
 a3:=Tryz.isAgg3
 z3:=Tryz.sizeOf3
 v3:=Tryz.zeroValue3
 t4:=Tryz.underlying4
 a4:=Tryz.isAgg4
 z4:=Tryz.sizeOf4
 v4:=Tryz.zeroValue4
 t5:=Tryz.underlying5
 a5:=Tryz.isAgg5
 z5:=Tryz.sizeOf5
 v5:=Tryz.zeroValue5
 t9:=Tryz.underlying9
 a9:=Tryz.isAgg9
 z9:=Tryz.sizeOf9
 v9:=Tryz.zeroValue9
 t46:=Tryz.underlying139
 a46:=Tryz.isAgg139
 z46:=Tryz.sizeOf139
 v46:=Tryz.zeroValue139
 t51:=Tryz.underlying150
 a51:=Tryz.isAgg150
 z51:=Tryz.sizeOf150
 v51:=Tryz.zeroValue150
 t146:=Tryz.underlying151
 a146:=Tryz.isAgg151
 z146:=Tryz.sizeOf151
 v146:=Tryz.zeroValue151
 g1:=by kernel_rfl }
open Go.RowKit Go.Lib in
theorem Tryz.strings_Index (s sub:BA)(m:Int)(w:World)(hs:s.size<4294967281)(hm:w.cell? ⟨0,0,none⟩=some (.int .i64 m)):
  Calls Tryz.prog 147 #[.string s,.string sub] w fun e w'=>e=.returned (.int .i64 (Lib.index s.data.toList sub.data.toList))∧w'=w:=Any.strings_Index Tryz.lays143 s sub m w hs hm
def Tryz.lays220_ren:Go.Shelf.Ren:=⟨fun|220=>102|219=>119|217=>132|225=>133|224=>134|267=>135|266=>143|314=>144|n=>n,fun|9=>9|4=>4|3=>3|5=>5|46=>139|146=>151|51=>150|n=>n,fun|1=>0|n=>n⟩
theorem Tryz.lays220:Go.Proofs.Lays.n220 Tryz.prog Tryz.lays220_ren:={
 mixed:=by kernel_rfl
 f217:=Tryz.func132.trans (congrArg some (by kernel_rfl))
 f219:=Tryz.func119.trans (congrArg some (by kernel_rfl))
 f220:=Tryz.func102.trans (congrArg some (by kernel_rfl))
 f224:=Tryz.func134.trans (congrArg some (by kernel_rfl))
 f225:=Tryz.func133.trans (congrArg some (by kernel_rfl))
 f266:=Tryz.func143.trans (congrArg some (by kernel_rfl))
 f267:=Tryz.func135.trans (congrArg some (by kernel_rfl))
 f314:=Tryz.func144.trans (congrArg some (by kernel_rfl))
 t3:=Tryz.underlying3
 a3:=Tryz.isAgg3
 z3:=Tryz.sizeOf3
 v3:=Tryz.zeroValue3
 t4:=Tryz.underlying4
 a4:=Tryz.isAgg4
 z4:=Tryz.sizeOf4
 v4:=Tryz.zeroValue4
 t5:=Tryz.underlying5
 a5:=Tryz.isAgg5
 z5:=Tryz.sizeOf5
 v5:=Tryz.zeroValue5
 t9:=Tryz.underlying9
 a9:=Tryz.isAgg9
 z9:=Tryz.sizeOf9
 v9:=Tryz.zeroValue9
 t46:=Tryz.underlying139
 a46:=Tryz.isAgg139
 z46:=Tryz.sizeOf139
 v46:=Tryz.zeroValue139
 t51:=Tryz.underlying150
 a51:=Tryz.isAgg150
 z51:=Tryz.sizeOf150
 v51:=Tryz.zeroValue150
 t146:=Tryz.underlying151
 a146:=Tryz.isAgg151
 z146:=Tryz.sizeOf151
 v146:=Tryz.zeroValue151
 g1:=by kernel_rfl }
open Go.RowKit Go.Lib in
theorem Tryz.stringslite_Cut (s sep:BA)(m:Int)(w:World)(hs:s.size<4294967281)(hm:w.cell? ⟨0,0,none⟩=some (.int .i64 m)):
  Calls Tryz.prog 102 #[.string s,.string sep] w fun e w'=>e=.returned (.tuple #[.string ⟨(Lib.cut s.data.toList sep.data.toList).1.toArray⟩,.string ⟨(Lib.cut s.data.toList sep.data.toList).2.1.toArray⟩,.bool (Lib.cut s.data.toList sep.data.toList).2.2])∧∃n,w'=w.drewN n:=Any.stringslite_Cut Tryz.lays220 s sep m w hs hm
def Tryz.lays145_ren:Go.Shelf.Ren:=⟨fun|145=>88|220=>102|219=>119|217=>132|225=>133|224=>134|267=>135|266=>143|314=>144|n=>n,fun|9=>9|4=>4|59=>93|3=>3|5=>5|46=>139|146=>151|51=>150|n=>n,fun|1=>0|n=>n⟩
theorem Tryz.lays145:Go.Proofs.Lays.n145 Tryz.prog Tryz.lays145_ren:={
 mixed:=by kernel_rfl
 f145:=Tryz.func88.trans (congrArg some (by kernel_rfl))
 f217:=Tryz.func132.trans (congrArg some (by kernel_rfl))
 f219:=Tryz.func119.trans (congrArg some (by kernel_rfl))
 f220:=Tryz.func102.trans (congrArg some (by kernel_rfl))
 f224:=Tryz.func134.trans (congrArg some (by kernel_rfl))
 f225:=Tryz.func133.trans (congrArg some (by kernel_rfl))
 f266:=Tryz.func143.trans (congrArg some (by kernel_rfl))
 f267:=Tryz.func135.trans (congrArg some (by kernel_rfl))
 f314:=Tryz.func144.trans (congrArg some (by kernel_rfl))
 t3:=Tryz.underlying3
 a3:=Tryz.isAgg3
 z3:=Tryz.sizeOf3
 v3:=Tryz.zeroValue3
 t4:=Tryz.underlying4
 a4:=Tryz.isAgg4
 z4:=Tryz.sizeOf4
 v4:=Tryz.zeroValue4
 t5:=Tryz.underlying5
 a5:=Tryz.isAgg5
 z5:=Tryz.sizeOf5
 v5:=Tryz.zeroValue5
 t9:=Tryz.underlying9
 a9:=Tryz.isAgg9
 z9:=Tryz.sizeOf9
 v9:=Tryz.zeroValue9
 t46:=Tryz.underlying139
 a46:=Tryz.isAgg139
 z46:=Tryz.sizeOf139
 v46:=Tryz.zeroValue139
 t51:=Tryz.underlying150
 a51:=Tryz.isAgg150
 z51:=Tryz.sizeOf150
 v51:=Tryz.zeroValue150
 t59:=Tryz.underlying93
 a59:=Tryz.isAgg93
 z59:=Tryz.sizeOf93
 v59:=Tryz.zeroValue93
 t146:=Tryz.underlying151
 a146:=Tryz.isAgg151
 z146:=Tryz.sizeOf151
 v146:=Tryz.zeroValue151
 g1:=by kernel_rfl }
open Go.RowKit Go.Lib in
theorem Tryz.strings_Cut (s sep:BA)(m:Int)(w:World)(hs:s.size<4294967281)(hm:w.cell? ⟨0,0,none⟩=some (.int .i64 m)):
  Calls Tryz.prog 88 #[.string s,.string sep] w fun e w'=>e=.returned (.tuple #[.string ⟨(Lib.cut s.data.toList sep.data.toList).1.toArray⟩,.string ⟨(Lib.cut s.data.toList sep.data.toList).2.1.toArray⟩,.bool (Lib.cut s.data.toList sep.data.toList).2.2])∧∃n,w'=w.drewN n:=Any.strings_Cut Tryz.lays145 s sep m w hs hm
def Tryz.lays138_ren:Go.Shelf.Ren:=⟨fun|138=>146|195=>148|218=>150|143=>147|219=>119|217=>132|225=>133|224=>134|267=>135|266=>143|314=>144|n=>n,fun|9=>9|3=>3|4=>4|5=>5|0=>0|46=>139|146=>151|51=>150|n=>n,fun|1=>0|n=>n⟩
theorem Tryz.lays138:Go.Proofs.Lays.n138 Tryz.prog Tryz.lays138_ren:={
 mixed:=by kernel_rfl
 f138:=Tryz.func146.trans (congrArg some (by kernel_rfl))
 f143:=Tryz.func147.trans (congrArg some (by kernel_rfl))
 f195:=Tryz.func148.trans (congrArg some (by kernel_rfl))
 f217:=Tryz.func132.trans (congrArg some (by kernel_rfl))
 f218:=Tryz.func150.trans (congrArg some (by kernel_rfl))
 f219:=Tryz.func119.trans (congrArg some (by kernel_rfl))
 f224:=Tryz.func134.trans (congrArg some (by kernel_rfl))
 f225:=Tryz.func133.trans (congrArg some (by kernel_rfl))
 f266:=Tryz.func143.trans (congrArg some (by kernel_rfl))
 f267:=Tryz.func135.trans (congrArg some (by kernel_rfl))
 f314:=Tryz.func144.trans (congrArg some (by kernel_rfl))
 t0:=Tryz.underlying0
 a0:=Tryz.isAgg0
 z0:=Tryz.sizeOf0
 v0:=Tryz.zeroValue0
 t3:=Tryz.underlying3
 a3:=Tryz.isAgg3
 z3:=Tryz.sizeOf3
 v3:=Tryz.zeroValue3
 t4:=Tryz.underlying4
 a4:=Tryz.isAgg4
 z4:=Tryz.sizeOf4
 v4:=Tryz.zeroValue4
 t5:=Tryz.underlying5
 a5:=Tryz.isAgg5
 z5:=Tryz.sizeOf5
 v5:=Tryz.zeroValue5
 t9:=Tryz.underlying9
 a9:=Tryz.isAgg9
 z9:=Tryz.sizeOf9
 v9:=Tryz.zeroValue9
 t46:=Tryz.underlying139
 a46:=Tryz.isAgg139
 z46:=Tryz.sizeOf139
 v46:=Tryz.zeroValue139
 t51:=Tryz.underlying150
 a51:=Tryz.isAgg150
 z51:=Tryz.sizeOf150
 v51:=Tryz.zeroValue150
 t146:=Tryz.underlying151
 a146:=Tryz.isAgg151
 z146:=Tryz.sizeOf151
 v146:=Tryz.zeroValue151
 g1:=by kernel_rfl }
open Go.RowKit Go.Lib in
theorem Tryz.strings_Count_one (s:BA)(c:UInt8)(w:World):
  Calls Tryz.prog 146 #[.string s,.string ⟨#[c]⟩] w fun e w'=>e=.returned (.int .i64 (Lib.countByte s.data.toList c))∧w'=w:=Any.strings_Count_one Tryz.lays138 s c w
open Go.RowKit Go.Lib in
theorem Tryz.strings_Count (s sub:BA)(m:Int)(w:World)(hs:s.size<4294967281)(hm:w.cell? ⟨0,0,none⟩=some (.int .i64 m))(h2:2≤sub.size):
  Calls Tryz.prog 146 #[.string s,.string sub] w fun e w'=>e=.returned (.int .i64 (Lib.countB s sub))∧w'=w:=Any.strings_Count Tryz.lays138 s sub m w hs hm h2
def Tryz.lays206_ren:Go.Shelf.Ren:=⟨fun|206=>136|n=>n,fun|9=>9|4=>4|3=>3|n=>n,fun|n=>n⟩
theorem Tryz.lays206:Go.Proofs.Lays.n206 Tryz.prog Tryz.lays206_ren:={
 mixed:=by kernel_rfl
 f206:=Tryz.func136.trans (congrArg some (by kernel_rfl))
 t3:=Tryz.underlying3
 a3:=Tryz.isAgg3
 z3:=Tryz.sizeOf3
 v3:=Tryz.zeroValue3
 t4:=Tryz.underlying4
 a4:=Tryz.isAgg4
 z4:=Tryz.sizeOf4
 v4:=Tryz.zeroValue4
 t9:=Tryz.underlying9
 a9:=Tryz.isAgg9
 z9:=Tryz.sizeOf9
 v9:=Tryz.zeroValue9 }
open Go.RowKit Go.Lib in
theorem Tryz.stringslite_HasPrefix (s p:BA)(w:World):
  Calls Tryz.prog 136 #[.string s,.string p] w fun e w'=>e=.returned (.bool (Lib.hasPrefix s.data.toList p.data.toList))∧w'=w:=Any.stringslite_HasPrefix Tryz.lays206 s p w
def Tryz.lays207_ren:Go.Shelf.Ren:=⟨fun|207=>128|n=>n,fun|9=>9|4=>4|3=>3|n=>n,fun|n=>n⟩
theorem Tryz.lays207:Go.Proofs.Lays.n207 Tryz.prog Tryz.lays207_ren:={
 mixed:=by kernel_rfl
 f207:=Tryz.func128.trans (congrArg some (by kernel_rfl))
 t3:=Tryz.underlying3
 a3:=Tryz.isAgg3
 z3:=Tryz.sizeOf3
 v3:=Tryz.zeroValue3
 t4:=Tryz.underlying4
 a4:=Tryz.isAgg4
 z4:=Tryz.sizeOf4
 v4:=Tryz.zeroValue4
 t9:=Tryz.underlying9
 a9:=Tryz.isAgg9
 z9:=Tryz.sizeOf9
 v9:=Tryz.zeroValue9 }
open Go.RowKit Go.Lib in
theorem Tryz.stringslite_HasSuffix (s p:BA)(w:World)(hs:s.size≤9223372036854775807):
  Calls Tryz.prog 128 #[.string s,.string p] w fun e w'=>e=.returned (.bool (Lib.hasSuffix s.data.toList p.data.toList))∧w'=w:=Any.stringslite_HasSuffix Tryz.lays207 s p w hs
def Tryz.lays209_ren:Go.Shelf.Ren:=⟨fun|209=>114|207=>128|n=>n,fun|9=>9|4=>4|3=>3|n=>n,fun|n=>n⟩
theorem Tryz.lays209:Go.Proofs.Lays.n209 Tryz.prog Tryz.lays209_ren:={
 mixed:=by kernel_rfl
 f207:=Tryz.func128.trans (congrArg some (by kernel_rfl))
 f209:=Tryz.func114.trans (congrArg some (by kernel_rfl))
 t3:=Tryz.underlying3
 a3:=Tryz.isAgg3
 z3:=Tryz.sizeOf3
 v3:=Tryz.zeroValue3
 t4:=Tryz.underlying4
 a4:=Tryz.isAgg4
 z4:=Tryz.sizeOf4
 v4:=Tryz.zeroValue4
 t9:=Tryz.underlying9
 a9:=Tryz.isAgg9
 z9:=Tryz.sizeOf9
 v9:=Tryz.zeroValue9 }
open Go.RowKit Go.Lib in
theorem Tryz.stringslite_TrimSuffix (s p:BA)(w:World)(hs:s.size≤9223372036854775807):
  Calls Tryz.prog 114 #[.string s,.string p] w fun e w'=>e=.returned (.string ⟨(Lib.trimSuffix s.data.toList p.data.toList).toArray⟩)∧w'=w:=Any.stringslite_TrimSuffix Tryz.lays209 s p w hs
def Tryz.lays102_ren:Go.Shelf.Ren:=⟨fun|102=>97|209=>114|207=>128|n=>n,fun|9=>9|4=>4|3=>3|n=>n,fun|n=>n⟩
theorem Tryz.lays102:Go.Proofs.Lays.n102 Tryz.prog Tryz.lays102_ren:={
 mixed:=by kernel_rfl
 f102:=Tryz.func97.trans (congrArg some (by kernel_rfl))
 f207:=Tryz.func128.trans (congrArg some (by kernel_rfl))
 f209:=Tryz.func114.trans (congrArg some (by kernel_rfl))
 t3:=Tryz.underlying3
 a3:=Tryz.isAgg3
 z3:=Tryz.sizeOf3
 v3:=Tryz.zeroValue3
 t4:=Tryz.underlying4
 a4:=Tryz.isAgg4
 z4:=Tryz.sizeOf4
 v4:=Tryz.zeroValue4
 t9:=Tryz.underlying9
 a9:=Tryz.isAgg9
 z9:=Tryz.sizeOf9
 v9:=Tryz.zeroValue9 }
open Go.RowKit Go.Lib in
theorem Tryz.strings_TrimSuffix (s p:BA)(w:World)(hs:s.size≤9223372036854775807):
  Calls Tryz.prog 97 #[.string s,.string p] w fun e w'=>e=.returned (.string ⟨(Lib.trimSuffix s.data.toList p.data.toList).toArray⟩)∧w'=w:=Any.strings_TrimSuffix Tryz.lays102 s p w hs
def Tryz.lays152_ren:Go.Shelf.Ren:=⟨fun|152=>121|137=>137|119=>138|224=>134|225=>133|217=>132|266=>143|n=>n,fun|9=>9|21=>21|3=>3|4=>4|5=>5|0=>0|46=>139|n=>n,fun|n=>n⟩
theorem Tryz.lays152:Go.Proofs.Lays.n152 Tryz.prog Tryz.lays152_ren:={
 mixed:=by kernel_rfl
 f119:=Tryz.func138.trans (congrArg some (by kernel_rfl))
 f137:=Tryz.func137.trans (congrArg some (by kernel_rfl))
 f152:=Tryz.func121.trans (congrArg some (by kernel_rfl))
 f217:=Tryz.func132.trans (congrArg some (by kernel_rfl))
 f224:=Tryz.func134.trans (congrArg some (by kernel_rfl))
 f225:=Tryz.func133.trans (congrArg some (by kernel_rfl))
 f266:=Tryz.func143.trans (congrArg some (by kernel_rfl))
 t0:=Tryz.underlying0
 a0:=Tryz.isAgg0
 z0:=Tryz.sizeOf0
 v0:=Tryz.zeroValue0
 t3:=Tryz.underlying3
 a3:=Tryz.isAgg3
 z3:=Tryz.sizeOf3
 v3:=Tryz.zeroValue3
 t4:=Tryz.underlying4
 a4:=Tryz.isAgg4
 z4:=Tryz.sizeOf4
 v4:=Tryz.zeroValue4
 t5:=Tryz.underlying5
 a5:=Tryz.isAgg5
 z5:=Tryz.sizeOf5
 v5:=Tryz.zeroValue5
 t9:=Tryz.underlying9
 a9:=Tryz.isAgg9
 z9:=Tryz.sizeOf9
 v9:=Tryz.zeroValue9
 t21:=Tryz.underlying21
 a21:=Tryz.isAgg21
 z21:=Tryz.sizeOf21
 v21:=Tryz.zeroValue21
 t46:=Tryz.underlying139
 a46:=Tryz.isAgg139
 z46:=Tryz.sizeOf139
 v46:=Tryz.zeroValue139 }
open Go.RowKit Go.Lib in
theorem Tryz.strings_IndexRune_ascii (s:BA)(r:Int)(w:World)(h0:0≤r)(h1:r<128):
  Calls Tryz.prog 121 #[.string s,.int .i32 r] w fun e w'=>e=.returned (.int .i64 (Lib.indexByte s.data.toList r.toNat.toUInt8))∧w'=w:=Any.strings_IndexRune_ascii Tryz.lays152 s r w h0 h1
def Tryz.lays226_ren:Go.Shelf.Ren:=⟨fun|226=>122|n=>n,fun|3=>3|4=>4|n=>n,fun|n=>n⟩
theorem Tryz.lays226:Go.Proofs.Lays.n226 Tryz.prog Tryz.lays226_ren:={
 mixed:=by kernel_rfl
 f226:=Tryz.func122.trans (congrArg some (by kernel_rfl))
 t3:=Tryz.underlying3
 a3:=Tryz.isAgg3
 z3:=Tryz.sizeOf3
 v3:=Tryz.zeroValue3
 t4:=Tryz.underlying4
 a4:=Tryz.isAgg4
 z4:=Tryz.sizeOf4
 v4:=Tryz.zeroValue4 }
open Go.RowKit Go.Lib in
theorem Tryz.strings_shouldUseASCIISet (n:Int)(w:World):
  Calls Tryz.prog 122 #[.int .i64 n] w fun e w'=>e=.returned (.bool (decide (8<n)))∧w'=w:=Any.strings_shouldUseASCIISet Tryz.lays226 n w
def Tryz.lays153_ren:Go.Shelf.Ren:=⟨fun|153=>104|152=>121|226=>122|227=>123|228=>124|137=>137|119=>138|224=>134|225=>133|217=>132|266=>143|n=>n,fun|9=>9|3=>3|4=>4|5=>5|21=>21|117=>134|116=>133|0=>0|46=>139|124=>143|n=>n,fun|n=>n⟩
theorem Tryz.lays153:Go.Proofs.Lays.n153 Tryz.prog Tryz.lays153_ren:={
 mixed:=by kernel_rfl
 f119:=Tryz.func138.trans (congrArg some (by kernel_rfl))
 f137:=Tryz.func137.trans (congrArg some (by kernel_rfl))
 f152:=Tryz.func121.trans (congrArg some (by kernel_rfl))
 f153:=Tryz.func104.trans (congrArg some (by kernel_rfl))
 f217:=Tryz.func132.trans (congrArg some (by kernel_rfl))
 f224:=Tryz.func134.trans (congrArg some (by kernel_rfl))
 f225:=Tryz.func133.trans (congrArg some (by kernel_rfl))
 f226:=Tryz.func122.trans (congrArg some (by kernel_rfl))
 f227:=Tryz.func123.trans (congrArg some (by kernel_rfl))
 f228:=Tryz.func124.trans (congrArg some (by kernel_rfl))
 f266:=Tryz.func143.trans (congrArg some (by kernel_rfl))
 t0:=Tryz.underlying0
 a0:=Tryz.isAgg0
 z0:=Tryz.sizeOf0
 v0:=Tryz.zeroValue0
 t3:=Tryz.underlying3
 a3:=Tryz.isAgg3
 z3:=Tryz.sizeOf3
 v3:=Tryz.zeroValue3
 t4:=Tryz.underlying4
 a4:=Tryz.isAgg4
 z4:=Tryz.sizeOf4
 v4:=Tryz.zeroValue4
 t5:=Tryz.underlying5
 a5:=Tryz.isAgg5
 z5:=Tryz.sizeOf5
 v5:=Tryz.zeroValue5
 t9:=Tryz.underlying9
 a9:=Tryz.isAgg9
 z9:=Tryz.sizeOf9
 v9:=Tryz.zeroValue9
 t21:=Tryz.underlying21
 a21:=Tryz.isAgg21
 z21:=Tryz.sizeOf21
 v21:=Tryz.zeroValue21
 t46:=Tryz.underlying139
 a46:=Tryz.isAgg139
 z46:=Tryz.sizeOf139
 v46:=Tryz.zeroValue139
 t116:=Tryz.underlying133
 a116:=Tryz.isAgg133
 z116:=Tryz.sizeOf133
 t117:=Tryz.underlying134
 a117:=Tryz.isAgg134
 z117:=Tryz.sizeOf134
 v117:=Tryz.zeroValue134
 t124:=Tryz.underlying143
 a124:=Tryz.isAgg143
 z124:=Tryz.sizeOf143
 v124:=Tryz.zeroValue143 }
open Go.RowKit Go.Lib in
theorem Tryz.strings_IndexAny_long (hv116:∀w,(zeroValue 133).run Tryz.prog w=.ok (.agg (Array.replicate 256 (.bool false))) w)(s chars:BA)(w:World)(h2:2≤chars.size)(h8:8<s.size)(hs:s.size<4294967281)(hcs:chars.size<4294967281)(hascii:∀(j:Nat) b,chars.data.toList[j]?=some b→b.toNat<128):
  Calls Tryz.prog 104 #[.string s,.string chars] w fun e w'=>e=.returned (.int .i64 (Lib.indexAny s.data.toList chars.data.toList))∧w'=((w.alloc (.cells (Lib.setCells chars.data.toList) 133)).alloc (.cells (Lib.setCells chars.data.toList) 133)):=Any.strings_IndexAny_long Tryz.lays153 hv116 (by kernel_rfl) s chars w h2 h8 hs hcs hascii
open Go.RowKit Go.Lib in
theorem Tryz.strings_IndexAny (hv116:∀w,(zeroValue 133).run Tryz.prog w=.ok (.agg (Array.replicate 256 (.bool false))) w)(s chars:BA)(w:World)(hs:s.size<4294967281)(hcs:chars.size<4294967281)(has:∀(j:Nat) b,s.data.toList[j]?=some b→b.toNat<128)(hac:∀(j:Nat) b,chars.data.toList[j]?=some b→b.toNat<128):
  Calls Tryz.prog 104 #[.string s,.string chars] w fun e w'=>e=.returned (.int .i64 (Lib.indexAny s.data.toList chars.data.toList))∧Below w.heap.size w w':=Any.strings_IndexAny Tryz.lays153 hv116 (by kernel_rfl) s chars w hs hcs has hac
def Tryz.laysNm216_ren:Go.Shelf.Ren:=⟨fun|16=>125|n=>n,fun|24=>22|9=>9|4=>4|n=>n,fun|n=>n⟩
theorem Tryz.laysNm216:Go.Proofs.Lays2.n16 Tryz.prog Tryz.laysNm216_ren:={
 mixed:=by kernel_rfl
 f16:=Tryz.func125.trans (congrArg some (by kernel_rfl))
 t4:=Tryz.underlying4
 a4:=Tryz.isAgg4
 z4:=Tryz.sizeOf4
 v4:=Tryz.zeroValue4
 t9:=Tryz.underlying9
 a9:=Tryz.isAgg9
 z9:=Tryz.sizeOf9
 v9:=Tryz.zeroValue9
 t24:=Tryz.underlying22
 a24:=Tryz.isAgg22
 z24:=Tryz.sizeOf22
 v24:=Tryz.zeroValue22
 i9:=by kernel_rfl }
open Go.RowKit Go.Lib in
theorem Tryz.slices_Clone_string (b off n c:Nat)(zs:List BA)(w:World)(hz:n≤zs.length)(hbig:n*16≤140737488355328)(hc:∀j,j<zs.length→w.cell? ⟨b,off+j,none⟩=some (.string (zs.getD j bE_))):
  Calls Tryz.prog 125 #[.slice (some ⟨b,off,none⟩) n c] w fun e w'=>∃v',e=.returned v'∧w'.ownsRow w.heap.size 9 1 v' n ((zs.take n).map (Value.string))∧v'≠.slice none 0 0∧Below w.heap.size w w':=Any.slices_Clone_string Tryz.laysNm216 b off n c zs w hz hbig hc
open Go.RowKit Go.Lib in
theorem Tryz.slices_Clone_string_nil (n c:Nat)(w:World):
  Calls Tryz.prog 125 #[.slice none n c] w fun e w'=>e=.returned (.slice none 0 0)∧w'=w:=Any.slices_Clone_string_nil Tryz.laysNm216 n c w
open Go.RowKit Go.Lib in
theorem Tryz.slices_Clone_string_zero (a:Addr)(c:Nat)(w:World):
  Calls Tryz.prog 125 #[.slice (some a) 0 c] w fun e w'=>∃v',e=.returned v'∧w'.ownsRow w.heap.size 9 1 v' 0 []∧v'≠.slice none 0 0∧Below w.heap.size w w':=Any.slices_Clone_string_zero Tryz.laysNm216 a c w
end Go.Proofs
end
section
namespace Go.Proofs.YtalfefmnlnkcaaaGreatDoor.P
open Go.RowKit Go.Proofs.YtalfefmnlnkcaaaGreatDoorW PrintWords PrintLast PrintMore
attribute [local go_sem] max2_int min2_int max_two min_two max_three min_three max_four min_four
set_option maxHeartbeats 8000000
set_option maxRecDepth 100000
def IsS87 (w0 W:World)(g:Nat)(f0:List Int)(f1:Int):Prop:=∃A0 c0,W.heap[g]?=some (.cells #[.slice A0 f0.length c0,.int .i64 f1] 87 (0,0))∧w0.heap.size≤g∧Kd.C (Kd.int .u8) w0 A0 f0.length f0
theorem IsS87.grown {w0 W:World}{g:Nat}{f0:List Int}{f1:Int}{W1:World}{row:Option Nat}(h:IsS87 w0 W g f0 f1)(hw:W.grownBy W1 row)(hne:some g≠row):IsS87 w0 W1 g f0 f1:=by
 obtain⟨A0,c0,hb,hg,hr0⟩:=h;exact⟨A0,c0,blk_grown hb hw hne,hg,hr0⟩
theorem IsS87.kept {w0 W:World}{g:Nat}{f0:List Int}{f1:Int}{W1:World}{S:Nat→Prop}(h:IsS87 w0 W g f0 f1)(hk:Kept W W1 S)(hne:¬S g):IsS87 w0 W1 g f0 f1:=by
 obtain⟨A0,c0,hb,hg,hr0⟩:=h;exact⟨A0,c0,blk_kept hb hk hne,hg,hr0⟩
theorem IsS87.below {w0 W:World}{g:Nat}{f0:List Int}{f1:Int}{W1:World}(h:IsS87 w0 W g f0 f1)(hw:Below W.heap.size W W1):IsS87 w0 W1 g f0 f1:=h.grown (grown_of_below hw none) (by simp)
theorem IsS87.alloc {w0 W:World}{g:Nat}{f0:List Int}{f1:Int}(h:IsS87 w0 W g f0 f1)(o:Obj):IsS87 w0 (W.alloc o) g f0 f1:=h.below (below_alloc (Below.refl _ _) o)
theorem IsS87.drewN {w0 W:World}{g:Nat}{f0:List Int}{f1:Int}(h:IsS87 w0 W g f0 f1)(m:Nat):IsS87 w0 (W.drewN m) g f0 f1:=h
theorem IsS87.drew {w0 W:World}{g:Nat}{f0:List Int}{f1:Int}(h:IsS87 w0 W g f0 f1):IsS87 w0 W.drew g f0 f1:=h
theorem IsS87.at_ {w0 W:World}{g:Nat}{f0:List Int}{f1:Int}{w':World}{m:Nat}(hq:W.drewN m=w')(h:IsS87 w0 W g f0 f1):IsS87 w0 w' g f0 f1:=by subst hq;exact IsS87.drewN h m
theorem IsS87.apart {w0 W:World}{g:Nat}{f0:List Int}{f1:Int}{α:Type}{d:Kd α}{e:Nat}{base:Nat}{ok:Nat→Prop}{v:Value}{xs:List α}(h:IsS87 w0 W g f0 f1)(ho:d.R e W base ok v xs)(ht:∀q,q∈e::d.E→q≠87):d.R e W base (fun k=>ok k∧k≠g) v xs:=by
 obtain⟨A0,c0,hb,hg,hr0⟩:=h;exact Kd.R_types ho hb ht
theorem IsS87.own_ne {w0 W:World}{g:Nat}{f0:List Int}{f1:Int}{α:Type}{d:Kd α}{e:Nat}{base:Nat}{ok:Nat→Prop}{v:Value}{xs:List α}(h:IsS87 w0 W g f0 f1)(ho:d.R e W base ok v xs)(ht:e≠87):some g≠v.ownBlock:=by
 obtain⟨A0,c0,hb,hg,hr0⟩:=h;exact Kd.R_ne ho hb ht
theorem IsS87.lt {w0 W:World}{g:Nat}{f0:List Int}{f1:Int}(h:IsS87 w0 W g f0 f1):g<W.heap.size:=by
 obtain⟨A0,c0,hb,hg,hr0⟩:=h;exact blk_lt hb
theorem IsS87.ge {w0 W:World}{g:Nat}{f0:List Int}{f1:Int}(h:IsS87 w0 W g f0 f1):w0.heap.size≤g:=by
 obtain⟨A0,c0,hb,hg,hr0⟩:=h;exact hg
theorem IsS87.far {w0 W:World}{g:Nat}{f0:List Int}{f1:Int}{p:Addr}(h:IsS87 w0 W g f0 f1)(hne:g≠p.block)(u:Value):IsS87 w0 (W.setCell p u) g f0 f1:=by
 obtain⟨A0,c0,hb,hg,hr0⟩:=h;exact⟨A0,c0,blk_far hb hne u,hg,hr0⟩
theorem cellS87_0 {W:World}{g:Nat}{A0:Option Addr}{c0:Nat}{f0:List Int}{f1:Int}(h:W.heap[g]?=some (.cells #[.slice A0 f0.length c0,.int .i64 f1] 87 (0,0))):W.cell? ⟨g,0,none⟩=some (.slice A0 f0.length c0):=(blk_cell h 0).trans rfl
theorem cellS87_1 {W:World}{g:Nat}{A0:Option Addr}{c0:Nat}{f0:List Int}{f1:Int}(h:W.heap[g]?=some (.cells #[.slice A0 f0.length c0,.int .i64 f1] 87 (0,0))):W.cell? ⟨g,1,none⟩=some (.int .i64 f1):=(blk_cell h 1).trans rfl
theorem IsS87.set_1 {w0 W:World}{g:Nat}{f0:List Int}{f1:Int}(h:IsS87 w0 W g f0 f1)(x:Int):IsS87 w0 (W.setCell ⟨g,1,none⟩ (.int .i64 x)) g f0 x:=by
 obtain⟨A0,c0,hb,hg,hr0⟩:=h;exact⟨A0,c0,(by simpa using blk_set hb 1 (.int .i64 x)),hg,hr0⟩
def spec_l6Open.f (l0:List Int):Option (List Int×Int):=if(l0.length:Int)>2000 then(if 2000≤(l0.length:Int)then(some (l0.take 2000,0))else(none))else(some (l0,0))
theorem spec_l6Open.calls (A0:Option Addr)(c0:Nat)(l0:List Int)(r1:List Int)(r2:Int)(w0 w:World)(hB:Below w0.heap.size w0 w)(hr0:Kd.C (Kd.int .u8) w0 A0 l0.length l0)(hc0:l0.length≤c0)(h:spec_l6Open.f l0=some (r1,r2)):
  Calls Tryz.prog 32 #[.slice A0 l0.length c0] w fun e w'=>∃g_:Nat,e=.returned (.pointer (some ⟨g_,0,none⟩))∧IsS87 w0 w' g_ r1 r2∧Below w0.heap.size w0 w'∧Below w.heap.size w w':=by
 have hu87:=Tryz.underlying87;have HR0:=A_ hr0;have HC0:=A_ hc0;clear hr0 hc0;have HBW:=A_ (Below.refl w.heap.size w);have HW0:=A_ hB.size;have HB:=A_ hB;clear hB;unfold spec_l6Open.f at h;have H:=h;clear h;replace H:=iteE H;rcases H with⟨c2,H⟩|⟨c2,H⟩
 ·have c2b0:=gtT c2
  have c2b1:decide (2000<l0.length)=true:=dT (by omega);clear c2;replace H:=iteN H;obtain⟨c3,H⟩:=H;have c3b0:=eq_true c3;have c3b1:=dT c3;clear c3;simp only[oI_,pI_]at H;obtain⟨rfl,rfl⟩:=H;obtain⟨i04,hi04,_,hsz4,_⟩:=info_parts info5;obtain⟨hcut4,hA4,hC4⟩:=print_take_of (P:=Tryz.prog) (Value.int .u8) 0 35 5 .i64 Tryz.underlying35 hi04 hsz4 A0 c0 l0 2000 (by omega) ofD HC0.out;have HR482:=A_ (Kd.C_of_reads (h1:=fun _=>rfl) (hA4 _ (Kd.reads_of_C HR0.out)));have HC482:=A_ hC4;clear hA4 hC4 hi04 hsz4;go_enter Tryz.func32,Tryz.ntmps32;go_wp2_with (first|(refine boxF 10 #[.slice A0 (l0.take 2000).length c0,.int .i64 0] 87 ?_;intro gb483 hg w5 BK483 hb;replace HB:=A_ (bS (zz2 HB) hb);have GW483:=A_ ((by rw[hg];exact(below_size (zz2 HBW)):w.heap.size≤gb483));have GE483:=A_ ((nT_ HW0.out (by rw[hg];exact(below_size (zz2 HBW)):w.heap.size≤gb483):w0.heap.size≤gb483));replace HBW:=A_ (bS HBW.out hb);clear hb hg));go_ret;exact⟨_,rfl,(show IsS87 w0 _ gb483 (l0.take 2000) 0 from⟨_,_,(zz3 BK483),GE483.out,HR482.out⟩),(zz4 HB GE483),(zz4 HBW GW483)⟩
 ·have c2b0:=gtF c2
  have c2b1:decide (2000<l0.length)=false:=dF (by omega);clear c2;simp only[oI_,pI_]at H;obtain⟨rfl,rfl⟩:=H;go_enter Tryz.func32,Tryz.ntmps32;go_wp2_with (first|(refine boxF 10 #[.slice A0 l0.length c0,.int .i64 0] 87 ?_;intro gb484 hg w6 BK484 hb;replace HB:=A_ (bS (zz2 HB) hb);have GW484:=A_ ((by rw[hg];exact(below_size (zz2 HBW)):w.heap.size≤gb484));have GE484:=A_ ((nT_ HW0.out (by rw[hg];exact(below_size (zz2 HBW)):w.heap.size≤gb484):w0.heap.size≤gb484));replace HBW:=A_ (bS HBW.out hb);clear hb hg));go_ret;exact⟨_,rfl,(show IsS87 w0 _ gb484 l0 0 from⟨_,_,(zz3 BK484),GE484.out,HR0.out⟩),(zz4 HB GE484),(zz4 HBW GW484)⟩
def spec_l6Rd_pick.j0:Nat→Int→Bool→List Int→Int→Option (Int×Int)
 |0,_,_,_,_=>none
 |k+1,x1,x24,x1000,x1001=>if x24=true then(some (0,x1001))else(if(wrap64 (x1001-1))<(x1000.length:Int)then(if 0≤(wrap64 (x1001-1))then(if x1=0 then(none)else(some (Int.tmod (wrap64 (rd x1000 (wrap64 (x1001-1)))) x1,x1001)))else(none))else(if(x1000.length:Int)=0 then(none)else(if 0≤(Int.tmod (wrap64 (x1001-1)) (x1000.length:Int))then(if(Int.tmod (wrap64 (x1001-1)) (x1000.length:Int))<(x1000.length:Int)then(if 0≤(Int.tmod (wrap64 ((wrap64 ((wrap64 (x1001-1))*7))+3)) (x1000.length:Int))then(if(Int.tmod (wrap64 ((wrap64 ((wrap64 (x1001-1))*7))+3)) (x1000.length:Int))<(x1000.length:Int)then(if x1=0 then(none)else(some (Int.tmod (Go.bits .xor .i64 (wrap64 ((wrap64 ((wrap64 ((wrap64 ((wrap64 (rd x1000 (Int.tmod (wrap64 (x1001-1)) (x1000.length:Int))))*131))+(wrap64 ((wrap64 (rd x1000 (Int.tmod (wrap64 ((wrap64 ((wrap64 (x1001-1))*7))+3)) (x1000.length:Int))))*1117))))+(wrap64 ((wrap64 (x1001-1))*29))))+(wrap64 ((wrap64 (Int.tdiv (wrap64 (x1001-1)) (x1000.length:Int)))*53)))) (wrap64 (Int.tdiv (wrap64 ((wrap64 ((wrap64 ((wrap64 ((wrap64 (rd x1000 (Int.tmod (wrap64 (x1001-1)) (x1000.length:Int))))*131))+(wrap64 ((wrap64 (rd x1000 (Int.tmod (wrap64 ((wrap64 ((wrap64 (x1001-1))*7))+3)) (x1000.length:Int))))*1117))))+(wrap64 ((wrap64 (x1001-1))*29))))+(wrap64 ((wrap64 (Int.tdiv (wrap64 (x1001-1)) (x1000.length:Int)))*53)))) 64))) x1,x1001)))else(none))else(none))else(none))else(none))))
def spec_l6Rd_pick.f (k:Nat)(s0_0:List Int)(s0_1:Int)(a1:Int):Option (Int×Int):=if a1<1 then(spec_l6Rd_pick.j0 k a1 true s0_0 (wrap64 (s0_1+1)))else(spec_l6Rd_pick.j0 k a1 ((s0_0.length:Int)==0) s0_0 (wrap64 (s0_1+1)))
theorem spec_l6Rd_pick.mono_l:∀k,(∀y0 y1 y2 y3,LeO (spec_l6Rd_pick.j0 k y0 y1 y2 y3) (spec_l6Rd_pick.j0 (k+1) y0 y1 y2 y3))
 |0=>by intros;intro r h;simp[spec_l6Rd_pick.j0]at h
 |k+1=>by
  have ih0:=spec_l6Rd_pick.mono_l k;intros;unfold spec_l6Rd_pick.j0;repeat' first|(with_reducible first|exact ih0 _ _ _ _|exact LeO.refl _|exact LeO.none _|refine LeO.ite ?_ ?_|refine LeO.bind ?_ (fun _=>?_))|exact LeO.none _|refine LeO.ite ?_ ?_|refine LeO.bind ?_ (fun _=>?_)
theorem spec_l6Rd_pick.mono:∀a0 a1 a2 k,LeO (spec_l6Rd_pick.f k a0 a1 a2) (spec_l6Rd_pick.f (k+1) a0 a1 a2):=by
 intro a0 a1 a2 k;have ih0:=spec_l6Rd_pick.mono_l k;unfold spec_l6Rd_pick.f
 repeat' first|(with_reducible first|exact ih0 _ _ _ _|exact LeO.refl _|exact LeO.none _|refine LeO.ite ?_ ?_|refine LeO.bind ?_ (fun _=>?_))|exact LeO.none _|refine LeO.ite ?_ ?_|refine LeO.bind ?_ (fun _=>?_)
theorem spec_l6Rd_pick.calls (k:Nat)(g:Nat)(s0_0:List Int)(s0_1:Int)(a1:Int)(r1:Int)(r2:Int)(w0 w:World)(hI:IsS87 w0 w g s0_0 s0_1)(hB:Below w0.heap.size w0 w)(h:spec_l6Rd_pick.f k s0_0 s0_1 a1=some (r1,r2)):
  Calls Tryz.prog 34 #[.pointer (some ⟨g,0,none⟩),.int .i64 a1] w fun e w'=>e=.returned (.int .i64 r1)∧IsS87 w0 w' g s0_0 r2∧Below w0.heap.size w0 w'∧KeepBut w w' g none:=by
 have HI0:=A_ hI;have HK:=A_ (KeepBut.refl w g none);have HL:=A_ hB.size;clear hI;have HW0:=A_ hB.size;have HB:=A_ hB;clear hB;unfold spec_l6Rd_pick.f at h;have H:=h;clear h;have HC3:=A_ H;clear H;obtain⟨ASz4_0,cSz4_0,HGz4,hgz4,HSz4_0⟩:=HI0.out;have hcz4_0:=cellS87_0 HGz4;have hcz4_1:=cellS87_1 HGz4;have hfz4_1:=blk_frozen HGz4 1;clear HGz4 hgz4;go_enter Tryz.func34,Tryz.ntmps34;go_upto_region 2 with(fail)
 repeat(go_quiet (fail);go_upto_region 2 with(fail))
 go_cut [24] (fun v24 wc=>∃(kq:Nat)(x24_2:Bool),v24=.bool x24_2∧Aside0 (spec_l6Rd_pick.j0 kq a1 x24_2 s0_0 (wrap64 (s0_1+1))=some (r1,r2))∧Aside0 (kq≤k)∧Aside0 (IsS87 w0 wc g s0_0 (wrap64 (s0_1+1)))∧Aside0 (KeepBut w wc g none)∧Aside0 (Below w0.heap.size w0 wc))
 case first=>
  obtain⟨H⟩:=HC3;replace H:=iteEd H;rcases H with⟨c5b0,H⟩|⟨c5b0,H⟩
  ·(first|rw[c5b0]|(simp only[i64_w,i32_w];rw[c5b0])|skip)
   have H':=A_ H;clear H;go_wp2
   repeat(go_quiet (fail);try go_wp2)
   go_meet
   case rel=>exact⟨_,(true),zz5,H',⟨zz6⟩,⟨(zz7 HI0)⟩,⟨(zz8 HK)⟩,⟨(zz9 HB HI0)⟩⟩
  ·(first|rw[c5b0]|(simp only[i64_w,i32_w];rw[c5b0])|skip)
   have H':=A_ H;clear H;obtain⟨ASz6_0,cSz6_0,HGz6,hgz6,HSz6_0⟩:=HI0.out;have hcz6_0:=cellS87_0 HGz6;have hcz6_1:=cellS87_1 HGz6;have hfz6_1:=blk_frozen HGz6 1;clear HGz6 hgz6;go_wp2
   repeat(go_quiet (fail);try go_wp2)
   go_meet
   case rel=>exact⟨_,(((s0_0.length:Int)==0)),zz5,H',⟨zz6⟩,⟨(zz7 HI0)⟩,⟨(zz8 HK)⟩,⟨(zz9 HB HI0)⟩⟩
 case rest=>
  clear HC3;obtain⟨kq,x24_2,rfl,HA,HJ2,HI0,HK,HB⟩:=hcut;cases kq with
  |zero=>exact absurd HA.out (by simp[spec_l6Rd_pick.j0])
  |succ kj2=>
   obtain⟨H⟩:=HA;simp only[spec_l6Rd_pick.j0]at H;replace H:=iteB H;rcases H with⟨rfl,H⟩|⟨rfl,H⟩
   ·simp only[oI_,pI_]at H
    obtain⟨rfl,rfl⟩:=H;go_wp2
    repeat(go_quiet (fail);try go_wp2)
    go_ret;exact⟨zz11,(zz7 HI0),(zz9 HB HI0),(zz8 HK)⟩
   ·replace H:=iteE H
    rcases H with⟨c8,H⟩|⟨c8,H⟩
    ·have c8b0:=dT c8
     clear c8;obtain⟨ji9,hji9⟩:∃j_:Int,(wrap64 ((wrap64 (s0_1+1))-1))=j_:=⟨_,rfl⟩;(first|rw[hji9]at H|simp only[hji9]at H)
     (try rw[hji9]at c8b0)
     have hji9w:(IntKind.i64.wrap ((wrap64 (s0_1+1))-1))=ji9:=(i64_w _).trans hji9;replace H:=iteNd H;obtain⟨c10b0,H⟩:=H;replace H:=iteM H;obtain⟨c11,H⟩:=H;obtain⟨c11b0,c11b1⟩:=eqF c11;simp only[oI_,pI_]at H;obtain⟨rfl,rfl⟩:=H;obtain⟨ASz12_0,cSz12_0,HGz12,hgz12,HSz12_0⟩:=HI0.out;have hcz12_0:=cellS87_0 HGz12;have hcz12_1:=cellS87_1 HGz12;have hfz12_1:=blk_frozen HGz12 1;clear HGz12 hgz12;obtain⟨⟨ad485,e485,hx485_0⟩,p485,q485⟩:=atB (Kd.at_int HSz12_0 (ji9));cases e485;replace hx485_0:=pw_cell_below HB.out hx485_0;go_wp2
     repeat(go_quiet (fail);try go_wp2)
     go_ret;exact⟨zz12,(zz7 HI0),(zz9 HB HI0),(zz8 HK)⟩
    ·have c8b0:=dF c8
     clear c8;replace H:=iteM H;obtain⟨c13,H⟩:=H;obtain⟨c13b0,c13b1⟩:=eqF c13;have c13b2:¬(s0_0=[]):=fun h_=>c13 (by rw[h_];rfl)
     obtain⟨ji14,hji14⟩:∃j_:Int,(Int.tmod (wrap64 ((wrap64 (s0_1+1))-1)) (s0_0.length:Int))=j_:=⟨_,rfl⟩;(first|rw[hji14]at H|simp only[hji14]at H);replace H:=iteE H;rcases H with⟨c15,H⟩|⟨c15,H⟩
     ·have c15b0:=dT c15
      clear c15;replace H:=iteNd H;obtain⟨c16b0,H⟩:=H;obtain⟨ji17,hji17⟩:∃j_:Int,(Int.tmod (wrap64 ((wrap64 ((wrap64 ((wrap64 (s0_1+1))-1))*7))+3)) (s0_0.length:Int))=j_:=⟨_,rfl⟩;(first|rw[hji17]at H|simp only[hji17]at H);replace H:=iteNd H;obtain⟨c18b0,H⟩:=H;replace H:=iteNd H;obtain⟨c19b0,H⟩:=H;replace H:=iteM H;obtain⟨c20,H⟩:=H;obtain⟨c20b0,c20b1⟩:=eqF c20;simp only[oI_,pI_]at H;obtain⟨rfl,rfl⟩:=H;obtain⟨ASz21_0,cSz21_0,HGz21,hgz21,HSz21_0⟩:=HI0.out;have hcz21_0:=cellS87_0 HGz21;have hcz21_1:=cellS87_1 HGz21;have hfz21_1:=blk_frozen HGz21 1;clear HGz21 hgz21;obtain⟨⟨ad486,e486,hx486_0⟩,p486,q486⟩:=atB (Kd.at_int HSz21_0 (ji14));cases e486;replace hx486_0:=pw_cell_below HB.out hx486_0;obtain⟨⟨ad487,e487,hx487_0⟩,p487,q487⟩:=atB (Kd.at_int HSz21_0 (ji17));obtain rfl:ad486=ad487:=(by injection e487);replace hx487_0:=pw_cell_below HB.out hx487_0;go_wp2
      repeat(go_quiet (fail);try go_wp2)
      go_ret;exact⟨(by first|rfl|(simp[errW_none,errW_some] <;> rfl)|(simp only[←hji14,←hji17];first|rfl|(simp[errW_none,errW_some] <;> rfl))|(simp[*,errW_none,errW_some] <;> rfl)),(zz7 HI0),(zz9 HB HI0),(zz8 HK)⟩
     ·exact absurd H (by simp)
def spec_l1Path.l0:Nat→BA→Int→BA→List BA→Bool→BA→Option (BA)
 |0,_,_,_,_,_,_=>none
 |k+1,x3,x4,x104000,x104001,x104002,x104003=>if x4<(x104001.length:Int)then(if x4>0 then(if x3.size+1≤9223372036854775807 then(if 0≤x4 then(if x3.size+1+(rdOf bE_ x104001 x4).size≤9223372036854775807 then(spec_l1Path.l0 k ((x3++(⟨#[47]⟩:BA))++(rdOf bE_ x104001 x4)) (wrap64 (x4+1)) x104000 x104001 x104002 x104003)else(none))else(none))else(none))else(if 0≤x4 then(if x3.size+(rdOf bE_ x104001 x4).size≤9223372036854775807 then(spec_l1Path.l0 k (x3++(rdOf bE_ x104001 x4)) (wrap64 (x4+1)) x104000 x104001 x104002 x104003)else(none))else(none)))else(if x104002=true then(if x3.size+1≤9223372036854775807 then(if x3.size+1+x104003.size≤9223372036854775807 then(some ((x3++(⟨#[63]⟩:BA))++x104003))else(none))else(none))else(some x3))
def spec_l1Path.f (k:Nat)(a0_0:BA)(l0_1:List BA)(a0_2:Bool)(a0_3:BA):Option (BA):=spec_l1Path.l0 k (⟨#[47]⟩:BA) 0 a0_0 l0_1 a0_2 a0_3
theorem spec_l1Path.mono_l:∀k,(∀y0 y1 y2 y3 y4 y5,LeO (spec_l1Path.l0 k y0 y1 y2 y3 y4 y5) (spec_l1Path.l0 (k+1) y0 y1 y2 y3 y4 y5))
 |0=>by intros;intro r h;simp[spec_l1Path.l0]at h
 |k+1=>by
  have ih0:=spec_l1Path.mono_l k;intros;unfold spec_l1Path.l0;repeat' first|(with_reducible first|exact ih0 _ _ _ _ _ _|exact LeO.refl _|exact LeO.none _|refine LeO.ite ?_ ?_|refine LeO.bind ?_ (fun _=>?_))|exact LeO.none _|refine LeO.ite ?_ ?_|refine LeO.bind ?_ (fun _=>?_)
theorem spec_l1Path.mono:∀a0 a1 a2 a3 k,LeO (spec_l1Path.f k a0 a1 a2 a3) (spec_l1Path.f (k+1) a0 a1 a2 a3):=by
 intro a0 a1 a2 a3 k;have ih0:=spec_l1Path.mono_l k;unfold spec_l1Path.f
 repeat' first|(with_reducible first|exact ih0 _ _ _ _ _ _|exact LeO.refl _|exact LeO.none _|refine LeO.ite ?_ ?_|refine LeO.bind ?_ (fun _=>?_))|exact LeO.none _|refine LeO.ite ?_ ?_|refine LeO.bind ?_ (fun _=>?_)
theorem spec_l1Path.calls (k:Nat)(a0_0:BA)(A0_1:Option Addr)(c0_1:Nat)(l0_1:List BA)(a0_2:Bool)(a0_3:BA)(r:BA)(w:World)(hr0_1:Kd.C Kd.string w A0_1 l0_1.length l0_1)(hc0_1:l0_1.length≤c0_1)(h:spec_l1Path.f k a0_0 l0_1 a0_2 a0_3=some r):
  Calls Tryz.prog 87 #[.agg #[.string a0_0,.slice A0_1 l0_1.length c0_1,.bool a0_2,.string a0_3]] w fun e w'=>e=.returned (.string r)∧Below w.heap.size w w':=by
 have hu70:=Tryz.underlying70;have HR0_1:=A_ hr0_1;have HC0_1:=A_ hc0_1;clear hr0_1 hc0_1;have HB:=A_ (Below.refl w.heap.size w);unfold spec_l1Path.f at h;have H:=h;clear h;have H':=A_ H;clear H;go_enter Tryz.func87,Tryz.ntmps87;go_wp2_with (first|(refine boxF 1 #[.string a0_0,.slice A0_1 l0_1.length c0_1,.bool a0_2,.string a0_3] 70 ?_;intro gb103 hg w2 BK103 hb;have GE103:=geB hg (zz2 HB);replace HB:=A_ (bS (zz2 HB) hb);clear hb hg))
 go_loopg [3,4] k (fun kq v3 v4 w'=>∃(x3_1:BA)(x4_1:Int),v3=.string x3_1∧v4=.int .i64 x4_1∧Aside0 (spec_l1Path.l0 kq x3_1 x4_1 a0_0 l0_1 a0_2 a0_3=some r)∧Aside0 (kq≤k)∧Aside0 (w'.heap[gb103]?=some (.cells #[.string a0_0,(.slice A0_1 l0_1.length c0_1),.bool a0_2,.string a0_3] 70 (0,0)))∧Aside0 (Below w.heap.size w w'))
 case atStart=>exact⟨((⟨#[47]⟩:BA)),(0),zz5,zz5,H',⟨lL_ _⟩,⟨(zz3 BK103)⟩,⟨(zz4 HB GE103)⟩⟩
 case round=>
  clear H';obtain⟨x3_1,x4_1,rfl,rfl,HA,HK1,BK103,HB⟩:=hrel;cases gk with
  |zero=>exact absurd HA.out (by simp[spec_l1Path.l0])
  |succ k1=>
   obtain⟨H⟩:=HA;simp only[spec_l1Path.l0]at H;replace H:=iteEd H;rcases H with⟨c3b0,H⟩|⟨c3b0,H⟩
   ·replace H:=iteEg H
    rcases H with⟨c4b0,H⟩|⟨c4b0,H⟩
    ·replace H:=iteN H
     obtain⟨c5,H⟩:=H;have c5b0:=eq_true c5;have c5b1:=dT c5;try have c5b2:(9223372036854775807<x3_1.size+1)=False:=eq_false (nL_.2 c5);replace H:=iteNd H;obtain⟨c6b0,H⟩:=H;replace H:=iteN H;obtain⟨c7,H⟩:=H;have c7b0:=eq_true c7;have c7b1:=dT c7;try have c7b2:(9223372036854775807<x3_1.size+1+(rdOf bE_ l0_1 x4_1).size)=False:=eq_false (nL_.2 c7);have H':=A_ H;clear H;obtain⟨_,_,_,_,_,_,_,_⟩:=cf4 BK103;obtain⟨⟨ad104,e104,hx104_0⟩,p104,q104⟩:=atB (Kd.at_string HR0_1.out x4_1);cases e104;replace hx104_0:=cbl HB hx104_0;go_wp2
     go_roundg k1
     case measure=>have:=HK1.out;omega
     case rel=>exact⟨((x3_1++(⟨#[47]⟩:BA))++(rdOf bE_ l0_1 x4_1)),(wrap64 (x4_1+1)),zz5,zz5,H',⟨(zz15 HK1)⟩,⟨(zz3 BK103)⟩,⟨(zz4 HB GE103)⟩⟩
    ·replace H:=iteNd H
     obtain⟨c9b0,H⟩:=H;replace H:=iteN H;obtain⟨c10,H⟩:=H;have c10b0:=eq_true c10;have c10b1:=dT c10;try have c10b2:(9223372036854775807<x3_1.size+(rdOf bE_ l0_1 x4_1).size)=False:=eq_false (nL_.2 c10);have H':=A_ H;clear H;obtain⟨_,_,_,_,_,_,_,_⟩:=cf4 BK103;obtain⟨⟨ad105,e105,hx105_0⟩,p105,q105⟩:=atB (Kd.at_string HR0_1.out x4_1);cases e105;replace hx105_0:=cbl HB hx105_0;go_wp2
     go_roundg k1
     case measure=>have:=HK1.out;omega
     case rel=>exact⟨(x3_1++(rdOf bE_ l0_1 x4_1)),(wrap64 (x4_1+1)),zz5,zz5,H',⟨(zz15 HK1)⟩,⟨(zz3 BK103)⟩,⟨(zz4 HB GE103)⟩⟩
   ·replace H:=iteB H
    rcases H with⟨rfl,H⟩|⟨rfl,H⟩
    ·replace H:=iteN H
     obtain⟨c13,H⟩:=H;have c13b0:=eq_true c13;have c13b1:=dT c13;try have c13b2:(9223372036854775807<x3_1.size+1)=False:=eq_false (nL_.2 c13);replace H:=iteN H;obtain⟨c14,H⟩:=H;have c14b0:=eq_true c14;have c14b1:=dT c14;try have c14b2:(9223372036854775807<x3_1.size+1+a0_3.size)=False:=eq_false (nL_.2 c14);obtain rfl:=sI H;obtain⟨_,_,_,_,_,_,_,_⟩:=cf4 BK103;go_wp2;go_ret;exact⟨zz11,(zz4 HB GE103)⟩
    ·obtain rfl:=sI H
     obtain⟨_,_,_,_,_,_,_,_⟩:=cf4 BK103;go_wp2;go_ret;exact⟨zz11,(zz4 HB GE103)⟩
mutual
def spec_l1Hex.j0:Nat→Int→Bool→Option (Int)
 |0,_,_=>none
 |k+1,x0,x3=>if x3=true then(some ((x0-48)%256))else(if x0≥97 then(spec_l1Hex.j1 k x0 (decide (x0≤102)))else(spec_l1Hex.j1 k x0 false))
def spec_l1Hex.j1:Nat→Int→Bool→Option (Int)
 |0,_,_=>none
 |k+1,x0,x13=>if x13=true then(some (((x0-97)%256)+10))else(if x0≥65 then(if x0≤70 then(some (((x0-65)%256)+10))else(some (-1)))else(some (-1)))
end
def spec_l1Hex.f (k:Nat)(a0:Int):Option (Int):=if a0≥48 then(spec_l1Hex.j0 k a0 (decide (a0≤57)))else(spec_l1Hex.j0 k a0 false)
theorem spec_l1Hex.mono_l:∀k,(∀y0 y1,LeO (spec_l1Hex.j0 k y0 y1) (spec_l1Hex.j0 (k+1) y0 y1))∧(∀y0 y1,LeO (spec_l1Hex.j1 k y0 y1) (spec_l1Hex.j1 (k+1) y0 y1))
 |0=>by refine⟨?_,?_⟩ <;> (intros;intro r h;simp[spec_l1Hex.j0,spec_l1Hex.j1]at h)
 |k+1=>by
  obtain⟨ih0,ih1⟩:=spec_l1Hex.mono_l k;refine⟨?_,?_⟩ <;> intros <;> (first|unfold spec_l1Hex.j0|unfold spec_l1Hex.j1) <;>
  repeat' first|(with_reducible first|exact ih0 _ _|exact ih1 _ _|exact LeO.refl _|exact LeO.none _|refine LeO.ite ?_ ?_|refine LeO.bind ?_ (fun _=>?_))|exact LeO.none _|refine LeO.ite ?_ ?_|refine LeO.bind ?_ (fun _=>?_)
theorem spec_l1Hex.mono:∀a0 k,LeO (spec_l1Hex.f k a0) (spec_l1Hex.f (k+1) a0):=by
 intro a0 k;obtain⟨ih0,ih1⟩:=spec_l1Hex.mono_l k;unfold spec_l1Hex.f
 repeat' first|(with_reducible first|exact ih0 _ _|exact ih1 _ _|exact LeO.refl _|exact LeO.none _|refine LeO.ite ?_ ?_|refine LeO.bind ?_ (fun _=>?_))|exact LeO.none _|refine LeO.ite ?_ ?_|refine LeO.bind ?_ (fun _=>?_)
theorem spec_l1Hex.calls (k:Nat)(a0:Int)(r:Int)(w:World)(h:spec_l1Hex.f k a0=some r):
  Calls Tryz.prog 116 #[.int .u8 a0] w fun e w'=>e=.returned (.int .i64 r)∧Drawn0 w w':=by
 unfold spec_l1Hex.f at h;have H:=h;clear h;have HC2:=A_ H;clear H;go_enter Tryz.func116,Tryz.ntmps116;go_upto_region 1 with(fail)
 go_cut [3] (fun v3 wc=>∃(kq:Nat)(x3_1:Bool),v3=.bool x3_1∧Aside0 (spec_l1Hex.j0 kq a0 x3_1=some r)∧Aside0 (kq≤k)∧Drawn0 w wc)
 case first=>
  obtain⟨H⟩:=HC2;replace H:=iteEe H;rcases H with⟨c3b0,H⟩|⟨c3b0,H⟩
  ·(first|rw[c3b0]|(simp only[i64_w,i32_w];rw[c3b0])|skip)
   have H':=A_ H;clear H;go_wp2
   go_meet
   case rel=>exact⟨_,(decide (a0≤57)),zz5,H',⟨zz6⟩,zz16⟩
  ·(first|rw[c3b0]|(simp only[i64_w,i32_w];rw[c3b0])|skip)
   have H':=A_ H;clear H;go_wp2
   go_meet
   case rel=>exact⟨_,(false),zz5,H',⟨zz6⟩,zz16⟩
 case rest=>
  clear HC2;obtain⟨kq,x3_1,rfl,HA,HJ1,⟨mc1,rfl⟩⟩:=hcut;cases kq with
  |zero=>exact absurd HA.out (by simp[spec_l1Hex.j0])
  |succ kj1=>
   obtain⟨H⟩:=HA;simp only[spec_l1Hex.j0]at H;replace H:=iteB H;rcases H with⟨rfl,H⟩|⟨rfl,H⟩
   ·obtain rfl:=sI H
    go_wp2;go_ret;exact⟨zz5,zz16⟩
   ·have HC5:=A_ H
    clear H;go_upto_region 3 with(fail)
    go_cut [13] (fun v13 wc=>∃(kq:Nat)(x13_4:Bool),v13=.bool x13_4∧Aside0 (spec_l1Hex.j1 kq a0 x13_4=some r)∧Aside0 (kq≤kj1)∧Drawn0 w wc)
    case first=>
     obtain⟨H⟩:=HC5;replace H:=iteEe H;rcases H with⟨c6b0,H⟩|⟨c6b0,H⟩
     ·(first|rw[c6b0]|(simp only[i64_w,i32_w];rw[c6b0])|skip)
      have H':=A_ H;clear H;go_wp2
      go_meet
      case rel=>exact⟨_,(decide (a0≤102)),zz5,H',⟨(zz18 HJ1)⟩,zz16⟩
     ·(first|rw[c6b0]|(simp only[i64_w,i32_w];rw[c6b0])|skip)
      have H':=A_ H;clear H;go_wp2
      go_meet
      case rel=>exact⟨_,(false),zz5,H',⟨(zz18 HJ1)⟩,zz16⟩
    case rest=>
     clear HC5;obtain⟨kq,x13_4,rfl,HA,HJ4,⟨mc4,rfl⟩⟩:=hcut;cases kq with
     |zero=>exact absurd HA.out (by simp[spec_l1Hex.j1])
     |succ kj4=>
      obtain⟨H⟩:=HA;simp only[spec_l1Hex.j1]at H;replace H:=iteB H;rcases H with⟨rfl,H⟩|⟨rfl,H⟩
      ·obtain rfl:=sI H
       go_wp2;go_ret;exact⟨zz5,zz16⟩
      ·replace H:=iteE H
       rcases H with⟨c8,H⟩|⟨c8,H⟩
       ·have c8b0:=geT c8
        clear c8;replace H:=iteEd H;rcases H with⟨c9b0,H⟩|⟨c9b0,H⟩
        ·obtain rfl:=sI H
         go_wp2;go_ret;exact⟨zz5,zz16⟩
        ·obtain rfl:=sI H
         go_wp2;go_ret;exact⟨zz5,zz16⟩
       ·have c8b0:=geF c8
        clear c8;obtain rfl:=sI H;go_wp2;go_ret;exact⟨zz5,zz16⟩
def spec_l6Rd_of.f (k:Nat)(s0_0:List Int)(s0_1:Int)(l1:List BA):Option (BA×Int):=(spec_l6Rd_pick.f k s0_0 s0_1 (l1.length:Int)).bind fun bt488=>(if 0≤bt488.1 then(if bt488.1<(l1.length:Int)then(some (rdOf bE_ l1 bt488.1,bt488.2))else(none))else(none))
theorem spec_l6Rd_of.calls (k:Nat)(g:Nat)(s0_0:List Int)(s0_1:Int)(A1:Option Addr)(c1:Nat)(l1:List BA)(r1:BA)(r2:Int)(w0 w:World)(hI:IsS87 w0 w g s0_0 s0_1)(hB:Below w0.heap.size w0 w)(hr1:Kd.C Kd.string w A1 l1.length l1)(hc1:l1.length≤c1)(hf1:∀ad,A1=some ad→0<l1.length→ad.block≠g)(h:spec_l6Rd_of.f k s0_0 s0_1 l1=some (r1,r2)):
  Calls Tryz.prog 64 #[.pointer (some ⟨g,0,none⟩),.slice A1 l1.length c1] w fun e w'=>e=.returned (.string r1)∧IsS87 w0 w' g s0_0 r2∧Below w0.heap.size w0 w'∧KeepBut w w' g none:=by
 have HR1:=A_ hr1;have HC1:=A_ hc1;clear hr1 hc1;have HI0:=A_ hI;have HK:=A_ (KeepBut.refl w g none);have HL:=A_ hB.size;clear hI;have HW0:=A_ hB.size;have HB:=A_ hB;clear hB;unfold spec_l6Rd_of.f at h;have H:=h;clear h;replace H:=bindA H;obtain⟨⟨t488,t489⟩,A3,H⟩:=H;try dsimp only at H;replace H:=iteE H;rcases H with⟨c4,H⟩|⟨c4,H⟩
 ·have c4b0:=dT c4
  clear c4;replace H:=iteNd H;obtain⟨c5b0,H⟩:=H;simp only[oI_,pI_]at H;obtain⟨rfl,rfl⟩:=H;go_enter Tryz.func64,Tryz.ntmps64;go_wp2_with (first|(refine gR 34 (some 9) Tryz.func34 (spec_l6Rd_pick.calls k g s0_0 s0_1 (l1.length:Int) t488 t489 w0 _ ?side1 ?side2 A3.out) ?_;(case side1=>exact(zz7 HI0));(case side2=>exact(zz9 HB HI0));rintro w6 ⟨hi,hb,hk⟩;replace HK:=A_ (KeepBut.trans (zz8 HK) hk (.inl rfl));replace HB:=A_ (hb);replace HI0:=A_ (hi);(try clear hb hk hi);have p490:0≤(t488:Int):=ofD;have q490:t488<(l1.length:Int):=ofD;obtain⟨ad490,e490,hx490_0⟩:=Kd.at_string HR1.out t488 p490 q490;cases e490;replace hx490_0:=keep_cell HK.out hx490_0 (by first|(rw[add_block];exact hf1 _ rfl (by omega))|exact hf1 _ rfl (by omega)|exact hf1 ad490 rfl (by omega));replace p490:=eq_true p490;replace q490:=eq_true q490));go_ret;exact⟨zz11,(zz7 HI0),(zz9 HB HI0),(zz8 HK)⟩
 ·exact absurd H (by simp)
def spec_l71Name.f (k:Nat)(s0_0:List Int)(s0_1:Int):Option (BA×Int):=(spec_l6Rd_of.f k s0_0 s0_1 (([(⟨#[114,111,118,101,114]⟩:BA),(⟨#[114,111,118,101,114]⟩:BA),(⟨#[115,99,111,117,116]⟩:BA),(⟨#[111,116,104,101,114]⟩:BA)]:List BA))).bind fun bt545=>(some (bt545.1,bt545.2))
theorem spec_l71Name.calls (k:Nat)(g:Nat)(s0_0:List Int)(s0_1:Int)(r1:BA)(r2:Int)(w0 w:World)(hI:IsS87 w0 w g s0_0 s0_1)(hB:Below w0.heap.size w0 w)(h:spec_l71Name.f k s0_0 s0_1=some (r1,r2)):
  Calls Tryz.prog 35 #[.pointer (some ⟨g,0,none⟩)] w fun e w'=>e=.returned (.string r1)∧IsS87 w0 w' g s0_0 r2∧Below w0.heap.size w0 w'∧KeepBut w w' g none:=by
 have HI0:=A_ hI;have HK:=A_ (KeepBut.refl w g none);have HL:=A_ hB.size;clear hI;have HW0:=A_ hB.size;have HB:=A_ hB;clear hB;unfold spec_l71Name.f at h;have H:=h;clear h;obtain⟨y542,Ny542⟩:=toY (([(⟨#[114,111,118,101,114]⟩:BA),(⟨#[114,111,118,101,114]⟩:BA),(⟨#[115,99,111,117,116]⟩:BA),(⟨#[111,116,104,101,114]⟩:BA)]:List BA));(first|with_reducible replace H:=bindZ Ny542 H|rw[←Ny542.out]at H|skip);replace H:=bindA H;obtain⟨⟨t545,t546⟩,A2,H⟩:=H;try dsimp only at H;simp only[oI_,pI_]at H;obtain⟨rfl,rfl⟩:=H;go_enter Tryz.func35,Tryz.ntmps35;go_wp2_with (first|((with_reducible refine gD (N:=4) rfl ?_);refine Kd.R_lit Kd.string _ 9 ?hg (N:=4) ?hd (xs:=([(⟨#[114,111,118,101,114]⟩:BA),(⟨#[114,111,118,101,114]⟩:BA),(⟨#[115,99,111,117,116]⟩:BA),(⟨#[111,116,104,101,114]⟩:BA)]:List BA)) (inner:=[.string (⟨#[114,111,118,101,114]⟩:BA),.string (⟨#[114,111,118,101,114]⟩:BA),.string (⟨#[115,99,111,117,116]⟩:BA),.string (⟨#[111,116,104,101,114]⟩:BA)]) (ok:=fun _=>True) (okp:=fun _=>True) ?hr ?hp (fun _ hk=>hk) trivial (Below.refl _ _) (lL_ _) (by simp) ?_;(case hd=>rfl);(case hg=>rfl);(case hr=>exact zz21);(case hp=>exact(Reps.one (show Kd.M Kd.string _ _ _ (⟨#[114,111,118,101,114]⟩:BA) [.string (⟨#[114,111,118,101,114]⟩:BA)]from rfl) (Reps.one (show Kd.M Kd.string _ _ _ (⟨#[114,111,118,101,114]⟩:BA) [.string (⟨#[114,111,118,101,114]⟩:BA)]from rfl) (Reps.one (show Kd.M Kd.string _ _ _ (⟨#[115,99,111,117,116]⟩:BA) [.string (⟨#[115,99,111,117,116]⟩:BA)]from rfl) (Reps.one (show Kd.M Kd.string _ _ _ (⟨#[111,116,104,101,114]⟩:BA) [.string (⟨#[111,116,104,101,114]⟩:BA)]from rfl) (Reps.none _ _))))));intro v543 w3 ho4 hb hg_ hnew_;clear hg_ hnew_;(first|rw[←Ny542.out]at ho4|(simp only[Int.reduceToNat]at ho4;rw[←Ny542.out]at ho4));have HO544:=A_ (Kd.R_lower ho4 (keep_size (w:=w) (g:=g) (row:=none) (zz8 HK)));replace HK:=A_ (KeepBut.trans (zz8 HK) (KeepBut.of_below hb g none) (.inl rfl));replace HB:=A_ (bS (zz9 HB HI0) hb);replace HI0:=A_ (IsS87.below (zz7 HI0) hb);clear hb ho4;obtain⟨Ao5,co5,eo5⟩:=Kd.R_slice HO544.out;subst eo5)|(refine gR 64 (some 5) Tryz.func64 (spec_l6Rd_of.calls k g s0_0 s0_1 _ _ y542 t545 t546 w0 _ ?side1 ?side2 ?side3 ?side4 ?side5 A2.out) ?_;(case side1=>exact(zz7 HI0));(case side2=>exact(zz9 HB HI0));(case side3=>exact(zz22 HO544));(case side4=>exact(Kd.R_reads' HO544.out).2.1);(case side5=>exact far_slice (IsS87.own_ne HI0.out HO544.out (by decide)));rintro w6 ⟨hi,hb,hk⟩;replace HO544:=A_ (Kd.R_mono (Kd.R_keep (IsS87.apart (show IsS87 w0 _ g s0_0 s0_1 from(zz7 HI0)) (zz23 HO544) (by decide)) hk (fun _ h=>h.2)) (fun _ h=>h.1));replace HK:=A_ (KeepBut.trans (zz8 HK) hk (.inl rfl));replace HB:=A_ (hb);replace HI0:=A_ (hi);(try clear hb hk hi)));go_ret;exact⟨zz11,(zz7 HI0),(zz9 HB HI0),(zz8 HK)⟩
def impl_allSmallLetters.l0:Nat→BA→Int→Option (Bool)
 |0,_,_=>none
 |k+1,x0,x3=>if x3<(x0.size:Int)then(if 0≤x3 then(if(bt x0 x3)<97 then(some false)else(if(bt x0 x3)>122 then(some false)else(impl_allSmallLetters.l0 k x0 (wrap64 (x3+1)))))else(none))else(some true)
def impl_allSmallLetters.f (k:Nat)(a0:BA):Option (Bool):=impl_allSmallLetters.l0 k a0 0
theorem impl_allSmallLetters.mono_l:∀k,(∀y0 y1,LeO (impl_allSmallLetters.l0 k y0 y1) (impl_allSmallLetters.l0 (k+1) y0 y1))
 |0=>by intros;intro r h;simp[impl_allSmallLetters.l0]at h
 |k+1=>by
  have ih0:=impl_allSmallLetters.mono_l k;intros;unfold impl_allSmallLetters.l0;repeat' first|(with_reducible first|exact ih0 _ _|exact LeO.refl _|exact LeO.none _|refine LeO.ite ?_ ?_|refine LeO.bind ?_ (fun _=>?_))|exact LeO.none _|refine LeO.ite ?_ ?_|refine LeO.bind ?_ (fun _=>?_)
theorem impl_allSmallLetters.mono:∀a0 k,LeO (impl_allSmallLetters.f k a0) (impl_allSmallLetters.f (k+1) a0):=by
 intro a0 k;have ih0:=impl_allSmallLetters.mono_l k;unfold impl_allSmallLetters.f
 repeat' first|(with_reducible first|exact ih0 _ _|exact LeO.refl _|exact LeO.none _|refine LeO.ite ?_ ?_|refine LeO.bind ?_ (fun _=>?_))|exact LeO.none _|refine LeO.ite ?_ ?_|refine LeO.bind ?_ (fun _=>?_)
theorem impl_allSmallLetters.calls (k:Nat)(a0:BA)(r:Bool)(w:World)(h:impl_allSmallLetters.f k a0=some r):
  Calls Tryz.prog 51 #[.string a0] w fun e w'=>e=.returned (.bool r)∧Drawn0 w w':=by
 unfold impl_allSmallLetters.f at h;have H:=h;clear h;have H':=A_ H;clear H;go_enter Tryz.func51,Tryz.ntmps51;go_wp2
 go_loopg [3] k (fun kq v3 w'=>∃(x3_1:Int),v3=.int .i64 x3_1∧Aside0 (impl_allSmallLetters.l0 kq a0 x3_1=some r)∧Aside0 (kq≤k)∧Drawn0 w w')
 case atStart=>exact⟨(0),zz5,H',⟨lL_ _⟩,zz16⟩
 case round=>
  clear H';obtain⟨x3_1,rfl,HA,HK1,⟨m1,rfl⟩⟩:=hrel;cases gk with
  |zero=>exact absurd HA.out (by simp[impl_allSmallLetters.l0])
  |succ k1=>
   obtain⟨H⟩:=HA;simp only[impl_allSmallLetters.l0]at H;replace H:=iteEd H;rcases H with⟨c2b0,H⟩|⟨c2b0,H⟩
   ·replace H:=iteNd H
    obtain⟨c3b0,H⟩:=H;replace H:=iteEd H;rcases H with⟨c5b0,H⟩|⟨c5b0,H⟩
    ·obtain rfl:=sI H
     have p4:0≤(x3_1:Int):=ofD;have q4:x3_1<(a0.size:Int):=ofD;have hx4:=bt_at a0 x3_1;replace p4:=eq_true p4;replace q4:=eq_true q4;go_wp2;go_ret;exact⟨zz5,zz16⟩
    ·replace H:=iteEg H
     rcases H with⟨c7b0,H⟩|⟨c7b0,H⟩
     ·obtain rfl:=sI H
      have p4:0≤(x3_1:Int):=ofD;have q4:x3_1<(a0.size:Int):=ofD;have hx4:=bt_at a0 x3_1;replace p4:=eq_true p4;replace q4:=eq_true q4;have p6:0≤(x3_1:Int):=ofD;have q6:x3_1<(a0.size:Int):=ofD;have hx6:=bt_at a0 x3_1;replace p6:=eq_true p6;replace q6:=eq_true q6;go_wp2;go_ret;exact⟨zz5,zz16⟩
     ·have H':=A_ H
      clear H;have p4:0≤(x3_1:Int):=ofD;have q4:x3_1<(a0.size:Int):=ofD;have hx4:=bt_at a0 x3_1;replace p4:=eq_true p4;replace q4:=eq_true q4;have p6:0≤(x3_1:Int):=ofD;have q6:x3_1<(a0.size:Int):=ofD;have hx6:=bt_at a0 x3_1;replace p6:=eq_true p6;replace q6:=eq_true q6;go_wp2
      go_roundg k1
      case measure=>have:=HK1.out;omega
      case rel=>exact⟨(wrap64 (x3_1+1)),zz5,H',⟨(zz15 HK1)⟩,zz16⟩
   ·obtain rfl:=sI H
    go_wp2;go_ret;exact⟨zz5,zz16⟩
mutual
def impl_PathClean.l0:Nat→List BA→List BA→Int→Int→Option (List BA)
 |0,_,_,_,_=>none
 |k+1,x3,x6,x7,x8=>if x8<x7 then(if 0≤x8 then(if x8<(x6.length:Int)then(if(rdOf bE_ x6 x8).toList=([]:List UInt8)then(impl_PathClean.j1 k x3 (rdOf bE_ x6 x8) x6 x7 x8 (rdOf bE_ x6 x8) ((rdOf bE_ x6 x8).toList==([]:List UInt8)))else(impl_PathClean.j1 k x3 (rdOf bE_ x6 x8) x6 x7 x8 (rdOf bE_ x6 x8) ((rdOf bE_ x6 x8).toList==([46]:List UInt8))))else(none))else(none))else(some x3)
def impl_PathClean.j1:Nat→List BA→BA→List BA→Int→Int→BA→Bool→Option (List BA)
 |0,_,_,_,_,_,_,_=>none
 |k+1,x3,x5,x6,x7,x8,x12,x13=>if x13=true then(impl_PathClean.l0 k x3 x6 x7 (wrap64 (x8+1)))else(if x12.toList=([46,46]:List UInt8)then(if(x3.length:Int)>0 then(if 0≤(wrap64 ((x3.length:Int)-1))then(if(wrap64 ((x3.length:Int)-1))≤(x3.length:Int)then(impl_PathClean.l0 k (x3.take ((wrap64 ((x3.length:Int)-1)):Int).toNat) x6 x7 (wrap64 (x8+1)))else(none))else(none))else(impl_PathClean.l0 k x3 x6 x7 (wrap64 (x8+1))))else(if x3.length<8796093022208 then(impl_PathClean.l0 k (x3++[x5]) x6 x7 (wrap64 (x8+1)))else(none)))
end
def impl_PathClean.f (k:Nat)(l0:List BA):Option (List BA):=impl_PathClean.l0 k ([]:List BA) l0 (l0.length:Int) 0
theorem impl_PathClean.calls (k:Nat)(A0:Option Addr)(c0:Nat)(l0:List BA)(r:List BA)(w:World)(hr0:Kd.C Kd.string w A0 l0.length l0)(hc0:l0.length≤c0)(h:impl_PathClean.f k l0=some r):
  Calls Tryz.prog 127 #[.slice A0 l0.length c0] w fun e w'=>∃v0_:Value,e=.returned (v0_)∧Kd.R Kd.string 9 w' w.heap.size (fun _=>True) v0_ r∧Below w.heap.size w w':=by
 have HR0:=A_ hr0;have HC0:=A_ hc0;clear hr0 hc0;have HB:=A_ (Below.refl w.heap.size w);unfold impl_PathClean.f at h;have H:=h;clear h;have H':=A_ H;clear H;go_enter Tryz.func127,Tryz.ntmps127;go_wp2
 go_step3
 go_wp2
 go_step3
 go_wp2
 go_loopg [3,8] k (fun kq v3 v8 w'=>∃(x3_1:List BA)(x8_1:Int),v8=.int .i64 x8_1∧Aside0 (impl_PathClean.l0 kq x3_1 l0 (l0.length:Int) x8_1=some r)∧Aside0 (kq≤k)∧Aside0 (Kd.R Kd.string 9 w' w.heap.size (fun _=>True) v3 x3_1)∧Aside0 (Below w.heap.size w w'))
 case atStart=>exact⟨(([]:List BA)),(0),zz5,H',⟨lL_ _⟩,⟨zz25⟩,⟨(zz2 HB)⟩⟩
 case round=>
  clear H';obtain⟨x3_1,x8_1,rfl,HA,HK1,HO_3,HB⟩:=hrel;cases gk with
  |zero=>exact absurd HA.out (by simp[impl_PathClean.l0])
  |succ k1=>
   obtain⟨H⟩:=HA;simp only[impl_PathClean.l0]at H;replace H:=iteEd H;rcases H with⟨c2b0,H⟩|⟨c2b0,H⟩
   ·replace H:=iteNd H
    obtain⟨c3b0,H⟩:=H;replace H:=iteNd H;obtain⟨c4b0,H⟩:=H;have HC5:=A_ H;clear H;obtain⟨⟨ad302,e302,hx302_0⟩,p302,q302⟩:=atB (Kd.at_string HR0.out x8_1);cases e302;replace hx302_0:=cbl HB hx302_0;go_upto_if 13 with(fail)
    go_cut [13] (fun v13 wc=>∃(kq:Nat)(x13_4:Bool),v13=.bool x13_4∧Aside0 (impl_PathClean.j1 kq x3_1 (rdOf bE_ l0 x8_1) l0 (l0.length:Int) x8_1 (rdOf bE_ l0 x8_1) x13_4=some r)∧Aside0 (kq≤k1)∧Aside0 (Kd.R Kd.string 9 wc w.heap.size (fun _=>True) u3 x3_1)∧Aside0 (Below w.heap.size w wc))
    case first=>
     obtain⟨H⟩:=HC5;replace H:=iteE H;rcases H with⟨c6,H⟩|⟨c6,H⟩
     ·have c6b0:((rdOf bE_ l0 x8_1).toList==([]:List UInt8))=true:=beq_iff_eq.mpr c6
      have c6i0:(rdOf bE_ l0 x8_1).toList.isEmpty=true:=(aid_isEmpty2 _).symm.trans c6b0;have c6b1:((rdOf bE_ l0 x8_1).toList != ([]:List UInt8))=false:=bne_eq_false_iff_eq.mpr c6;clear c6;(first|rw[c6b0]|(simp only[i64_w,i32_w];rw[c6b0])|skip);have H':=A_ H;clear H;go_wp2
      all_goals (first|(exfalso;have h_:(rdOf bE_ l0 x8_1).toList.isEmpty=false:=(by assumption);rw[c6i0]at h_;cases h_;done)|skip)
      go_meet
      case rel=>exact⟨_,(((rdOf bE_ l0 x8_1).toList==([]:List UInt8))),zz5,H',⟨(zz18 HK1)⟩,⟨(zz23 HO_3)⟩,⟨(zz2 HB)⟩⟩
     ·have c6b0:((rdOf bE_ l0 x8_1).toList==([]:List UInt8))=false:=bN_.mpr c6
      have c6i0:(rdOf bE_ l0 x8_1).toList.isEmpty=false:=(aid_isEmpty2 _).symm.trans c6b0;have c6b1:((rdOf bE_ l0 x8_1).toList != ([]:List UInt8))=true:=bne_iff_ne.mpr c6;(first|rw[c6b0]|(simp only[i64_w,i32_w];rw[c6b0])|skip);have H':=A_ H;clear H;go_wp2
      all_goals (first|(exfalso;have h_:(rdOf bE_ l0 x8_1).toList.isEmpty=true:=(by assumption);rw[c6i0]at h_;cases h_;done)|skip)
      go_meet
      case rel=>exact⟨_,(((rdOf bE_ l0 x8_1).toList==([46]:List UInt8))),zz5,H',⟨(zz18 HK1)⟩,⟨(zz23 HO_3)⟩,⟨(zz2 HB)⟩⟩
    case rest=>
     clear HC5;obtain⟨kq,x13_4,rfl,HA,HJ4,HO_3,HB⟩:=hcut;cases kq with
     |zero=>exact absurd HA.out (by simp[impl_PathClean.j1])
     |succ kj4=>
      obtain⟨H⟩:=HA;simp only[impl_PathClean.j1]at H;replace H:=iteB H;rcases H with⟨rfl,H⟩|⟨rfl,H⟩
      ·have H':=A_ H
       clear H;go_wp2
       go_roundg kj4
       case measure=>have:=HK1.out;have:=HJ4.out;omega
       case rel=>exact⟨(x3_1),(wrap64 (x8_1+1)),zz5,H',⟨(zz28 HK1 HJ4)⟩,⟨(zz23 HO_3)⟩,⟨(zz2 HB)⟩⟩
      ·replace H:=iteE H
       rcases H with⟨c8,H⟩|⟨c8,H⟩
       ·obtain⟨c8b0,c8b1⟩:=eqT c8
        clear c8;replace H:=iteE H;rcases H with⟨c9,H⟩|⟨c9,H⟩
        ·have c9b0:=gtT c9
         have c9b1:decide (0<x3_1.length)=true:=dT (by omega);clear c9;obtain⟨ji10,hji10⟩:∃j_:Int,(wrap64 ((x3_1.length:Int)-1))=j_:=⟨_,rfl⟩;(first|rw[hji10]at H|simp only[hji10]at H);have hji10w:(IntKind.i64.wrap ((x3_1.length:Int)-1))=ji10:=(i64_w _).trans hji10;replace H:=iteN H;obtain⟨c11,H⟩:=H;have c11b0:=eq_true c11;have c11b1:=dT c11;clear c11;replace H:=iteN H;obtain⟨c12,H⟩:=H;have c12b0:=eq_true c12;have c12b1:=dT c12;clear c12;obtain⟨y303,Ny303⟩:=toY (x3_1.take ((ji10):Int).toNat);(first|with_reducible replace H:=bindZ Ny303 H|rw[←Ny303.out]at H|skip);have H':=A_ H;clear H;obtain⟨Ao13,co13,eo13⟩:=Kd.R_slice HO_3.out;subst eo13;have q14:((ji10):Int)≤((x3_1.length:Int):Int):=ofD;obtain⟨i014,hi014,_,hsz14,_⟩:=info_parts info9;have hcut14:=cut_to (P:=Tryz.prog) 22 9 .i64 Tryz.underlying22 hi014 Ao13 x3_1.length co13 (ji10) ofD q14 (Kd.R_reads' HO_3.out).2.1;have hr14:=Kd.R_take (m:=((ji10):Int).toNat) HO_3.out (by omega);have hy14:y303.length=((ji10):Int).toNat:=(by rw[Ny303.out,lT_];omega);rw[←Ny303.out]at hr14;rw[←hy14]at hr14 hcut14;clear hy14 hi014 hsz14 HO_3;have HO305:=A_ hr14;clear hr14;replace q14:=eq_true q14;go_wp2
         go_roundg kj4
         case measure=>have:=HK1.out;have:=HJ4.out;omega
         case rel=>exact⟨(y303),(wrap64 (x8_1+1)),zz5,H',⟨(zz28 HK1 HJ4)⟩,⟨(zz23 HO305)⟩,⟨(zz2 HB)⟩⟩
        ·have c9b0:=gtF c9
         have c9b1:decide (0<x3_1.length)=false:=dF (by omega);clear c9;have H':=A_ H;clear H;obtain⟨Ao15,co15,eo15⟩:=Kd.R_slice HO_3.out;subst eo15;go_wp2
         go_roundg kj4
         case measure=>have:=HK1.out;have:=HJ4.out;omega
         case rel=>exact⟨(x3_1),(wrap64 (x8_1+1)),zz5,H',⟨(zz28 HK1 HJ4)⟩,⟨(zz23 HO_3)⟩,⟨(zz2 HB)⟩⟩
       ·obtain⟨c8b0,c8b1⟩:=eqF c8
        replace H:=iteN H;obtain⟨c16,H⟩:=H;have LMc16:=A_ c16;clear c16;obtain⟨y306,Ny306⟩:=toY (x3_1++[(rdOf bE_ l0 x8_1)]);(first|with_reducible replace H:=bindZ Ny306 H|rw[←Ny306.out]at H|skip);have H':=A_ H;clear H;go_wp2_with (first|((with_reducible refine gate_builtin (b:=.append) (xs:=#[.tmp 26,.tmp 28]) rfl ?_);at_builtin;refine Kd.R_append Kd.string (w0:=w) w.heap.size rfl (.tmp 26) (.tmp 28) 22 9 (.string ⟨#[]⟩) 16 rfl Tryz.underlying22 info9 rfl (by decide) (by omega) u3 x3_1 (rdOf bE_ l0 x8_1) [.string (rdOf bE_ l0 x8_1)] (fun _=>True) (fun _=>False) rfl rfl ?aP (fun _ hk=>hk.elim) ?aF ?aO ?aB ?aS ?aL ?_;(case aP=>exact rfl);(case aB=>exact(zz2 HB));(case aF=>exact(fun _ _=>trivial));(case aO=>exact(zz23 HO_3));(case aS=>exact(below_size (zz2 HB)));(case aL=>exact(zz15 LMc16));intro v307 w17 ho hb hg hat;rw[←Ny306.out]at ho;replace HB:=A_ (hb);have HO308:=A_ (ho);clear HO_3;clear ho hb hg hat))
        go_roundg kj4
        case measure=>have:=HK1.out;have:=HJ4.out;omega
        case rel=>exact⟨(y306),(wrap64 (x8_1+1)),zz5,H',⟨(zz28 HK1 HJ4)⟩,⟨(zz23 HO308)⟩,⟨(zz2 HB)⟩⟩
   ·obtain rfl:=sI H
    go_wp2;go_ret;exact⟨_,zz11,(zz23 HO_3),(zz2 HB)⟩
def slices_Index_string_string.l0:Nat→List BA→BA→Int→Int→Option (Int)
 |0,_,_,_,_=>none
 |k+1,x0,x1,x7,x8=>if x8<x7 then(if 0≤x8 then(if x8<(x0.length:Int)then(if x1.toList=(rdOf bE_ x0 x8).toList then(some x8)else(slices_Index_string_string.l0 k x0 x1 x7 (wrap64 (x8+1))))else(none))else(none))else(some (-1))
def slices_Index_string_string.f (k:Nat)(l0:List BA)(a1:BA):Option (Int):=slices_Index_string_string.l0 k l0 a1 (l0.length:Int) 0
theorem slices_Index_string_string.calls (k:Nat)(A0:Option Addr)(c0:Nat)(l0:List BA)(a1:BA)(r:Int)(w:World)(hr0:Kd.C Kd.string w A0 l0.length l0)(hc0:l0.length≤c0)(h:slices_Index_string_string.f k l0 a1=some r):
  Calls Tryz.prog 75 #[.slice A0 l0.length c0,.string a1] w fun e w'=>e=.returned (.int .i64 r)∧Drawn0 w w':=by
 have HR0:=A_ hr0;have HC0:=A_ hc0;clear hr0 hc0;unfold slices_Index_string_string.f at h;have H:=h;clear h;have H':=A_ H;clear H;go_enter Tryz.func75,Tryz.ntmps75;go_wp2
 go_loopg [8] k (fun kq v8 w'=>∃(x8_1:Int),v8=.int .i64 x8_1∧Aside0 (slices_Index_string_string.l0 kq l0 a1 (l0.length:Int) x8_1=some r)∧Aside0 (kq≤k)∧Drawn0 w w')
 case atStart=>exact⟨(0),zz5,H',⟨lL_ _⟩,zz16⟩
 case round=>
  clear H';obtain⟨x8_1,rfl,HA,HK1,⟨m1,rfl⟩⟩:=hrel;cases gk with
  |zero=>exact absurd HA.out (by simp[slices_Index_string_string.l0])
  |succ k1=>
   obtain⟨H⟩:=HA;simp only[slices_Index_string_string.l0]at H;replace H:=iteEd H;rcases H with⟨c3b0,H⟩|⟨c3b0,H⟩
   ·replace H:=iteNd H
    obtain⟨c4b0,H⟩:=H;replace H:=iteNd H;obtain⟨c5b0,H⟩:=H;replace H:=iteEq H;rcases H with⟨c6b0,c6b1,H⟩|⟨c6b0,c6b1,c6,H⟩
    ·obtain rfl:=sI H
     obtain⟨⟨ad373,e373,hx373_0⟩,p373,q373⟩:=atB (Kd.at_string HR0.out x8_1);cases e373;go_wp2;go_ret;exact⟨zz5,zz16⟩
    ·have H':=A_ H
     clear H;obtain⟨⟨ad373,e373,hx373_0⟩,p373,q373⟩:=atB (Kd.at_string HR0.out x8_1);cases e373;go_wp2
     go_roundg k1
     case measure=>have:=HK1.out;omega
     case rel=>exact⟨(wrap64 (x8_1+1)),zz5,H',⟨(zz15 HK1)⟩,zz16⟩
   ·obtain rfl:=sI H
    go_wp2;go_ret;exact⟨zz5,zz16⟩
def laws_lpHas.l0:Nat→List BA→BA→Int→Option (Bool)
 |0,_,_,_=>none
 |k+1,x0,x1,x5=>if x5<(x0.length:Int)then(if 0≤x5 then(if(rdOf bE_ x0 x5).toList=x1.toList then(some true)else(laws_lpHas.l0 k x0 x1 (wrap64 (x5+1))))else(none))else(some false)
def laws_lpHas.f (k:Nat)(l0:List BA)(a1:BA):Option (Bool):=laws_lpHas.l0 k l0 a1 0
theorem laws_lpHas.calls (k:Nat)(A0:Option Addr)(c0:Nat)(l0:List BA)(a1:BA)(r:Bool)(w:World)(hr0:Kd.C Kd.string w A0 l0.length l0)(hc0:l0.length≤c0)(h:laws_lpHas.f k l0 a1=some r):
  Calls Tryz.prog 46 #[.slice A0 l0.length c0,.string a1] w fun e w'=>e=.returned (.bool r)∧Drawn0 w w':=by
 have HR0:=A_ hr0;have HC0:=A_ hc0;clear hr0 hc0;unfold laws_lpHas.f at h;have H:=h;clear h;have H':=A_ H;clear H;go_enter Tryz.func46,Tryz.ntmps46;go_wp2
 go_loopg [5] k (fun kq v5 w'=>∃(x5_1:Int),v5=.int .i64 x5_1∧Aside0 (laws_lpHas.l0 kq l0 a1 x5_1=some r)∧Aside0 (kq≤k)∧Drawn0 w w')
 case atStart=>exact⟨(0),zz5,H',⟨lL_ _⟩,zz16⟩
 case round=>
  clear H';obtain⟨x5_1,rfl,HA,HK1,⟨m1,rfl⟩⟩:=hrel;cases gk with
  |zero=>exact absurd HA.out (by simp[laws_lpHas.l0])
  |succ k1=>
   obtain⟨H⟩:=HA;simp only[laws_lpHas.l0]at H;replace H:=iteEd H;rcases H with⟨c3b0,H⟩|⟨c3b0,H⟩
   ·replace H:=iteNd H
    obtain⟨c4b0,H⟩:=H;replace H:=iteEq H;rcases H with⟨c5b0,c5b1,H⟩|⟨c5b0,c5b1,c5,H⟩
    ·obtain rfl:=sI H
     obtain⟨⟨ad638,e638,hx638_0⟩,p638,q638⟩:=atB (Kd.at_string HR0.out x5_1);cases e638;go_wp2;go_ret;exact⟨zz5,zz16⟩
    ·have H':=A_ H
     clear H;obtain⟨⟨ad638,e638,hx638_0⟩,p638,q638⟩:=atB (Kd.at_string HR0.out x5_1);cases e638;go_wp2
     go_roundg k1
     case measure=>have:=HK1.out;omega
     case rel=>exact⟨(wrap64 (x5_1+1)),zz5,H',⟨(zz15 HK1)⟩,zz16⟩
   ·obtain rfl:=sI H
    go_wp2;go_ret;exact⟨zz5,zz16⟩
def laws_lpWithin.l0:Nat→List BA→List BA→Int→Option (Bool)
 |0,_,_,_=>none
 |k+1,x0,x1,x5=>if x5<(x0.length:Int)then(if 0≤x5 then((laws_lpHas.f k x1 (rdOf bE_ x0 x5)).bind fun t640=>(if t640=true then(laws_lpWithin.l0 k x0 x1 (wrap64 (x5+1)))else(some false)))else(none))else(some true)
def laws_lpWithin.f (k:Nat)(l0:List BA)(l1:List BA):Option (Bool):=laws_lpWithin.l0 k l0 l1 0
theorem laws_lpWithin.calls (k:Nat)(A0:Option Addr)(c0:Nat)(l0:List BA)(A1:Option Addr)(c1:Nat)(l1:List BA)(r:Bool)(w:World)(hr0:Kd.C Kd.string w A0 l0.length l0)(hc0:l0.length≤c0)(hr1:Kd.C Kd.string w A1 l1.length l1)(hc1:l1.length≤c1)(h:laws_lpWithin.f k l0 l1=some r):
  Calls Tryz.prog 17 #[.slice A0 l0.length c0,.slice A1 l1.length c1] w fun e w'=>e=.returned (.bool r)∧Drawn0 w w':=by
 have HR0:=A_ hr0;have HC0:=A_ hc0;clear hr0 hc0;have HR1:=A_ hr1;have HC1:=A_ hc1;clear hr1 hc1;unfold laws_lpWithin.f at h;have H:=h;clear h;have H':=A_ H;clear H;go_enter Tryz.func17,Tryz.ntmps17;go_wp2
 go_loopg [5] k (fun kq v5 w'=>∃(x5_1:Int),v5=.int .i64 x5_1∧Aside0 (laws_lpWithin.l0 kq l0 l1 x5_1=some r)∧Aside0 (kq≤k)∧Drawn0 w w')
 case atStart=>exact⟨(0),zz5,H',⟨lL_ _⟩,zz16⟩
 case round=>
  clear H';obtain⟨x5_1,rfl,HA,HK1,⟨m1,rfl⟩⟩:=hrel;cases gk with
  |zero=>exact absurd HA.out (by simp[laws_lpWithin.l0])
  |succ k1=>
   obtain⟨H⟩:=HA;simp only[laws_lpWithin.l0]at H;replace H:=iteEd H;rcases H with⟨c3b0,H⟩|⟨c3b0,H⟩
   ·replace H:=iteNd H
    obtain⟨c4b0,H⟩:=H;replace H:=bindA H;obtain⟨t640,A5,H⟩:=H;have HF6:=A_ H;clear H;obtain⟨⟨ad639,e639,hx639_0⟩,p639,q639⟩:=atB (Kd.at_string HR0.out x5_1);cases e639
    go_upto_if 18 with(first|(refine gR 46 (some 17) Tryz.func46 (laws_lpHas.calls k1 _ _ l1 (rdOf bE_ l0 x5_1) t640 _ ?side1 ?side2 A5.out) ?_;(case side1=>exact(zz33 HR1));(case side2=>exact HC1.out);rintro w' ⟨nd,rfl⟩))
    obtain⟨H⟩:=HF6;replace H:=iteB H;rcases H with⟨rfl,H⟩|⟨rfl,H⟩
    ·have H':=A_ H
     clear H;go_wp2
     go_roundg k1
     case measure=>have:=HK1.out;omega
     case rel=>exact⟨(wrap64 (x5_1+1)),zz5,H',⟨(zz15 HK1)⟩,zz16⟩
    ·obtain rfl:=sI H
     go_wp2;go_ret;exact⟨zz5,zz16⟩
   ·obtain rfl:=sI H
    go_wp2;go_ret;exact⟨zz5,zz16⟩
def laws_lpOnce.l0:Nat→List BA→Int→Option (Bool)
 |0,_,_=>none
 |k+1,x0,x3=>if x3<(x0.length:Int)then(if 0≤x3 then(if x3≤(x0.length:Int)then((laws_lpHas.f k (x0.take (x3:Int).toNat) (rdOf bE_ x0 x3)).bind fun t643=>(if t643=true then(some false)else(laws_lpOnce.l0 k x0 (wrap64 (x3+1)))))else(none))else(none))else(some true)
def laws_lpOnce.f (k:Nat)(l0:List BA):Option (Bool):=laws_lpOnce.l0 k l0 0
theorem laws_lpOnce.calls (k:Nat)(A0:Option Addr)(c0:Nat)(l0:List BA)(r:Bool)(w:World)(hr0:Kd.C Kd.string w A0 l0.length l0)(hc0:l0.length≤c0)(h:laws_lpOnce.f k l0=some r):
  Calls Tryz.prog 18 #[.slice A0 l0.length c0] w fun e w'=>e=.returned (.bool r)∧Drawn0 w w':=by
 have HR0:=A_ hr0;have HC0:=A_ hc0;clear hr0 hc0;unfold laws_lpOnce.f at h;have H:=h;clear h;have H':=A_ H;clear H;go_enter Tryz.func18,Tryz.ntmps18;go_wp2
 repeat(go_quiet (fail);try go_wp2)
 go_loopg [3] k (fun kq v3 w'=>∃(x3_1:Int),v3=.int .i64 x3_1∧Aside0 (laws_lpOnce.l0 kq l0 x3_1=some r)∧Aside0 (kq≤k)∧Drawn0 w w')
 case atStart=>exact⟨(0),zz5,H',⟨lL_ _⟩,zz16⟩
 case round=>
  clear H';obtain⟨x3_1,rfl,HA,HK1,⟨m1,rfl⟩⟩:=hrel;cases gk with
  |zero=>exact absurd HA.out (by simp[laws_lpOnce.l0])
  |succ k1=>
   obtain⟨H⟩:=HA;simp only[laws_lpOnce.l0]at H;replace H:=iteEd H;rcases H with⟨c2b0,H⟩|⟨c2b0,H⟩
   ·replace H:=iteN H
    obtain⟨c3,H⟩:=H;have c3b0:=eq_true c3;have c3b1:=dT c3;clear c3;replace H:=iteN H;obtain⟨c4,H⟩:=H;have c4b0:=eq_true c4;have c4b1:=dT c4;clear c4;replace H:=bindA H;obtain⟨t643,A5,H⟩:=H;have HF6:=A_ H;clear H;obtain⟨i07,hi07,_,hsz7,_⟩:=info_parts info9;obtain⟨hcut7,hA7,hC7⟩:=print_take_of (P:=Tryz.prog) Value.string (⟨#[]⟩:BA) 22 9 .i64 Tryz.underlying22 hi07 hsz7 A0 c0 l0 x3_1 ofD ofD HC0.out;have HR641:=A_ (Kd.C_of_reads (h1:=fun _=>rfl) (hA7 _ (Kd.reads_of_C HR0.out)));have HC641:=A_ hC7;generalize hy641_:(l0.take (x3_1:Int).toNat)=y641_ at *;clear hy641_;clear hA7 hC7 hi07 hsz7;obtain⟨⟨ad642,e642,hx642_0⟩,p642,q642⟩:=atB (Kd.at_string HR0.out x3_1);cases e642
    go_upto_if 17 with(first|(go_at_call 46;(with_reducible refine(laws_lpHas.calls k1 _ _ y641_ (rdOf bE_ l0 x3_1) t643 _ ?side1 ?side2 A5.out).mono ?_);(case side1=>exact(zz33 HR641));(case side2=>exact HC641.out);rintro e w' ⟨rfl,⟨nd,rfl⟩⟩;(try first|exact⟨rfl,_,dN_ _ _ _⟩|exact⟨rfl,_,Eq.trans (dN_ _ _ _) (congrArg (World.drewN _) (Nat.add_assoc _ _ _))⟩)))
    repeat(go_quiet (first|(go_at_call 46;(with_reducible refine(laws_lpHas.calls k1 _ _ y641_ (rdOf bE_ l0 x3_1) t643 _ ?side1 ?side2 A5.out).mono ?_);(case side1=>exact(zz33 HR641));(case side2=>exact HC641.out);rintro e w' ⟨rfl,⟨nd,rfl⟩⟩;(try first|exact⟨rfl,_,dN_ _ _ _⟩|exact⟨rfl,_,Eq.trans (dN_ _ _ _) (congrArg (World.drewN _) (Nat.add_assoc _ _ _))⟩)));go_upto_if 17 with(first|(go_at_call 46;(with_reducible refine(laws_lpHas.calls k1 _ _ y641_ (rdOf bE_ l0 x3_1) t643 _ ?side1 ?side2 A5.out).mono ?_);(case side1=>exact(zz33 HR641));(case side2=>exact HC641.out);rintro e w' ⟨rfl,⟨nd,rfl⟩⟩;(try first|exact⟨rfl,_,dN_ _ _ _⟩|exact⟨rfl,_,Eq.trans (dN_ _ _ _) (congrArg (World.drewN _) (Nat.add_assoc _ _ _))⟩))))
    obtain⟨H⟩:=HF6;replace H:=iteB H;rcases H with⟨rfl,H⟩|⟨rfl,H⟩
    ·obtain rfl:=sI H
     go_wp2
     repeat(go_quiet (fail);try go_wp2)
     go_ret;exact⟨zz5,zz16⟩
    ·have H':=A_ H
     clear H;go_wp2
     repeat(go_quiet (fail);try go_wp2)
     go_roundg k1
     case measure=>have:=HK1.out;omega
     case rel=>exact⟨(wrap64 (x3_1+1)),zz5,H',⟨(zz15 HK1)⟩,zz16⟩
   ·obtain rfl:=sI H
    go_wp2
    repeat(go_quiet (fail);try go_wp2)
    go_ret;exact⟨zz5,zz16⟩
def laws_lpTexts.l0:Nat→List BA→List BA→Int→Option (Bool)
 |0,_,_,_=>none
 |k+1,x0,x1,x5=>if x5<(x0.length:Int)then(if 0≤x5 then(if x5<(x1.length:Int)then(if(rdOf bE_ x0 x5).toList=(rdOf bE_ x1 x5).toList then(laws_lpTexts.l0 k x0 x1 (wrap64 (x5+1)))else(some false))else(none))else(none))else(some true)
def laws_lpTexts.f (k:Nat)(l0:List BA)(l1:List BA):Option (Bool):=if(l0.length:Int)=(l1.length:Int)then(laws_lpTexts.l0 k l0 l1 0)else(some false)
theorem laws_lpTexts.calls (k:Nat)(A0:Option Addr)(c0:Nat)(l0:List BA)(A1:Option Addr)(c1:Nat)(l1:List BA)(r:Bool)(w:World)(hr0:Kd.C Kd.string w A0 l0.length l0)(hc0:l0.length≤c0)(hr1:Kd.C Kd.string w A1 l1.length l1)(hc1:l1.length≤c1)(h:laws_lpTexts.f k l0 l1=some r):
  Calls Tryz.prog 36 #[.slice A0 l0.length c0,.slice A1 l1.length c1] w fun e w'=>e=.returned (.bool r)∧Drawn0 w w':=by
 have HR0:=A_ hr0;have HC0:=A_ hc0;clear hr0 hc0;have HR1:=A_ hr1;have HC1:=A_ hc1;clear hr1 hc1;unfold laws_lpTexts.f at h;have H:=h;clear h;replace H:=iteE H;rcases H with⟨c3,H⟩|⟨c3,H⟩
 ·obtain⟨c3b0,c3b1⟩:=eqT c3
  have c3b2:(l0.length==l1.length)=true:=by first|simpa using c3|(simp at c3 ⊢;omega)
  clear c3;have H':=A_ H;clear H;go_enter Tryz.func36,Tryz.ntmps36;go_wp2
  repeat(go_quiet (fail);try go_wp2)
  go_loopg [5] k (fun kq v5 w'=>∃(x5_1:Int),v5=.int .i64 x5_1∧Aside0 (laws_lpTexts.l0 kq l0 l1 x5_1=some r)∧Aside0 (kq≤k)∧Drawn0 w w')
  case atStart=>exact⟨(0),zz5,H',⟨lL_ _⟩,zz16⟩
  case round=>
   clear H';obtain⟨x5_1,rfl,HA,HK1,⟨m1,rfl⟩⟩:=hrel;cases gk with
   |zero=>exact absurd HA.out (by simp[laws_lpTexts.l0])
   |succ k1=>
    obtain⟨H⟩:=HA;simp only[laws_lpTexts.l0]at H;replace H:=iteEd H;rcases H with⟨c4b0,H⟩|⟨c4b0,H⟩
    ·replace H:=iteNd H
     obtain⟨c5b0,H⟩:=H;replace H:=iteNd H;obtain⟨c6b0,H⟩:=H;replace H:=iteEq H;rcases H with⟨c7b0,c7b1,H⟩|⟨c7b0,c7b1,c7,H⟩
     ·have H':=A_ H
      clear H;obtain⟨⟨ad564,e564,hx564_0⟩,p564,q564⟩:=atB (Kd.at_string HR0.out x5_1);cases e564;obtain⟨⟨ad565,e565,hx565_0⟩,p565,q565⟩:=atB (Kd.at_string HR1.out x5_1);cases e565;go_wp2
      repeat(go_quiet (fail);try go_wp2)
      go_roundg k1
      case measure=>have:=HK1.out;omega
      case rel=>exact⟨(wrap64 (x5_1+1)),zz5,H',⟨(zz15 HK1)⟩,zz16⟩
     ·obtain rfl:=sI H
      obtain⟨⟨ad564,e564,hx564_0⟩,p564,q564⟩:=atB (Kd.at_string HR0.out x5_1);cases e564;obtain⟨⟨ad565,e565,hx565_0⟩,p565,q565⟩:=atB (Kd.at_string HR1.out x5_1);cases e565;go_wp2
      repeat(go_quiet (fail);try go_wp2)
      go_ret;exact⟨zz5,zz16⟩
    ·obtain rfl:=sI H
     go_wp2
     repeat(go_quiet (fail);try go_wp2)
     go_ret;exact⟨zz5,zz16⟩
 ·obtain⟨c3b0,c3b1⟩:=eqF c3
  have c3b2:(l0.length==l1.length)=false:=by first|simpa using c3|(simp at c3 ⊢;omega)
  obtain rfl:=sI H;go_enter Tryz.func36,Tryz.ntmps36;go_wp2
  repeat(go_quiet (fail);try go_wp2)
  go_ret;exact⟨zz5,zz16⟩
end Go.Proofs.YtalfefmnlnkcaaaGreatDoor.P
end
section
namespace Go.Proofs.YtalfefmnlnkcaaaGreatDoor.P
open Go.RowKit Go.Proofs.YtalfefmnlnkcaaaGreatDoorW PrintWords PrintLast PrintMore
attribute [local go_sem] max2_int min2_int max_two min_two max_three min_three max_four min_four
theorem eqA83 (d:Nat)(w:World)(x0 y0:Int)(x1 y1:BA)(x2 y2:Int):
  (Op.equalIn (d+2) 83 (.agg #[.int .i64 x0,.string x1,.int .i64 x2]) (.agg #[.int .i64 y0,.string y1,.int .i64 y2])).run Tryz.prog w=.ok (x0==y0&&(x1.toList==y1.toList&&(x2==y2))) w:=by
 refine eqA_of Tryz.underlying83 (by kernel_rfl) ?_;refine eqf_cons (by rfl) (by go_simp;rfl) (by go_simp;rfl) (by go_simp) ?_;refine eqf_cons (by rfl) (by go_simp;rfl) (by go_simp;rfl) (by go_simp) ?_;exact eqf_last (by rfl) (by go_simp;rfl) (by go_simp;rfl) (by go_simp)
theorem eqA98 (d:Nat)(w:World)(x0 y0:Bool)(x1 y1:BA):
  (Op.equalIn (d+2) 98 (.agg #[.bool x0,.string x1]) (.agg #[.bool y0,.string y1])).run Tryz.prog w=.ok (x0==y0&&(x1.toList==y1.toList)) w:=by
 refine eqA_of Tryz.underlying98 (by kernel_rfl) ?_;refine eqf_cons (by rfl) (by go_simp;rfl) (by go_simp;rfl) (by go_simp) ?_;exact eqf_last (by rfl) (by go_simp;rfl) (by go_simp;rfl) (by go_simp)
theorem eqA76 (d:Nat)(w:World)(x0 y0:BA)(x1 y1:Int):
  (Op.equalIn (d+2) 76 (.agg #[.string x0,.int .i64 x1]) (.agg #[.string y0,.int .i64 y1])).run Tryz.prog w=.ok (x0.toList==y0.toList&&(x1==y1)) w:=by
 refine eqA_of Tryz.underlying76 (by kernel_rfl) ?_;refine eqf_cons (by rfl) (by go_simp;rfl) (by go_simp;rfl) (by go_simp) ?_;exact eqf_last (by rfl) (by go_simp;rfl) (by go_simp;rfl) (by go_simp)
end Go.Proofs.YtalfefmnlnkcaaaGreatDoor.P
end
section
namespace Go.Proofs.YtalfefmnlnkcaaaGreatDoor.P
open Go.RowKit Go.Proofs.YtalfefmnlnkcaaaGreatDoorW PrintWords PrintLast PrintMore
attribute [local go_sem] max2_int min2_int max_two min_two max_three min_three max_four min_four
set_option maxHeartbeats 8000000
set_option maxRecDepth 100000
def spec_l1Cut.l0:Nat→BA→Int→Int→Option (BA×BA×Bool)
 |0,_,_,_=>none
 |k+1,x0,x1,x7=>if x7<(x0.size:Int)then(if 0≤x7 then(if(bt x0 x7)=x1 then(if x7≤(x0.size:Int)then(if 0≤(wrap64 (x7+1))then(if(wrap64 (x7+1))≤(x0.size:Int)then(some (x0.extract 0 (x7:Int).toNat,x0.extract ((wrap64 (x7+1)):Int).toNat x0.size,true))else(none))else(none))else(none))else(spec_l1Cut.l0 k x0 x1 (wrap64 (x7+1))))else(none))else(some (x0,(⟨#[]⟩:BA),false))
def spec_l1Cut.f (k:Nat)(a0:BA)(a1:Int):Option (BA×BA×Bool):=spec_l1Cut.l0 k a0 a1 0
theorem spec_l1Cut.calls (k:Nat)(a0:BA)(a1:Int)(r1:BA)(r2:BA)(r3:Bool)(w:World)(h:spec_l1Cut.f k a0 a1=some (r1,r2,r3)):
  Calls Tryz.prog 69 #[.string a0,.int .u8 a1] w fun e w'=>e=.returned (.tuple #[.string r1,.string r2,.bool r3])∧Drawn0 w w':=by
 unfold spec_l1Cut.f at h;have H:=h;clear h;have H':=A_ H;clear H;go_enter Tryz.func69,Tryz.ntmps69;go_wp2
 repeat(go_quiet (fail);try go_wp2)
 go_loopg [7] k (fun kq v7 w'=>∃(x7_1:Int),v7=.int .i64 x7_1∧Aside0 (spec_l1Cut.l0 kq a0 a1 x7_1=some (r1,r2,r3))∧Aside0 (kq≤k)∧Drawn0 w w')
 case atStart=>exact⟨(0),zz5,H',⟨lL_ _⟩,zz16⟩
 case round=>
  clear H';obtain⟨x7_1,rfl,HA,HK1,⟨m1,rfl⟩⟩:=hrel;cases gk with
  |zero=>exact absurd HA.out (by simp[spec_l1Cut.l0])
  |succ k1=>
   obtain⟨H⟩:=HA;simp only[spec_l1Cut.l0]at H;replace H:=iteEd H;rcases H with⟨c3b0,H⟩|⟨c3b0,H⟩
   ·replace H:=iteNd H
    obtain⟨c4b0,H⟩:=H;replace H:=iteEq H;rcases H with⟨c6b0,c6b1,H⟩|⟨c6b0,c6b1,c6,H⟩
    ·have c7b0:=eq_true (ofD:0≤x7_1)
     replace H:=iteN H;obtain⟨c8,H⟩:=H;have c8b0:=eq_true c8;have c8b1:=dT c8;clear c8;obtain⟨ji9,hji9⟩:∃j_:Int,(wrap64 (x7_1+1))=j_:=⟨_,rfl⟩;(first|rw[hji9]at H|simp only[hji9]at H);have hji9w:(IntKind.i64.wrap (x7_1+1))=ji9:=(i64_w _).trans hji9;replace H:=iteN H;obtain⟨c10,H⟩:=H;have c10b0:=eq_true c10;have c10b1:=dT c10;clear c10;replace H:=iteN H;obtain⟨c11,H⟩:=H;have c11b0:=eq_true c11;have c11b1:=dT c11;clear c11;simp only[oI_,pI_]at H;obtain⟨rfl,rfl,rfl⟩:=H;have p5:0≤(x7_1:Int):=ofD;have q5:x7_1<(a0.size:Int):=ofD;have hx5:=bt_at a0 x7_1;replace p5:=eq_true p5;replace q5:=eq_true q5;go_wp2
     repeat(go_quiet (fail);try go_wp2)
     go_ret3
     exact⟨(by first|rfl|(simp only[i64_w,i32_w];done)|(simp only[aid_isEmpty,aid_isEmpty2];done)|(simp;done)|((simp only[←hji9] <;> (first|rfl|simp));done)|(simp[*];done)),zz16⟩
    ·have H':=A_ H
     clear H;have p5:0≤(x7_1:Int):=ofD;have q5:x7_1<(a0.size:Int):=ofD;have hx5:=bt_at a0 x7_1;replace p5:=eq_true p5;replace q5:=eq_true q5;go_wp2
     repeat(go_quiet (fail);try go_wp2)
     go_roundg k1
     case measure=>have:=HK1.out;omega
     case rel=>exact⟨(wrap64 (x7_1+1)),zz5,H',⟨(zz15 HK1)⟩,zz16⟩
   ·simp only[oI_,pI_]at H
    obtain⟨rfl,rfl,rfl⟩:=H;go_wp2
    repeat(go_quiet (fail);try go_wp2)
    go_ret3
    exact⟨zz5,zz16⟩
def spec_l1Split.l0:Nat→Int→List BA→BA→Bool→Option (List BA)
 |0,_,_,_,_=>none
 |k+1,x1,x5,x6,x7=>if x7=true then((spec_l1Cut.f k x6 x1).bind fun bt132=>(if x5.length<8796093022208 then(spec_l1Split.l0 k x1 (x5++[bt132.1]) bt132.2.1 bt132.2.2)else(none)))else(some x5)
def spec_l1Split.f (k:Nat)(a0:BA)(a1:Int):Option (List BA):=spec_l1Split.l0 k a1 (([]:List BA)) a0 true
theorem spec_l1Split.calls (k:Nat)(a0:BA)(a1:Int)(r:List BA)(w:World)(h:spec_l1Split.f k a0 a1=some r):
  Calls Tryz.prog 99 #[.string a0,.int .u8 a1] w fun e w'=>∃v0_:Value,e=.returned (v0_)∧Kd.R Kd.string 9 w' w.heap.size (fun _=>True) v0_ r∧Below w.heap.size w w':=by
 have HB:=A_ (Below.refl w.heap.size w);unfold spec_l1Split.f at h;have H:=h;clear h;obtain⟨y129,Ny129⟩:=toY (([]:List BA));(first|with_reducible replace H:=bindZ Ny129 H|rw[←Ny129.out]at H|skip);have H':=A_ H;clear H;go_enter Tryz.func99,Tryz.ntmps99;go_wp2_with (first|((with_reducible refine gD (N:=9) rfl ?_);refine Kd.R_lit Kd.string _ 9 ?hg (N:=9) ?hd (xs:=([]:List BA)) (inner:=[]) (ok:=fun _=>True) (okp:=fun _=>True) ?hr ?hp (fun _ hk=>hk) trivial (Below.refl _ _) (lL_ _) (by simp) ?_;(case hd=>rfl);(case hg=>rfl);(case hr=>exact zz21);(case hp=>exact(Reps.none _ _));intro v130 w3 ho4 hb hg_ hnew_;clear hg_ hnew_;(first|rw[←Ny129.out]at ho4|(simp only[Int.reduceToNat]at ho4;rw[←Ny129.out]at ho4));have HO131:=A_ (Kd.R_lower ho4 (below_size (zz2 HB)));replace HB:=A_ (bS (zz2 HB) hb);clear hb ho4))
 go_loopg [5,6,7] k (fun kq v5 v6 v7 w'=>∃(x5_1:List BA)(x6_1:BA)(x7_1:Bool),v6=.string x6_1∧v7=.bool x7_1∧Aside0 (spec_l1Split.l0 kq a1 x5_1 x6_1 x7_1=some r)∧Aside0 (kq≤k)∧Aside0 (Kd.R Kd.string 9 w' w.heap.size (fun _=>True) v5 x5_1)∧Aside0 (Below w.heap.size w w'))
 case atStart=>exact⟨(y129),(a0),(true),zz5,zz5,H',⟨lL_ _⟩,⟨(zz23 HO131)⟩,⟨(zz2 HB)⟩⟩
 case round=>
  clear H';obtain⟨x5_1,x6_1,x7_1,rfl,rfl,HA,HK1,HO_5,HB⟩:=hrel;cases gk with
  |zero=>exact absurd HA.out (by simp[spec_l1Split.l0])
  |succ k1=>
   obtain⟨H⟩:=HA;simp only[spec_l1Split.l0]at H;replace H:=iteB H;rcases H with⟨rfl,H⟩|⟨rfl,H⟩
   ·replace H:=bindA H
    obtain⟨⟨t132,t133,t134⟩,A6,H⟩:=H;try dsimp only at H;replace H:=iteN H;obtain⟨c7,H⟩:=H;have LMc7:=A_ c7;clear c7;obtain⟨y135,Ny135⟩:=toY (x5_1++[t132]);(first|with_reducible replace H:=bindZ Ny135 H|rw[←Ny135.out]at H|skip);have H':=A_ H;clear H;go_wp2_with (first|(refine gR 69 (some 15) Tryz.func69 (spec_l1Cut.calls k1 x6_1 a1 t132 t133 t134 _ A6.out) ?_;rintro w' ⟨nd,rfl⟩)|((with_reducible refine gate_builtin (b:=.append) (xs:=#[.tmp 19,.tmp 21]) rfl ?_);at_builtin;refine Kd.R_append Kd.string (w0:=w) w.heap.size rfl (.tmp 19) (.tmp 21) 22 9 (.string ⟨#[]⟩) 16 rfl Tryz.underlying22 info9 rfl (by decide) (by omega) u5 x5_1 t132 [.string t132] (fun _=>True) (fun _=>False) rfl rfl ?aP (fun _ hk=>hk.elim) ?aF ?aO ?aB ?aS ?aL ?_;(case aP=>exact rfl);(case aB=>exact(zz2 HB));(case aF=>exact(fun _ _=>trivial));(case aO=>exact(zz23 HO_5));(case aS=>exact(below_size (zz2 HB)));(case aL=>exact(zz15 LMc7));intro v136 w8 ho hb hg hat;rw[←Ny135.out]at ho;replace HB:=A_ (hb);have HO137:=A_ (ho);clear HO_5;clear ho hb hg hat))
    go_roundg k1
    case measure=>have:=HK1.out;omega
    case rel=>exact⟨(y135),(t133),(t134),zz5,zz5,H',⟨(zz15 HK1)⟩,⟨(zz23 HO137)⟩,⟨(zz2 HB)⟩⟩
   ·obtain rfl:=sI H
    go_wp2;go_ret;exact⟨_,zz11,(zz23 HO_5),(zz2 HB)⟩
mutual
def spec_PathClean.l0:Nat→List BA→List BA→Int→Option (List BA)
 |0,_,_,_=>none
 |k+1,x0,x3,x4=>if x4<(x0.length:Int)then(if 0≤x4 then(if(rdOf bE_ x0 x4).toList=([]:List UInt8)then(spec_PathClean.j1 k x0 x3 x4 true)else(spec_PathClean.j1 k x0 x3 x4 ((rdOf bE_ x0 x4).toList==([46]:List UInt8))))else(none))else(some x3)
def spec_PathClean.j1:Nat→List BA→List BA→Int→Bool→Option (List BA)
 |0,_,_,_,_=>none
 |k+1,x0,x3,x4,x19=>if x19=true then(spec_PathClean.l0 k x0 x3 (wrap64 (x4+1)))else(if 0≤x4 then(if x4<(x0.length:Int)then(if(rdOf bE_ x0 x4).toList=([46,46]:List UInt8)then(if 0≤(mx (wrap64 ((x3.length:Int)-1)) 0)then(if(mx (wrap64 ((x3.length:Int)-1)) 0)≤(x3.length:Int)then(spec_PathClean.l0 k x0 (x3.take ((mx (wrap64 ((x3.length:Int)-1)) 0):Int).toNat) (wrap64 (x4+1)))else(none))else(none))else(if x3.length<8796093022208 then(spec_PathClean.l0 k x0 (x3++[rdOf bE_ x0 x4]) (wrap64 (x4+1)))else(none)))else(none))else(none))
end
def spec_PathClean.f (k:Nat)(l0:List BA):Option (List BA):=spec_PathClean.l0 k l0 (([]:List BA)) 0
theorem spec_PathClean.calls (k:Nat)(A0:Option Addr)(c0:Nat)(l0:List BA)(r:List BA)(w:World)(hr0:Kd.C Kd.string w A0 l0.length l0)(hc0:l0.length≤c0)(h:spec_PathClean.f k l0=some r):
  Calls Tryz.prog 101 #[.slice A0 l0.length c0] w fun e w'=>∃v0_:Value,e=.returned (v0_)∧Kd.R Kd.string 9 w' w.heap.size (fun _=>True) v0_ r∧Below w.heap.size w w':=by
 have HR0:=A_ hr0;have HC0:=A_ hc0;clear hr0 hc0;have HB:=A_ (Below.refl w.heap.size w);unfold spec_PathClean.f at h;have H:=h;clear h;obtain⟨y138,Ny138⟩:=toY (([]:List BA));(first|with_reducible replace H:=bindZ Ny138 H|rw[←Ny138.out]at H|skip);have H':=A_ H;clear H;go_enter Tryz.func101,Tryz.ntmps101;go_wp2_with (first|((with_reducible refine gD (N:=5) rfl ?_);refine Kd.R_lit Kd.string _ 9 ?hg (N:=5) ?hd (xs:=([]:List BA)) (inner:=[]) (ok:=fun _=>True) (okp:=fun _=>True) ?hr ?hp (fun _ hk=>hk) trivial (Below.refl _ _) (lL_ _) (by simp) ?_;(case hd=>rfl);(case hg=>rfl);(case hr=>exact zz21);(case hp=>exact(Reps.none _ _));intro v139 w2 ho3 hb hg_ hnew_;clear hg_ hnew_;(first|rw[←Ny138.out]at ho3|(simp only[Int.reduceToNat]at ho3;rw[←Ny138.out]at ho3));have HO140:=A_ (Kd.R_lower ho3 (below_size (zz2 HB)));replace HB:=A_ (bS (zz2 HB) hb);clear hb ho3))
 go_loopg [3,4] k (fun kq v3 v4 w'=>∃(x3_1:List BA)(x4_1:Int),v4=.int .i64 x4_1∧Aside0 (spec_PathClean.l0 kq l0 x3_1 x4_1=some r)∧Aside0 (kq≤k)∧Aside0 (Kd.R Kd.string 9 w' w.heap.size (fun _=>True) v3 x3_1)∧Aside0 (Below w.heap.size w w'))
 case atStart=>exact⟨(y138),(0),zz5,H',⟨lL_ _⟩,⟨(zz23 HO140)⟩,⟨(zz2 HB)⟩⟩
 case round=>
  clear H';obtain⟨x3_1,x4_1,rfl,HA,HK1,HO_3,HB⟩:=hrel;cases gk with
  |zero=>exact absurd HA.out (by simp[spec_PathClean.l0])
  |succ k1=>
   obtain⟨H⟩:=HA;simp only[spec_PathClean.l0]at H;replace H:=iteEd H;rcases H with⟨c4b0,H⟩|⟨c4b0,H⟩
   ·have HC5:=A_ H
    clear H;go_upto_region 6 with(fail)
    go_cut [19] (fun v19 wc=>∃(kq:Nat)(x19_4:Bool),v19=.bool x19_4∧Aside0 (spec_PathClean.j1 kq l0 x3_1 x4_1 x19_4=some r)∧Aside0 (kq≤k1)∧Aside0 (Kd.R Kd.string 9 wc w.heap.size (fun _=>True) u3 x3_1)∧Aside0 (Below w.heap.size w wc))
    case first=>
     obtain⟨H⟩:=HC5;replace H:=iteNd H;obtain⟨c6b0,H⟩:=H;(first|rw[c6b0]|(simp only[i64_w,i32_w];rw[c6b0])|skip);replace H:=iteEq H;rcases H with⟨c7b0,c7b1,H⟩|⟨c7b0,c7b1,c7,H⟩
     ·have H':=A_ H
      clear H;obtain⟨⟨ad141,e141,hx141_0⟩,p141,q141⟩:=atB (Kd.at_string HR0.out x4_1);cases e141;replace hx141_0:=cbl HB hx141_0;go_wp2
      go_meet
      case rel=>exact⟨_,(true),zz5,H',⟨(zz18 HK1)⟩,⟨(zz23 HO_3)⟩,⟨(zz2 HB)⟩⟩
     ·have H':=A_ H
      clear H;obtain⟨⟨ad141,e141,hx141_0⟩,p141,q141⟩:=atB (Kd.at_string HR0.out x4_1);cases e141;replace hx141_0:=cbl HB hx141_0;obtain⟨⟨ad142,e142,hx142_0⟩,p142,q142⟩:=atB (Kd.at_string HR0.out x4_1);obtain rfl:ad141=ad142:=(by injection e142);replace hx142_0:=cbl HB hx142_0;go_wp2
      go_meet
      case rel=>exact⟨_,(((rdOf bE_ l0 x4_1).toList==([46]:List UInt8))),zz5,H',⟨(zz18 HK1)⟩,⟨(zz23 HO_3)⟩,⟨(zz2 HB)⟩⟩
    case rest=>
     clear HC5;obtain⟨kq,x19_4,rfl,HA,HJ4,HO_3,HB⟩:=hcut;cases kq with
     |zero=>exact absurd HA.out (by simp[spec_PathClean.j1])
     |succ kj4=>
      obtain⟨H⟩:=HA;simp only[spec_PathClean.j1]at H;replace H:=iteB H;rcases H with⟨rfl,H⟩|⟨rfl,H⟩
      ·have H':=A_ H
       clear H;go_wp2
       go_roundg kj4
       case measure=>have:=HK1.out;have:=HJ4.out;omega
       case rel=>exact⟨(x3_1),(wrap64 (x4_1+1)),zz5,H',⟨(zz28 HK1 HJ4)⟩,⟨(zz23 HO_3)⟩,⟨(zz2 HB)⟩⟩
      ·replace H:=iteN H
       obtain⟨c9,H⟩:=H;have c9b0:=dT c9;clear c9;replace H:=iteNd H;obtain⟨c10b0,H⟩:=H;replace H:=iteEq H;rcases H with⟨c11b0,c11b1,H⟩|⟨c11b0,c11b1,c11,H⟩
       ·obtain⟨ji12,hji12⟩:∃j_:Int,(mx (wrap64 ((x3_1.length:Int)-1)) 0)=j_:=⟨_,rfl⟩
        (first|rw[hji12]at H|simp only[hji12]at H)
        have hji12_:(if(wrap64 ((x3_1.length:Int)-1))<0 then 0 else(wrap64 ((x3_1.length:Int)-1)))=ji12:=hji12;replace H:=iteN H;obtain⟨c13,H⟩:=H;have c13b0:=eq_true c13;have c13b1:=dT c13;clear c13;replace H:=iteN H;obtain⟨c14,H⟩:=H;have c14b0:=eq_true c14;have c14b1:=dT c14;clear c14;obtain⟨y144,Ny144⟩:=toY (x3_1.take ((ji12):Int).toNat);(first|with_reducible replace H:=bindZ Ny144 H|rw[←Ny144.out]at H|skip);have H':=A_ H;clear H;obtain⟨⟨ad143,e143,hx143_0⟩,p143,q143⟩:=atB (Kd.at_string HR0.out x4_1);cases e143;replace hx143_0:=cbl HB hx143_0;obtain⟨Ao15,co15,eo15⟩:=Kd.R_slice HO_3.out;subst eo15;have q16:((ji12):Int)≤((x3_1.length:Int):Int):=ofD;obtain⟨i016,hi016,_,hsz16,_⟩:=info_parts info9;have hcut16:=cut_to (P:=Tryz.prog) 22 9 .i64 Tryz.underlying22 hi016 Ao15 x3_1.length co15 (ji12) ofD q16 (Kd.R_reads' HO_3.out).2.1;have hr16:=Kd.R_take (m:=((ji12):Int).toNat) HO_3.out (by omega);have hy16:y144.length=((ji12):Int).toNat:=(by rw[Ny144.out,lT_];omega);rw[←Ny144.out]at hr16;rw[←hy16]at hr16 hcut16;clear hy16 hi016 hsz16 HO_3;have HO146:=A_ hr16;clear hr16;replace q16:=eq_true q16;go_wp2
        go_roundg kj4
        case measure=>have:=HK1.out;have:=HJ4.out;omega
        case rel=>exact⟨(y144),(wrap64 (x4_1+1)),zz5,H',⟨(zz28 HK1 HJ4)⟩,⟨(zz23 HO146)⟩,⟨(zz2 HB)⟩⟩
       ·replace H:=iteN H
        obtain⟨c17,H⟩:=H;have LMc17:=A_ c17;clear c17;obtain⟨y148,Ny148⟩:=toY (x3_1++[rdOf bE_ l0 x4_1]);(first|with_reducible replace H:=bindZ Ny148 H|rw[←Ny148.out]at H|skip);have H':=A_ H;clear H;obtain⟨⟨ad143,e143,hx143_0⟩,p143,q143⟩:=atB (Kd.at_string HR0.out x4_1);cases e143;replace hx143_0:=cbl HB hx143_0;obtain⟨⟨ad147,e147,hx147_0⟩,p147,q147⟩:=atB (Kd.at_string HR0.out x4_1);obtain rfl:ad143=ad147:=(by injection e147);replace hx147_0:=cbl HB hx147_0;go_wp2_with (first|((with_reducible refine gate_builtin (b:=.append) (xs:=#[.tmp 12,.tmp 17]) rfl ?_);at_builtin;refine Kd.R_append Kd.string (w0:=w) w.heap.size rfl (.tmp 12) (.tmp 17) 22 9 (.string ⟨#[]⟩) 16 rfl Tryz.underlying22 info9 rfl (by decide) (by omega) u3 x3_1 (rdOf bE_ l0 x4_1) [.string (rdOf bE_ l0 x4_1)] (fun _=>True) (fun _=>False) rfl rfl ?aP (fun _ hk=>hk.elim) ?aF ?aO ?aB ?aS ?aL ?_;(case aP=>exact rfl);(case aB=>exact(zz2 HB));(case aF=>exact(fun _ _=>trivial));(case aO=>exact(zz23 HO_3));(case aS=>exact(below_size (zz2 HB)));(case aL=>exact(zz15 LMc17));intro v149 w18 ho hb hg hat;rw[←Ny148.out]at ho;replace HB:=A_ (hb);have HO150:=A_ (ho);clear HO_3;clear ho hb hg hat))
        go_roundg kj4
        case measure=>have:=HK1.out;have:=HJ4.out;omega
        case rel=>exact⟨(y148),(wrap64 (x4_1+1)),zz5,H',⟨(zz28 HK1 HJ4)⟩,⟨(zz23 HO150)⟩,⟨(zz2 HB)⟩⟩
   ·obtain rfl:=sI H
    go_wp2;go_ret;exact⟨_,zz11,(zz23 HO_3),(zz2 HB)⟩
def spec_l12House.l0:Nat→BA→Int→BA→Int→List (S43)→List BA→List (S83)→Option (Int)
 |0,_,_,_,_,_,_,_=>none
 |k+1,x1,x5,x227000,x227001,x227002,x227003,x227004=>if x5<(x227002.length:Int)then(if 0≤x5 then(if((rd_T43 x227002 x5).f0).toList=x1.toList then(some x5)else(spec_l12House.l0 k x1 (wrap64 (x5+1)) x227000 x227001 x227002 x227003 x227004))else(none))else(some (-1))
def spec_l12House.f (k:Nat)(a0_0:BA)(a0_1:Int)(l0_2:List (S43))(l0_3:List BA)(l0_4:List (S83))(a1:BA):Option (Int):=spec_l12House.l0 k a1 0 a0_0 a0_1 l0_2 l0_3 l0_4
theorem spec_l12House.calls (k:Nat)(a0_0:BA)(a0_1:Int)(A0_2:Option Addr)(c0_2:Nat)(l0_2:List (S43))(A0_3:Option Addr)(c0_3:Nat)(l0_3:List BA)(A0_4:Option Addr)(c0_4:Nat)(l0_4:List (S83))(a1:BA)(r:Int)(w:World)(hr0_2:Kd.C k43 w A0_2 l0_2.length l0_2)(hc0_2:l0_2.length≤c0_2)(hr0_3:Kd.C Kd.string w A0_3 l0_3.length l0_3)(hc0_3:l0_3.length≤c0_3)(hr0_4:Kd.C k83 w A0_4 l0_4.length l0_4)(hc0_4:l0_4.length≤c0_4)(h:spec_l12House.f k a0_0 a0_1 l0_2 l0_3 l0_4 a1=some r):
  Calls Tryz.prog 50 #[.agg #[.string a0_0,.int .i64 a0_1,.slice A0_2 l0_2.length c0_2,.slice A0_3 l0_3.length c0_3,.slice A0_4 l0_4.length c0_4],.string a1] w fun e w'=>e=.returned (.int .i64 r)∧Below w.heap.size w w':=by
 have hu27:=Tryz.underlying27;have HR0_2:=A_ hr0_2;have HC0_2:=A_ hc0_2;clear hr0_2 hc0_2;have HR0_3:=A_ hr0_3;have HC0_3:=A_ hc0_3;clear hr0_3 hc0_3;have HR0_4:=A_ hr0_4;have HC0_4:=A_ hc0_4;clear hr0_4 hc0_4;have HB:=A_ (Below.refl w.heap.size w);unfold spec_l12House.f at h;have H:=h;clear h;have H':=A_ H;clear H;go_enter Tryz.func50,Tryz.ntmps50;go_wp2_with (first|(refine boxF 2 #[.string a0_0,.int .i64 a0_1,.slice A0_2 l0_2.length c0_2,.slice A0_3 l0_3.length c0_3,.slice A0_4 l0_4.length c0_4] 27 ?_;intro gb226 hg w3 BK226 hb;have GE226:=geB hg (zz2 HB);replace HB:=A_ (bS (zz2 HB) hb);clear hb hg))
 go_loopg [5] k (fun kq v5 w'=>∃(x5_1:Int),v5=.int .i64 x5_1∧Aside0 (spec_l12House.l0 kq a1 x5_1 a0_0 a0_1 l0_2 l0_3 l0_4=some r)∧Aside0 (kq≤k)∧Aside0 (w'.heap[gb226]?=some (.cells #[.string a0_0,.int .i64 a0_1,(.slice A0_2 l0_2.length c0_2),(.slice A0_3 l0_3.length c0_3),(.slice A0_4 l0_4.length c0_4)] 27 (0,0)))∧Aside0 (Below w.heap.size w w'))
 case atStart=>exact⟨(0),zz5,H',⟨lL_ _⟩,⟨(zz3 BK226)⟩,⟨(zz4 HB GE226)⟩⟩
 case round=>
  clear H';obtain⟨x5_1,rfl,HA,HK1,BK226,HB⟩:=hrel;cases gk with
  |zero=>exact absurd HA.out (by simp[spec_l12House.l0])
  |succ k1=>
   obtain⟨H⟩:=HA;simp only[spec_l12House.l0]at H;replace H:=iteEd H;rcases H with⟨c4b0,H⟩|⟨c4b0,H⟩
   ·replace H:=iteNd H
    obtain⟨c5b0,H⟩:=H;replace H:=iteEq H;rcases H with⟨c6b0,c6b1,H⟩|⟨c6b0,c6b1,c6,H⟩
    ·obtain rfl:=sI H
     obtain⟨_,_,_,_,_,_,_,_,_,_⟩:=cf5 BK226;obtain⟨⟨ad227,A227_3,c227_3,A227_4,c227_4,A227_7,c227_7,e227,hx227_0,hx227_1,hx227_2,hx227_3,hx227_4,hx227_5,hx227_6,hx227_7,hl227_3,hi227_3,hl227_4,hi227_4,hl227_7,hi227_7⟩,p227,q227⟩:=atB (at_T43 HR0_2.out x5_1);cases e227;obtain⟨hx227_0,hx227_1,hx227_2,hx227_3⟩:=cb4 HB hx227_0 hx227_1 hx227_2 hx227_3;obtain⟨hx227_4,hx227_5,hx227_6,hx227_7⟩:=cb4 HB hx227_4 hx227_5 hx227_6 hx227_7;have HR227_3:=A_ hi227_3;have HC227_3:=A_ hl227_3;clear hi227_3 hl227_3;have HR227_4:=A_ hi227_4;have HC227_4:=A_ hl227_4;clear hi227_4 hl227_4;have HR227_7:=A_ hi227_7;have HC227_7:=A_ hl227_7;clear hi227_7 hl227_7;go_wp2;go_ret;exact⟨zz11,(zz4 HB GE226)⟩
    ·have H':=A_ H
     clear H;obtain⟨_,_,_,_,_,_,_,_,_,_⟩:=cf5 BK226;obtain⟨⟨ad227,A227_3,c227_3,A227_4,c227_4,A227_7,c227_7,e227,hx227_0,hx227_1,hx227_2,hx227_3,hx227_4,hx227_5,hx227_6,hx227_7,hl227_3,hi227_3,hl227_4,hi227_4,hl227_7,hi227_7⟩,p227,q227⟩:=atB (at_T43 HR0_2.out x5_1);cases e227;obtain⟨hx227_0,hx227_1,hx227_2,hx227_3⟩:=cb4 HB hx227_0 hx227_1 hx227_2 hx227_3;obtain⟨hx227_4,hx227_5,hx227_6,hx227_7⟩:=cb4 HB hx227_4 hx227_5 hx227_6 hx227_7;have HR227_3:=A_ hi227_3;have HC227_3:=A_ hl227_3;clear hi227_3 hl227_3;have HR227_4:=A_ hi227_4;have HC227_4:=A_ hl227_4;clear hi227_4 hl227_4;have HR227_7:=A_ hi227_7;have HC227_7:=A_ hl227_7;clear hi227_7 hl227_7;go_wp2
     go_roundg k1
     case measure=>have:=HK1.out;omega
     case rel=>exact⟨(wrap64 (x5_1+1)),zz5,H',⟨(zz15 HK1)⟩,⟨(zz3 BK226)⟩,⟨(zz4 HB GE226)⟩⟩
   ·obtain rfl:=sI H
    obtain⟨_,_,_,_,_,_,_,_,_,_⟩:=cf5 BK226;go_wp2;go_ret;exact⟨zz11,(zz4 HB GE226)⟩

def spec_l6In.f (a0:Int)(a1:Int)(a2:Int):Option (Bool):=if a0≥a1 then(some (decide (a0≤a2)))else(some false)
theorem spec_l6In.calls (a0:Int)(a1:Int)(a2:Int)(r:Bool)(w:World)(h:spec_l6In.f a0 a1 a2=some r):
  Calls Tryz.prog 47 #[.int .i64 a0,.int .i64 a1,.int .i64 a2] w fun e w'=>e=.returned (.bool r)∧Drawn0 w w':=by
 unfold spec_l6In.f at h;have H:=h;clear h;replace H:=iteEe H;rcases H with⟨c4b0,H⟩|⟨c4b0,H⟩
 ·obtain rfl:=sI H
  go_enter Tryz.func47,Tryz.ntmps47;go_wp2
  go_ret;exact⟨zz5,zz16⟩
 ·obtain rfl:=sI H
  go_enter Tryz.func47,Tryz.ntmps47;go_wp2
  go_ret;exact⟨zz5,zz16⟩
def spec_l1Plain.f (a0:Int):Option (Bool):=if a0≥97 then(if a0≤122 then(some true)else(if a0≥48 then(if a0≤57 then(some true)else(if a0=46 then(some true)else(some (a0==45))))else(if a0=46 then(some true)else(some (a0==45)))))else(if a0≥48 then(if a0≤57 then(some true)else(if a0=46 then(some true)else(some (a0==45))))else(if a0=46 then(some true)else(some (a0==45))))
theorem spec_l1Plain.calls (a0:Int)(r:Bool)(w:World)(h:spec_l1Plain.f a0=some r):
  Calls Tryz.prog 117 #[.int .u8 a0] w fun e w'=>e=.returned (.bool r)∧Drawn0 w w':=by
 unfold spec_l1Plain.f at h;have H:=h;clear h;replace H:=iteEe H;rcases H with⟨c2b0,H⟩|⟨c2b0,H⟩
 ·replace H:=iteEd H
  rcases H with⟨c3b0,H⟩|⟨c3b0,H⟩
  ·obtain rfl:=sI H
   go_enter Tryz.func117,Tryz.ntmps117;go_wp2
   go_ret;exact⟨zz5,zz16⟩
  ·replace H:=iteEe H
   rcases H with⟨c4b0,H⟩|⟨c4b0,H⟩
   ·replace H:=iteEd H
    rcases H with⟨c5b0,H⟩|⟨c5b0,H⟩
    ·obtain rfl:=sI H
     go_enter Tryz.func117,Tryz.ntmps117;go_wp2
     go_ret;exact⟨zz5,zz16⟩
    ·replace H:=iteEq H
     rcases H with⟨c6b0,c6b1,H⟩|⟨c6b0,c6b1,c6,H⟩
     ·obtain rfl:=sI H
      go_enter Tryz.func117,Tryz.ntmps117;go_wp2
      go_ret;exact⟨zz5,zz16⟩
     ·obtain rfl:=sI H
      go_enter Tryz.func117,Tryz.ntmps117;go_wp2
      go_ret;exact⟨zz5,zz16⟩
   ·replace H:=iteEq H
    rcases H with⟨c7b0,c7b1,H⟩|⟨c7b0,c7b1,c7,H⟩
    ·obtain rfl:=sI H
     go_enter Tryz.func117,Tryz.ntmps117;go_wp2
     go_ret;exact⟨zz5,zz16⟩
    ·obtain rfl:=sI H
     go_enter Tryz.func117,Tryz.ntmps117;go_wp2
     go_ret;exact⟨zz5,zz16⟩
 ·replace H:=iteEe H
  rcases H with⟨c8b0,H⟩|⟨c8b0,H⟩
  ·replace H:=iteEd H
   rcases H with⟨c9b0,H⟩|⟨c9b0,H⟩
   ·obtain rfl:=sI H
    go_enter Tryz.func117,Tryz.ntmps117;go_wp2
    go_ret;exact⟨zz5,zz16⟩
   ·replace H:=iteEq H
    rcases H with⟨c10b0,c10b1,H⟩|⟨c10b0,c10b1,c10,H⟩
    ·obtain rfl:=sI H
     go_enter Tryz.func117,Tryz.ntmps117;go_wp2
     go_ret;exact⟨zz5,zz16⟩
    ·obtain rfl:=sI H
     go_enter Tryz.func117,Tryz.ntmps117;go_wp2
     go_ret;exact⟨zz5,zz16⟩
  ·replace H:=iteEq H
   rcases H with⟨c11b0,c11b1,H⟩|⟨c11b0,c11b1,c11,H⟩
   ·obtain rfl:=sI H
    go_enter Tryz.func117,Tryz.ntmps117;go_wp2
    go_ret;exact⟨zz5,zz16⟩
   ·obtain rfl:=sI H
    go_enter Tryz.func117,Tryz.ntmps117;go_wp2
    go_ret;exact⟨zz5,zz16⟩
def spec_l1Sign.f (a0:Int):Option (BA):=if 0≤(wrap64 (Int.tdiv a0 16))then(if(wrap64 (Int.tdiv a0 16))≤(wrap64 ((wrap64 (Int.tdiv a0 16))+1))then(if(wrap64 ((wrap64 (Int.tdiv a0 16))+1))≤16 then(if 1+((⟨#[48,49,50,51,52,53,54,55,56,57,65,66,67,68,69,70]⟩:BA).extract ((wrap64 (Int.tdiv a0 16)):Int).toNat ((wrap64 ((wrap64 (Int.tdiv a0 16))+1)):Int).toNat).size≤9223372036854775807 then(if 0≤(Int.tmod a0 16)then(if(Int.tmod a0 16)≤(wrap64 ((Int.tmod a0 16)+1))then(if(wrap64 ((Int.tmod a0 16)+1))≤16 then(if 1+(((⟨#[48,49,50,51,52,53,54,55,56,57,65,66,67,68,69,70]⟩:BA).extract ((wrap64 (Int.tdiv a0 16)):Int).toNat ((wrap64 ((wrap64 (Int.tdiv a0 16))+1)):Int).toNat).size)+((⟨#[48,49,50,51,52,53,54,55,56,57,65,66,67,68,69,70]⟩:BA).extract ((Int.tmod a0 16):Int).toNat ((wrap64 ((Int.tmod a0 16)+1)):Int).toNat).size≤9223372036854775807 then(some (((⟨#[37]⟩:BA)++((⟨#[48,49,50,51,52,53,54,55,56,57,65,66,67,68,69,70]⟩:BA).extract ((wrap64 (Int.tdiv a0 16)):Int).toNat ((wrap64 ((wrap64 (Int.tdiv a0 16))+1)):Int).toNat))++((⟨#[48,49,50,51,52,53,54,55,56,57,65,66,67,68,69,70]⟩:BA).extract ((Int.tmod a0 16):Int).toNat ((wrap64 ((Int.tmod a0 16)+1)):Int).toNat)))else(none))else(none))else(none))else(none))else(none))else(none))else(none))else(none)
theorem spec_l1Sign.calls (a0:Int)(r:BA)(w:World)(h:spec_l1Sign.f a0=some r):
  Calls Tryz.prog 118 #[.int .i64 a0] w fun e w'=>e=.returned (.string r)∧Drawn0 w w':=by
 unfold spec_l1Sign.f at h;have H:=h;clear h;obtain⟨ji2,hji2⟩:∃j_:Int,(wrap64 (Int.tdiv a0 16))=j_:=⟨_,rfl⟩;(first|rw[hji2]at H|simp only[hji2]at H);have hji2w:(IntKind.i64.wrap (Int.tdiv a0 16))=ji2:=(i64_w _).trans hji2;replace H:=iteE H;rcases H with⟨c3,H⟩|⟨c3,H⟩
 ·have c3b0:=eq_true c3
  have c3b1:=dT c3;clear c3;replace H:=iteN H;obtain⟨c4,H⟩:=H;have c4b0:=eq_true c4;have c4b1:=dT c4;replace H:=iteN H;obtain⟨c5,H⟩:=H;have c5b0:=eq_true c5;have c5b1:=dT c5;replace H:=iteN H;obtain⟨c6,H⟩:=H;have c6b0:=eq_true c6;have c6b1:=dT c6;try have c6b2:(9223372036854775807<1+((⟨#[48,49,50,51,52,53,54,55,56,57,65,66,67,68,69,70]⟩:BA).extract ((ji2):Int).toNat ((wrap64 ((ji2)+1)):Int).toNat).size)=False:=eq_false (nL_.2 c6);obtain⟨ji7,hji7⟩:∃j_:Int,(Int.tmod a0 16)=j_:=⟨_,rfl⟩;(first|rw[hji7]at H|simp only[hji7]at H);replace H:=iteN H;obtain⟨c8,H⟩:=H;have c8b0:=eq_true c8;have c8b1:=dT c8;clear c8;replace H:=iteN H;obtain⟨c9,H⟩:=H;have c9b0:=eq_true c9;have c9b1:=dT c9;replace H:=iteN H;obtain⟨c10,H⟩:=H;have c10b0:=eq_true c10;have c10b1:=dT c10;replace H:=iteN H;obtain⟨c11,H⟩:=H;have c11b0:=eq_true c11;have c11b1:=dT c11;try have c11b2:(9223372036854775807<1+(((⟨#[48,49,50,51,52,53,54,55,56,57,65,66,67,68,69,70]⟩:BA).extract ((ji2):Int).toNat ((wrap64 ((ji2)+1)):Int).toNat).size)+((⟨#[48,49,50,51,52,53,54,55,56,57,65,66,67,68,69,70]⟩:BA).extract ((ji7):Int).toNat ((wrap64 ((ji7)+1)):Int).toNat).size)=False:=eq_false (nL_.2 c11);obtain rfl:=sI H;go_enter Tryz.func118,Tryz.ntmps118;go_wp2
  repeat(go_quiet (fail);try go_wp2)
  go_ret;exact⟨(by first|rfl|(simp only[i64_w,i32_w];done)|(simp only[aid_isEmpty,aid_isEmpty2];done)|(simp;done)|(simp only[←hji2,←hji7] <;> (first|rfl|simp))|(simp[*];done)),zz16⟩
 ·exact absurd H (by simp)
def spec_l71Houses.f  : Option (List BA):=some (([(⟨#[97,98]⟩:BA),(⟨#[99,100]⟩:BA),(⟨#[101]⟩:BA),(⟨#[102,111,120]⟩:BA)]:List BA))
theorem spec_l71Houses.calls  (r:List BA) (w:World) (h:spec_l71Houses.f  = some r):
  Calls Tryz.prog 96 #[] w fun e w'=>∃v0_:Value,e=.returned (v0_)∧Kd.R Kd.string 9 w' w.heap.size (fun _=>True) v0_ r∧Below w.heap.size w w':=by
 have HB:=A_ (Below.refl w.heap.size w);unfold spec_l71Houses.f at h;have H:=h;clear h;obtain⟨y491,Ny491⟩:=toY (([(⟨#[97,98]⟩:BA),(⟨#[99,100]⟩:BA),(⟨#[101]⟩:BA),(⟨#[102,111,120]⟩:BA)]:List BA));(first|with_reducible replace H:=bindZ Ny491 H|rw[←Ny491.out]at H|skip);obtain rfl:=sI H;go_enter Tryz.func96,Tryz.ntmps96;go_wp2_with (first|((with_reducible refine gD (N:=1) rfl ?_);refine Kd.R_lit Kd.string _ 9 ?hg (N:=1) ?hd (xs:=([(⟨#[97,98]⟩:BA),(⟨#[99,100]⟩:BA),(⟨#[101]⟩:BA),(⟨#[102,111,120]⟩:BA)]:List BA)) (inner:=[.string (⟨#[97,98]⟩:BA),.string (⟨#[99,100]⟩:BA),.string (⟨#[101]⟩:BA),.string (⟨#[102,111,120]⟩:BA)]) (ok:=fun _=>True) (okp:=fun _=>True) ?hr ?hp (fun _ hk=>hk) trivial (Below.refl _ _) (lL_ _) (by simp) ?_;(case hd=>rfl);(case hg=>rfl);(case hr=>exact zz21);(case hp=>exact(Reps.one (show Kd.M Kd.string _ _ _ (⟨#[97,98]⟩:BA) [.string (⟨#[97,98]⟩:BA)]from rfl) (Reps.one (show Kd.M Kd.string _ _ _ (⟨#[99,100]⟩:BA) [.string (⟨#[99,100]⟩:BA)]from rfl) (Reps.one (show Kd.M Kd.string _ _ _ (⟨#[101]⟩:BA) [.string (⟨#[101]⟩:BA)]from rfl) (Reps.one (show Kd.M Kd.string _ _ _ (⟨#[102,111,120]⟩:BA) [.string (⟨#[102,111,120]⟩:BA)]from rfl) (Reps.none _ _))))));intro v492 w1 ho2 hb hg_ hnew_;clear hg_ hnew_;(first|rw[←Ny491.out]at ho2|(simp only[Int.reduceToNat]at ho2;rw[←Ny491.out]at ho2));have HO493:=A_ (Kd.R_lower ho2 (below_size (zz2 HB)));replace HB:=A_ (bS (zz2 HB) hb);clear hb ho2));go_ret;exact⟨_,zz11,(zz23 HO493),(zz2 HB)⟩
def impl_between.f (a0:Int)(a1:Int)(a2:Int):Option (Bool):=if a0≤a1 then(some (decide (a1≤a2)))else(some false)
theorem impl_between.calls (a0:Int)(a1:Int)(a2:Int)(r:Bool)(w:World)(h:impl_between.f a0 a1 a2=some r):
  Calls Tryz.prog 40 #[.int .i64 a0,.int .i64 a1,.int .i64 a2] w fun e w'=>e=.returned (.bool r)∧Drawn0 w w':=by
 unfold impl_between.f at h;have H:=h;clear h;replace H:=iteEd H;rcases H with⟨c4b0,H⟩|⟨c4b0,H⟩
 ·obtain rfl:=sI H
  go_enter Tryz.func40,Tryz.ntmps40;go_wp2
  go_ret;exact⟨zz5,zz16⟩
 ·obtain rfl:=sI H
  go_enter Tryz.func40,Tryz.ntmps40;go_wp2
  go_ret;exact⟨zz5,zz16⟩
def stringslite_HasPrefix.f (a0:BA)(a1:BA):Option (Bool):=if(a0.size:Int)≥(a1.size:Int)then(if 0≤(a1.size:Int)then(if(a1.size:Int)≤(a0.size:Int)then(some ((a0.extract 0 ((a1.size:Int):Int).toNat).toList==a1.toList))else(none))else(none))else(some false)
theorem stringslite_HasPrefix.calls (a0:BA)(a1:BA)(r:Bool)(w:World)(h:stringslite_HasPrefix.f a0 a1=some r):
  Calls Tryz.prog 136 #[.string a0,.string a1] w fun e w'=>e=.returned (.bool r)∧Drawn0 w w':=by
 unfold stringslite_HasPrefix.f at h;have H:=h;clear h;replace H:=iteE H;rcases H with⟨c3,H⟩|⟨c3,H⟩
 ·have c3b0:=geT c3
  have c3b1:decide (a1.size≤a0.size)=true:=dT (Int.ofNat_le.mp c3);clear c3;replace H:=iteN H;obtain⟨c4,H⟩:=H;have c4b0:=eq_true c4;have c4b1:=dT c4;clear c4;replace H:=iteN H;obtain⟨c5,H⟩:=H;have c5b0:=eq_true c5;have c5b1:=dT c5;clear c5;obtain rfl:=sI H;go_enter Tryz.func136,Tryz.ntmps136;go_wp2;go_ret;exact⟨zz5,zz16⟩
 ·have c3b0:=geF c3
  have c3b1:decide (a1.size≤a0.size)=false:=dF (fun h=>c3 (Int.ofNat_le.mpr h));clear c3;obtain rfl:=sI H;go_enter Tryz.func136,Tryz.ntmps136;go_wp2;go_ret;exact⟨zz5,zz16⟩
def stringslite_CutPrefix.f (a0:BA)(a1:BA):Option (BA×Bool):=(stringslite_HasPrefix.f a0 a1).bind fun t238=>(if t238=true then(if 0≤(a1.size:Int)then(if(a1.size:Int)≤(a0.size:Int)then(some (a0.extract ((a1.size:Int):Int).toNat a0.size,true))else(none))else(none))else(some (a0,false)))
theorem stringslite_CutPrefix.calls (a0:BA)(a1:BA)(r1:BA)(r2:Bool)(w:World)(h:stringslite_CutPrefix.f a0 a1=some (r1,r2)):
  Calls Tryz.prog 120 #[.string a0,.string a1] w fun e w'=>e=.returned (.tuple #[.string r1,.bool r2])∧Drawn0 w w':=by
 unfold stringslite_CutPrefix.f at h;have H:=h;clear h;replace H:=bindA H;obtain⟨t238,A3,H⟩:=H;have HF4:=A_ H;clear H;go_enter Tryz.func120,Tryz.ntmps120;go_upto_if 9 with(first|(refine gR 136 (some 8) Tryz.func136 (stringslite_HasPrefix.calls a0 a1 t238 _ A3.out) ?_;rintro w' ⟨nd,rfl⟩))
 obtain⟨H⟩:=HF4;replace H:=iteB H;rcases H with⟨rfl,H⟩|⟨rfl,H⟩
 ·replace H:=iteN H
  obtain⟨c6,H⟩:=H;have c6b0:=eq_true c6;have c6b1:=dT c6;clear c6;replace H:=iteN H;obtain⟨c7,H⟩:=H;have c7b0:=eq_true c7;have c7b1:=dT c7;clear c7;simp only[oI_,pI_]at H;obtain⟨rfl,rfl⟩:=H;go_wp2
  go_ret2
  exact⟨zz5,zz16⟩
 ·simp only[oI_,pI_]at H
  obtain⟨rfl,rfl⟩:=H;go_wp2
  go_ret2
  exact⟨zz5,zz16⟩
def strings_CutPrefix.f (a0:BA)(a1:BA):Option (BA×Bool):=(stringslite_CutPrefix.f a0 a1).bind fun bt239=>(some (bt239.1,bt239.2))
theorem strings_CutPrefix.calls (a0:BA)(a1:BA)(r1:BA)(r2:Bool)(w:World)(h:strings_CutPrefix.f a0 a1=some (r1,r2)):
  Calls Tryz.prog 103 #[.string a0,.string a1] w fun e w'=>e=.returned (.tuple #[.string r1,.bool r2])∧Drawn0 w w':=by
 unfold strings_CutPrefix.f at h;have H:=h;clear h;replace H:=bindA H;obtain⟨⟨t239,t240⟩,A3,H⟩:=H;try dsimp only at H;simp only[oI_,pI_]at H;obtain⟨rfl,rfl⟩:=H;go_enter Tryz.func103,Tryz.ntmps103;go_wp2_with (first|(refine gR 120 (some 8) Tryz.func120 (stringslite_CutPrefix.calls a0 a1 t239 t240 _ A3.out) ?_;rintro w' ⟨nd,rfl⟩))
 go_ret2
 exact⟨zz5,zz16⟩
def impl_standsForItself.f (a0:Int):Option (Bool):=if a0≥97 then(if a0≤122 then(some true)else(if a0≥48 then(if a0≤57 then(some true)else(if a0=46 then(some true)else(some (a0==45))))else(if a0=46 then(some true)else(some (a0==45)))))else(if a0≥48 then(if a0≤57 then(some true)else(if a0=46 then(some true)else(some (a0==45))))else(if a0=46 then(some true)else(some (a0==45))))
theorem impl_standsForItself.calls (a0:Int)(r:Bool)(w:World)(h:impl_standsForItself.f a0=some r):
  Calls Tryz.prog 115 #[.int .u8 a0] w fun e w'=>e=.returned (.bool r)∧Drawn0 w w':=by
 unfold impl_standsForItself.f at h;have H:=h;clear h;replace H:=iteEe H;rcases H with⟨c2b0,H⟩|⟨c2b0,H⟩
 ·replace H:=iteEd H
  rcases H with⟨c3b0,H⟩|⟨c3b0,H⟩
  ·obtain rfl:=sI H
   go_enter Tryz.func115,Tryz.ntmps115;go_wp2
   go_ret;exact⟨zz5,zz16⟩
  ·replace H:=iteEe H
   rcases H with⟨c4b0,H⟩|⟨c4b0,H⟩
   ·replace H:=iteEd H
    rcases H with⟨c5b0,H⟩|⟨c5b0,H⟩
    ·obtain rfl:=sI H
     go_enter Tryz.func115,Tryz.ntmps115;go_wp2
     go_ret;exact⟨zz5,zz16⟩
    ·replace H:=iteEq H
     rcases H with⟨c6b0,c6b1,H⟩|⟨c6b0,c6b1,c6,H⟩
     ·obtain rfl:=sI H
      go_enter Tryz.func115,Tryz.ntmps115;go_wp2
      go_ret;exact⟨zz5,zz16⟩
     ·obtain rfl:=sI H
      go_enter Tryz.func115,Tryz.ntmps115;go_wp2
      go_ret;exact⟨zz5,zz16⟩
   ·replace H:=iteEq H
    rcases H with⟨c7b0,c7b1,H⟩|⟨c7b0,c7b1,c7,H⟩
    ·obtain rfl:=sI H
     go_enter Tryz.func115,Tryz.ntmps115;go_wp2
     go_ret;exact⟨zz5,zz16⟩
    ·obtain rfl:=sI H
     go_enter Tryz.func115,Tryz.ntmps115;go_wp2
     go_ret;exact⟨zz5,zz16⟩
 ·replace H:=iteEe H
  rcases H with⟨c8b0,H⟩|⟨c8b0,H⟩
  ·replace H:=iteEd H
   rcases H with⟨c9b0,H⟩|⟨c9b0,H⟩
   ·obtain rfl:=sI H
    go_enter Tryz.func115,Tryz.ntmps115;go_wp2
    go_ret;exact⟨zz5,zz16⟩
   ·replace H:=iteEq H
    rcases H with⟨c10b0,c10b1,H⟩|⟨c10b0,c10b1,c10,H⟩
    ·obtain rfl:=sI H
     go_enter Tryz.func115,Tryz.ntmps115;go_wp2
     go_ret;exact⟨zz5,zz16⟩
    ·obtain rfl:=sI H
     go_enter Tryz.func115,Tryz.ntmps115;go_wp2
     go_ret;exact⟨zz5,zz16⟩
  ·replace H:=iteEq H
   rcases H with⟨c11b0,c11b1,H⟩|⟨c11b0,c11b1,c11,H⟩
   ·obtain rfl:=sI H
    go_enter Tryz.func115,Tryz.ntmps115;go_wp2
    go_ret;exact⟨zz5,zz16⟩
   ·obtain rfl:=sI H
    go_enter Tryz.func115,Tryz.ntmps115;go_wp2
    go_ret;exact⟨zz5,zz16⟩
def stringslite_HasSuffix.f (a0:BA)(a1:BA):Option (Bool):=if(a0.size:Int)≥(a1.size:Int)then(if 0≤(wrap64 ((a0.size:Int)-(a1.size:Int)))then(if(wrap64 ((a0.size:Int)-(a1.size:Int)))≤(a0.size:Int)then(some ((a0.extract ((wrap64 ((a0.size:Int)-(a1.size:Int))):Int).toNat a0.size).toList==a1.toList))else(none))else(none))else(some false)
theorem stringslite_HasSuffix.calls (a0:BA)(a1:BA)(r:Bool)(w:World)(h:stringslite_HasSuffix.f a0 a1=some r):
  Calls Tryz.prog 128 #[.string a0,.string a1] w fun e w'=>e=.returned (.bool r)∧Drawn0 w w':=by
 unfold stringslite_HasSuffix.f at h;have H:=h;clear h;replace H:=iteE H;rcases H with⟨c3,H⟩|⟨c3,H⟩
 ·have c3b0:=geT c3
  have c3b1:decide (a1.size≤a0.size)=true:=dT (Int.ofNat_le.mp c3);clear c3;obtain⟨ji4,hji4⟩:∃j_:Int,(wrap64 ((a0.size:Int)-(a1.size:Int)))=j_:=⟨_,rfl⟩;(first|rw[hji4]at H|simp only[hji4]at H);have hji4w:(IntKind.i64.wrap ((a0.size:Int)-(a1.size:Int)))=ji4:=(i64_w _).trans hji4;replace H:=iteN H;obtain⟨c5,H⟩:=H;have c5b0:=eq_true c5;have c5b1:=dT c5;clear c5;replace H:=iteN H;obtain⟨c6,H⟩:=H;have c6b0:=eq_true c6;have c6b1:=dT c6;clear c6;obtain rfl:=sI H;go_enter Tryz.func128,Tryz.ntmps128;go_wp2;go_ret;exact⟨(by first|rfl|(simp only[i64_w,i32_w];done)|(simp only[aid_isEmpty,aid_isEmpty2];done)|(simp;done)|((simp only[←hji4] <;> (first|rfl|simp));done)|(simp[*];done)),zz16⟩
 ·have c3b0:=geF c3
  have c3b1:decide (a1.size≤a0.size)=false:=dF (fun h=>c3 (Int.ofNat_le.mpr h));clear c3;obtain rfl:=sI H;go_enter Tryz.func128,Tryz.ntmps128;go_wp2;go_ret;exact⟨zz5,zz16⟩
def stringslite_TrimSuffix.f (a0:BA)(a1:BA):Option (BA):=(stringslite_HasSuffix.f a0 a1).bind fun t592=>(if t592=true then(if 0≤(wrap64 ((a0.size:Int)-(a1.size:Int)))then(if(wrap64 ((a0.size:Int)-(a1.size:Int)))≤(a0.size:Int)then(some (a0.extract 0 ((wrap64 ((a0.size:Int)-(a1.size:Int))):Int).toNat))else(none))else(none))else(some a0))
theorem stringslite_TrimSuffix.calls (a0:BA)(a1:BA)(r:BA)(w:World)(h:stringslite_TrimSuffix.f a0 a1=some r):
  Calls Tryz.prog 114 #[.string a0,.string a1] w fun e w'=>e=.returned (.string r)∧Drawn0 w w':=by
 unfold stringslite_TrimSuffix.f at h;have H:=h;clear h;replace H:=bindA H;obtain⟨t592,A3,H⟩:=H;have HF4:=A_ H;clear H;go_enter Tryz.func114,Tryz.ntmps114;go_upto_if 7 with(first|(refine gR 128 (some 7) Tryz.func128 (stringslite_HasSuffix.calls a0 a1 t592 _ A3.out) ?_;rintro w' ⟨nd,rfl⟩))
 obtain⟨H⟩:=HF4;replace H:=iteB H;rcases H with⟨rfl,H⟩|⟨rfl,H⟩
 ·obtain⟨ji6,hji6⟩:∃j_:Int,(wrap64 ((a0.size:Int)-(a1.size:Int)))=j_:=⟨_,rfl⟩
  (first|rw[hji6]at H|simp only[hji6]at H)
  have hji6w:(IntKind.i64.wrap ((a0.size:Int)-(a1.size:Int)))=ji6:=(i64_w _).trans hji6;replace H:=iteN H;obtain⟨c7,H⟩:=H;have c7b0:=eq_true c7;have c7b1:=dT c7;clear c7;replace H:=iteN H;obtain⟨c8,H⟩:=H;have c8b0:=eq_true c8;have c8b1:=dT c8;clear c8;obtain rfl:=sI H;go_wp2;go_ret;exact⟨(by first|rfl|(simp only[i64_w,i32_w];done)|(simp only[aid_isEmpty,aid_isEmpty2];done)|(simp;done)|((simp only[←hji6] <;> (first|rfl|simp));done)|(simp[*];done)),zz16⟩
 ·obtain rfl:=sI H
  go_wp2;go_ret;exact⟨zz5,zz16⟩
def strings_TrimSuffix.f (a0:BA)(a1:BA):Option (BA):=(stringslite_TrimSuffix.f a0 a1).bind fun t593=>(some t593)
theorem strings_TrimSuffix.calls (a0:BA)(a1:BA)(r:BA)(w:World)(h:strings_TrimSuffix.f a0 a1=some r):
  Calls Tryz.prog 97 #[.string a0,.string a1] w fun e w'=>e=.returned (.string r)∧Drawn0 w w':=by
 unfold strings_TrimSuffix.f at h;have H:=h;clear h;replace H:=bindA H;obtain⟨t593,A3,H⟩:=H;obtain rfl:=sI H;go_enter Tryz.func97,Tryz.ntmps97;go_wp2_with (first|(refine gR 114 (some 7) Tryz.func114 (stringslite_TrimSuffix.calls a0 a1 t593 _ A3.out) ?_;rintro w' ⟨nd,rfl⟩));go_ret;exact⟨zz5,zz16⟩
def impl_isPatternByte.f (a0:Int):Option (Bool):=if a0=47 then(some true)else(if a0=42 then(some true)else(if a0=63 then(some true)else(if a0=37 then(some true)else((impl_standsForItself.f a0).bind fun t594=>(if t594=true then(some true)else(if a0≥65 then(some (decide (a0≤70)))else(some false)))))))
theorem impl_isPatternByte.calls (a0:Int)(r:Bool)(w:World)(h:impl_isPatternByte.f a0=some r):
  Calls Tryz.prog 98 #[.int .u8 a0] w fun e w'=>e=.returned (.bool r)∧Drawn0 w w':=by
 unfold impl_isPatternByte.f at h;have H:=h;clear h;replace H:=iteEq H;rcases H with⟨c2b0,c2b1,H⟩|⟨c2b0,c2b1,c2,H⟩
 ·obtain rfl:=sI H
  go_enter Tryz.func98,Tryz.ntmps98;go_wp2
  go_ret;exact⟨zz5,zz16⟩
 ·replace H:=iteEq H
  rcases H with⟨c3b0,c3b1,H⟩|⟨c3b0,c3b1,c3,H⟩
  ·obtain rfl:=sI H
   go_enter Tryz.func98,Tryz.ntmps98;go_wp2
   go_ret;exact⟨zz5,zz16⟩
  ·replace H:=iteEq H
   rcases H with⟨c4b0,c4b1,H⟩|⟨c4b0,c4b1,c4,H⟩
   ·obtain rfl:=sI H
    go_enter Tryz.func98,Tryz.ntmps98;go_wp2
    go_ret;exact⟨zz5,zz16⟩
   ·replace H:=iteEq H
    rcases H with⟨c5b0,c5b1,H⟩|⟨c5b0,c5b1,c5,H⟩
    ·obtain rfl:=sI H
     go_enter Tryz.func98,Tryz.ntmps98;go_wp2
     go_ret;exact⟨zz5,zz16⟩
    ·replace H:=bindA H
     obtain⟨t594,A6,H⟩:=H;have HF7:=A_ H;clear H;go_enter Tryz.func98,Tryz.ntmps98;go_wp2_with (first|(refine gR 115 (some 10) Tryz.func115 (impl_standsForItself.calls a0 t594 _ A6.out) ?_;rintro w' ⟨nd,rfl⟩)|((with_reducible refine atG ?_ ?_ fun K_ hK_=>?_);rfl;exact undecG)|((with_reducible refine atI ?_ fun K_ hK_=>?_);exact undecI));refine unG hK_ ?_;clear hK_ K_;obtain⟨H⟩:=HF7;replace H:=iteB H;rcases H with⟨rfl,H⟩|⟨rfl,H⟩
     ·(first|refine iteT ?_|refine iteF ?_|skip)
      obtain rfl:=sI H;(try((with_reducible refine upS ?_);go_simp));go_wp2;go_ret;exact⟨zz5,zz16⟩
     ·(first|refine iteT ?_|refine iteF ?_|skip)
      replace H:=iteEe H;rcases H with⟨c9b0,H⟩|⟨c9b0,H⟩
      ·obtain rfl:=sI H
       go_wp2;go_ret;exact⟨zz5,zz16⟩
      ·obtain rfl:=sI H
       go_wp2;go_ret;exact⟨zz5,zz16⟩

def spec_l1House.l0:Nat→BA→Int→Option (Bool)
 |0,_,_=>none
 |k+1,x0,x3=>if x3<(x0.size:Int)then(if 0≤x3 then(if(bt x0 x3)<97 then(some false)else(if(bt x0 x3)>122 then(some false)else(spec_l1House.l0 k x0 (wrap64 (x3+1)))))else(none))else((spec_l6In.f (x0.size:Int) 1 5).bind fun t108=>(some t108))
def spec_l1House.f (k:Nat)(a0:BA):Option (Bool):=spec_l1House.l0 k a0 0
theorem spec_l1House.mono_l:∀k,(∀y0 y1,LeO (spec_l1House.l0 k y0 y1) (spec_l1House.l0 (k+1) y0 y1))
 |0=>by intros;intro r h;simp[spec_l1House.l0]at h
 |k+1=>by
  have ih0:=spec_l1House.mono_l k;intros;unfold spec_l1House.l0;repeat' first|(with_reducible first|exact ih0 _ _|exact LeO.refl _|exact LeO.none _|refine LeO.ite ?_ ?_|refine LeO.bind ?_ (fun _=>?_))|exact LeO.none _|refine LeO.ite ?_ ?_|refine LeO.bind ?_ (fun _=>?_)
theorem spec_l1House.mono:∀a0 k,LeO (spec_l1House.f k a0) (spec_l1House.f (k+1) a0):=by
 intro a0 k;have ih0:=spec_l1House.mono_l k;unfold spec_l1House.f
 repeat' first|(with_reducible first|exact ih0 _ _|exact LeO.refl _|exact LeO.none _|refine LeO.ite ?_ ?_|refine LeO.bind ?_ (fun _=>?_))|exact LeO.none _|refine LeO.ite ?_ ?_|refine LeO.bind ?_ (fun _=>?_)
theorem spec_l1House.calls (k:Nat)(a0:BA)(r:Bool)(w:World)(h:spec_l1House.f k a0=some r):
  Calls Tryz.prog 85 #[.string a0] w fun e w'=>e=.returned (.bool r)∧Drawn0 w w':=by
 unfold spec_l1House.f at h;have H:=h;clear h;have H':=A_ H;clear H;go_enter Tryz.func85,Tryz.ntmps85;go_wp2
 go_loopg [3] k (fun kq v3 w'=>∃(x3_1:Int),v3=.int .i64 x3_1∧Aside0 (spec_l1House.l0 kq a0 x3_1=some r)∧Aside0 (kq≤k)∧Drawn0 w w')
 case atStart=>exact⟨(0),zz5,H',⟨lL_ _⟩,zz16⟩
 case round=>
  clear H';obtain⟨x3_1,rfl,HA,HK1,⟨m1,rfl⟩⟩:=hrel;cases gk with
  |zero=>exact absurd HA.out (by simp[spec_l1House.l0])
  |succ k1=>
   obtain⟨H⟩:=HA;simp only[spec_l1House.l0]at H;replace H:=iteEd H;rcases H with⟨c2b0,H⟩|⟨c2b0,H⟩
   ·replace H:=iteNd H
    obtain⟨c3b0,H⟩:=H;replace H:=iteEd H;rcases H with⟨c5b0,H⟩|⟨c5b0,H⟩
    ·obtain rfl:=sI H
     have p4:0≤(x3_1:Int):=ofD;have q4:x3_1<(a0.size:Int):=ofD;have hx4:=bt_at a0 x3_1;replace p4:=eq_true p4;replace q4:=eq_true q4;go_wp2;go_ret;exact⟨zz5,zz16⟩
    ·replace H:=iteEg H
     rcases H with⟨c7b0,H⟩|⟨c7b0,H⟩
     ·obtain rfl:=sI H
      have p4:0≤(x3_1:Int):=ofD;have q4:x3_1<(a0.size:Int):=ofD;have hx4:=bt_at a0 x3_1;replace p4:=eq_true p4;replace q4:=eq_true q4;have p6:0≤(x3_1:Int):=ofD;have q6:x3_1<(a0.size:Int):=ofD;have hx6:=bt_at a0 x3_1;replace p6:=eq_true p6;replace q6:=eq_true q6;go_wp2;go_ret;exact⟨zz5,zz16⟩
     ·have H':=A_ H
      clear H;have p4:0≤(x3_1:Int):=ofD;have q4:x3_1<(a0.size:Int):=ofD;have hx4:=bt_at a0 x3_1;replace p4:=eq_true p4;replace q4:=eq_true q4;have p6:0≤(x3_1:Int):=ofD;have q6:x3_1<(a0.size:Int):=ofD;have hx6:=bt_at a0 x3_1;replace p6:=eq_true p6;replace q6:=eq_true q6;go_wp2
      go_roundg k1
      case measure=>have:=HK1.out;omega
      case rel=>exact⟨(wrap64 (x3_1+1)),zz5,H',⟨(zz15 HK1)⟩,zz16⟩
   ·replace H:=bindA H
    obtain⟨t108,A8,H⟩:=H;obtain rfl:=sI H;go_wp2_with (first|(refine gR 47 (some 22) Tryz.func47 (spec_l6In.calls (a0.size:Int) 1 5 t108 _ A8.out) ?_;rintro w' ⟨nd,rfl⟩));go_ret;exact⟨zz5,zz16⟩
mutual
def spec_EscNorm.l0:Nat→BA→BA→Int→Option (BA×Bool)
 |0,_,_,_=>none
 |k+1,x0,x4,x5=>if x5<(x0.size:Int)then(if 0≤x5 then(if(bt x0 x5)=37 then(if(wrap64 (x5+2))≥(x0.size:Int)then(spec_EscNorm.j1 k x0 x4 x5 true)else(if 0≤(wrap64 (x5+1))then(if(wrap64 (x5+1))<(x0.size:Int)then((spec_l1Hex.f k (bt x0 (wrap64 (x5+1)))).bind fun t109=>(if t109<0 then(spec_EscNorm.j1 k x0 x4 x5 true)else(if 0≤(wrap64 (x5+2))then(if(wrap64 (x5+2))<(x0.size:Int)then((spec_l1Hex.f k (bt x0 (wrap64 (x5+2)))).bind fun t110=>(spec_EscNorm.j1 k x0 x4 x5 (decide (t110<0))))else(none))else(none))))else(none))else(none)))else(spec_EscNorm.j2 k x0 x4 x5 (wrap64 (bt x0 x5))))else(none))else(some (x4,true))
def spec_EscNorm.j2:Nat→BA→BA→Int→Int→Option (BA×Bool)
 |0,_,_,_,_=>none
 |k+1,x0,x4,x5,x6=>(spec_l1Plain.f ((x6)%256)).bind fun t113=>(if t113=true then((some (([(x6)%256]:List Int):List Int)).bind fun y114=>(if x4.size+(strOfNums y114).size≤9223372036854775807 then(spec_EscNorm.l0 k x0 (x4++(strOfNums y114)) (wrap64 (x5+1)))else(none)))else((spec_l1Sign.f x6).bind fun t117=>(if x4.size+t117.size≤9223372036854775807 then(spec_EscNorm.l0 k x0 (x4++t117) (wrap64 (x5+1)))else(none))))
def spec_EscNorm.j1:Nat→BA→BA→Int→Bool→Option (BA×Bool)
 |0,_,_,_,_=>none
 |k+1,x0,x4,x5,x44=>if x44=true then(some ((⟨#[]⟩:BA),false))else(if 0≤(wrap64 (x5+1))then(if(wrap64 (x5+1))<(x0.size:Int)then((spec_l1Hex.f k (bt x0 (wrap64 (x5+1)))).bind fun t111=>(if 0≤(wrap64 (x5+2))then(if(wrap64 (x5+2))<(x0.size:Int)then((spec_l1Hex.f k (bt x0 (wrap64 (x5+2)))).bind fun t112=>(spec_EscNorm.j2 k x0 x4 (wrap64 (x5+2)) (wrap64 ((wrap64 (t111*16))+t112))))else(none))else(none)))else(none))else(none))
end
def spec_EscNorm.f (k:Nat)(a0:BA):Option (BA×Bool):=if(a0.size:Int)>60 then(some ((⟨#[]⟩:BA),false))else(spec_EscNorm.l0 k a0 (⟨#[]⟩:BA) 0)
theorem spec_EscNorm.mono_l:∀k,(∀y0 y1 y2,LeO (spec_EscNorm.l0 k y0 y1 y2) (spec_EscNorm.l0 (k+1) y0 y1 y2))∧(∀y0 y1 y2 y3,LeO (spec_EscNorm.j2 k y0 y1 y2 y3) (spec_EscNorm.j2 (k+1) y0 y1 y2 y3))∧(∀y0 y1 y2 y3,LeO (spec_EscNorm.j1 k y0 y1 y2 y3) (spec_EscNorm.j1 (k+1) y0 y1 y2 y3))
 |0=>by refine⟨?_,?_,?_⟩ <;> (intros;intro r h;simp[spec_EscNorm.l0,spec_EscNorm.j2,spec_EscNorm.j1]at h)
 |k+1=>by
  obtain⟨ih0,ih1,ih2⟩:=spec_EscNorm.mono_l k;refine⟨?_,?_,?_⟩ <;> intros <;> (first|unfold spec_EscNorm.l0|unfold spec_EscNorm.j2|unfold spec_EscNorm.j1) <;>
  repeat' first|(with_reducible first|exact ih0 _ _ _|exact ih1 _ _ _ _|exact ih2 _ _ _ _|exact spec_l1Hex.mono _ _|exact LeO.refl _|exact LeO.none _|refine LeO.ite ?_ ?_|refine LeO.bind ?_ (fun _=>?_))|exact LeO.none _|refine LeO.ite ?_ ?_|refine LeO.bind ?_ (fun _=>?_)
theorem spec_EscNorm.mono:∀a0 k,LeO (spec_EscNorm.f k a0) (spec_EscNorm.f (k+1) a0):=by
 intro a0 k;obtain⟨ih0,ih1,ih2⟩:=spec_EscNorm.mono_l k;unfold spec_EscNorm.f
 repeat' first|(with_reducible first|exact ih0 _ _ _|exact ih1 _ _ _ _|exact ih2 _ _ _ _|exact spec_l1Hex.mono _ _|exact LeO.refl _|exact LeO.none _|refine LeO.ite ?_ ?_|refine LeO.bind ?_ (fun _=>?_))|exact LeO.none _|refine LeO.ite ?_ ?_|refine LeO.bind ?_ (fun _=>?_)
theorem spec_EscNorm.calls (k:Nat)(a0:BA)(r1:BA)(r2:Bool)(w:World)(h:spec_EscNorm.f k a0=some (r1,r2)):
  Calls Tryz.prog 100 #[.string a0] w fun e w'=>e=.returned (.tuple #[.string r1,.bool r2])∧Below w.heap.size w w':=by
 have HB:=A_ (Below.refl w.heap.size w);unfold spec_EscNorm.f at h;have H:=h;clear h;replace H:=iteE H;rcases H with⟨c2,H⟩|⟨c2,H⟩
 ·have c2b0:=gtT c2
  have c2b1:decide (60<a0.size)=true:=dT (by omega);clear c2;simp only[oI_,pI_]at H;obtain⟨rfl,rfl⟩:=H;go_enter Tryz.func100,Tryz.ntmps100;go_wp2
  repeat(go_quiet (fail);try go_wp2)
  go_ret2
  exact⟨zz11,(zz2 HB)⟩
 ·have c2b0:=gtF c2
  have c2b1:decide (60<a0.size)=false:=dF (by omega);clear c2;have H':=A_ H;clear H;go_enter Tryz.func100,Tryz.ntmps100;go_wp2
  repeat(go_quiet (fail);try go_wp2)
  go_loopg [4,5] k (fun kq v4 v5 w'=>∃(x4_1:BA)(x5_1:Int),v4=.string x4_1∧v5=.int .i64 x5_1∧Aside0 (spec_EscNorm.l0 kq a0 x4_1 x5_1=some (r1,r2))∧Aside0 (kq≤k)∧Aside0 (Below w.heap.size w w'))
  case atStart=>exact⟨((⟨#[]⟩:BA)),(0),zz5,zz5,H',⟨lL_ _⟩,⟨(zz2 HB)⟩⟩
  case round=>
   clear H';obtain⟨x4_1,x5_1,rfl,rfl,HA,HK1,HB⟩:=hrel;cases gk with
   |zero=>exact absurd HA.out (by simp[spec_EscNorm.l0])
   |succ k1=>
    obtain⟨H⟩:=HA;simp only[spec_EscNorm.l0]at H;replace H:=iteEd H;rcases H with⟨c3b0,H⟩|⟨c3b0,H⟩
    ·replace H:=iteNd H
     obtain⟨c4b0,H⟩:=H;have HC7:=A_ H;clear H;have p5:0≤(x5_1:Int):=ofD;have q5:x5_1<(a0.size:Int):=ofD;have hx5:=bt_at a0 x5_1;replace p5:=eq_true p5;replace q5:=eq_true q5;have p6:0≤(x5_1:Int):=ofD;have q6:x5_1<(a0.size:Int):=ofD;have hx6:=bt_at a0 x5_1;replace p6:=eq_true p6;replace q6:=eq_true q6;go_upto_if 23 with(fail)
     repeat(go_quiet (fail);go_upto_if 23 with(fail))
     go_cut [5,6] (fun v5 v6 wc=>∃(kq:Nat)(x5_6:Int)(x6_6:Int),v5=.int .i64 x5_6∧v6=.int .i64 x6_6∧Aside0 (spec_EscNorm.j2 kq a0 x4_1 x5_6 x6_6=some (r1,r2))∧Aside0 (kq≤k1)∧Aside0 (Below w.heap.size w wc))
     case first=>
      obtain⟨H⟩:=HC7;replace H:=iteEq H;rcases H with⟨c8b0,c8b1,H⟩|⟨c8b0,c8b1,c8,H⟩
      ·(first|rw[c8b0]|(simp only[i64_w,i32_w];rw[c8b0])|skip)
       have HC9:=A_ H;clear H;go_upto_region 9 with(fail)
       repeat(go_quiet (fail);go_upto_region 9 with(fail))
       go_cut [44] (fun v44 wc=>∃(kq:Nat)(x44_8:Bool),v44=.bool x44_8∧Aside0 (spec_EscNorm.j1 kq a0 x4_1 x5_1 x44_8=some (r1,r2))∧Aside0 (kq≤k1)∧Aside0 (Below w.heap.size w wc))
       case first=>
        obtain⟨H⟩:=HC9;replace H:=iteEe H;rcases H with⟨c10b0,H⟩|⟨c10b0,H⟩
        ·(first|rw[c10b0]|(simp only[i64_w,i32_w];rw[c10b0])|skip)
         have H':=A_ H;clear H;go_wp2
         repeat(go_quiet (fail);try go_wp2)
         go_meet
         case rel=>exact⟨_,(true),zz5,H',⟨(zz18 HK1)⟩,⟨(zz2 HB)⟩⟩
        ·(first|rw[c10b0]|(simp only[i64_w,i32_w];rw[c10b0])|skip)
         obtain⟨ji11,hji11⟩:∃j_:Int,(wrap64 (x5_1+1))=j_:=⟨_,rfl⟩;(first|rw[hji11]at H|simp only[hji11]at H);have hji11w:(IntKind.i64.wrap (x5_1+1))=ji11:=(i64_w _).trans hji11;replace H:=iteNd H;obtain⟨c12b0,H⟩:=H;replace H:=iteNd H;obtain⟨c13b0,H⟩:=H;replace H:=bindA H;obtain⟨t109,A15,H⟩:=H;have HF16:=A_ H;clear H;have p14:0≤((ji11):Int):=ofD;have q14:(ji11)<(a0.size:Int):=ofD;have hx14:=bt_at a0 (ji11);replace p14:=eq_true p14;replace q14:=eq_true q14;go_wp2_with (first|(go_at_call 116;(with_reducible refine(spec_l1Hex.calls k1 (bt a0 (ji11)) t109 _ A15.out).mono ?_);rintro e w' ⟨rfl,⟨nd,rfl⟩⟩;(try first|exact⟨rfl,_,dN_ _ _ _⟩|exact⟨rfl,_,Eq.trans (dN_ _ _ _) (congrArg (World.drewN _) (Nat.add_assoc _ _ _))⟩))|((with_reducible refine atG ?_ ?_ fun K_ hK_=>?_);rfl;exact undecG)|((with_reducible refine atI ?_ fun K_ hK_=>?_);exact undecI))
         repeat(go_quiet (first|(go_at_call 116;(with_reducible refine(spec_l1Hex.calls k1 (bt a0 (ji11)) t109 _ A15.out).mono ?_);rintro e w' ⟨rfl,⟨nd,rfl⟩⟩;(try first|exact⟨rfl,_,dN_ _ _ _⟩|exact⟨rfl,_,Eq.trans (dN_ _ _ _) (congrArg (World.drewN _) (Nat.add_assoc _ _ _))⟩))|((with_reducible refine atG ?_ ?_ fun K_ hK_=>?_);rfl;exact undecG)|((with_reducible refine atI ?_ fun K_ hK_=>?_);exact undecI));go_wp2_with (first|(go_at_call 116;(with_reducible refine(spec_l1Hex.calls k1 (bt a0 (ji11)) t109 _ A15.out).mono ?_);rintro e w' ⟨rfl,⟨nd,rfl⟩⟩;(try first|exact⟨rfl,_,dN_ _ _ _⟩|exact⟨rfl,_,Eq.trans (dN_ _ _ _) (congrArg (World.drewN _) (Nat.add_assoc _ _ _))⟩))|((with_reducible refine atG ?_ ?_ fun K_ hK_=>?_);rfl;exact undecG)|((with_reducible refine atI ?_ fun K_ hK_=>?_);exact undecI)))
         refine unG hK_ ?_;clear hK_ K_;obtain⟨H⟩:=HF16;replace H:=iteE H;rcases H with⟨c17,H⟩|⟨c17,H⟩
         ·have c17b0:=dT c17
          (first|refine iteT ?_|refine iteF ?_|skip)
          clear c17;(first|rw[c17b0]|(simp only[i64_w,i32_w];rw[c17b0])|skip);have H':=A_ H;clear H;(try((with_reducible refine upS ?_);go_simp));go_wp2
          repeat(go_quiet (fail);try go_wp2)
          go_meet
          case rel=>exact⟨_,(true),zz5,H',⟨(zz18 HK1)⟩,⟨(zz2 HB)⟩⟩
         ·have c17b0:=dF c17
          (first|refine iteT ?_|refine iteF ?_|skip)
          clear c17;(first|rw[c17b0]|(simp only[i64_w,i32_w];rw[c17b0])|skip);obtain⟨ji18,hji18⟩:∃j_:Int,(wrap64 (x5_1+2))=j_:=⟨_,rfl⟩;(first|rw[hji18]at H|simp only[hji18]at H)
          (try rw[hji18]at c10b0)
          have hji18w:(IntKind.i64.wrap (x5_1+2))=ji18:=(i64_w _).trans hji18;replace H:=iteNd H;obtain⟨c19b0,H⟩:=H;replace H:=iteNd H;obtain⟨c20b0,H⟩:=H;replace H:=bindA H;obtain⟨t110,A22,H⟩:=H;have H':=A_ H;clear H;have p21:0≤((ji18):Int):=ofD;have q21:(ji18)<(a0.size:Int):=ofD;have hx21:=bt_at a0 (ji18);replace p21:=eq_true p21;replace q21:=eq_true q21;go_wp2_with (first|(go_at_call 116;(with_reducible refine(spec_l1Hex.calls k1 (bt a0 (ji18)) t110 _ A22.out).mono ?_);rintro e w' ⟨rfl,⟨nd,rfl⟩⟩;(try first|exact⟨rfl,_,dN_ _ _ _⟩|exact⟨rfl,_,Eq.trans (dN_ _ _ _) (congrArg (World.drewN _) (Nat.add_assoc _ _ _))⟩)))
          repeat(go_quiet (first|(go_at_call 116;(with_reducible refine(spec_l1Hex.calls k1 (bt a0 (ji18)) t110 _ A22.out).mono ?_);rintro e w' ⟨rfl,⟨nd,rfl⟩⟩;(try first|exact⟨rfl,_,dN_ _ _ _⟩|exact⟨rfl,_,Eq.trans (dN_ _ _ _) (congrArg (World.drewN _) (Nat.add_assoc _ _ _))⟩)));try go_wp2_with (first|(go_at_call 116;(with_reducible refine(spec_l1Hex.calls k1 (bt a0 (ji18)) t110 _ A22.out).mono ?_);rintro e w' ⟨rfl,⟨nd,rfl⟩⟩;(try first|exact⟨rfl,_,dN_ _ _ _⟩|exact⟨rfl,_,Eq.trans (dN_ _ _ _) (congrArg (World.drewN _) (Nat.add_assoc _ _ _))⟩))))
          go_meet
          case rel=>exact⟨_,(decide (t110<0)),zz5,H',⟨(zz18 HK1)⟩,⟨(zz2 HB)⟩⟩
       case rest=>
        clear HC9;obtain⟨kq,x44_8,rfl,HA,HJ8,HB⟩:=hcut;cases kq with
        |zero=>exact absurd HA.out (by simp[spec_EscNorm.j1])
        |succ kj8=>
         obtain⟨H⟩:=HA;simp only[spec_EscNorm.j1]at H;replace H:=iteB H;rcases H with⟨rfl,H⟩|⟨rfl,H⟩
         ·simp only[oI_,pI_]at H
          obtain⟨rfl,rfl⟩:=H;go_wp2
          repeat(go_quiet (fail);try go_wp2)
          go_ret2
          exact⟨zz11,(zz2 HB)⟩
         ·obtain⟨ji24,hji24⟩:∃j_:Int,(wrap64 (x5_1+1))=j_:=⟨_,rfl⟩
          (first|rw[hji24]at H|simp only[hji24]at H)
          have hji24w:(IntKind.i64.wrap (x5_1+1))=ji24:=(i64_w _).trans hji24;replace H:=iteNd H;obtain⟨c25b0,H⟩:=H;replace H:=iteNd H;obtain⟨c26b0,H⟩:=H;replace H:=bindA H;obtain⟨t111,A28,H⟩:=H;obtain⟨ji29,hji29⟩:∃j_:Int,(wrap64 (x5_1+2))=j_:=⟨_,rfl⟩;(first|rw[hji29]at H|simp only[hji29]at H)
          (try rw[hji29]at A28)
          have hji29w:(IntKind.i64.wrap (x5_1+2))=ji29:=(i64_w _).trans hji29;replace H:=iteNd H;obtain⟨c30b0,H⟩:=H;replace H:=iteNd H;obtain⟨c31b0,H⟩:=H;replace H:=bindA H;obtain⟨t112,A33,H⟩:=H;have H':=A_ H;clear H;have p27:0≤((ji24):Int):=ofD;have q27:(ji24)<(a0.size:Int):=ofD;have hx27:=bt_at a0 (ji24);replace p27:=eq_true p27;replace q27:=eq_true q27;go_wp2_with (first|(go_at_call 116;(with_reducible refine(spec_l1Hex.calls kj8 (bt a0 (ji24)) t111 _ A28.out).mono ?_);rintro e w' ⟨rfl,⟨nd,rfl⟩⟩;(try first|exact⟨rfl,_,dN_ _ _ _⟩|exact⟨rfl,_,Eq.trans (dN_ _ _ _) (congrArg (World.drewN _) (Nat.add_assoc _ _ _))⟩);have p32:0≤((ji29):Int):=ofD;have q32:(ji29)<(a0.size:Int):=ofD;have hx32:=bt_at a0 (ji29);replace p32:=eq_true p32;replace q32:=eq_true q32)|(go_at_call 116;(with_reducible refine(spec_l1Hex.calls kj8 (bt a0 (ji29)) t112 _ A33.out).mono ?_);rintro e w' ⟨rfl,⟨nd,rfl⟩⟩;(try first|exact⟨rfl,_,dN_ _ _ _⟩|exact⟨rfl,_,Eq.trans (dN_ _ _ _) (congrArg (World.drewN _) (Nat.add_assoc _ _ _))⟩)))
          repeat(go_quiet (first|(go_at_call 116;(with_reducible refine(spec_l1Hex.calls kj8 (bt a0 (ji24)) t111 _ A28.out).mono ?_);rintro e w' ⟨rfl,⟨nd,rfl⟩⟩;(try first|exact⟨rfl,_,dN_ _ _ _⟩|exact⟨rfl,_,Eq.trans (dN_ _ _ _) (congrArg (World.drewN _) (Nat.add_assoc _ _ _))⟩);have p32:0≤((ji29):Int):=ofD;have q32:(ji29)<(a0.size:Int):=ofD;have hx32:=bt_at a0 (ji29);replace p32:=eq_true p32;replace q32:=eq_true q32)|(go_at_call 116;(with_reducible refine(spec_l1Hex.calls kj8 (bt a0 (ji29)) t112 _ A33.out).mono ?_);rintro e w' ⟨rfl,⟨nd,rfl⟩⟩;(try first|exact⟨rfl,_,dN_ _ _ _⟩|exact⟨rfl,_,Eq.trans (dN_ _ _ _) (congrArg (World.drewN _) (Nat.add_assoc _ _ _))⟩)));try go_wp2_with (first|(go_at_call 116;(with_reducible refine(spec_l1Hex.calls kj8 (bt a0 (ji24)) t111 _ A28.out).mono ?_);rintro e w' ⟨rfl,⟨nd,rfl⟩⟩;(try first|exact⟨rfl,_,dN_ _ _ _⟩|exact⟨rfl,_,Eq.trans (dN_ _ _ _) (congrArg (World.drewN _) (Nat.add_assoc _ _ _))⟩);have p32:0≤((ji29):Int):=ofD;have q32:(ji29)<(a0.size:Int):=ofD;have hx32:=bt_at a0 (ji29);replace p32:=eq_true p32;replace q32:=eq_true q32)|(go_at_call 116;(with_reducible refine(spec_l1Hex.calls kj8 (bt a0 (ji29)) t112 _ A33.out).mono ?_);rintro e w' ⟨rfl,⟨nd,rfl⟩⟩;(try first|exact⟨rfl,_,dN_ _ _ _⟩|exact⟨rfl,_,Eq.trans (dN_ _ _ _) (congrArg (World.drewN _) (Nat.add_assoc _ _ _))⟩))))
          go_meet
          case rel=>exact⟨_,(ji29),(wrap64 ((wrap64 (t111*16))+t112)),(by first|rfl|(simp only[i64_w,i32_w];done)|(simp only[aid_isEmpty,aid_isEmpty2];done)|(simp;done)|((simp only[←hji29] <;> (first|rfl|simp));done)|(simp[*];done)),zz5,H',⟨(by have:=HK1.out;have:=HJ8.out;first|omega|exact lL_ _)⟩,⟨(zz2 HB)⟩⟩
      ·(first|rw[c8b0]|(simp only[i64_w,i32_w];rw[c8b0])|skip)
       have H':=A_ H;clear H;go_wp2
       repeat(go_quiet (fail);try go_wp2)
       go_meet
       case rel=>exact⟨_,(x5_1),(wrap64 (bt a0 x5_1)),zz5,zz5,H',⟨(zz18 HK1)⟩,⟨(zz2 HB)⟩⟩
     case rest=>
      clear HC7;obtain⟨kq,x5_6,x6_6,rfl,rfl,HA,HJ6,HB⟩:=hcut;cases kq with
      |zero=>exact absurd HA.out (by simp[spec_EscNorm.j2])
      |succ kj6=>
       obtain⟨H⟩:=HA;simp only[spec_EscNorm.j2]at H;replace H:=bindA H;obtain⟨t113,A34,H⟩:=H;have HF35:=A_ H;clear H;go_upto_if 61 with(first|(go_at_call 117;(with_reducible refine(spec_l1Plain.calls ((x6_6)%256) t113 _ A34.out).mono ?_);rintro e w' ⟨rfl,⟨nd,rfl⟩⟩;(try first|exact⟨rfl,_,dN_ _ _ _⟩|exact⟨rfl,_,Eq.trans (dN_ _ _ _) (congrArg (World.drewN _) (Nat.add_assoc _ _ _))⟩)))
       repeat(go_quiet (first|(go_at_call 117;(with_reducible refine(spec_l1Plain.calls ((x6_6)%256) t113 _ A34.out).mono ?_);rintro e w' ⟨rfl,⟨nd,rfl⟩⟩;(try first|exact⟨rfl,_,dN_ _ _ _⟩|exact⟨rfl,_,Eq.trans (dN_ _ _ _) (congrArg (World.drewN _) (Nat.add_assoc _ _ _))⟩)));go_upto_if 61 with(first|(go_at_call 117;(with_reducible refine(spec_l1Plain.calls ((x6_6)%256) t113 _ A34.out).mono ?_);rintro e w' ⟨rfl,⟨nd,rfl⟩⟩;(try first|exact⟨rfl,_,dN_ _ _ _⟩|exact⟨rfl,_,Eq.trans (dN_ _ _ _) (congrArg (World.drewN _) (Nat.add_assoc _ _ _))⟩))))
       obtain⟨H⟩:=HF35;replace H:=iteB H;rcases H with⟨rfl,H⟩|⟨rfl,H⟩
       ·obtain⟨y114,Ny114,H⟩:=bindY H
        replace H:=iteN H;obtain⟨c37,H⟩:=H;have c37b0:=eq_true c37;have c37b1:=dT c37;try have c37b2:(9223372036854775807<x4_1.size+(strOfNums y114).size)=False:=eq_false (nL_.2 c37);have H':=A_ H;clear H;go_wp2_with (first|((with_reducible refine gD (N:=65) rfl ?_);refine Kd.R_lit (Kd.int .u8) _ 5 ?hg (N:=65) ?hd (xs:=([(x6_6)%256]:List Int)) (inner:=[.int .u8 ((x6_6)%256)]) (ok:=fun _=>True) (okp:=fun _=>True) ?hr ?hp (fun _ hk=>hk) trivial (Below.refl _ _) (lL_ _) (by simp) ?_;(case hd=>rfl);(case hg=>rfl);(case hr=>exact zz21);(case hp=>exact(Reps.one (show Kd.M (Kd.int .u8) _ _ _ ((x6_6)%256) [.int .u8 ((x6_6)%256)]from rfl) (Reps.none _ _)));intro v115 w38 ho39 hb hg_ hnew_;clear hg_ hnew_;(first|rw[←Ny114.out]at ho39|(simp only[Int.reduceToNat]at ho39;rw[←Ny114.out]at ho39));have HO116:=A_ (Kd.R_lower ho39 (below_size (zz2 HB)));replace HB:=A_ (bS (zz2 HB) hb);clear hb ho39;have hcv40:=own_string (P:=Tryz.prog) Tryz.underlying35 Tryz.underlying5 Tryz.underlying9 (Kd.own_of_R HO116.out)))
        repeat(go_quiet (first|((with_reducible refine gD (N:=65) rfl ?_);refine Kd.R_lit (Kd.int .u8) _ 5 ?hg (N:=65) ?hd (xs:=([(x6_6)%256]:List Int)) (inner:=[.int .u8 ((x6_6)%256)]) (ok:=fun _=>True) (okp:=fun _=>True) ?hr ?hp (fun _ hk=>hk) trivial (Below.refl _ _) (lL_ _) (by simp) ?_;(case hd=>rfl);(case hg=>rfl);(case hr=>exact zz21);(case hp=>exact(Reps.one (show Kd.M (Kd.int .u8) _ _ _ ((x6_6)%256) [.int .u8 ((x6_6)%256)]from rfl) (Reps.none _ _)));intro v115 w38 ho39 hb hg_ hnew_;clear hg_ hnew_;(first|rw[←Ny114.out]at ho39|(simp only[Int.reduceToNat]at ho39;rw[←Ny114.out]at ho39));have HO116:=A_ (Kd.R_lower ho39 (below_size (zz2 HB)));replace HB:=A_ (bS (zz2 HB) hb);clear hb ho39;have hcv40:=own_string (P:=Tryz.prog) Tryz.underlying35 Tryz.underlying5 Tryz.underlying9 (Kd.own_of_R HO116.out)));try go_wp2_with (first|((with_reducible refine gD (N:=65) rfl ?_);refine Kd.R_lit (Kd.int .u8) _ 5 ?hg (N:=65) ?hd (xs:=([(x6_6)%256]:List Int)) (inner:=[.int .u8 ((x6_6)%256)]) (ok:=fun _=>True) (okp:=fun _=>True) ?hr ?hp (fun _ hk=>hk) trivial (Below.refl _ _) (lL_ _) (by simp) ?_;(case hd=>rfl);(case hg=>rfl);(case hr=>exact zz21);(case hp=>exact(Reps.one (show Kd.M (Kd.int .u8) _ _ _ ((x6_6)%256) [.int .u8 ((x6_6)%256)]from rfl) (Reps.none _ _)));intro v115 w38 ho39 hb hg_ hnew_;clear hg_ hnew_;(first|rw[←Ny114.out]at ho39|(simp only[Int.reduceToNat]at ho39;rw[←Ny114.out]at ho39));have HO116:=A_ (Kd.R_lower ho39 (below_size (zz2 HB)));replace HB:=A_ (bS (zz2 HB) hb);clear hb ho39;have hcv40:=own_string (P:=Tryz.prog) Tryz.underlying35 Tryz.underlying5 Tryz.underlying9 (Kd.own_of_R HO116.out))))
        go_roundg kj6
        case measure=>have:=HK1.out;have:=HJ6.out;omega
        case rel=>exact⟨(x4_1++(strOfNums y114)),(wrap64 (x5_6+1)),zz5,zz5,H',⟨(zz28 HK1 HJ6)⟩,⟨(zz2 HB)⟩⟩
       ·replace H:=bindA H
        obtain⟨t117,A41,H⟩:=H;replace H:=iteN H;obtain⟨c42,H⟩:=H;have c42b0:=eq_true c42;have c42b1:=dT c42;try have c42b2:(9223372036854775807<x4_1.size+t117.size)=False:=eq_false (nL_.2 c42);have H':=A_ H;clear H;go_wp2_with (first|(go_at_call 118;(with_reducible refine(spec_l1Sign.calls x6_6 t117 _ A41.out).mono ?_);rintro e w' ⟨rfl,⟨nd,rfl⟩⟩;(try first|exact⟨rfl,_,dN_ _ _ _⟩|exact⟨rfl,_,Eq.trans (dN_ _ _ _) (congrArg (World.drewN _) (Nat.add_assoc _ _ _))⟩)))
        repeat(go_quiet (first|(go_at_call 118;(with_reducible refine(spec_l1Sign.calls x6_6 t117 _ A41.out).mono ?_);rintro e w' ⟨rfl,⟨nd,rfl⟩⟩;(try first|exact⟨rfl,_,dN_ _ _ _⟩|exact⟨rfl,_,Eq.trans (dN_ _ _ _) (congrArg (World.drewN _) (Nat.add_assoc _ _ _))⟩)));try go_wp2_with (first|(go_at_call 118;(with_reducible refine(spec_l1Sign.calls x6_6 t117 _ A41.out).mono ?_);rintro e w' ⟨rfl,⟨nd,rfl⟩⟩;(try first|exact⟨rfl,_,dN_ _ _ _⟩|exact⟨rfl,_,Eq.trans (dN_ _ _ _) (congrArg (World.drewN _) (Nat.add_assoc _ _ _))⟩))))
        go_roundg kj6
        case measure=>have:=HK1.out;have:=HJ6.out;omega
        case rel=>exact⟨(x4_1++t117),(wrap64 (x5_6+1)),zz5,zz5,H',⟨(zz28 HK1 HJ6)⟩,⟨(zz2 HB)⟩⟩
    ·simp only[oI_,pI_]at H
     obtain⟨rfl,rfl⟩:=H;go_wp2
     repeat(go_quiet (fail);try go_wp2)
     go_ret2
     exact⟨zz11,(zz2 HB)⟩
mutual
def impl_RuleOk.j0:Nat→BA→Bool→Option (Bool)
 |0,_,_=>none
 |k+1,x0,x17=>if x17=true then(some false)else((strings_TrimSuffix.f x0 (⟨#[36]⟩:BA)).bind fun t595=>(impl_RuleOk.l0 k t595 0))
def impl_RuleOk.l0:Nat→BA→Int→Option (Bool)
 |0,_,_=>none
 |k+1,x3,x4=>if x4<(x3.size:Int)then(if 0≤x4 then((impl_isPatternByte.f (bt x3 x4)).bind fun t596=>(if t596=true then(impl_RuleOk.l0 k x3 (wrap64 (x4+1)))else(some false)))else(none))else(some true)
end
def impl_RuleOk.f (k:Nat)(a0:BA):Option (Bool):=if(a0.size:Int)<1 then(impl_RuleOk.j0 k a0 true)else(if(a0.size:Int)>16 then(impl_RuleOk.j0 k a0 true)else(if 0<(a0.size:Int)then(impl_RuleOk.j0 k a0 ((bt a0 0) != 47))else(none)))
theorem impl_RuleOk.calls (k:Nat)(a0:BA)(r:Bool)(w:World)(h:impl_RuleOk.f k a0=some r):
  Calls Tryz.prog 82 #[.string a0] w fun e w'=>e=.returned (.bool r)∧Drawn0 w w':=by
 unfold impl_RuleOk.f at h;have H:=h;clear h;have HC2:=A_ H;clear H;go_enter Tryz.func82,Tryz.ntmps82;go_upto_region 1 with(fail)
 go_cut [17] (fun v17 wc=>∃(kq:Nat)(x17_1:Bool),v17=.bool x17_1∧Aside0 (impl_RuleOk.j0 kq a0 x17_1=some r)∧Aside0 (kq≤k)∧Drawn0 w wc)
 case first=>
  obtain⟨H⟩:=HC2;replace H:=iteE H;rcases H with⟨c3,H⟩|⟨c3,H⟩
  ·have c3b0:=dT c3
   have c3b1:decide (a0.size<1)=true:=dT (by omega);clear c3;(first|rw[c3b0]|(simp only[i64_w,i32_w];rw[c3b0])|skip);have H':=A_ H;clear H;go_wp2
   go_meet
   case rel=>exact⟨_,(true),zz5,H',⟨zz6⟩,zz16⟩
  ·have c3b0:=dF c3
   have c3b1:decide (a0.size<1)=false:=dF (by omega);clear c3;(first|rw[c3b0]|(simp only[i64_w,i32_w];rw[c3b0])|skip);replace H:=iteE H;rcases H with⟨c4,H⟩|⟨c4,H⟩
   ·have c4b0:=gtT c4
    have c4b1:decide (16<a0.size)=true:=dT (by omega);clear c4;have H':=A_ H;clear H;go_wp2
    go_meet
    case rel=>exact⟨_,(true),zz5,H',⟨zz6⟩,zz16⟩
   ·have c4b0:=gtF c4
    have c4b1:decide (16<a0.size)=false:=dF (by omega);clear c4;replace H:=iteN H;obtain⟨c5,H⟩:=H;have c5b0:=dT c5;have c5b1:decide (0<a0.size)=true:=dT (by omega);clear c5;have H':=A_ H;clear H;have p6:0≤(0:Int):=(by omega);have q6:0<a0.size:=(by have:(0:Int)<(a0.size:Int):=ofD;omega);have hx6:∀h:0<a0.size,((a0[0]'h).toNat:Int)=bt a0 0:=bt_at a0 0;clear p6;have qi6:(0<(a0.size:Int))=True:=eq_true ofD;replace q6:=eq_true q6;go_wp2
    go_meet
    case rel=>exact⟨_,(((bt a0 0) != 47)),zz5,H',⟨zz6⟩,zz16⟩
 case rest=>
  clear HC2;obtain⟨kq,x17_1,rfl,HA,HJ1,⟨mc1,rfl⟩⟩:=hcut;cases kq with
  |zero=>exact absurd HA.out (by simp[impl_RuleOk.j0])
  |succ kj1=>
   obtain⟨H⟩:=HA;simp only[impl_RuleOk.j0]at H;replace H:=iteB H;rcases H with⟨rfl,H⟩|⟨rfl,H⟩
   ·obtain rfl:=sI H
    go_wp2;go_ret;exact⟨zz5,zz16⟩
   ·replace H:=bindA H
    obtain⟨t595,A8,H⟩:=H;have H':=A_ H;clear H;go_wp2_with (first|(refine gR 97 (some 19) Tryz.func97 (strings_TrimSuffix.calls a0 (⟨#[36]⟩:BA) t595 _ A8.out) ?_;rintro w' ⟨nd,rfl⟩))
    go_loopg [4] kj1 (fun kq v4 w'=>∃(x4_2:Int),v4=.int .i64 x4_2∧Aside0 (impl_RuleOk.l0 kq t595 x4_2=some r)∧Aside0 (kq≤kj1)∧Drawn0 w w')
    case atStart=>exact⟨(0),zz5,H',⟨lL_ _⟩,zz16⟩
    case round=>
     clear H';obtain⟨x4_2,rfl,HA,HK2,⟨m2,rfl⟩⟩:=hrel;cases gk with
     |zero=>exact absurd HA.out (by simp[impl_RuleOk.l0])
     |succ k2=>
      obtain⟨H⟩:=HA;simp only[impl_RuleOk.l0]at H;replace H:=iteEd H;rcases H with⟨c9b0,H⟩|⟨c9b0,H⟩
      ·replace H:=iteNd H
       obtain⟨c10b0,H⟩:=H;replace H:=bindA H;obtain⟨t596,A12,H⟩:=H;have HF13:=A_ H;clear H;have p11:0≤(x4_2:Int):=ofD;have q11:x4_2<(t595.size:Int):=ofD;have hx11:=bt_at t595 x4_2;replace p11:=eq_true p11;replace q11:=eq_true q11;go_upto_if 30 with(first|(refine gR 98 (some 29) Tryz.func98 (impl_isPatternByte.calls (bt t595 x4_2) t596 _ A12.out) ?_;rintro w' ⟨nd,rfl⟩))
       obtain⟨H⟩:=HF13;replace H:=iteB H;rcases H with⟨rfl,H⟩|⟨rfl,H⟩
       ·have H':=A_ H
        clear H;go_wp2
        go_roundg k2
        case measure=>have:=HJ1.out;have:=HK2.out;omega
        case rel=>exact⟨(wrap64 (x4_2+1)),zz5,H',⟨(zz28 HJ1 HK2)⟩,zz16⟩
       ·obtain rfl:=sI H
        go_wp2;go_ret;exact⟨zz5,zz16⟩
      ·obtain rfl:=sI H
       go_wp2;go_ret;exact⟨zz5,zz16⟩
def impl_rulesOk.l0:Nat→List (S98)→Int→Int→Option (Bool)
 |0,_,_,_=>none
 |k+1,x5,x6,x7=>if x7<x6 then(if 0≤x7 then(if x7<(x5.length:Int)then((impl_RuleOk.f k ((rd_T98 x5 x7).f1)).bind fun t599=>(if t599=true then(impl_rulesOk.l0 k x5 x6 (wrap64 (x7+1)))else(some false)))else(none))else(none))else(some true)
def impl_rulesOk.f (k:Nat)(l0:List (S98)):Option (Bool):=impl_rulesOk.l0 k l0 (l0.length:Int) 0
theorem impl_rulesOk.calls (k:Nat)(A0:Option Addr)(c0:Nat)(l0:List (S98))(r:Bool)(w:World)(hr0:Kd.C k98 w A0 l0.length l0)(hc0:l0.length≤c0)(h:impl_rulesOk.f k l0=some r):
  Calls Tryz.prog 68 #[.slice A0 l0.length c0] w fun e w'=>e=.returned (.bool r)∧Below w.heap.size w w':=by
 have hu98:=Tryz.underlying98;have HR0:=A_ hr0;have HC0:=A_ hc0;clear hr0 hc0;have HB:=A_ (Below.refl w.heap.size w);unfold impl_rulesOk.f at h;have H:=h;clear h;have H':=A_ H;clear H;go_enter Tryz.func68,Tryz.ntmps68;go_wp2
 go_loopg [7] k (fun kq v7 w'=>∃(x7_1:Int),v7=.int .i64 x7_1∧Aside0 (impl_rulesOk.l0 kq l0 (l0.length:Int) x7_1=some r)∧Aside0 (kq≤k)∧Aside0 (Below w.heap.size w w'))
 case atStart=>exact⟨(0),zz5,H',⟨lL_ _⟩,⟨(zz2 HB)⟩⟩
 case round=>
  clear H';obtain⟨x7_1,rfl,HA,HK1,HB⟩:=hrel;cases gk with
  |zero=>exact absurd HA.out (by simp[impl_rulesOk.l0])
  |succ k1=>
   obtain⟨H⟩:=HA;simp only[impl_rulesOk.l0]at H;replace H:=iteEd H;rcases H with⟨c2b0,H⟩|⟨c2b0,H⟩
   ·replace H:=iteNd H
    obtain⟨c3b0,H⟩:=H;replace H:=iteNd H;obtain⟨c4b0,H⟩:=H;replace H:=bindA H;obtain⟨t599,A5,H⟩:=H;have HF6:=A_ H;clear H;obtain⟨⟨ad597,e597,hx597_0,hx597_1⟩,p597,q597⟩:=atB (at_T98 HR0.out x7_1);cases e597;obtain⟨hx597_0,hx597_1⟩:=cb2 HB hx597_0 hx597_1;go_upto_if 14 with(first|(refine boxF 4 #[.bool false,.string (⟨#[]⟩:BA)] 98 ?_;intro gb598 hg w7 BK598 hb;have GE598:=geB hg (zz2 HB);replace HB:=A_ (bS (zz2 HB) hb);clear hb hg;obtain⟨_,_,_,_⟩:=cf2 BK598)|((with_reducible refine gate_store (t:=98) (p:=4) rfl ?_);refine store_event (t:=98) (p:=4) (v:=?vo_w9) (w1:=((w7.setCell ⟨gb598,0,none⟩ (.bool ((rd_T98 l0 x7_1).f0))).setCell ⟨gb598,1,none⟩ (.string ((rd_T98 l0 x7_1).f1)))) ?hg ?ho ?hn ?hr ?_;(case ho=>rfl);(case hg=>rfl);(case hn=>rfl);(case hr=>exact zz21);intro w9 hw;have n0_:Aside0 (w9.heap[gb598]?=some (.cells #[.bool ((rd_T98 l0 x7_1).f0),.string ((rd_T98 l0 x7_1).f1)] 98 (0,0))):=⟨(by rw[hw];exact(zz56 BK598))⟩;have n1_:Aside0 (Below w.heap.size w w9):=⟨(by rw[hw];exact(zz4 HB GE598))⟩;clear hw;clear BK598;clear HB;have BK598:=n0_;have HB:=n1_;clear n0_ n1_;obtain⟨_,_,_,_⟩:=cf2 BK598)|(refine gR 82 (some 13) Tryz.func82 (impl_RuleOk.calls k1 ((rd_T98 l0 x7_1).f1) t599 _ A5.out) ?_;rintro w' ⟨nd,rfl⟩))
    obtain⟨H⟩:=HF6;replace H:=iteB H;rcases H with⟨rfl,H⟩|⟨rfl,H⟩
    ·have H':=A_ H
     clear H;go_wp2
     go_roundg k1
     case measure=>have:=HK1.out;omega
     case rel=>exact⟨(wrap64 (x7_1+1)),zz5,H',⟨(zz15 HK1)⟩,⟨(zz4 HB GE598)⟩⟩
    ·obtain rfl:=sI H
     go_wp2;go_ret;exact⟨zz11,(zz4 HB GE598)⟩
   ·obtain rfl:=sI H
    go_wp2;go_ret;exact⟨zz11,(zz2 HB)⟩
def spec_l2Name.l0:Nat→BA→Int→Option (Bool)
 |0,_,_=>none
 |k+1,x0,x3=>if x3<(x0.size:Int)then(if 0≤x3 then(if(bt x0 x3)<97 then(some false)else(if(bt x0 x3)>122 then(some false)else(spec_l2Name.l0 k x0 (wrap64 (x3+1)))))else(none))else((spec_l6In.f (x0.size:Int) 1 8).bind fun t102=>(some t102))
def spec_l2Name.f (k:Nat)(a0:BA):Option (Bool):=spec_l2Name.l0 k a0 0
theorem spec_l2Name.mono_l:∀k,(∀y0 y1,LeO (spec_l2Name.l0 k y0 y1) (spec_l2Name.l0 (k+1) y0 y1))
 |0=>by intros;intro r h;simp[spec_l2Name.l0]at h
 |k+1=>by
  have ih0:=spec_l2Name.mono_l k;intros;unfold spec_l2Name.l0;repeat' first|(with_reducible first|exact ih0 _ _|exact LeO.refl _|exact LeO.none _|refine LeO.ite ?_ ?_|refine LeO.bind ?_ (fun _=>?_))|exact LeO.none _|refine LeO.ite ?_ ?_|refine LeO.bind ?_ (fun _=>?_)
theorem spec_l2Name.mono:∀a0 k,LeO (spec_l2Name.f k a0) (spec_l2Name.f (k+1) a0):=by
 intro a0 k;have ih0:=spec_l2Name.mono_l k;unfold spec_l2Name.f
 repeat' first|(with_reducible first|exact ih0 _ _|exact LeO.refl _|exact LeO.none _|refine LeO.ite ?_ ?_|refine LeO.bind ?_ (fun _=>?_))|exact LeO.none _|refine LeO.ite ?_ ?_|refine LeO.bind ?_ (fun _=>?_)
theorem spec_l2Name.calls (k:Nat)(a0:BA)(r:Bool)(w:World)(h:spec_l2Name.f k a0=some r):
  Calls Tryz.prog 19 #[.string a0] w fun e w'=>e=.returned (.bool r)∧Drawn0 w w':=by
 unfold spec_l2Name.f at h;have H:=h;clear h;have H':=A_ H;clear H;go_enter Tryz.func19,Tryz.ntmps19;go_wp2
 go_loopg [3] k (fun kq v3 w'=>∃(x3_1:Int),v3=.int .i64 x3_1∧Aside0 (spec_l2Name.l0 kq a0 x3_1=some r)∧Aside0 (kq≤k)∧Drawn0 w w')
 case atStart=>exact⟨(0),zz5,H',⟨lL_ _⟩,zz16⟩
 case round=>
  clear H';obtain⟨x3_1,rfl,HA,HK1,⟨m1,rfl⟩⟩:=hrel;cases gk with
  |zero=>exact absurd HA.out (by simp[spec_l2Name.l0])
  |succ k1=>
   obtain⟨H⟩:=HA;simp only[spec_l2Name.l0]at H;replace H:=iteEd H;rcases H with⟨c2b0,H⟩|⟨c2b0,H⟩
   ·replace H:=iteNd H
    obtain⟨c3b0,H⟩:=H;replace H:=iteEd H;rcases H with⟨c5b0,H⟩|⟨c5b0,H⟩
    ·obtain rfl:=sI H
     have p4:0≤(x3_1:Int):=ofD;have q4:x3_1<(a0.size:Int):=ofD;have hx4:=bt_at a0 x3_1;replace p4:=eq_true p4;replace q4:=eq_true q4;go_wp2;go_ret;exact⟨zz5,zz16⟩
    ·replace H:=iteEg H
     rcases H with⟨c7b0,H⟩|⟨c7b0,H⟩
     ·obtain rfl:=sI H
      have p4:0≤(x3_1:Int):=ofD;have q4:x3_1<(a0.size:Int):=ofD;have hx4:=bt_at a0 x3_1;replace p4:=eq_true p4;replace q4:=eq_true q4;have p6:0≤(x3_1:Int):=ofD;have q6:x3_1<(a0.size:Int):=ofD;have hx6:=bt_at a0 x3_1;replace p6:=eq_true p6;replace q6:=eq_true q6;go_wp2;go_ret;exact⟨zz5,zz16⟩
     ·have H':=A_ H
      clear H;have p4:0≤(x3_1:Int):=ofD;have q4:x3_1<(a0.size:Int):=ofD;have hx4:=bt_at a0 x3_1;replace p4:=eq_true p4;replace q4:=eq_true q4;have p6:0≤(x3_1:Int):=ofD;have q6:x3_1<(a0.size:Int):=ofD;have hx6:=bt_at a0 x3_1;replace p6:=eq_true p6;replace q6:=eq_true q6;go_wp2
      go_roundg k1
      case measure=>have:=HK1.out;omega
      case rel=>exact⟨(wrap64 (x3_1+1)),zz5,H',⟨(zz15 HK1)⟩,zz16⟩
   ·replace H:=bindA H
    obtain⟨t102,A8,H⟩:=H;obtain rfl:=sI H;go_wp2_with (first|(refine gR 47 (some 22) Tryz.func47 (spec_l6In.calls (a0.size:Int) 1 8 t102 _ A8.out) ?_;rintro w' ⟨nd,rfl⟩));go_ret;exact⟨zz5,zz16⟩

def spec_l1Text.f (k:Nat)(a0_0:BA)(l0_1:List BA)(a0_2:Bool)(a0_3:BA):Option (BA):=if 2+a0_0.size≤9223372036854775807 then((spec_l1Path.f k a0_0 l0_1 a0_2 a0_3).bind fun t107=>(if 2+a0_0.size+t107.size≤9223372036854775807 then(some (((⟨#[47,47]⟩:BA)++a0_0)++t107))else(none)))else(none)
theorem spec_l1Text.mono:∀a0 a1 a2 a3 k,LeO (spec_l1Text.f k a0 a1 a2 a3) (spec_l1Text.f (k+1) a0 a1 a2 a3):=by
 intro a0 a1 a2 a3 k;unfold spec_l1Text.f
 repeat' first|(with_reducible first|exact spec_l1Path.mono _ _ _ _ _|exact LeO.refl _|exact LeO.none _|refine LeO.ite ?_ ?_|refine LeO.bind ?_ (fun _=>?_))|exact LeO.none _|refine LeO.ite ?_ ?_|refine LeO.bind ?_ (fun _=>?_)
theorem spec_l1Text.calls (k:Nat)(a0_0:BA)(A0_1:Option Addr)(c0_1:Nat)(l0_1:List BA)(a0_2:Bool)(a0_3:BA)(r:BA)(w:World)(hr0_1:Kd.C Kd.string w A0_1 l0_1.length l0_1)(hc0_1:l0_1.length≤c0_1)(h:spec_l1Text.f k a0_0 l0_1 a0_2 a0_3=some r):
  Calls Tryz.prog 72 #[.agg #[.string a0_0,.slice A0_1 l0_1.length c0_1,.bool a0_2,.string a0_3]] w fun e w'=>e=.returned (.string r)∧Below w.heap.size w w':=by
 have hu70:=Tryz.underlying70;have HR0_1:=A_ hr0_1;have HC0_1:=A_ hc0_1;clear hr0_1 hc0_1;have HB:=A_ (Below.refl w.heap.size w);unfold spec_l1Text.f at h;have H:=h;clear h;replace H:=iteE H;rcases H with⟨c2,H⟩|⟨c2,H⟩
 ·have c2b0:=eq_true c2
  have c2b1:=dT c2;try have c2b2:(9223372036854775807<2+a0_0.size)=False:=eq_false (nL_.2 c2);replace H:=bindA H;obtain⟨t107,A3,H⟩:=H;replace H:=iteN H;obtain⟨c4,H⟩:=H;have c4b0:=eq_true c4;have c4b1:=dT c4;try have c4b2:(9223372036854775807<2+a0_0.size+t107.size)=False:=eq_false (nL_.2 c4);obtain rfl:=sI H;go_enter Tryz.func72,Tryz.ntmps72;try go_wp2_with (first|(refine boxF 1 #[.string a0_0,.slice A0_1 l0_1.length c0_1,.bool a0_2,.string a0_3] 70 ?_;intro gb106 hg w5 BK106 hb;have GE106:=geB hg (zz2 HB);replace HB:=A_ (bS (zz2 HB) hb);clear hb hg));replace BK106:=A_ (blk_drew BK106.out);replace HB:=A_ (below_drew1 HB.out);refine start_ (n:=7) (S:=fun w'=>w'.cell? ⟨gb106,0,none⟩=some (.string a0_0)∧w'.cell? ⟨gb106,1,none⟩=some (.slice A0_1 l0_1.length c0_1)∧w'.cell? ⟨gb106,2,none⟩=some (.bool a0_2)∧w'.cell? ⟨gb106,3,none⟩=some (.string a0_3)) (ds:=[]) #[yF,yF,yF,yF,yF,yF,yF] (by kernel_rfl) rfl rfl ⟨(blk_cell BK106.out 0).trans rfl,(blk_cell BK106.out 1).trans rfl,(blk_cell BK106.out 2).trans rfl,(blk_cell BK106.out 3).trans rfl⟩ (fun hHeld=>?_);generalize w5.drew=w6 at BK106 HB hHeld ⊢;refine pureY 0 (some 3) (yA 1 6) ?_;refine takeY4 1 (some 4) (yA 2 5) hHeld ?_;refine pureY 2 (some 5) (yA 3 4) ?_;refine takeY4 3 (some 6) (yA 4 3) hHeld ?_;refine one_ (i:=4) (N:=some 7) (yA 5 2) rfl rfl (by kernel_rfl) (by decide) (fun K hK=>?_);refine goes_ Tryz.func87 (by kernel_rfl) rfl #[.agg #[.string a0_0,.slice A0_1 l0_1.length c0_1,.bool a0_2,.string a0_3]] (by rfl) rfl rfl zz61 ?_;with_reducible refine(spec_l1Path.calls k a0_0 _ _ l0_1 a0_2 a0_3 t107 _ ?side1 ?side2 A3.out).mono ?_
  (case side1=>exact(zz62 HR0_1 HB))
  (case side2=>exact HC0_1.out)
  rintro e w7 ⟨rfl,hb⟩;refine⟨_,rfl,?_⟩;replace BK106:=A_ (bB (zz3 BK106) hb);replace HB:=A_ (bS (zz4 HB GE106) hb);(try clear hb)
  (try clear hb2)
  (try clear hk)
  (try clear hi)
  refine hK.out _ _ ⟨(blk_cell BK106.out 0).trans rfl,(blk_cell BK106.out 1).trans rfl,(blk_cell BK106.out 2).trans rfl,(blk_cell BK106.out 3).trans rfl⟩ (fun hHeld=>?_);clear hK K;refine nZ 7 ?_;refine pureY 5 (some 8) (yA 6 1) ?_;refine pureY 6 (some 2) (yA 7 0) ?_;refine done_ (by kernel_rfl) ?_;try go_wp2;go_ret;exact⟨zz11,(zz4 HB GE106)⟩
 ·exact absurd H (by simp)
def spec_l1Norm.f (k:Nat)(a0:BA):Option (Bool):=(spec_EscNorm.f k a0).bind fun bt118=>(if bt118.2=true then(some (bt118.1.toList==a0.toList))else(some false))
theorem spec_l1Norm.mono:∀a0 k,LeO (spec_l1Norm.f k a0) (spec_l1Norm.f (k+1) a0):=by
 intro a0 k;unfold spec_l1Norm.f
 repeat' first|(with_reducible first|exact spec_EscNorm.mono _ _|exact LeO.refl _|exact LeO.none _|refine LeO.ite ?_ ?_|refine LeO.bind ?_ (fun _=>?_))|exact LeO.none _|refine LeO.ite ?_ ?_|refine LeO.bind ?_ (fun _=>?_)
theorem spec_l1Norm.calls (k:Nat)(a0:BA)(r:Bool)(w:World)(h:spec_l1Norm.f k a0=some r):
  Calls Tryz.prog 86 #[.string a0] w fun e w'=>e=.returned (.bool r)∧Below w.heap.size w w':=by
 have HB:=A_ (Below.refl w.heap.size w);unfold spec_l1Norm.f at h;have H:=h;clear h;replace H:=bindA H;obtain⟨⟨t118,t119⟩,A2,H⟩:=H;try dsimp only at H;have HF3:=A_ H;clear H;go_enter Tryz.func86,Tryz.ntmps86;go_wp2_with (first|(refine gR 100 (some 7) Tryz.func100 (spec_EscNorm.calls k a0 t118 t119 _ A2.out) ?_;rintro w4 hb;replace HB:=A_ (bS (zz2 HB) hb);(try clear hb))|((with_reducible refine atG ?_ ?_ fun K_ hK_=>?_);rfl;exact undecG)|((with_reducible refine atI ?_ fun K_ hK_=>?_);exact undecI));refine unG hK_ ?_;clear hK_ K_;obtain⟨H⟩:=HF3;replace H:=iteB H;rcases H with⟨rfl,H⟩|⟨rfl,H⟩
 ·(first|refine iteT ?_|refine iteF ?_|skip)
  obtain rfl:=sI H;(try((with_reducible refine upS ?_);go_simp));go_wp2;go_ret;exact⟨zz11,(zz2 HB)⟩
 ·(first|refine iteT ?_|refine iteF ?_|skip)
  obtain rfl:=sI H;(try((with_reducible refine upS ?_);go_simp));go_wp2;go_ret;exact⟨zz11,(zz2 HB)⟩
def impl_isName.f (k:Nat)(a0:BA):Option (Bool):=if(a0.size:Int)≥1 then(if(a0.size:Int)≤8 then((impl_allSmallLetters.f k a0).bind fun t233=>(some t233))else(some false))else(some false)
theorem impl_isName.calls (k:Nat)(a0:BA)(r:Bool)(w:World)(h:impl_isName.f k a0=some r):
  Calls Tryz.prog 22 #[.string a0] w fun e w'=>e=.returned (.bool r)∧Drawn0 w w':=by
 unfold impl_isName.f at h;have H:=h;clear h;replace H:=iteE H;rcases H with⟨c2,H⟩|⟨c2,H⟩
 ·have c2b0:=geT c2
  have c2b1:decide (1≤a0.size)=true:=dT (by omega);clear c2;replace H:=iteE H;rcases H with⟨c3,H⟩|⟨c3,H⟩
  ·have c3b0:=dT c3
   have c3b1:decide (a0.size≤8)=true:=dT (by omega);clear c3;replace H:=bindA H;obtain⟨t233,A4,H⟩:=H;obtain rfl:=sI H;go_enter Tryz.func22,Tryz.ntmps22;go_wp2_with (first|(go_at_call 51;(with_reducible refine(impl_allSmallLetters.calls k a0 t233 _ A4.out).mono ?_);rintro e w' ⟨rfl,⟨nd,rfl⟩⟩));go_ret;exact⟨zz5,zz16⟩
  ·have c3b0:=dF c3
   have c3b1:decide (a0.size≤8)=false:=dF (by omega);clear c3;obtain rfl:=sI H;go_enter Tryz.func22,Tryz.ntmps22;go_wp2;go_ret;exact⟨zz5,zz16⟩
 ·have c2b0:=geF c2
  have c2b1:decide (1≤a0.size)=false:=dF (by omega);clear c2;obtain rfl:=sI H;go_enter Tryz.func22,Tryz.ntmps22;go_wp2;go_ret;exact⟨zz5,zz16⟩
def impl_isHouse.f (k:Nat)(a0:BA):Option (Bool):=if(a0.size:Int)≥1 then(if(a0.size:Int)≤5 then((impl_allSmallLetters.f k a0).bind fun t241=>(some t241))else(some false))else(some false)
theorem impl_isHouse.calls (k:Nat)(a0:BA)(r:Bool)(w:World)(h:impl_isHouse.f k a0=some r):
  Calls Tryz.prog 67 #[.string a0] w fun e w'=>e=.returned (.bool r)∧Drawn0 w w':=by
 unfold impl_isHouse.f at h;have H:=h;clear h;replace H:=iteE H;rcases H with⟨c2,H⟩|⟨c2,H⟩
 ·have c2b0:=geT c2
  have c2b1:decide (1≤a0.size)=true:=dT (by omega);clear c2;replace H:=iteE H;rcases H with⟨c3,H⟩|⟨c3,H⟩
  ·have c3b0:=dT c3
   have c3b1:decide (a0.size≤5)=true:=dT (by omega);clear c3;replace H:=bindA H;obtain⟨t241,A4,H⟩:=H;obtain rfl:=sI H;go_enter Tryz.func67,Tryz.ntmps67;go_wp2_with (first|(go_at_call 51;(with_reducible refine(impl_allSmallLetters.calls k a0 t241 _ A4.out).mono ?_);rintro e w' ⟨rfl,⟨nd,rfl⟩⟩));go_ret;exact⟨zz5,zz16⟩
  ·have c3b0:=dF c3
   have c3b1:decide (a0.size≤5)=false:=dF (by omega);clear c3;obtain rfl:=sI H;go_enter Tryz.func67,Tryz.ntmps67;go_wp2;go_ret;exact⟨zz5,zz16⟩
 ·have c2b0:=geF c2
  have c2b1:decide (1≤a0.size)=false:=dF (by omega);clear c2;obtain rfl:=sI H;go_enter Tryz.func67,Tryz.ntmps67;go_wp2;go_ret;exact⟨zz5,zz16⟩
def slices_Contains_string_string.f (k:Nat)(l0:List BA)(a1:BA):Option (Bool):=(slices_Index_string_string.f k l0 a1).bind fun t374=>(some (decide (t374≥0)))
theorem slices_Contains_string_string.calls (k:Nat)(A0:Option Addr)(c0:Nat)(l0:List BA)(a1:BA)(r:Bool)(w:World)(hr0:Kd.C Kd.string w A0 l0.length l0)(hc0:l0.length≤c0)(h:slices_Contains_string_string.f k l0 a1=some r):
  Calls Tryz.prog 53 #[.slice A0 l0.length c0,.string a1] w fun e w'=>e=.returned (.bool r)∧Drawn0 w w':=by
 have HR0:=A_ hr0;have HC0:=A_ hc0;clear hr0 hc0;unfold slices_Contains_string_string.f at h;have H:=h;clear h;replace H:=bindA H;obtain⟨t374,A3,H⟩:=H;obtain rfl:=sI H;go_enter Tryz.func53,Tryz.ntmps53;go_wp2_with (first|(refine gR 75 (some 7) Tryz.func75 (slices_Index_string_string.calls k _ _ l0 a1 t374 _ ?side1 ?side2 A3.out) ?_;(case side1=>exact(zz33 HR0));(case side2=>exact HC0.out);rintro w' ⟨nd,rfl⟩));go_ret;exact⟨zz5,zz16⟩
mutual
def spec_AddrOk.j0:Nat→Bool→BA→List BA→Bool→BA→Option (Bool)
 |0,_,_,_,_,_=>none
 |k+1,x29,x121000,x121001,x121002,x121003=>if x29=true then(some false)else(spec_AddrOk.l0 k 0 x121000 x121001 x121002 x121003)
def spec_AddrOk.l0:Nat→Int→BA→List BA→Bool→BA→Option (Bool)
 |0,_,_,_,_,_=>none
 |k+1,x3,x121000,x121001,x121002,x121003=>if x3<(x121001.length:Int)then(if 0≤x3 then((spec_l1Norm.f k (rdOf bE_ x121001 x3)).bind fun t124=>(if t124=true then(if(rdOf bE_ x121001 x3).toList=([]:List UInt8)then(some false)else(if(rdOf bE_ x121001 x3).toList=([46]:List UInt8)then(some false)else(if(rdOf bE_ x121001 x3).toList=([46,46]:List UInt8)then(some false)else(spec_AddrOk.l0 k (wrap64 (x3+1)) x121000 x121001 x121002 x121003))))else(some false)))else(none))else((spec_l1Text.f k x121000 x121001 x121002 x121003).bind fun t128=>(some (decide ((t128.size:Int)≤60))))
end
def spec_AddrOk.f (k:Nat)(a0_0:BA)(l0_1:List BA)(a0_2:Bool)(a0_3:BA):Option (Bool):=(spec_l1House.f k a0_0).bind fun t121=>(if t121=true then(if(l0_1.length:Int)>5 then(spec_AddrOk.j0 k true a0_0 l0_1 a0_2 a0_3)else((spec_l1Norm.f k a0_3).bind fun t122=>(if t122=true then(if a0_2=true then(spec_AddrOk.j0 k false a0_0 l0_1 a0_2 a0_3)else(spec_AddrOk.j0 k (a0_3.toList != ([]:List UInt8)) a0_0 l0_1 a0_2 a0_3))else(spec_AddrOk.j0 k true a0_0 l0_1 a0_2 a0_3))))else(spec_AddrOk.j0 k true a0_0 l0_1 a0_2 a0_3))
theorem spec_AddrOk.mono_l:∀k,(∀y0 y1 y2 y3 y4,LeO (spec_AddrOk.j0 k y0 y1 y2 y3 y4) (spec_AddrOk.j0 (k+1) y0 y1 y2 y3 y4))∧(∀y0 y1 y2 y3 y4,LeO (spec_AddrOk.l0 k y0 y1 y2 y3 y4) (spec_AddrOk.l0 (k+1) y0 y1 y2 y3 y4))
 |0=>by refine⟨?_,?_⟩ <;> (intros;intro r h;simp[spec_AddrOk.j0,spec_AddrOk.l0]at h)
 |k+1=>by
  obtain⟨ih0,ih1⟩:=spec_AddrOk.mono_l k;refine⟨?_,?_⟩ <;> intros <;> (first|unfold spec_AddrOk.j0|unfold spec_AddrOk.l0) <;>
  repeat' first|(with_reducible first|exact ih0 _ _ _ _ _|exact ih1 _ _ _ _ _|exact spec_l1House.mono _ _|exact spec_l1Norm.mono _ _|exact spec_l1Text.mono _ _ _ _ _|exact LeO.refl _|exact LeO.none _|refine LeO.ite ?_ ?_|refine LeO.bind ?_ (fun _=>?_))|exact LeO.none _|refine LeO.ite ?_ ?_|refine LeO.bind ?_ (fun _=>?_)
theorem spec_AddrOk.calls (k:Nat)(a0_0:BA)(A0_1:Option Addr)(c0_1:Nat)(l0_1:List BA)(a0_2:Bool)(a0_3:BA)(r:Bool)(w:World)(hr0_1:Kd.C Kd.string w A0_1 l0_1.length l0_1)(hc0_1:l0_1.length≤c0_1)(h:spec_AddrOk.f k a0_0 l0_1 a0_2 a0_3=some r):
  Calls Tryz.prog 71 #[.agg #[.string a0_0,.slice A0_1 l0_1.length c0_1,.bool a0_2,.string a0_3]] w fun e w'=>e=.returned (.bool r)∧Below w.heap.size w w':=by
 have hu70:=Tryz.underlying70;have HR0_1:=A_ hr0_1;have HC0_1:=A_ hc0_1;clear hr0_1 hc0_1;have HB:=A_ (Below.refl w.heap.size w);unfold spec_AddrOk.f at h;have H:=h;clear h;have HC2:=A_ H;clear H;go_enter Tryz.func71,Tryz.ntmps71;go_upto_region 1 with(first|((with_reducible refine gD (N:=1) rfl ?_);(try(refine gate_guard (by rfl) ?_;dsimp only));refine boxE 1 #[.string a0_0,.slice A0_1 l0_1.length c0_1,.bool a0_2,.string a0_3] 70 ?_;intro gb120 hg w3 hbox hb;have BK120:=A_ (hbox);have GE120:=geB hg (zz2 HB);replace HB:=A_ (bS (zz2 HB) hb);clear hb hbox hg))
 (try simp only[Act.put,lS_,l0_,lC_])
 go_cut [29] (fun v29 wc=>∃(kq:Nat)(x29_1:Bool),v29=.bool x29_1∧Aside0 (spec_AddrOk.j0 kq x29_1 a0_0 l0_1 a0_2 a0_3=some r)∧Aside0 (kq≤k)∧Aside0 (wc.heap[gb120]?=some (.cells #[.string a0_0,(.slice A0_1 l0_1.length c0_1),.bool a0_2,.string a0_3] 70 (0,0)))∧Aside0 (Below w.heap.size w wc))
 case first=>
  obtain⟨H⟩:=HC2;replace H:=bindA H;obtain⟨t121,A4,H⟩:=H;have HF5:=A_ H;clear H;obtain⟨_,_,_,_,_,_,_,_⟩:=cf4 BK120;go_wp2_with (first|(refine gR 85 (some 6) Tryz.func85 (spec_l1House.calls k a0_0 t121 _ A4.out) ?_;rintro w' ⟨nd,rfl⟩)|((with_reducible refine atG ?_ ?_ fun K_ hK_=>?_);rfl;exact undecG)|((with_reducible refine atI ?_ fun K_ hK_=>?_);exact undecI));refine unG hK_ ?_;clear hK_ K_;obtain⟨H⟩:=HF5;replace H:=iteB H;rcases H with⟨rfl,H⟩|⟨rfl,H⟩
  ·(first|refine iteT ?_|refine iteF ?_|skip)
   replace H:=iteE H;rcases H with⟨c8,H⟩|⟨c8,H⟩
   ·have c8b0:=gtT c8
    have c8b1:decide (5<l0_1.length)=true:=dT (by omega);clear c8;have H':=A_ H;clear H;obtain⟨_,_,_,_,_,_,_,_⟩:=cf4 BK120;go_wp2
    go_meet
    case rel=>exact⟨_,(true),zz5,H',⟨zz6⟩,⟨(zz3 BK120)⟩,⟨(zz4 HB GE120)⟩⟩
   ·have c8b0:=gtF c8
    have c8b1:decide (5<l0_1.length)=false:=dF (by omega);clear c8;replace H:=bindA H;obtain⟨t122,A10,H⟩:=H;have HF11:=A_ H;clear H;obtain⟨_,_,_,_,_,_,_,_⟩:=cf4 BK120;go_wp2_with (first|(go_at_call 86;(with_reducible refine(spec_l1Norm.calls k a0_3 t122 _ A10.out).mono ?_);rintro e w13 ⟨rfl,hb⟩;replace BK120:=A_ (bB (zz3 BK120) hb);replace HB:=A_ (bS (zz4 HB GE120) hb);(try clear hb))|((with_reducible refine atG ?_ ?_ fun K_ hK_=>?_);rfl;exact undecG)|((with_reducible refine atI ?_ fun K_ hK_=>?_);exact undecI));refine unG hK_ ?_;clear hK_ K_;obtain⟨H⟩:=HF11;replace H:=iteB H;rcases H with⟨rfl,H⟩|⟨rfl,H⟩
    ·(first|refine iteT ?_|refine iteF ?_|skip)
     replace H:=iteB H;rcases H with⟨rfl,H⟩|⟨rfl,H⟩
     ·have H':=A_ H
      clear H;obtain⟨_,_,_,_,_,_,_,_⟩:=cf4 BK120;go_wp2
      go_meet
      case rel=>exact⟨_,(false),zz5,H',⟨zz6⟩,⟨(zz3 BK120)⟩,⟨(zz4 HB GE120)⟩⟩
     ·have H':=A_ H
      clear H;obtain⟨_,_,_,_,_,_,_,_⟩:=cf4 BK120;go_wp2
      go_meet
      case rel=>exact⟨_,((a0_3.toList != ([]:List UInt8))),zz5,H',⟨zz6⟩,⟨(zz3 BK120)⟩,⟨(zz4 HB GE120)⟩⟩
    ·(first|refine iteT ?_|refine iteF ?_|skip)
     have H':=A_ H;clear H;(try((with_reducible refine upS ?_);go_simp));go_wp2
     go_meet
     case rel=>exact⟨_,(true),zz5,H',⟨zz6⟩,⟨(zz3 BK120)⟩,⟨(zz4 HB GE120)⟩⟩
  ·(first|refine iteT ?_|refine iteF ?_|skip)
   have H':=A_ H;clear H;(try((with_reducible refine upS ?_);go_simp));go_wp2
   go_meet
   case rel=>exact⟨_,(true),zz5,H',⟨zz6⟩,⟨(zz3 BK120)⟩,⟨(zz4 HB GE120)⟩⟩
 case rest=>
  clear HC2;obtain⟨kq,x29_1,rfl,HA,HJ1,BK120,HB⟩:=hcut;cases kq with
  |zero=>exact absurd HA.out (by simp[spec_AddrOk.j0])
  |succ kj1=>
   obtain⟨H⟩:=HA;simp only[spec_AddrOk.j0]at H;replace H:=iteB H;rcases H with⟨rfl,H⟩|⟨rfl,H⟩
   ·obtain rfl:=sI H
    go_wp2;go_ret;exact⟨zz11,(zz4 HB GE120)⟩
   ·have H':=A_ H
    clear H;go_wp2
    go_loopg [3] kj1 (fun kq v3 w'=>∃(x3_2:Int),v3=.int .i64 x3_2∧Aside0 (spec_AddrOk.l0 kq x3_2 a0_0 l0_1 a0_2 a0_3=some r)∧Aside0 (kq≤kj1)∧Aside0 (w'.heap[gb120]?=some (.cells #[.string a0_0,(.slice A0_1 l0_1.length c0_1),.bool a0_2,.string a0_3] 70 (0,0)))∧Aside0 (Below w.heap.size w w'))
    case atStart=>exact⟨(0),zz5,H',⟨lL_ _⟩,⟨(zz3 BK120)⟩,⟨(zz4 HB GE120)⟩⟩
    case round=>
     clear H';obtain⟨x3_2,rfl,HA,HK2,BK120,HB⟩:=hrel;cases gk with
     |zero=>exact absurd HA.out (by simp[spec_AddrOk.l0])
     |succ k2=>
      obtain⟨H⟩:=HA;simp only[spec_AddrOk.l0]at H;replace H:=iteEd H;rcases H with⟨c19b0,H⟩|⟨c19b0,H⟩
      ·replace H:=iteNd H
       obtain⟨c20b0,H⟩:=H;replace H:=bindA H;obtain⟨t124,A21,H⟩:=H;have HF22:=A_ H;clear H;obtain⟨_,_,_,_,_,_,_,_⟩:=cf4 BK120;obtain⟨⟨ad123,e123,hx123_0⟩,p123,q123⟩:=atB (Kd.at_string HR0_1.out x3_2);cases e123;replace hx123_0:=cbl HB hx123_0;go_wp2_with (first|(refine gR 86 (some 42) Tryz.func86 (spec_l1Norm.calls k2 (rdOf bE_ l0_1 x3_2) t124 _ A21.out) ?_;rintro w24 hb;replace BK120:=A_ (bB (zz3 BK120) hb);replace HB:=A_ (bS (zz4 HB GE120) hb);(try clear hb))|((with_reducible refine atG ?_ ?_ fun K_ hK_=>?_);rfl;exact undecG)|((with_reducible refine atI ?_ fun K_ hK_=>?_);exact undecI));refine unG hK_ ?_;clear hK_ K_;obtain⟨H⟩:=HF22;replace H:=iteB H;rcases H with⟨rfl,H⟩|⟨rfl,H⟩
       ·(first|refine iteT ?_|refine iteF ?_|skip)
        replace H:=iteEq H;rcases H with⟨c26b0,c26b1,H⟩|⟨c26b0,c26b1,c26,H⟩
        ·obtain rfl:=sI H
         obtain⟨_,_,_,_,_,_,_,_⟩:=cf4 BK120;obtain⟨⟨ad125,e125,hx125_0⟩,p125,q125⟩:=atB (Kd.at_string HR0_1.out x3_2);obtain rfl:ad123=ad125:=(by injection e125);replace hx125_0:=cbl HB hx125_0;go_wp2;go_ret;exact⟨zz11,(zz4 HB GE120)⟩
        ·replace H:=iteEq H
         rcases H with⟨c28b0,c28b1,H⟩|⟨c28b0,c28b1,c28,H⟩
         ·obtain rfl:=sI H
          obtain⟨_,_,_,_,_,_,_,_⟩:=cf4 BK120;obtain⟨⟨ad125,e125,hx125_0⟩,p125,q125⟩:=atB (Kd.at_string HR0_1.out x3_2);obtain rfl:ad123=ad125:=(by injection e125);replace hx125_0:=cbl HB hx125_0;obtain⟨⟨ad126,e126,hx126_0⟩,p126,q126⟩:=atB (Kd.at_string HR0_1.out x3_2);obtain rfl:ad123=ad126:=(by injection e126);replace hx126_0:=cbl HB hx126_0;go_wp2;go_ret;exact⟨zz11,(zz4 HB GE120)⟩
         ·replace H:=iteEq H
          rcases H with⟨c30b0,c30b1,H⟩|⟨c30b0,c30b1,c30,H⟩
          ·obtain rfl:=sI H
           obtain⟨_,_,_,_,_,_,_,_⟩:=cf4 BK120;obtain⟨⟨ad125,e125,hx125_0⟩,p125,q125⟩:=atB (Kd.at_string HR0_1.out x3_2);obtain rfl:ad123=ad125:=(by injection e125);replace hx125_0:=cbl HB hx125_0;obtain⟨⟨ad126,e126,hx126_0⟩,p126,q126⟩:=atB (Kd.at_string HR0_1.out x3_2);obtain rfl:ad123=ad126:=(by injection e126);replace hx126_0:=cbl HB hx126_0;obtain⟨⟨ad127,e127,hx127_0⟩,p127,q127⟩:=atB (Kd.at_string HR0_1.out x3_2);obtain rfl:ad123=ad127:=(by injection e127);replace hx127_0:=cbl HB hx127_0;go_wp2;go_ret;exact⟨zz11,(zz4 HB GE120)⟩
          ·have H':=A_ H
           clear H;obtain⟨_,_,_,_,_,_,_,_⟩:=cf4 BK120;obtain⟨⟨ad125,e125,hx125_0⟩,p125,q125⟩:=atB (Kd.at_string HR0_1.out x3_2);obtain rfl:ad123=ad125:=(by injection e125);replace hx125_0:=cbl HB hx125_0;obtain⟨⟨ad126,e126,hx126_0⟩,p126,q126⟩:=atB (Kd.at_string HR0_1.out x3_2);obtain rfl:ad123=ad126:=(by injection e126);replace hx126_0:=cbl HB hx126_0;obtain⟨⟨ad127,e127,hx127_0⟩,p127,q127⟩:=atB (Kd.at_string HR0_1.out x3_2);obtain rfl:ad123=ad127:=(by injection e127);replace hx127_0:=cbl HB hx127_0;go_wp2
           go_roundg k2
           case measure=>have:=HJ1.out;have:=HK2.out;omega
           case rel=>exact⟨(wrap64 (x3_2+1)),zz5,H',⟨(zz28 HJ1 HK2)⟩,⟨(zz3 BK120)⟩,⟨(zz4 HB GE120)⟩⟩
       ·(first|refine iteT ?_|refine iteF ?_|skip)
        obtain rfl:=sI H;(try((with_reducible refine upS ?_);go_simp));go_wp2;go_ret;exact⟨zz11,(zz4 HB GE120)⟩
      ·replace H:=bindA H
       obtain⟨t128,A33,H⟩:=H;obtain rfl:=sI H;obtain⟨_,_,_,_,_,_,_,_⟩:=cf4 BK120;go_wp2_with (first|(refine gR 72 (some 69) Tryz.func72 (spec_l1Text.calls k2 a0_0 _ _ l0_1 a0_2 a0_3 t128 _ ?side1 ?side2 A33.out) ?_;(case side1=>exact(zz62 HR0_1 HB));(case side2=>exact HC0_1.out);rintro w35 hb;replace BK120:=A_ (bB (zz3 BK120) hb);replace HB:=A_ (bS (zz4 HB GE120) hb);(try clear hb)));go_ret;exact⟨zz11,(zz4 HB GE120)⟩
def spec_AddrText.f (k:Nat)(a0_0:BA)(l0_1:List BA)(a0_2:Bool)(a0_3:BA):Option (BA):=(spec_AddrOk.f k a0_0 l0_1 a0_2 a0_3).bind fun t215=>(if t215=true then((spec_l1Text.f k a0_0 l0_1 a0_2 a0_3).bind fun t216=>(some t216))else(some (⟨#[]⟩:BA)))
theorem spec_AddrText.calls (k:Nat)(a0_0:BA)(A0_1:Option Addr)(c0_1:Nat)(l0_1:List BA)(a0_2:Bool)(a0_3:BA)(r:BA)(w:World)(hr0_1:Kd.C Kd.string w A0_1 l0_1.length l0_1)(hc0_1:l0_1.length≤c0_1)(h:spec_AddrText.f k a0_0 l0_1 a0_2 a0_3=some r):
  Calls Tryz.prog 49 #[.agg #[.string a0_0,.slice A0_1 l0_1.length c0_1,.bool a0_2,.string a0_3]] w fun e w'=>e=.returned (.string r)∧Below w.heap.size w w':=by
 have hu70:=Tryz.underlying70;have HR0_1:=A_ hr0_1;have HC0_1:=A_ hc0_1;clear hr0_1 hc0_1;have HB:=A_ (Below.refl w.heap.size w);unfold spec_AddrText.f at h;have H:=h;clear h;replace H:=bindA H;obtain⟨t215,A2,H⟩:=H;have HF3:=A_ H;clear H;go_enter Tryz.func49,Tryz.ntmps49;go_upto_if 5 with(first|(refine boxF 1 #[.string a0_0,.slice A0_1 l0_1.length c0_1,.bool a0_2,.string a0_3] 70 ?_;intro gb214 hg w4 BK214 hb;have GE214:=geB hg (zz2 HB);replace HB:=A_ (bS (zz2 HB) hb);clear hb hg;obtain⟨_,_,_,_,_,_,_,_⟩:=cf4 BK214)|(refine gR 71 (some 4) Tryz.func71 (spec_AddrOk.calls k a0_0 _ _ l0_1 a0_2 a0_3 t215 _ ?side1 ?side2 A2.out) ?_;(case side1=>exact(zz62 HR0_1 HB));(case side2=>exact HC0_1.out);rintro w6 hb;replace BK214:=A_ (bB (zz3 BK214) hb);replace HB:=A_ (bS (zz4 HB GE214) hb);(try clear hb)))
 obtain⟨H⟩:=HF3;replace H:=iteB H;rcases H with⟨rfl,H⟩|⟨rfl,H⟩
 ·replace H:=bindA H
  obtain⟨t216,A8,H⟩:=H;obtain rfl:=sI H;obtain⟨_,_,_,_,_,_,_,_⟩:=cf4 BK214;go_wp2_with (first|(refine gR 72 (some 7) Tryz.func72 (spec_l1Text.calls k a0_0 _ _ l0_1 a0_2 a0_3 t216 _ ?side1 ?side2 A8.out) ?_;(case side1=>exact(zz62 HR0_1 HB));(case side2=>exact HC0_1.out);rintro w10 hb;replace BK214:=A_ (bB (zz3 BK214) hb);replace HB:=A_ (bS (zz4 HB GE214) hb);(try clear hb)));go_ret;exact⟨zz11,(zz4 HB GE214)⟩
 ·obtain rfl:=sI H
  go_wp2;go_ret;exact⟨zz11,(zz4 HB GE214)⟩
def spec_l71Addr.l0:Nat→Int→List Int→Int→BA→List BA→Bool→BA→Option (BA×Int)
 |0,_,_,_,_,_,_,_=>none
 |k+1,x4,x1000,x1001,x501000,x501001,x501002,x501003=>if x4>0 then((spec_l6Rd_of.f k x1000 x1001 (([(⟨#[97]⟩:BA),(⟨#[98]⟩:BA),(⟨#[99]⟩:BA),(⟨#[110,111,116,105,99,101]⟩:BA)]:List BA))).bind fun bt506=>(if x501001.length<8796093022208 then(spec_l71Addr.l0 k (wrap64 (x4-1)) x1000 bt506.2 x501000 (x501001++[bt506.1]) x501002 x501003)else(none)))else((spec_l6Rd_pick.f k x1000 x1001 8).bind fun bt511=>(if bt511.1=0 then((spec_l6Rd_of.f k x1000 bt511.2 (([(⟨#[]⟩:BA),(⟨#[97]⟩:BA),(⟨#[98,37,51,68]⟩:BA)]:List BA))).bind fun bt516=>((spec_AddrText.f k x501000 x501001 true bt516.1).bind fun t518=>(some (t518,bt516.2))))else((spec_AddrText.f k x501000 x501001 x501002 x501003).bind fun t519=>(some (t519,bt511.2)))))
def spec_l71Addr.f (k:Nat)(s0_0:List Int)(s0_1:Int):Option (BA×Int):=(spec_l71Houses.f).bind fun t494=>((spec_l6Rd_pick.f k s0_0 s0_1 4).bind fun bt497=>(if 0≤bt497.1 then(if bt497.1<(t494.length:Int)then((spec_l6Rd_pick.f k s0_0 bt497.2 3).bind fun bt501=>(spec_l71Addr.l0 k bt501.1 s0_0 bt501.2 (rdOf bE_ t494 bt497.1) ([]:List BA) false (⟨#[]⟩:BA)))else(none))else(none)))
def spec_l71Addr.T5:Bool×List (List Nat×List Nat):=(true,[([],[]),([0],[0]),([],[]),([],[]),([2,3],[2,3]),([4],[4]),([1,5,4],[1,5]),([0,1,2,3,4,5,6],[]),([7,6,6,0,1,2,3,4,5,6],[6,7])])
def spec_l71Addr.B5:List Nat:=[0,1,0,0,12,28,63,127,255]
theorem spec_l71Addr.tab5:rtab .any (opsOf Tryz.f81 5)=spec_l71Addr.T5:=by kernel_rfl
theorem spec_l71Addr.bits5:waitsOk spec_l71Addr.T5.2 spec_l71Addr.B5=true:=by kernel_rfl
theorem spec_l71Addr.calls (k:Nat)(g:Nat)(s0_0:List Int)(s0_1:Int)(r1:BA)(r2:Int)(w0 w:World)(hI:IsS87 w0 w g s0_0 s0_1)(hB:Below w0.heap.size w0 w)(h:spec_l71Addr.f k s0_0 s0_1=some (r1,r2)):
  Calls Tryz.prog 81 #[.pointer (some ⟨g,0,none⟩)] w fun e w'=>e=.returned (.string r1)∧IsS87 w0 w' g s0_0 r2∧Below w0.heap.size w0 w'∧KeepBut w w' g none:=by
 have hu70:=Tryz.underlying70;have HI0:=A_ hI;have HK:=A_ (KeepBut.refl w g none);have HL:=A_ hB.size;clear hI;have HW0:=A_ hB.size;have HB:=A_ hB;clear hB;unfold spec_l71Addr.f at h;have H:=h;clear h;replace H:=bindA H;obtain⟨t494,A2,H⟩:=H;replace H:=bindA H;obtain⟨⟨t497,t498⟩,A3,H⟩:=H;try dsimp only at H;replace H:=iteE H;rcases H with⟨c4,H⟩|⟨c4,H⟩
 ·have c4b0:=dT c4
  clear c4;replace H:=iteNd H;obtain⟨c5b0,H⟩:=H;replace H:=bindA H;obtain⟨⟨t501,t502⟩,A6,H⟩:=H;try dsimp only at H;have H':=A_ H;clear H;go_enter Tryz.func81,Tryz.ntmps81;go_wp2_with (first|(refine gV 96 (some 5) Tryz.func96 (spec_l71Houses.calls  t494 _ A2.out) ?_;rintro v495 w7 ⟨ho0,hb⟩;have HO496:=A_ (Kd.R_lower ho0 (keep_size (w:=w) (g:=g) (row:=none) (zz8 HK)));replace HK:=A_ (KeepBut.trans (zz8 HK) (KeepBut.of_below hb g none) (.inl rfl));replace HB:=A_ (bS (zz9 HB HI0) hb);replace HI0:=A_ (IsS87.below (zz7 HI0) hb);(try clear hb ho0))|(refine gR 34 (some 7) Tryz.func34 (spec_l6Rd_pick.calls k g s0_0 s0_1 4 t497 t498 w0 _ ?side1 ?side2 A3.out) ?_;(case side1=>exact(zz7 HI0));(case side2=>exact(zz9 HB HI0));rintro w8 ⟨hi,hb,hk⟩;replace HO496:=A_ (Kd.R_mono (Kd.R_keep (IsS87.apart (show IsS87 w0 _ g s0_0 s0_1 from(zz7 HI0)) (zz23 HO496) (by decide)) hk (fun _ h=>h.2)) (fun _ h=>h.1));replace HK:=A_ (KeepBut.trans (zz8 HK) hk (.inl rfl));replace HB:=A_ (hb);replace HI0:=A_ (hi);(try clear hb hk hi);obtain⟨Ao9,co9,eo9⟩:=Kd.R_slice HO496.out;subst eo9;have p499:0≤(t497:Int):=ofD;have q499:t497<(t494.length:Int):=ofD;obtain⟨ad499,e499,hx499_0⟩:=Kd.at_string (Kd.R_reads' HO496.out).2.2 t497 p499 q499;cases e499;replace p499:=eq_true p499;replace q499:=eq_true q499)|(refine boxF 3 #[.string (⟨#[]⟩:BA),.slice none 0 0,.bool false,.string (⟨#[]⟩:BA)] 70 ?_;intro gb500 hg w10 BK500 hb;replace HO496:=A_ (rB (zz23 HO496) hb);replace HB:=A_ (bS (zz9 HB HI0) hb);have GW500:=A_ ((by rw[hg];exact(keep_size (w:=w) (g:=g) (row:=none) (zz8 HK)):w.heap.size≤gb500));have GE500:=A_ ((nT_ HW0.out (by rw[hg];exact(keep_size (w:=w) (g:=g) (row:=none) (zz8 HK)):w.heap.size≤gb500):w0.heap.size≤gb500));replace HK:=A_ (KeepBut.trans (zz8 HK) (KeepBut.of_below hb g none) (.inl rfl));have NB0_500:=A_ ((by rw[hg];exact Nat.ne_of_lt (IsS87.lt (show IsS87 w0 _ g s0_0 t498 from(zz7 HI0))):g≠gb500));have NB500_0:=A_ ((by rw[hg];exact Nat.ne_of_gt (IsS87.lt (show IsS87 w0 _ g s0_0 t498 from(zz7 HI0))):gb500≠g));replace HI0:=A_ (IsS87.below (zz7 HI0) hb);clear hb hg;have hnb11:=NB500_0.out;have hnc11:=NB0_500.out;obtain⟨_,_,_,_,_,_,_,_⟩:=cf4 BK500)|(refine gR 34 (some 12) Tryz.func34 (spec_l6Rd_pick.calls k g s0_0 t498 3 t501 t502 w0 _ ?side1 ?side2 A6.out) ?_;(case side1=>exact(zz68 HI0 NB0_500));(case side2=>exact(zz69 HB HI0 GE500));rintro w13 ⟨hi,hb,hk⟩;replace HO496:=A_ (Kd.R_mono (Kd.R_keep (IsS87.apart (show IsS87 w0 _ g s0_0 t498 from(zz68 HI0 NB0_500)) (by(with_reducible repeat(first|apply Kd.R_alloc|apply Kd.R_drewN|apply Kd.R_drew));exact(Kd.R_mono (Kd.R_far (p:=⟨gb500,3,none⟩) (Kd.R_far (p:=⟨gb500,2,none⟩) (Kd.R_far (p:=⟨gb500,1,none⟩) (Kd.R_far (p:=⟨gb500,0,none⟩) (Kd.R_types HO496.out BK500.out (by decide)) (fun _ hk=>hk.2) (.string (rdOf bE_ t494 t497))) (fun _ hk=>hk.2) (.slice none 0 0)) (fun _ hk=>hk.2) (.bool false)) (fun _ hk=>hk.2) (.string (⟨#[]⟩:BA))) (fun _ h_=>h_.1))) (by decide)) hk (fun _ h=>h.2)) (fun _ h=>h.1));replace BK500:=A_ (KeepBut.blk hk (g':=gb500) (o:=.cells #[.string (rdOf bE_ t494 t497),.slice none 0 0,.bool false,.string (⟨#[]⟩:BA)] 70 (0,0)) (zz71 BK500) NB500_0.out (by simp));replace HK:=A_ (KeepBut.trans (zz72 HK GW500) hk (.inl rfl));replace HB:=A_ (hb);replace HI0:=A_ (hi);(try clear hb hk hi)))
  go_loopg [4] k (fun kq v4 w'=>∃(x4_1:Int)(x1001_1:Int)(x501001_1:List BA)(u501001:Value),v4=.int .i64 x4_1∧Aside0 (spec_l71Addr.l0 kq x4_1 s0_0 x1001_1 (rdOf bE_ t494 t497) x501001_1 false (⟨#[]⟩:BA)=some (r1,r2))∧Aside0 (kq≤k)∧Aside0 (Kd.R Kd.string 9 w' w.heap.size (fun _=>True) u501001 x501001_1)∧Aside0 (w'.heap[gb500]?=some (.cells #[.string (rdOf bE_ t494 t497),u501001,.bool false,.string (⟨#[]⟩:BA)] 70 (0,0)))∧Aside0 (IsS87 w0 w' g s0_0 x1001_1)∧Aside0 (KeepBut w w' g none)∧Aside0 (Below w0.heap.size w0 w'))
  case atStart=>exact⟨(t501),(t502),(([]:List BA)),(.slice none 0 0),zz5,H',⟨lL_ _⟩,⟨zz25⟩,⟨(zz3 BK500)⟩,⟨(zz68 HI0 NB0_500)⟩,⟨(zz72 HK GW500)⟩,⟨(zz69 HB HI0 GE500)⟩⟩
  case round=>
   clear H';obtain⟨x4_1,x1001_1,x501001_1,u501001,rfl,HA,HK1,HO_501001,BK500,HI0,HK,HB⟩:=hrel;cases gk with
   |zero=>exact absurd HA.out (by simp[spec_l71Addr.l0])
   |succ k1=>
    obtain⟨H⟩:=HA;simp only[spec_l71Addr.l0]at H;replace H:=iteEg H;rcases H with⟨c14b0,H⟩|⟨c14b0,H⟩
    ·obtain⟨y503,Ny503⟩:=toY (([(⟨#[97]⟩:BA),(⟨#[98]⟩:BA),(⟨#[99]⟩:BA),(⟨#[110,111,116,105,99,101]⟩:BA)]:List BA))
     (first|with_reducible replace H:=bindZ Ny503 H|rw[←Ny503.out]at H|skip)
     replace H:=bindA H;obtain⟨⟨t506,t507⟩,A15,H⟩:=H;try dsimp only at H;replace H:=iteN H;obtain⟨c16,H⟩:=H;have LMc16:=A_ c16;clear c16;obtain⟨y508,Ny508⟩:=toY (x501001_1++[t506]);(first|with_reducible replace H:=bindZ Ny508 H|rw[←Ny508.out]at H|skip);have H':=A_ H;clear H;try go_wp2;replace HO_501001:=A_ (Kd.R_drew HO_501001.out);replace BK500:=A_ (blk_drew BK500.out);replace HI0:=A_ (IsS87.drew HI0.out);replace HK:=A_ (keep_drew HK.out);replace HB:=A_ (below_drew1 HB.out);refine start_ (n:=9) (S:=fun w'=>w'.cell? ⟨gb500,0,none⟩=some (.string (rdOf bE_ t494 t497))∧w'.cell? ⟨gb500,1,none⟩=some (u501001)∧w'.cell? ⟨gb500,2,none⟩=some (.bool false)∧w'.cell? ⟨gb500,3,none⟩=some (.string (⟨#[]⟩:BA))) (ds:=[8]) #[yF,yF,yF,yF,yF,yF,yF,yF,yF] (by kernel_rfl) rfl rfl ⟨(blk_cell BK500.out 0).trans rfl,(blk_cell BK500.out 1).trans rfl,(blk_cell BK500.out 2).trans rfl,(blk_cell BK500.out 3).trans rfl⟩ (fun hHeld=>?_);refine with_tabW spec_l71Addr.tab5 spec_l71Addr.bits5 (fun HT_ HW_=>?_);generalize wr.drew=w17 at HO_501001 BK500 HI0 HK HB hHeld ⊢;refine pureZ 0 (some 17) (yA 1 8) ?_;refine pureZ 2 (some 19) #[yT,yF,yT,yF,yF,yF,yF,yF,yF] ?_;refine takeZ4 1 (some 18) (yA 3 6) hHeld ?_;refine oneZ 3 (some 20) (yA 4 5) (fun K hK=>?_);refine Kd.R_lit_step Kd.string _ 9 ?hg (N:=20) ?hd (xs:=([(⟨#[97]⟩:BA),(⟨#[98]⟩:BA),(⟨#[99]⟩:BA),(⟨#[110,111,116,105,99,101]⟩:BA)]:List BA)) (inner:=[.string (⟨#[97]⟩:BA),.string (⟨#[98]⟩:BA),.string (⟨#[99]⟩:BA),.string (⟨#[110,111,116,105,99,101]⟩:BA)]) (ok:=fun _=>True) (okp:=fun _=>True) ?hr ?hp (fun _ hk=>hk) trivial (Below.refl _ _) (lL_ _) (by simp) ?_;(case hd=>rfl);(case hg=>rfl);(case hr=>exact zz21);(case hp=>exact(Reps.one (show Kd.M Kd.string _ _ _ (⟨#[97]⟩:BA) [.string (⟨#[97]⟩:BA)]from rfl) (Reps.one (show Kd.M Kd.string _ _ _ (⟨#[98]⟩:BA) [.string (⟨#[98]⟩:BA)]from rfl) (Reps.one (show Kd.M Kd.string _ _ _ (⟨#[99]⟩:BA) [.string (⟨#[99]⟩:BA)]from rfl) (Reps.one (show Kd.M Kd.string _ _ _ (⟨#[110,111,116,105,99,101]⟩:BA) [.string (⟨#[110,111,116,105,99,101]⟩:BA)]from rfl) (Reps.none _ _))))));intro v504 w18 ho19 hb hg_ hnew_;clear hg_ hnew_;(first|rw[←Ny503.out]at ho19|(simp only[Int.reduceToNat]at ho19;rw[←Ny503.out]at ho19));have HO505:=A_ (Kd.R_lower (Kd.R_new' ho19 (Kd.R_lt (zz23 HO_501001))) (keep_size (w:=w) (g:=g) (row:=none) (zz72 HK GW500)));replace HO_501001:=A_ (Kd.R_elder' (zz23 HO_501001) (Kd.R_base ho19) hb);replace BK500:=A_ (bB (zz3 BK500) hb);replace HK:=A_ (KeepBut.trans (zz72 HK GW500) (KeepBut.of_below hb g none) (.inl rfl));replace HB:=A_ (bS (zz69 HB HI0 GE500) hb);replace HI0:=A_ (IsS87.below (zz68 HI0 NB0_500) hb);clear hb ho19;obtain⟨Ao20,co20,eo20⟩:=Kd.R_slice HO505.out;(first|subst eo20|(injection eo20 with f1_ f2_ f3_;have f4_:=f1_.symm;have f5_:=f3_.symm;clear f1_ f2_ f3_;subst f4_;subst f5_));refine hK.out _ _ ⟨(blk_cell BK500.out 0).trans rfl,(blk_cell BK500.out 1).trans rfl,(blk_cell BK500.out 2).trans rfl,(blk_cell BK500.out 3).trans rfl⟩ (fun hHeld=>?_);clear hK K;refine nZ 20 ?_;refine oneZ 4 (some 21) (yA 5 4) (fun K hK=>?_);refine goes_ Tryz.func64 (by kernel_rfl) rfl #[.pointer (some ⟨g,0,none⟩),.slice Ao20 y503.length co20] (by rfl) rfl rfl zz61 ?_;with_reducible refine(spec_l6Rd_of.calls k1 g s0_0 x1001_1 _ _ y503 t506 t507 w0 _ ?side1 ?side2 ?side3 ?side4 ?side5 A15.out).mono ?_
     (case side1=>exact(zz68 HI0 NB0_500))
     (case side2=>exact(zz69 HB HI0 GE500))
     (case side3=>exact(zz22 HO505))
     (case side4=>exact(Kd.R_reads' HO505.out).2.1)
     (case side5=>exact far_slice (IsS87.own_ne HI0.out HO505.out (by decide)))
     rintro e w21 ⟨rfl,hi,hb,hk⟩;refine⟨_,rfl,?_⟩;replace HO_501001:=A_ (Kd.R_mono (Kd.R_keep (IsS87.apart (show IsS87 w0 _ g s0_0 x1001_1 from(zz68 HI0 NB0_500)) (zz23 HO_501001) (by decide)) hk (fun _ h=>h.2)) (fun _ h=>h.1));replace BK500:=A_ (KeepBut.blk hk (g':=gb500) (o:=.cells #[.string (rdOf bE_ t494 t497),u501001,.bool false,.string (⟨#[]⟩:BA)] 70 (0,0)) (zz3 BK500) NB500_0.out (by simp));replace HO505:=A_ (Kd.R_mono (Kd.R_keep (IsS87.apart (show IsS87 w0 _ g s0_0 x1001_1 from(zz68 HI0 NB0_500)) (zz23 HO505) (by decide)) hk (fun _ h=>h.2)) (fun _ h=>h.1));replace HK:=A_ (KeepBut.trans (zz72 HK GW500) hk (.inl rfl));replace HB:=A_ (hb);replace HI0:=A_ (hi);(try clear hb)
     (try clear hb2)
     (try clear hk)
     (try clear hi)
     refine hK.out _ _ ⟨(blk_cell BK500.out 0).trans rfl,(blk_cell BK500.out 1).trans rfl,(blk_cell BK500.out 2).trans rfl,(blk_cell BK500.out 3).trans rfl⟩ (fun hHeld=>?_);clear hK K;refine nZ 21 ?_;refine oneZ 5 (some 22) (yA 6 3) (fun K hK=>?_);refine value_ (w1:=?_) (v:=?_) (by rfl) rfl ?_ ?_;rotate_left 2
     ·go_simp
      constructor
      ·rfl
      ·rfl
     refine hK.out _ _ ⟨(blk_cell (blk_alloc BK500.out _) 0).trans rfl,(blk_cell (blk_alloc BK500.out _) 1).trans rfl,(blk_cell (blk_alloc BK500.out _) 2).trans rfl,(blk_cell (blk_alloc BK500.out _) 3).trans rfl⟩ (fun hHeld=>?_);clear hK K;refine nZ 22 ?_;refine oneZ 6 (some 23) (yA 7 2) (fun K hK=>?_);refine Kd.R_append_step Kd.string w.heap.size (by rfl) (.tmp 18) (.tmp 22) 22 9 (.string ⟨#[]⟩) 16 rfl Tryz.underlying22 info9 rfl (by decide) (by omega) u501001 x501001_1 t506 [.string t506] (fun k_=>some k_≠(.slice Ao20 y503.length co20:Value).ownBlock) (fun _=>False) rfl rfl ?aP (fun _ hk=>hk.elim) ?aF ?aO (Below.refl _ _) ?aS ?aL ?_;(case aP=>exact rfl)
     (case aF=>exact(fun k_ hk=>Kd.fresh' (Kd.R_lt (zz23 HO505)) k_ hk))
     (case aO=>exact(zz74 HO_501001))
     (case aS=>exact(keep_size (w:=w) (g:=g) (row:=none) (zz72 HK GW500)))
     (case aL=>exact(zz15 LMc16))
     intro v509 w22 ho hb hg hat;rw[←Ny508.out]at ho;replace BK500:=A_ (blk_grown (zz3 BK500) hg (Kd.R_ne HO_501001.out BK500.out (by decide)));replace HO505:=A_ (Kd.R_after (ok:=(fun _=>True)) (zz23 HO505) hg hat);replace HB:=A_ (below_weaken (zz69 HB HI0 GE500) HL.out hb);replace HI0:=A_ (IsS87.grown (zz68 HI0 NB0_500) hg (IsS87.own_ne HI0.out HO_501001.out (by decide)));replace HK:=A_ (KeepBut.trans (zz72 HK GW500) (KeepBut.of_grown hg g) (Kd.R_base2 HO_501001.out));have HO510:=A_ (ho);clear HO_501001;clear ho hb hg hat;obtain⟨Ao23,co23,eo23⟩:=Kd.R_slice HO510.out;(first|subst eo23|(injection eo23 with f1_ f2_ f3_;have f4_:=f1_.symm;have f5_:=f3_.symm;clear f1_ f2_ f3_;subst f4_;subst f5_));refine hK.out _ _ ⟨(blk_cell BK500.out 0).trans rfl,(blk_cell BK500.out 1).trans rfl,(blk_cell BK500.out 2).trans rfl,(blk_cell BK500.out 3).trans rfl⟩ (fun hHeld=>?_);clear hK K;refine nZ 23 ?_;refine pureZ 7 (some 24) (yA 8 1) ?_;refine last_ (i:=8) (N:=none) (yA 9 0) rfl rfl (one_of HT_.out (by kernel_rfl)) (by decide) (fun K hK=>?_);have hs24:w22.cell? ⟨gb500,1,none⟩=some (u501001):=(blk_cell BK500.out 1).trans rfl;have hfs24:=blk_frozen BK500.out 1;refine skip_ (w1:=?_) (by rfl) rfl ?_ ?_;rotate_left
     ·go_simp
      rfl
     refine hK.out _ _ ?_;clear hK K;refine done_ (done_of HT_.out (by kernel_rfl)) ?_;try go_wp2
     go_roundg k1
     case measure=>have:=HK1.out;omega
     case rel=>exact⟨(wrap64 (x4_1-1)),(t507),(y508),(.slice Ao23 y508.length co23),zz5,H',⟨(zz15 HK1)⟩,⟨(zz75 (rt HO510 BK500))⟩,⟨(by first|((repeat(first|(with_reducible first|exact BK500.out|refine blk_drewN ?_ _|refine blk_drew ?_|refine blk_alloc ?_ _|apply blk_put)|exact BK500.out));all_goals rfl;done)|(apply blk_put (i:=1);exact BK500.out;all_goals rfl))⟩,⟨(zz68 HI0 NB0_500)⟩,⟨(zz72 HK GW500)⟩,⟨(zz69 HB HI0 GE500)⟩⟩
    ·replace H:=bindA H
     obtain⟨⟨t511,t512⟩,A25,H⟩:=H;try dsimp only at H;have HF26:=A_ H;clear H;go_upto_if 27 with(first|(refine gR 34 (some 26) Tryz.func34 (spec_l6Rd_pick.calls k1 g s0_0 x1001_1 8 t511 t512 w0 _ ?side1 ?side2 A25.out) ?_;(case side1=>exact(zz68 HI0 NB0_500));(case side2=>exact(zz69 HB HI0 GE500));rintro w27 ⟨hi,hb,hk⟩;replace HO_501001:=A_ (Kd.R_mono (Kd.R_keep (IsS87.apart (show IsS87 w0 _ g s0_0 x1001_1 from(zz68 HI0 NB0_500)) (zz23 HO_501001) (by decide)) hk (fun _ h=>h.2)) (fun _ h=>h.1));replace BK500:=A_ (KeepBut.blk hk (g':=gb500) (o:=.cells #[.string (rdOf bE_ t494 t497),u501001,.bool false,.string (⟨#[]⟩:BA)] 70 (0,0)) (zz3 BK500) NB500_0.out (by simp));replace HK:=A_ (KeepBut.trans (zz72 HK GW500) hk (.inl rfl));replace HB:=A_ (hb);replace HI0:=A_ (hi);(try clear hb hk hi)))
     obtain⟨H⟩:=HF26;replace H:=iteEq H;rcases H with⟨c28b0,c28b1,H⟩|⟨c28b0,c28b1,c28,H⟩
     ·(first|rw[c28b0]|(simp only[i64_w,i32_w];rw[c28b0])|skip)
      obtain⟨y513,Ny513⟩:=toY (([(⟨#[]⟩:BA),(⟨#[97]⟩:BA),(⟨#[98,37,51,68]⟩:BA)]:List BA));(first|with_reducible replace H:=bindZ Ny513 H|rw[←Ny513.out]at H|skip);replace H:=bindA H;obtain⟨⟨t516,t517⟩,A29,H⟩:=H;try dsimp only at H;replace H:=bindA H;obtain⟨t518,A30,H⟩:=H;simp only[oI_,pI_]at H;obtain⟨rfl,rfl⟩:=H;have hnb31:=NB500_0.out;have hnc31:=NB0_500.out;obtain⟨_,_,_,_,_,_,_,_⟩:=cf4 BK500;go_wp2_with (first|((with_reducible refine gD (N:=30) rfl ?_);refine Kd.R_lit Kd.string _ 9 ?hg (N:=30) ?hd (xs:=([(⟨#[]⟩:BA),(⟨#[97]⟩:BA),(⟨#[98,37,51,68]⟩:BA)]:List BA)) (inner:=[.string (⟨#[]⟩:BA),.string (⟨#[97]⟩:BA),.string (⟨#[98,37,51,68]⟩:BA)]) (ok:=fun _=>True) (okp:=fun _=>True) ?hr ?hp (fun _ hk=>hk) trivial (Below.refl _ _) (lL_ _) (by simp) ?_;(case hd=>rfl);(case hg=>rfl);(case hr=>exact zz21);(case hp=>exact(Reps.one (show Kd.M Kd.string _ _ _ (⟨#[]⟩:BA) [.string (⟨#[]⟩:BA)]from rfl) (Reps.one (show Kd.M Kd.string _ _ _ (⟨#[97]⟩:BA) [.string (⟨#[97]⟩:BA)]from rfl) (Reps.one (show Kd.M Kd.string _ _ _ (⟨#[98,37,51,68]⟩:BA) [.string (⟨#[98,37,51,68]⟩:BA)]from rfl) (Reps.none _ _)))));intro v514 w33 ho34 hb hg_ hnew_;clear hg_ hnew_;(first|rw[←Ny513.out]at ho34|(simp only[Int.reduceToNat]at ho34;rw[←Ny513.out]at ho34));have HO515:=A_ (Kd.R_lower (Kd.R_new' ho34 (Kd.R_lt (zz77 HO_501001 BK500))) (keep_size (w:=w) (g:=g) (row:=none) (zz72 HK GW500)));replace HO_501001:=A_ (Kd.R_elder' (zz77 HO_501001 BK500) (Kd.R_base ho34) hb);replace BK500:=A_ (bB (g:=gb500) (o:=.cells #[.string (rdOf bE_ t494 t497),u501001,.bool true,.string (⟨#[]⟩:BA)] 70 (0,0)) (by first|((repeat(first|(with_reducible first|exact BK500.out|refine blk_drewN ?_ _|refine blk_drew ?_|refine blk_alloc ?_ _|apply blk_put)|exact BK500.out));all_goals rfl;done)|(apply blk_put (i:=2);exact BK500.out;all_goals rfl)) hb);replace HK:=A_ (KeepBut.trans (zz72 HK GW500) (KeepBut.of_below hb g none) (.inl rfl));replace HB:=A_ (bS (zz69 HB HI0 GE500) hb);replace HI0:=A_ (IsS87.below (show IsS87 w0 (w27.setCell ⟨gb500,2,none⟩ (.bool true)) g s0_0 t512 from(zz68 HI0 NB0_500)) hb);clear hb ho34;obtain⟨Ao35,co35,eo35⟩:=Kd.R_slice HO515.out;subst eo35)|(refine gR 64 (some 31) Tryz.func64 (spec_l6Rd_of.calls k1 g s0_0 t512 _ _ y513 t516 t517 w0 _ ?side1 ?side2 ?side3 ?side4 ?side5 A29.out) ?_;(case side1=>exact(zz68 HI0 NB0_500));(case side2=>exact(zz69 HB HI0 GE500));(case side3=>exact(zz22 HO515));(case side4=>exact(Kd.R_reads' HO515.out).2.1);(case side5=>exact far_slice (IsS87.own_ne HI0.out HO515.out (by decide)));rintro w36 ⟨hi,hb,hk⟩;replace HO_501001:=A_ (Kd.R_mono (Kd.R_keep (IsS87.apart (show IsS87 w0 _ g s0_0 t512 from(zz68 HI0 NB0_500)) (zz23 HO_501001) (by decide)) hk (fun _ h=>h.2)) (fun _ h=>h.1));replace BK500:=A_ (KeepBut.blk hk (g':=gb500) (o:=.cells #[.string (rdOf bE_ t494 t497),u501001,.bool true,.string (⟨#[]⟩:BA)] 70 (0,0)) (zz3 BK500) NB500_0.out (by simp));replace HO515:=A_ (Kd.R_mono (Kd.R_keep (IsS87.apart (show IsS87 w0 _ g s0_0 t512 from(zz68 HI0 NB0_500)) (zz23 HO515) (by decide)) hk (fun _ h=>h.2)) (fun _ h=>h.1));replace HK:=A_ (KeepBut.trans (zz72 HK GW500) hk (.inl rfl));replace HB:=A_ (hb);replace HI0:=A_ (hi);(try clear hb hk hi);obtain⟨_,_,_,_,_,_,_,_⟩:=cf4 BK500;obtain⟨Ao38,co38,eo38⟩:=Kd.R_slice HO_501001.out;subst eo38)|((with_reducible refine gC (f:=49) rfl ?_);refine gsL (some 34) Tryz.func49 #[.agg #[.string (rdOf bE_ t494 t497),.slice Ao38 x501001_1.length co38,.bool true,.string t516]] ?_;(with_reducible refine(spec_AddrText.calls k1 (rdOf bE_ t494 t497) _ _ x501001_1 true t516 t518 _ ?side1 ?side2 A30.out).mono ?_);(case side1=>exact(by refine(Kd.R_reads' (e:=9) (base:=w.heap.size) (ok:=fun k_=>(True∧some k_≠(.slice Ao35 y513.length co35:Value).ownBlock)) (n:=x501001_1.length) (c:=co38) ?_).2.2;exact(zz79 HO_501001 BK500)));(case side2=>exact(Kd.R_reads' HO_501001.out).2.1);rintro e w39 ⟨rfl,hb⟩;refine⟨_,rfl,?_⟩;replace HO_501001:=A_ (rB (zz79 HO_501001 BK500) hb);replace HO515:=A_ (rB (zz79 HO515 BK500) hb);replace BK500:=A_ (bB (g:=gb500) (o:=.cells #[.string (rdOf bE_ t494 t497),.slice Ao38 x501001_1.length co38,.bool true,.string t516] 70 (0,0)) (by first|((repeat(first|(with_reducible first|exact BK500.out|refine blk_drewN ?_ _|refine blk_drew ?_|refine blk_alloc ?_ _|apply blk_put)|exact BK500.out));all_goals rfl;done)|(apply blk_put (i:=3);exact BK500.out;all_goals rfl)) hb);replace HK:=A_ (KeepBut.trans (zz72 HK GW500) (KeepBut.of_below hb g none) (.inl rfl));replace HB:=A_ (bS (zz69 HB HI0 GE500) hb);replace HI0:=A_ (IsS87.below (show IsS87 w0 (w36.setCell ⟨gb500,3,none⟩ (.string t516)) g s0_0 t517 from(zz68 HI0 NB0_500)) hb);(try clear hb)));go_ret;exact⟨zz11,(zz68 HI0 NB0_500),(zz69 HB HI0 GE500),(zz72 HK GW500)⟩
     ·(first|rw[c28b0]|(simp only[i64_w,i32_w];rw[c28b0])|skip)
      replace H:=bindA H;obtain⟨t519,A40,H⟩:=H;simp only[oI_,pI_]at H;obtain⟨rfl,rfl⟩:=H;have hnb41:=NB500_0.out;have hnc41:=NB0_500.out;obtain⟨_,_,_,_,_,_,_,_⟩:=cf4 BK500;obtain⟨Ao43,co43,eo43⟩:=Kd.R_slice HO_501001.out;subst eo43;go_wp2_with (first|(refine gR 49 (some 34) Tryz.func49 (spec_AddrText.calls k1 (rdOf bE_ t494 t497) _ _ x501001_1 false (⟨#[]⟩:BA) t519 _ ?side1 ?side2 A40.out) ?_;(case side1=>exact(zz22 HO_501001));(case side2=>exact(Kd.R_reads' HO_501001.out).2.1);rintro w44 hb;replace HO_501001:=A_ (rB (zz23 HO_501001) hb);replace BK500:=A_ (bB (zz3 BK500) hb);replace HK:=A_ (KeepBut.trans (zz72 HK GW500) (KeepBut.of_below hb g none) (.inl rfl));replace HB:=A_ (bS (zz69 HB HI0 GE500) hb);replace HI0:=A_ (IsS87.below (zz68 HI0 NB0_500) hb);(try clear hb)));go_ret;exact⟨zz11,(zz68 HI0 NB0_500),(zz69 HB HI0 GE500),(zz72 HK GW500)⟩
 ·exact absurd H (by simp)
def spec_l71Where.j0:Nat→List (S101)→Bool→List Int→Int→Option (BA×Int)
 |0,_,_,_,_=>none
 |k+1,x1,x12,x1000,x1001=>if x12=true then((spec_l6Rd_pick.f k x1000 x1001 (x1.length:Int)).bind fun bt522=>(if 0≤bt522.1 then(if bt522.1<(x1.length:Int)then(some ((rd_T101 x1 bt522.1).f0,bt522.2))else(none))else(none)))else((spec_l71Addr.f k x1000 x1001).bind fun bt525=>(some (bt525.1,bt525.2)))
def spec_l71Where.f (k:Nat)(s0_0:List Int)(s0_1:Int)(l1:List (S101)):Option (BA×Int):=if(l1.length:Int)>0 then((spec_l6Rd_pick.f k s0_0 s0_1 3).bind fun bt520=>(spec_l71Where.j0 k l1 (decide (bt520.1>0)) s0_0 bt520.2))else(spec_l71Where.j0 k l1 false s0_0 s0_1)
theorem spec_l71Where.calls (k:Nat)(g:Nat)(s0_0:List Int)(s0_1:Int)(A1:Option Addr)(c1:Nat)(l1:List (S101))(r1:BA)(r2:Int)(w0 w:World)(hI:IsS87 w0 w g s0_0 s0_1)(hB:Below w0.heap.size w0 w)(hr1:∀W_,KeepBut w W_ g none→Kd.C k101 W_ A1 l1.length l1)(hc1:l1.length≤c1)(h:spec_l71Where.f k s0_0 s0_1 l1=some (r1,r2)):
  Calls Tryz.prog 63 #[.pointer (some ⟨g,0,none⟩),.slice A1 l1.length c1] w fun e w'=>e=.returned (.string r1)∧IsS87 w0 w' g s0_0 r2∧Below w0.heap.size w0 w'∧KeepBut w w' g none:=by
 have HR1:=A_ hr1;have HC1:=A_ hc1;clear hr1 hc1;have HI0:=A_ hI;have HK:=A_ (KeepBut.refl w g none);have HL:=A_ hB.size;clear hI;have HW0:=A_ hB.size;have HB:=A_ hB;clear hB;unfold spec_l71Where.f at h;have H:=h;clear h;have HC3:=A_ H;clear H;go_enter Tryz.func63,Tryz.ntmps63;go_upto_region 1 with(fail)
 go_cut [12] (fun v12 wc=>∃(kq:Nat)(x12_2:Bool)(x1001_2:Int),v12=.bool x12_2∧Aside0 (spec_l71Where.j0 kq l1 x12_2 s0_0 x1001_2=some (r1,r2))∧Aside0 (kq≤k)∧Aside0 (IsS87 w0 wc g s0_0 x1001_2)∧Aside0 (KeepBut w wc g none)∧Aside0 (Below w0.heap.size w0 wc))
 case first=>
  obtain⟨H⟩:=HC3;replace H:=iteE H;rcases H with⟨c4,H⟩|⟨c4,H⟩
  ·have c4b0:=gtT c4
   have c4b1:decide (0<l1.length)=true:=dT (by omega);clear c4;(first|rw[c4b0]|(simp only[i64_w,i32_w];rw[c4b0])|skip);replace H:=bindA H;obtain⟨⟨t520,t521⟩,A5,H⟩:=H;try dsimp only at H;have H':=A_ H;clear H;go_wp2_with (first|(go_at_call 34;(with_reducible refine(spec_l6Rd_pick.calls k g s0_0 s0_1 3 t520 t521 w0 _ ?side1 ?side2 A5.out).mono ?_);(case side1=>exact(zz7 HI0));(case side2=>exact(zz9 HB HI0));rintro e w6 ⟨rfl,hi,hb,hk⟩;replace HK:=A_ (KeepBut.trans (zz8 HK) hk (.inl rfl));replace HB:=A_ (hb);replace HI0:=A_ (hi);(try clear hb hk hi)))
   go_meet
   case rel=>exact⟨_,(decide (t520>0)),(t521),zz5,H',⟨zz6⟩,⟨(zz7 HI0)⟩,⟨(zz8 HK)⟩,⟨(zz9 HB HI0)⟩⟩
  ·have c4b0:=gtF c4
   have c4b1:decide (0<l1.length)=false:=dF (by omega);clear c4;(first|rw[c4b0]|(simp only[i64_w,i32_w];rw[c4b0])|skip);have H':=A_ H;clear H;go_wp2
   go_meet
   case rel=>exact⟨_,(false),(s0_1),zz5,H',⟨zz6⟩,⟨(zz7 HI0)⟩,⟨(zz8 HK)⟩,⟨(zz9 HB HI0)⟩⟩
 case rest=>
  clear HC3;obtain⟨kq,x12_2,x1001_2,rfl,HA,HJ2,HI0,HK,HB⟩:=hcut;cases kq with
  |zero=>exact absurd HA.out (by simp[spec_l71Where.j0])
  |succ kj2=>
   obtain⟨H⟩:=HA;simp only[spec_l71Where.j0]at H;replace H:=iteB H;rcases H with⟨rfl,H⟩|⟨rfl,H⟩
   ·replace H:=bindA H
    obtain⟨⟨t522,t523⟩,A8,H⟩:=H;try dsimp only at H;replace H:=iteNd H;obtain⟨c9b0,H⟩:=H;replace H:=iteNd H;obtain⟨c10b0,H⟩:=H;simp only[oI_,pI_]at H;obtain⟨rfl,rfl⟩:=H;go_wp2_with (first|(refine gR 34 (some 17) Tryz.func34 (spec_l6Rd_pick.calls kj2 g s0_0 x1001_2 (l1.length:Int) t522 t523 w0 _ ?side1 ?side2 A8.out) ?_;(case side1=>exact(zz7 HI0));(case side2=>exact(zz9 HB HI0));rintro w11 ⟨hi,hb,hk⟩;replace HK:=A_ (KeepBut.trans (zz8 HK) hk (.inl rfl));replace HB:=A_ (hb);replace HI0:=A_ (hi);(try clear hb hk hi);have p524:0≤(t522:Int):=ofD;have q524:t522<(l1.length:Int):=ofD;obtain⟨ad524,e524,hx524_0,hx524_1,hx524_2,hx524_3⟩:=at_T101 (Kd.C_foot_now HR1.out HK.out) t522 p524 q524;cases e524;replace p524:=eq_true p524;replace q524:=eq_true q524));go_ret;exact⟨zz11,(zz7 HI0),(zz9 HB HI0),(zz8 HK)⟩
   ·replace H:=bindA H
    obtain⟨⟨t525,t526⟩,A12,H⟩:=H;try dsimp only at H;simp only[oI_,pI_]at H;obtain⟨rfl,rfl⟩:=H;go_wp2_with (first|(refine gR 81 (some 22) Tryz.func81 (spec_l71Addr.calls kj2 g s0_0 x1001_2 t525 t526 w0 _ ?side1 ?side2 A12.out) ?_;(case side1=>exact(zz7 HI0));(case side2=>exact(zz9 HB HI0));rintro w13 ⟨hi,hb,hk⟩;replace HK:=A_ (KeepBut.trans (zz8 HK) hk (.inl rfl));replace HB:=A_ (hb);replace HI0:=A_ (hi);(try clear hb hk hi)));go_ret;exact⟨zz11,(zz7 HI0),(zz9 HB HI0),(zz8 HK)⟩
def spec_l71Seeds.l0:Nat→List (S101)→List BA→Int→List Int→Int→Option (List BA×Int)
 |0,_,_,_,_,_=>none
 |k+1,x1,x5,x6,x1000,x1001=>if x6>0 then((spec_l71Where.f k x1000 x1001 x1).bind fun bt532=>(if x5.length<8796093022208 then(spec_l71Seeds.l0 k x1 (x5++[bt532.1]) (wrap64 (x6-1)) x1000 bt532.2)else(none)))else((spec_l6Rd_pick.f k x1000 x1001 12).bind fun bt537=>(if bt537.1=0 then(if x5.length<8796093022208 then(some ((x5++[(⟨#[120]⟩:BA)]),bt537.2))else(none))else(some (x5,bt537.2))))
def spec_l71Seeds.f (k:Nat)(s0_0:List Int)(s0_1:Int)(l1:List (S101)):Option (List BA×Int):=(spec_l6Rd_pick.f k s0_0 s0_1 3).bind fun bt530=>(spec_l71Seeds.l0 k l1 (([]:List BA)) (wrap64 (1+bt530.1)) s0_0 bt530.2)
theorem spec_l71Seeds.calls (k:Nat)(g:Nat)(s0_0:List Int)(s0_1:Int)(A1:Option Addr)(c1:Nat)(l1:List (S101))(r1:List BA)(r2:Int)(w0 w:World)(hI:IsS87 w0 w g s0_0 s0_1)(hB:Below w0.heap.size w0 w)(hr1:∀W_,KeepBut w W_ g none→Kd.C k101 W_ A1 l1.length l1)(hc1:l1.length≤c1)(h:spec_l71Seeds.f k s0_0 s0_1 l1=some (r1,r2)):
  Calls Tryz.prog 33 #[.pointer (some ⟨g,0,none⟩),.slice A1 l1.length c1] w fun e w'=>∃v0_:Value,e=.returned (v0_)∧Kd.R Kd.string 9 w' w.heap.size (fun _=>True) v0_ r1∧IsS87 w0 w' g s0_0 r2∧Below w0.heap.size w0 w'∧KeepBut w w' g none:=by
 have HR1:=A_ hr1;have HC1:=A_ hc1;clear hr1 hc1;have HI0:=A_ hI;have HK:=A_ (KeepBut.refl w g none);have HL:=A_ hB.size;clear hI;have HW0:=A_ hB.size;have HB:=A_ hB;clear hB;unfold spec_l71Seeds.f at h;have H:=h;clear h;obtain⟨y527,Ny527⟩:=toY (([]:List BA));(first|with_reducible replace H:=bindZ Ny527 H|rw[←Ny527.out]at H|skip);replace H:=bindA H;obtain⟨⟨t530,t531⟩,A3,H⟩:=H;try dsimp only at H;have H':=A_ H;clear H;go_enter Tryz.func33,Tryz.ntmps33;go_wp2_with (first|((with_reducible refine gD (N:=7) rfl ?_);refine Kd.R_lit Kd.string _ 9 ?hg (N:=7) ?hd (xs:=([]:List BA)) (inner:=[]) (ok:=fun _=>True) (okp:=fun _=>True) ?hr ?hp (fun _ hk=>hk) trivial (Below.refl _ _) (lL_ _) (by simp) ?_;(case hd=>rfl);(case hg=>rfl);(case hr=>exact zz21);(case hp=>exact(Reps.none _ _));intro v528 w4 ho5 hb hg_ hnew_;clear hg_ hnew_;(first|rw[←Ny527.out]at ho5|(simp only[Int.reduceToNat]at ho5;rw[←Ny527.out]at ho5));have HO529:=A_ (Kd.R_lower ho5 (keep_size (w:=w) (g:=g) (row:=none) (zz8 HK)));replace HK:=A_ (KeepBut.trans (zz8 HK) (KeepBut.of_below hb g none) (.inl rfl));replace HB:=A_ (bS (zz9 HB HI0) hb);replace HI0:=A_ (IsS87.below (zz7 HI0) hb);clear hb ho5)|(refine gR 34 (some 9) Tryz.func34 (spec_l6Rd_pick.calls k g s0_0 s0_1 3 t530 t531 w0 _ ?side1 ?side2 A3.out) ?_;(case side1=>exact(zz7 HI0));(case side2=>exact(zz9 HB HI0));rintro w6 ⟨hi,hb,hk⟩;replace HO529:=A_ (Kd.R_mono (Kd.R_keep (IsS87.apart (show IsS87 w0 _ g s0_0 s0_1 from(zz7 HI0)) (zz23 HO529) (by decide)) hk (fun _ h=>h.2)) (fun _ h=>h.1));replace HK:=A_ (KeepBut.trans (zz8 HK) hk (.inl rfl));replace HB:=A_ (hb);replace HI0:=A_ (hi);(try clear hb hk hi)))
 go_loopg [5,6] k (fun kq v5 v6 w'=>∃(x5_1:List BA)(x6_1:Int)(x1001_1:Int),v6=.int .i64 x6_1∧Aside0 (spec_l71Seeds.l0 kq l1 x5_1 x6_1 s0_0 x1001_1=some (r1,r2))∧Aside0 (kq≤k)∧Aside0 (Kd.R Kd.string 9 w' w.heap.size (fun _=>True) v5 x5_1)∧Aside0 (IsS87 w0 w' g s0_0 x1001_1)∧Aside0 (KeepBut w w' g none)∧Aside0 (Below w0.heap.size w0 w'))
 case atStart=>exact⟨(y527),(wrap64 (1+t530)),(t531),zz5,H',⟨lL_ _⟩,⟨(zz23 HO529)⟩,⟨(zz7 HI0)⟩,⟨(zz8 HK)⟩,⟨(zz9 HB HI0)⟩⟩
 case round=>
  clear H';obtain⟨x5_1,x6_1,x1001_1,rfl,HA,HK1,HO_5,HI0,HK,HB⟩:=hrel;cases gk with
  |zero=>exact absurd HA.out (by simp[spec_l71Seeds.l0])
  |succ k1=>
   obtain⟨H⟩:=HA;simp only[spec_l71Seeds.l0]at H;replace H:=iteEg H;rcases H with⟨c7b0,H⟩|⟨c7b0,H⟩
   ·replace H:=bindA H
    obtain⟨⟨t532,t533⟩,A8,H⟩:=H;try dsimp only at H;replace H:=iteN H;obtain⟨c9,H⟩:=H;have LMc9:=A_ c9;clear c9;obtain⟨y534,Ny534⟩:=toY (x5_1++[t532]);(first|with_reducible replace H:=bindZ Ny534 H|rw[←Ny534.out]at H|skip);have H':=A_ H;clear H;go_wp2_with (first|(refine gR 63 (some 18) Tryz.func63 (spec_l71Where.calls k1 g s0_0 x1001_1 _ _ l1 t532 t533 w0 _ ?side1 ?side2 ?side3 ?side4 A8.out) ?_;(case side1=>exact(zz7 HI0));(case side2=>exact(zz9 HB HI0));(case side3=>exact Kd.C_foot_step HR1.out (zz8 HK));(case side4=>exact HC1.out);rintro w10 ⟨hi,hb,hk⟩;replace HO_5:=A_ (Kd.R_mono (Kd.R_keep (IsS87.apart (show IsS87 w0 _ g s0_0 x1001_1 from(zz7 HI0)) (zz23 HO_5) (by decide)) hk (fun _ h=>h.2)) (fun _ h=>h.1));replace HK:=A_ (KeepBut.trans (zz8 HK) hk (.inl rfl));replace HB:=A_ (hb);replace HI0:=A_ (hi);(try clear hb hk hi))|((with_reducible refine gate_builtin (b:=.append) (xs:=#[.tmp 15,.tmp 19]) rfl ?_);at_builtin;refine Kd.R_append Kd.string w.heap.size rfl (.tmp 15) (.tmp 19) 22 9 (.string ⟨#[]⟩) 16 rfl Tryz.underlying22 info9 rfl (by decide) (by omega) u5 x5_1 t532 [.string t532] (fun _=>True) (fun _=>False) rfl rfl ?aP (fun _ hk=>hk.elim) ?aF ?aO (Below.refl _ _) ?aS ?aL ?_;(case aP=>exact rfl);(case aF=>exact(fun _ _=>trivial));(case aO=>exact(zz23 HO_5));(case aS=>exact(keep_size (w:=w) (g:=g) (row:=none) (zz8 HK)));(case aL=>exact(zz15 LMc9));intro v535 w11 ho hb hg hat;rw[←Ny534.out]at ho;replace HB:=A_ (below_weaken (zz9 HB HI0) HL.out hb);replace HI0:=A_ (IsS87.grown (zz7 HI0) hg (IsS87.own_ne HI0.out HO_5.out (by decide)));replace HK:=A_ (KeepBut.trans (zz8 HK) (KeepBut.of_grown hg g) (Kd.R_base2 HO_5.out));have HO536:=A_ (ho);clear HO_5;clear ho hb hg hat))
    go_roundg k1
    case measure=>have:=HK1.out;omega
    case rel=>exact⟨(y534),(wrap64 (x6_1-1)),(t533),zz5,H',⟨(zz15 HK1)⟩,⟨(zz23 HO536)⟩,⟨(zz7 HI0)⟩,⟨(zz8 HK)⟩,⟨(zz9 HB HI0)⟩⟩
   ·replace H:=bindA H
    obtain⟨⟨t537,t538⟩,A12,H⟩:=H;try dsimp only at H;have HF13:=A_ H;clear H;go_upto_if 23 with(first|(refine gR 34 (some 22) Tryz.func34 (spec_l6Rd_pick.calls k1 g s0_0 x1001_1 12 t537 t538 w0 _ ?side1 ?side2 A12.out) ?_;(case side1=>exact(zz7 HI0));(case side2=>exact(zz9 HB HI0));rintro w14 ⟨hi,hb,hk⟩;replace HO_5:=A_ (Kd.R_mono (Kd.R_keep (IsS87.apart (show IsS87 w0 _ g s0_0 x1001_1 from(zz7 HI0)) (zz23 HO_5) (by decide)) hk (fun _ h=>h.2)) (fun _ h=>h.1));replace HK:=A_ (KeepBut.trans (zz8 HK) hk (.inl rfl));replace HB:=A_ (hb);replace HI0:=A_ (hi);(try clear hb hk hi)))
    obtain⟨H⟩:=HF13;replace H:=iteEq H;rcases H with⟨c15b0,c15b1,H⟩|⟨c15b0,c15b1,c15,H⟩
    ·(first|rw[c15b0]|(simp only[i64_w,i32_w];rw[c15b0])|skip)
     replace H:=iteN H;obtain⟨c16,H⟩:=H;have LMc16:=A_ c16;clear c16;obtain⟨y539,Ny539⟩:=toY (x5_1++[(⟨#[120]⟩:BA)]);(first|with_reducible replace H:=bindZ Ny539 H|rw[←Ny539.out]at H|skip);simp only[oI_,pI_]at H;obtain⟨rfl,rfl⟩:=H;go_wp2_with (first|((with_reducible refine gate_builtin (b:=.append) (xs:=#[.tmp 24,.tmp 25]) rfl ?_);at_builtin;refine Kd.R_append Kd.string w.heap.size rfl (.tmp 24) (.tmp 25) 22 9 (.string ⟨#[]⟩) 16 rfl Tryz.underlying22 info9 rfl (by decide) (by omega) u5 x5_1 (⟨#[120]⟩:BA) [.string (⟨#[120]⟩:BA)] (fun _=>True) (fun _=>False) rfl rfl ?aP (fun _ hk=>hk.elim) ?aF ?aO (Below.refl _ _) ?aS ?aL ?_;(case aP=>exact rfl);(case aF=>exact(fun _ _=>trivial));(case aO=>exact(zz23 HO_5));(case aS=>exact(keep_size (w:=w) (g:=g) (row:=none) (zz8 HK)));(case aL=>exact(zz15 LMc16));intro v540 w17 ho hb hg hat;rw[←Ny539.out]at ho;replace HB:=A_ (below_weaken (zz9 HB HI0) HL.out hb);replace HI0:=A_ (IsS87.grown (zz7 HI0) hg (IsS87.own_ne HI0.out HO_5.out (by decide)));replace HK:=A_ (KeepBut.trans (zz8 HK) (KeepBut.of_grown hg g) (Kd.R_base2 HO_5.out));have HO541:=A_ (ho);clear HO_5;clear ho hb hg hat));go_ret;exact⟨_,zz11,(zz23 HO541),(zz7 HI0),(zz9 HB HI0),(zz8 HK)⟩
    ·(first|rw[c15b0]|(simp only[i64_w,i32_w];rw[c15b0])|skip)
     simp only[oI_,pI_]at H;obtain⟨rfl,rfl⟩:=H;go_wp2;go_ret;exact⟨_,zz11,(zz23 HO_5),(zz7 HI0),(zz9 HB HI0),(zz8 HK)⟩
def spec_DrawTripNew.f (k:Nat)(l0:List Int):Option (BA×List BA):=(spec_l6Open.f l0).bind fun bt547=>((spec_l71Seeds.f k bt547.1 bt547.2 (([]:List (S101)))).bind fun bt553=>((spec_l6Rd_pick.f k bt547.1 bt553.2 16).bind fun bt557=>(if bt557.1=0 then(some ((⟨#[82,111,118,101,114]⟩:BA),bt553.1))else(if bt557.1=1 then(if 13≤17592186044416 then(some ((⟨#[114,111,118,101,114]⟩:BA),(List.replicate 13 (⟨#[]⟩:BA))))else(none))else((spec_l71Name.f k bt547.1 bt557.2).bind fun bt562=>(some (bt562.1,bt553.1)))))))
theorem spec_DrawTripNew.calls (k:Nat)(A0:Option Addr)(c0:Nat)(l0:List Int)(r1:BA)(r2:List BA)(w:World)(hr0:Kd.C (Kd.int .u8) w A0 l0.length l0)(hc0:l0.length≤c0)(h:spec_DrawTripNew.f k l0=some (r1,r2)):
  Calls Tryz.prog 14 #[.slice A0 l0.length c0] w fun e w'=>∃v1_:Value,e=.returned (.tuple #[.string r1,v1_])∧Kd.R Kd.string 9 w' w.heap.size (fun _=>True) v1_ r2∧Below w.heap.size w w':=by
 have HR0:=A_ hr0;have HC0:=A_ hc0;clear hr0 hc0;have HB:=A_ (Below.refl w.heap.size w);unfold spec_DrawTripNew.f at h;have H:=h;clear h;replace H:=bindA H;obtain⟨⟨t547,t548⟩,A2,H⟩:=H;try dsimp only at H;obtain⟨y550,Ny550⟩:=toY (([]:List (S101)));(first|with_reducible replace H:=bindZ Ny550 H|rw[←Ny550.out]at H|skip);replace H:=bindA H;obtain⟨⟨t553,t556⟩,A3,H⟩:=H;try dsimp only at H;replace H:=bindA H;obtain⟨⟨t557,t558⟩,A4,H⟩:=H;try dsimp only at H;have HF5:=A_ H;clear H;go_enter Tryz.func14,Tryz.ntmps14;go_upto_if 13 with(first|(refine gV 32 (some 7) Tryz.func32 (spec_l6Open.calls _ _ l0 t547 t548 w _ ?side1 ?side2 ?side3 A2.out) ?_;(case side1=>exact(zz2 HB));(case side2=>exact HR0.out);(case side3=>exact HC0.out);rintro g549 w6 ⟨hi,hb,hb2⟩;replace HB:=A_ (hb);have HI549:=A_ (hi);(try clear hb hb2 hi))|((with_reducible refine gD (N:=9) rfl ?_);refine Kd.R_lit k101 _ 101 ?hg (N:=9) ?hd (xs:=([]:List (S101))) (inner:=[]) (ok:=fun _=>True) (okp:=fun _=>True) ?hr ?hp (fun _ hk=>hk) trivial (Below.refl _ _) (lL_ _) (by simp) ?_;(case hd=>rfl);(case hg=>rfl);(case hr=>exact zz21);(case hp=>exact(Reps.none _ _));intro v551 w7 ho8 hb hg_ hnew_;clear hg_ hnew_;(first|rw[←Ny550.out]at ho8|(simp only[Int.reduceToNat]at ho8;rw[←Ny550.out]at ho8));have HO552:=A_ (Kd.R_lower ho8 (below_size (zz9 HB HI549)));replace HB:=A_ (bS (zz9 HB HI549) hb);replace HI549:=A_ (IsS87.below (zz7 HI549) hb);clear hb ho8;obtain⟨Ao9,co9,eo9⟩:=Kd.R_slice HO552.out;subst eo9)|((with_reducible refine gC (f:=33) rfl ?_);refine gsL (some 10) Tryz.func33 #[.pointer (some ⟨g549,0,none⟩),.slice Ao9 y550.length co9] ?_;(with_reducible refine(spec_l71Seeds.calls k g549 t547 t548 _ _ y550 t553 t556 w _ ?side1 ?side2 ?side3 ?side4 A3.out).mono ?_);(case side1=>exact(zz7 HI549));(case side2=>exact(zz9 HB HI549));(case side3=>exact Kd.C_foot_own (IsS87.apart (show IsS87 w _ g549 t547 t548 from(zz7 HI549)) (zz23 HO552) (by decide)) (fun _ h_=>h_.2));(case side4=>exact(Kd.R_reads' HO552.out).2.1);rintro e w10 ⟨v554,rfl,ho0,hi,hb,hk⟩;refine⟨_,rfl,?_⟩;replace HO552:=A_ (Kd.R_mono (Kd.R_keep (IsS87.apart (show IsS87 w _ g549 t547 t548 from(zz7 HI549)) (zz23 HO552) (by decide)) hk (fun _ h=>h.2)) (fun _ h=>h.1));have HO555:=A_ (Kd.R_lower ho0 (below_size (zz9 HB HI549)));replace HB:=A_ (hb);replace HI549:=A_ (hi);(try clear hb hk hi ho0))|(refine gR 34 (some 12) Tryz.func34 (spec_l6Rd_pick.calls k g549 t547 t556 16 t557 t558 w _ ?side1 ?side2 A4.out) ?_;(case side1=>exact(zz7 HI549));(case side2=>exact(zz9 HB HI549));rintro w11 ⟨hi,hb,hk⟩;replace HO552:=A_ (Kd.R_mono (Kd.R_keep (IsS87.apart (show IsS87 w _ g549 t547 t556 from(zz7 HI549)) (zz23 HO552) (by decide)) hk (fun _ h=>h.2)) (fun _ h=>h.1));replace HO555:=A_ (Kd.R_mono (Kd.R_keep (IsS87.apart (show IsS87 w _ g549 t547 t556 from(zz7 HI549)) (zz23 HO555) (by decide)) hk (fun _ h=>h.2)) (fun _ h=>h.1));replace HB:=A_ (hb);replace HI549:=A_ (hi);(try clear hb hk hi)))
 obtain⟨H⟩:=HF5;replace H:=iteEq H;rcases H with⟨c12b0,c12b1,H⟩|⟨c12b0,c12b1,c12,H⟩
 ·(first|rw[c12b0]|(simp only[i64_w,i32_w];rw[c12b0])|skip)
  simp only[oI_,pI_]at H;obtain⟨rfl,rfl⟩:=H;go_wp2
  go_ret2
  exact⟨_,zz11,(zz23 HO555),(zz9 HB HI549)⟩
 ·(first|rw[c12b0]|(simp only[i64_w,i32_w];rw[c12b0])|skip)
  replace H:=iteEq H;rcases H with⟨c13b0,c13b1,H⟩|⟨c13b0,c13b1,c13,H⟩
  ·replace H:=iteN H
   obtain⟨c14,H⟩:=H;have c14b0:=eq_true c14;have c14b1:=dT c14;clear c14;obtain⟨y559,Ny559⟩:=toY (List.replicate 13 (⟨#[]⟩:BA));(first|with_reducible replace H:=bindZ Ny559 H|rw[←Ny559.out]at H|skip);simp only[oI_,pI_]at H;obtain⟨rfl,rfl⟩:=H;try go_wp2;replace HO552:=A_ (Kd.R_drew HO552.out);replace HO555:=A_ (Kd.R_drew HO555.out);replace HI549:=A_ (IsS87.drew HI549.out);replace HB:=A_ (below_drew1 HB.out);refine start_ (n:=3) (S:=fun w'=>True) (ds:=[]) #[false,false,false] (by kernel_rfl) rfl rfl trivial (fun hHeld=>?_);generalize w11.drew=w15 at HO552 HO555 HI549 HB hHeld ⊢;refine pureY 1 (some 2) #[false,true,false] ?_;refine one_ (i:=0) (N:=some 18) #[true,true,false] rfl rfl (by kernel_rfl) (by decide) (fun K hK=>?_);refine Kd.R_make_step Kd.string _ 9 (by rfl) (N:=18) rfl 22 _ _ rfl 13 rfl rfl Tryz.underlying22 (.string ⟨#[]⟩) 16 info9 rfl (by decide) (by omega) (⟨#[]⟩:BA) (ok:=fun _=>True) (okp:=fun _=>True) rfl (fun _ hk=>hk) trivial (by omega) (by omega) (Below.refl _ _) (lL_ _) ?_;intro v560 w16 ho17 hb hg_ hnew_;clear hg_ hnew_;(first|rw[←Ny559.out]at ho17|(simp only[Int.reduceToNat]at ho17;rw[←Ny559.out]at ho17));replace HO552:=A_ (rB (zz23 HO552) hb);have HO561:=A_ (Kd.R_lower (Kd.R_new' ho17 (Kd.R_lt (zz23 HO555))) (below_size (zz9 HB HI549)));replace HO555:=A_ (Kd.R_elder' (zz23 HO555) (Kd.R_base ho17) hb);replace HB:=A_ (bS (zz9 HB HI549) hb);replace HI549:=A_ (IsS87.below (zz7 HI549) hb);clear hb ho17;refine hK.out _ _ trivial (fun hHeld=>?_);clear hK K;refine nZ 18 ?_;refine pureY 2 (some 3) #[true,true,true] ?_;refine done_ (by kernel_rfl) ?_;try go_wp2
   go_ret2
   exact⟨_,zz11,(zz84 HO561),(zz9 HB HI549)⟩
  ·replace H:=bindA H
   obtain⟨⟨t562,t563⟩,A18,H⟩:=H;try dsimp only at H;simp only[oI_,pI_]at H;obtain⟨rfl,rfl⟩:=H;go_wp2_with (first|(refine gR 35 (some 20) Tryz.func35 (spec_l71Name.calls k g549 t547 t558 t562 t563 w _ ?side1 ?side2 A18.out) ?_;(case side1=>exact(zz7 HI549));(case side2=>exact(zz9 HB HI549));rintro w19 ⟨hi,hb,hk⟩;replace HO552:=A_ (Kd.R_mono (Kd.R_keep (IsS87.apart (show IsS87 w _ g549 t547 t558 from(zz7 HI549)) (zz23 HO552) (by decide)) hk (fun _ h=>h.2)) (fun _ h=>h.1));replace HO555:=A_ (Kd.R_mono (Kd.R_keep (IsS87.apart (show IsS87 w _ g549 t547 t558 from(zz7 HI549)) (zz23 HO555) (by decide)) hk (fun _ h=>h.2)) (fun _ h=>h.1));replace HB:=A_ (hb);replace HI549:=A_ (hi);(try clear hb hk hi)))
   go_ret2
   exact⟨_,zz11,(zz23 HO555),(zz9 HB HI549)⟩
end Go.Proofs.YtalfefmnlnkcaaaGreatDoor.P
end
