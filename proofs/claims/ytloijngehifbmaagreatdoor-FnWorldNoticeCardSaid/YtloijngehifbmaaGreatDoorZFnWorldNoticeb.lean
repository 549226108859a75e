/- Part 2 of the proof of FnWorldNotice: the plain functions of what it reaches, that Go comes to just their answers, what they answer, and the words that the walks use; conditions: each theorem's own. -/
import Derived.Test.YtloijngehifbmaaGreatDoorZFnWorldNoticea
import Derived.Laws.StructEq
import Derived.RowKit
import Derived.Test.YtloijngehifbmaaGreatDoorProg
import Derived.Below
import Derived.Deep.Draws
import Derived.Deep.AppendLies
import Derived.Maps.AppendAt
import Derived.OwnWalk
import Derived.Laws.BytesArg
import Derived.Laws.MakeOwn
import Derived.Laws.OwnMore
import Derived.Deep.OwnRows
import Derived.Tactics
import Derived.Lib.ConvBytes
import Derived.Laws.Slices
import Derived.WalkKit
import Derived.KernelRfl
import Derived.RowKit3
import Derived.Deep.LoopGhost
import Derived.Deep.QuietTactic
import Derived.BigQuiet
import Derived.WideLaws
import Derived.Deep.DeepCutAuto
import Derived.Deep.CutBlock
import Derived.Deep.RegionHeld3
import Derived.Laws.Rows
import Derived.Lib.AppendStr
import Derived.ArgAppend
import Derived.Laws.IdiomCopy
import Derived.OrdersHeld
import Derived.Laws.BitsLemmas
import Derived.Shelf.Strings.Builder1
import Derived.Shelf.Strings.Builder2
import Derived.Shelf.Strings.OnBuilder
import Derived.Shelf.Small.Utf8
import Derived.Shelf.Small.Strs
import Derived.Shelf.Small.Wraps
import Derived.Shelf.Strings.BuilderF
import Derived.Shelf.Strings.BuilderK
import Derived.Shelf.Strings.Builder2Cap
import Derived.Shelf.Strings.Search1
import Derived.Shelf.Strings.Search2
import Derived.Shelf.Strings.Search3
import Derived.Shelf.Strings.Cut
import Derived.Shelf.Strings.Count
import Derived.Shelf.LaysM
import Derived.Shelf.Strings.Shaped
import Derived.Shelf.Strings.Prefix
import Derived.Shelf.Strings.Runes
import Derived.Shelf.Strings.IndexAny
import Derived.Shelf.Strings.AsciiSet
import Derived.Shelf.Strings.IndexAnyAll
import Derived.Shelf.Unicode.DecodeSlow
import Derived.Shelf.Strings.BuilderCap
import Derived.Shelf.Slices.Turned
import Derived.Ground.Names2Prog
import Derived.Shelf.Slices.Clone

set_option linter.unusedVariables false
set_option linter.unusedSimpArgs false
section
namespace Go.Proofs.YtloijngehifbmaaGreatDoorW.PrintWords
open Go.RowKit
section
variable {P:Program}{d:Nat}{xs ys:Array Value}{f:Field}{fs:List Field}{a b:Value}{r s:Bool}{w:World}
theorem eqf_last (hn:(f.name == "_")=false)(ha:(part f.type xs f.offset).run P w=.ok a w)(hb:(part f.type ys f.offset).run P w=.ok b w)(he:(Op.equalIn d f.type a b).run P w=.ok r w):(Op.eqFields d xs ys [f]).run P w=.ok r w:=by
 have hn':f.name ≠ "_" := by simpa using hn
 simp only[Op.eqFields,if_pos hn',Sem.run_bind,ha,hb,he,Result.andThen_ok];cases r <;> simp
theorem eqf_cons (hn:(f.name == "_")=false)(ha:(part f.type xs f.offset).run P w=.ok a w)(hb:(part f.type ys f.offset).run P w=.ok b w)(he:(Op.equalIn d f.type a b).run P w=.ok r w)(hr:(Op.eqFields d xs ys fs).run P w=.ok s w):(Op.eqFields d xs ys (f::fs)).run P w=.ok (r&&s) w:=by
 have hn':f.name ≠ "_" := by simpa using hn
 rw[Op.eqFields];simp only[if_pos hn',Sem.run_bind,ha,hb,he,Result.andThen_ok];cases r
 ·simp
 ·simpa using hr
theorem eqA_of {t:TypeId}{fs:Array Field}(hu:P.underlying t=some (.struct fs))(hp:P.stoodInHeld t=false)(h:(Op.eqFields d xs ys fs.toList).run P w=.ok r w):(Op.equalIn (d+1) t (.agg xs) (.agg ys)).run P w=.ok r w:=by
 have hf:P.fieldsOf t=fs:=by simp[Program.fieldsOf,hu]
 rw[run_equalIn_struct (P:=P) w d t xs ys (by rw[hf];exact hu) hp,hf];exact h
end
end Go.Proofs.YtloijngehifbmaaGreatDoorW.PrintWords
end
section
namespace Go.Proofs.YtloijngehifbmaaGreatDoor.P
theorem aid_isEmpty (l:List UInt8):(l != ([]:List UInt8)) = !l.isEmpty:=by cases l <;> rfl
theorem aid_isEmpty2 (l:List UInt8):(l==([]:List UInt8))=l.isEmpty:=by cases l <;> rfl
end Go.Proofs.YtloijngehifbmaaGreatDoor.P
end
section
namespace Go.Proofs.YtloijngehifbmaaGreatDoor.P
open Go.RowKit Go.Proofs.YtloijngehifbmaaGreatDoorW PrintWords
structure Undec (c:Prop):Prop where mk::(out:True)
theorem Undec.y_ {c:Prop}(_:c):Undec c:=⟨trivial⟩
theorem Undec.n_ {c:Prop}(_:¬c):Undec c:=⟨trivial⟩
theorem undecG {b:Bool}(h:Undec (b=true):=by(fail_if_success exact Undec.y_ rfl);(fail_if_success exact Undec.n_ (by decide));exact Undec.mk trivial):Undec (b=true):=h
theorem undecI {c:Prop}(h:Undec c:=by(fail_if_success exact Undec.y_ (by first|(with_reducible assumption)|((try simp only[decide_eq_true_eq,decide_eq_false_iff_not]at *);omega)|decide));(fail_if_success exact Undec.n_ (by first|(with_reducible assumption)|((try simp only[decide_eq_true_eq,decide_eq_false_iff_not]at *);omega)|decide));exact Undec.mk trivial):Undec c:=h
def MetP (J:Prop):Prop:=J
theorem atG {P:Program}{ops:Array Oper}{Q:Exit→Act→World→Prop}{a:Act}{w:World}{rest:List Oper}{d:Option Tmp}{op:Op}{ty:TypeId}{pos:String}{af:Array Edge}{j:Nat}{g b:Bool}
  (_hy:yielded ops a.tmps j=some b) (_nl:Undec (b=true)) (h:∀K:Prop,Aside0 (K=wpList P ops Q (⟨d,op,ty,pos,af,some (j,g)⟩::rest) a w)→MetP K):
  wpList P ops Q (⟨d,op,ty,pos,af,some (j,g)⟩::rest) a w:=h _ ⟨rfl⟩
theorem atI {c A B:Prop}[Decidable c](_nl:Undec c)(h:∀K:Prop,Aside0 (K=if c then A else B)→MetP K):if c then A else B:=h _ ⟨rfl⟩
theorem unG {A K:Prop}(hK:Aside0 (K=A))(h:A):MetP K:=by rw[hK.out];exact h
theorem iteT {c A B:Prop}[Decidable c](h:A)(hc:c:=by first|rfl|(with_reducible assumption)|omega|decide|exact List.length_eq_zero_iff.mp (by omega)|(intro h_;simp only[h_,List.length_nil]at *;omega)):if c then A else B:=by rw[if_pos hc];exact h
theorem iteF {c A B:Prop}[Decidable c](h:B)(hc:¬c:=by first|(with_reducible assumption)|decide|omega|exact fun h_=>h_ (List.length_eq_zero_iff.mp (by omega))|(intro h_;simp only[h_,List.length_nil]at *;omega)):if c then A else B:=by rw[if_neg hc];exact h
theorem upS {P:Program}{o:Oper}{a:Act}{next:Act→World→Prop}{Q:Exit→Act→World→Prop}{r:Result Next}(h:Oper.upon P o a next Q r):Oper.upon P o a next Q r:=h
end Go.Proofs.YtloijngehifbmaaGreatDoor.P
end
section
namespace Go.Proofs.YtloijngehifbmaaGreatDoor.P
open Go.RowKit Go.Proofs.YtloijngehifbmaaGreatDoorW PrintWords PrintLast PrintMore
attribute [local go_sem] max2_int min2_int max_two min_two max_three min_three max_four min_four
def errW:Option Int→Value
 |none=>.nilIface
 |some c=>.iface 0 (.int .i64 c)
theorem errW_none:errW none=.nilIface:=rfl
theorem errW_some (c:Int):errW (some c)=.iface 0 (.int .i64 c):=rfl
theorem info4:(Tryz.prog.info? 4).map (fun i=>(i.zero,i.size,i.bytes))=some (some (.bool false),1,1):=by kernel_rfl
theorem info5:(Tryz.prog.info? 5).map (fun i=>(i.zero,i.size,i.bytes))=some (some (.int .u8 0),1,1):=by kernel_rfl
theorem info9:(Tryz.prog.info? 9).map (fun i=>(i.zero,i.size,i.bytes))=some (some (.string ⟨#[]⟩),1,16):=by kernel_rfl
theorem info32:(Tryz.prog.info? 32).map (fun i=>(i.zero,i.size,i.bytes))=some (some (.agg #[(.slice none 0 0),(.slice none 0 0),(.int .i64 0)]),3,56):=by kernel_rfl
theorem info57:(Tryz.prog.info? 57).map (fun i=>(i.zero,i.size,i.bytes))=some (some (.agg #[(.string ⟨#[]⟩),(.string ⟨#[]⟩),(.string ⟨#[]⟩),(.int .i64 0)]),4,56):=by kernel_rfl
theorem info93:(Tryz.prog.info? 93).map (fun i=>(i.zero,i.size,i.bytes))=some (some (.agg #[(.bool false),(.string ⟨#[]⟩)]),2,24):=by kernel_rfl
structure S57 where
 f0:BA
 f1:BA
 f2:BA
 f3:Int
def z57:S57:=⟨(⟨#[]⟩:BA),(⟨#[]⟩:BA),(⟨#[]⟩:BA),(0:Int)⟩
def k57:Kd S57:=Kd.iso (Kd.pair Kd.string (Kd.pair Kd.string (Kd.pair Kd.string (Kd.int .i64)))) (fun x:S57=>(x.f0,x.f1,x.f2,x.f3))
theorem k57_open {w:World}{x:S57}{cs:List Value}(h:k57.K w x cs):cs=[.string x.f0,.string x.f1,.string x.f2,.int .i64 x.f3]:=by
 obtain⟨_,_,rfl,rfl,⟨_,_,rfl,rfl,⟨_,_,rfl,rfl,rfl⟩⟩⟩:=h;exact rfl
theorem k57_openM {w:World}{base:Nat}{ok:Nat→Prop}{x:S57}{cs:List Value}(h:k57.M w base ok x cs):cs=[.string x.f0,.string x.f1,.string x.f2,.int .i64 x.f3]:=by
 obtain⟨_,_,rfl,rfl,⟨_,_,rfl,rfl,⟨_,_,rfl,rfl,rfl⟩⟩⟩:=h;exact rfl
theorem k57_mkM (w:World)(base:Nat)(ok:Nat→Prop)(x:S57)  : k57.M w base ok x [.string x.f0,.string x.f1,.string x.f2,.int .i64 x.f3]:=⟨[.string x.f0],[.string x.f1,.string x.f2,.int .i64 x.f3],rfl,rfl,⟨[.string x.f1],[.string x.f2,.int .i64 x.f3],rfl,rfl,⟨[.string x.f2],[.int .i64 x.f3],rfl,rfl,rfl⟩⟩⟩
def rd_T57 (xs:List S57)(i:Int):S57:=xs.getD i.toNat z57
theorem at_T57 {w:World}{A:Option Addr}{n:Nat}{xs:List S57}(h:Kd.C k57 w A n xs)(i:Int)(h0:0≤i)(h1:i<n):∃ad , A=some ad∧w.cell? (ad.add (i.toNat*4))=some (.string (rd_T57 xs i).f0)∧w.cell? ⟨(ad.add (i.toNat*4)).block,(ad.add (i.toNat*4)).off+1,none⟩=some (.string (rd_T57 xs i).f1)∧w.cell? ⟨(ad.add (i.toNat*4)).block,(ad.add (i.toNat*4)).off+2,none⟩=some (.string (rd_T57 xs i).f2)∧w.cell? ⟨(ad.add (i.toNat*4)).block,(ad.add (i.toNat*4)).off+3,none⟩=some (.int .i64 (rd_T57 xs i).f3):=by
 obtain⟨ad,c,e,_,hK,hc0⟩:=Kd.C_get h z57 i h0 h1;have hc:∀j u,c[j]?=some u→w.cell? (ad.add (i.toNat*4+j))=some u:=hc0;obtain rfl:=k57_open hK;exact⟨ad,e,hc 0 _ rfl,by rw[←add_field _ _ 1 (by omega)];exact hc 1 _ rfl,by rw[←add_field _ _ 2 (by omega)];exact hc 2 _ rfl,by rw[←add_field _ _ 3 (by omega)];exact hc 3 _ rfl⟩
structure S93 where
 f0:Bool
 f1:BA
def z93:S93:=⟨false,(⟨#[]⟩:BA)⟩
def k93:Kd S93:=Kd.iso (Kd.pair Kd.bool Kd.string) (fun x:S93=>(x.f0,x.f1))
theorem k93_open {w:World}{x:S93}{cs:List Value}(h:k93.K w x cs):cs=[.bool x.f0,.string x.f1]:=by
 obtain⟨_,_,rfl,rfl,rfl⟩:=h;exact rfl
theorem k93_mkM (w:World)(base:Nat)(ok:Nat→Prop)(x:S93)  : k93.M w base ok x [.bool x.f0,.string x.f1]:=⟨[.bool x.f0],[.string x.f1],rfl,rfl,rfl⟩
def rd_T93 (xs:List S93)(i:Int):S93:=xs.getD i.toNat z93
theorem at_T93 {w:World}{A:Option Addr}{n:Nat}{xs:List S93}(h:Kd.C k93 w A n xs)(i:Int)(h0:0≤i)(h1:i<n):∃ad , A=some ad∧w.cell? (ad.add (i.toNat*2))=some (.bool (rd_T93 xs i).f0)∧w.cell? ⟨(ad.add (i.toNat*2)).block,(ad.add (i.toNat*2)).off+1,none⟩=some (.string (rd_T93 xs i).f1):=by
 obtain⟨ad,c,e,_,hK,hc0⟩:=Kd.C_get h z93 i h0 h1;have hc:∀j u,c[j]?=some u→w.cell? (ad.add (i.toNat*2+j))=some u:=hc0;obtain rfl:=k93_open hK;exact⟨ad,e,hc 0 _ rfl,by rw[←add_field _ _ 1 (by omega)];exact hc 1 _ rfl⟩
structure S32 where
 f0:(List BA)
 f1:(List S93)
 f2:Int
def z32:S32:=⟨([]:List BA),([]:List S93),(0:Int)⟩
def k32:Kd S32:=Kd.iso (Kd.pair (Kd.slice 9 Kd.string) (Kd.pair (Kd.slice 93 k93) (Kd.int .i64))) (fun x:S32=>(x.f0,x.f1,x.f2))
theorem k32_open {w:World}{x:S32}{cs:List Value}(h:k32.K w x cs):∃A0 c0 A1 c1,cs=[.slice A0 x.f0.length c0,.slice A1 x.f1.length c1,.int .i64 x.f2]∧x.f0.length≤c0∧Kd.string.C w A0 x.f0.length x.f0∧x.f1.length≤c1∧k93.C w A1 x.f1.length x.f1:=by
 obtain⟨_,_,rfl,⟨A0,c0,rfl,l0,g0⟩,⟨_,_,rfl,⟨A1,c1,rfl,l1,g1⟩,rfl⟩⟩:=h;exact⟨A0,c0,A1,c1,rfl,l0,g0,l1,g1⟩
theorem k32_openM {w:World}{base:Nat}{ok:Nat→Prop}{x:S32}{cs:List Value}(h:k32.M w base ok x cs):∃v0 v1,cs=[v0,v1,.int .i64 x.f2]∧Kd.string.R 9 w base ok v0 x.f0∧k93.R 93 w base ok v1 x.f1:=by
 obtain⟨_,_,rfl,⟨v0,rfl,g0⟩,⟨_,_,rfl,⟨v1,rfl,g1⟩,rfl⟩⟩:=h;exact⟨v0,v1,rfl,g0,g1⟩
theorem k32_mkM (w:World)(base:Nat)(ok:Nat→Prop)(x:S32){v0:Value}(g0:Kd.string.R 9 w base ok v0 x.f0){v1:Value}(g1:k93.R 93 w base ok v1 x.f1):k32.M w base ok x [v0,v1,.int .i64 x.f2]:=⟨[v0],[v1,.int .i64 x.f2],rfl,⟨v0,rfl,g0⟩,⟨[v1],[.int .i64 x.f2],rfl,⟨v1,rfl,g1⟩,rfl⟩⟩
def rd_T32 (xs:List S32)(i:Int):S32:=xs.getD i.toNat z32
theorem at_T32 {w:World}{A:Option Addr}{n:Nat}{xs:List S32}(h:Kd.C k32 w A n xs)(i:Int)(h0:0≤i)(h1:i<n):∃ad A0 c0 A1 c1,A=some ad∧w.cell? (ad.add (i.toNat*3))=some (.slice A0 (rd_T32 xs i).f0.length c0)∧w.cell? ⟨(ad.add (i.toNat*3)).block,(ad.add (i.toNat*3)).off+1,none⟩=some (.slice A1 (rd_T32 xs i).f1.length c1)∧w.cell? ⟨(ad.add (i.toNat*3)).block,(ad.add (i.toNat*3)).off+2,none⟩=some (.int .i64 (rd_T32 xs i).f2)∧(rd_T32 xs i).f0.length≤c0∧Kd.string.C w A0 (rd_T32 xs i).f0.length (rd_T32 xs i).f0∧(rd_T32 xs i).f1.length≤c1∧k93.C w A1 (rd_T32 xs i).f1.length (rd_T32 xs i).f1:=by
 obtain⟨ad,c,e,_,hK,hc0⟩:=Kd.C_get h z32 i h0 h1;have hc:∀j u,c[j]?=some u→w.cell? (ad.add (i.toNat*3+j))=some u:=hc0;obtain⟨A0,c0,A1,c1,rfl,l0,g0,l1,g1⟩:=k32_open hK;exact⟨ad,A0,c0,A1,c1,e,hc 0 _ rfl,by rw[←add_field _ _ 1 (by omega)];exact hc 1 _ rfl,by rw[←add_field _ _ 2 (by omega)];exact hc 2 _ rfl,l0,g0,l1,g1⟩
end Go.Proofs.YtloijngehifbmaaGreatDoor.P
end
section
namespace Go.Proofs.YtloijngehifbmaaGreatDoor.P
open Go.RowKit Go.Proofs.YtloijngehifbmaaGreatDoorW PrintWords PrintLast PrintMore
theorem viaP {B:Prop}(b:B:=by simp only[putAll,Act.put,lS_,l0_,lC_]):B:=b
theorem ofD {p:Prop}[Decidable p](h:decide p=true:=by first|(with_reducible assumption)|assumption):p:=of_decide_eq_true h
theorem bindA {α β:Type}{x:Option α}{f:α→Option β}{r:β}(h:x.bind f=some r):∃a,Aside0 (x=some a)∧f a=some r:=by
 obtain⟨a,h1,h2⟩:=oE_.mp h;exact⟨a,⟨h1⟩,h2⟩
theorem bindY {α β:Type}{y:α}{f:α→Option β}{r:β}(h:(some y).bind f=some r):∃z,Aside0 (z=y)∧f z=some r:=⟨y,⟨rfl⟩,h⟩
theorem bindZ {α β:Type}{y z:α}(hz:Aside0 (z=y)){f:α→Option β}{r:β}(h:(some y).bind f=some r):f z=some r:=hz.out ▸ h
theorem toY {α:Type}(y:α):∃z,Aside0 (z=y):=⟨y,⟨rfl⟩⟩
theorem cbl {w W:World}{a:Addr}{v:Value}(hb:Aside0 (Below w.heap.size w W))(h:w.cell? a=some v):W.cell? a=some v:=(hb.out.cell (wb_ w _ h)).trans h
theorem geB {w W:World}{g:Nat}(hg:g=W.heap.size)(h:Below w.heap.size w W):Aside0 (w.heap.size≤g):=⟨by rw[hg];exact below_size h⟩
theorem rt {α:Type}{d:Kd α}{e:Nat}{w:World}{base:Nat}{ok:Nat→Prop}{v:Value}{xs:List α}{g t:Nat}{cells:Array Value}(a:Aside0 (d.R e w base ok v xs))(b:Aside0 (w.heap[g]?=some (.cells cells t (0,0))))(ht:∀q,q∈e::d.E→q≠t:=by decide):Aside0 (d.R e w base (fun k=>ok k∧k≠g) v xs):=⟨Kd.R_types a.out b.out ht⟩
section
variable {P:Program}{ops:Array Oper}{rest:List Oper}{o:Oper}{a:Act}{Q:Exit→Act→World→Prop}{md:Region.Mode}{S:World→Prop}{ds:List Nat}{W:World}
theorem boxE (N:Tmp)(cs:Array Value)(t:TypeId)
  (h:∀g,g=W.heap.size→∀w1,w1.heap[g]?=some (.cells cs t (0,0))→Below W.heap.size W w1→wpList P ops Q rest (a.put o.dst (.pointer (some ⟨g,0,none⟩))) w1)
  (hd:o.dst=some N:=by rfl) (hgd:o.guard=none:=by rfl)
  (hrun:(execOp a.eval o).run P W=.ok (.value (.pointer (some ⟨W.heap.size,0,none⟩))) (W.alloc (.cells cs t (0,0))):=by first|(go_simp;done)|(go_simp;rfl)):wpList P ops Q (o::rest) a W:=box_event hgd hd hrun h
theorem gsL (N:Option Tmp){f:FuncId}{fn:Func}{as_:Array Operand}{ts:Array TypeId}(hf:P.funcs[f]?=some fn)(args:Array Value)
  (h:Calls P f args W fun e w'=>∃v,e=.returned v∧wpList P ops Q rest (a.put N v) w')
  (hd:o.dst=N:=by rfl) (hg:o.guard=none:=by rfl) (hname:(fn.name == "runtime.NumGoroutine")=false:=by kernel_rfl) (hb:fn.body.isSome=true:=by rfl)
  (hop:o.op=.call { callee:=.value (.func f),args:=as_,argTypes:=ts }:=by rfl)
  (hargs:as_.map a.eval=args:=by(try simp only[List.map_toArray,List.map_cons,List.map_nil]);first|done|rfl|(simp only[List.length_drop,lT_];rfl)):wpList P ops Q (o::rest) a W:=goesL_ N hd hg hf hname hb args hop hargs h
theorem boxF (N:Tmp)(cs:Array Value)(t:TypeId)
  (h:∀g,g=W.heap.size→∀w1,Aside0 (w1.heap[g]?=some (.cells cs t (0,0)))→Below W.heap.size W w1→wpList P ops Q rest (a.put o.dst (.pointer (some ⟨g,0,none⟩))) w1)
  (hd:o.dst=some N:=by rfl) (hgd:o.guard=none:=by rfl)
  (hrun:(execOp a.eval o).run P W=.ok (.value (.pointer (some ⟨W.heap.size,0,none⟩))) (W.alloc (.cells cs t (0,0))):=by first|(go_simp;done)|(go_simp;rfl)):wpList P ops Q (o::rest) a W:=box_event hgd hd hrun fun g hg w1 hb=>h g hg w1 ⟨hb⟩
theorem gR (f:FuncId)(N:Option Tmp){fn:Func}{as_:Array Operand}{ts:Array TypeId}{args:Array Value}{v:Value}{R:World→Prop}(hf:P.funcs[f]?=some fn)(hc:Calls P f args W fun e w'=>e=.returned v∧R w')
  (h:∀w',R w'→wpList P ops Q rest (a.put N v) w')
  (hd:o.dst=N:=by rfl) (hop:o.op=.call { callee:=.value (.func f),args:=as_,argTypes:=ts }:=by rfl) (hg:o.guard=none:=by rfl) (hname:(fn.name == "runtime.NumGoroutine")=false:=by kernel_rfl) (hb:fn.body.isSome=true:=by rfl)
  (hargs:as_.map a.eval=args:=by(try simp only[List.map_toArray,List.map_cons,List.map_nil]);first|done|rfl|(simp only[List.length_drop,lT_];rfl)):wpList P ops Q (o::rest) a W:=
 goesL_ N hd hg hf hname hb args hop hargs (hc.mono fun _ w' z=>⟨v,z.1,h w' z.2⟩)
theorem gV (f:FuncId)(N:Option Tmp){fn:Func}{as_:Array Operand}{ts:Array TypeId}{args:Array Value}{β:Type}{V:β→Value}{R:β→World→Prop}(hf:P.funcs[f]?=some fn)(hc:Calls P f args W fun e w'=>∃v,e=.returned (V v)∧R v w')
  (h:∀v w',R v w'→wpList P ops Q rest (a.put N (V v)) w')
  (hd:o.dst=N:=by rfl) (hop:o.op=.call { callee:=.value (.func f),args:=as_,argTypes:=ts }:=by rfl) (hg:o.guard=none:=by rfl) (hname:(fn.name == "runtime.NumGoroutine")=false:=by kernel_rfl) (hb:fn.body.isSome=true:=by rfl)
  (hargs:as_.map a.eval=args:=by(try simp only[List.map_toArray,List.map_cons,List.map_nil]);first|done|rfl|(simp only[List.length_drop,lT_];rfl)):wpList P ops Q (o::rest) a W:=
 goesL_ N hd hg hf hname hb args hop hargs (hc.mono fun _ w' z=>by obtain⟨v,z1,z2⟩:=z;exact⟨V v,z1,h v w' z2⟩)
theorem oneZ (i:Nat)(N:Option Tmp){oi:Oper}{fuel:Nat}{l:Array Bool}(l':Array Bool)
  (h:∀K:Act→World→Prop,Shut (∀a' w',S w'→(S w'→wpAnyLast P md ops Q S ds fuel l' a' w')→K a' w')→if Region.wanted oi (yielded ops a.tmps)=true then Oper.wp P oi a W K Q else K (a.put N undef) W)
  (hi:ops[i]?=some oi:=by rfl) (hN:oi.dst=N:=by rfl) (hc:readyB md ops l l' i=true:=by exact one_of HT_.out (by kernel_rfl)) (hd:i ∉ ds:=by decide):wpAnyLast P md ops Q S ds (fuel+1) l a W:=one_ l' hi hN hc hd h
theorem twoZ (i j:Nat)(Ni Nj:Option Tmp){oi oj:Oper}{fuel:Nat}{l:Array Bool}(li lj:Array Bool)
  (h1:∀K:Act→World→Prop,Shut (∀a' w',S w'→(S w'→wpAnyLast P md ops Q S ds fuel li a' w')→K a' w')→if Region.wanted oi (yielded ops a.tmps)=true then Oper.wp P oi a W K Q else K (a.put Ni undef) W)
  (h2:∀K:Act→World→Prop,Shut (∀a' w',S w'→(S w'→wpAnyLast P md ops Q S ds fuel lj a' w')→K a' w')→if Region.wanted oj (yielded ops a.tmps)=true then Oper.wp P oj a W K Q else K (a.put Nj undef) W)
  (hi:ops[i]?=some oi:=by rfl) (hj:ops[j]?=some oj:=by rfl) (hNi:oi.dst=Ni:=by rfl) (hNj:oj.dst=Nj:=by rfl)
  (hc:(Region.ready md ops l==[i,j]&&l.setIfInBounds i true==li&&l.setIfInBounds j true==lj)=true:=by exact two_of HT_.out (by kernel_rfl)) (hdi:i ∉ ds:=by decide) (hdj:j ∉ ds:=by decide):wpAnyLast P md ops Q S ds (fuel+1) l a W:=two_ li lj hi hj hNi hNj hc hdi hdj h1 h2
theorem nZ (N:Tmp){fuel:Nat}{l:Array Bool}{b a':Act}{v:Value}(h:wpAnyLast P md ops Q S ds fuel l a' W)(hb:a=b.put (some N) v:=by rfl)(ha:b.put (some N) v=a':=by(simp only[Act.put,lS_,l0_,lC_,i64_w,i32_w];rfl)):wpAnyLast P md ops Q S ds fuel l a W:=norm_ (hb.trans ha) h
theorem pureZ (i:Nat)(N:Option Tmp){v:Value}{fuel:Nat}{l:Array Bool}(l':Array Bool){a':Act}
  (h:wpAnyLast P md ops Q S ds fuel l' a' W) (hi:ops[i]?=some o:=by rfl) (hN:o.dst=N:=by rfl) (hc:anyB md ops l l' i=true:=by exact any_of HT_.out (by kernel_rfl))
  (hQ:∀c a w,Q (.panic c) (a.put o.dst v) w→Q (.panic c) a w:=by exact fun _ _ _ h=>h)
  (hy:Yields P ops o v a:=by exact Or.inl ⟨by rfl,by intro w';go_simp;with_reducible rfl⟩)
  (ha:a.put N v=a':=by(simp only[Act.put,lS_,l0_,lC_,i64_w,i32_w];rfl)):wpAnyLast P md ops Q S ds (fuel+1) l a W:=pure_ l' hi hN hc hQ hy ha h
theorem pureU (i:Nat)(N:Option Tmp){fuel:Nat}{l:Array Bool}(l':Array Bool){a':Act}
  (h:wpAnyLast P md ops Q S ds fuel l' a' W) (hi:ops[i]?=some o:=by rfl) (hN:o.dst=N:=by rfl) (hc:anyB md ops l l' i=true:=by exact any_of HT_.out (by kernel_rfl))
  (hQ:∀c a w,Q (.panic c) (a.put o.dst undef) w→Q (.panic c) a w:=by exact fun _ _ _ h=>h)
  (hy:Yields P ops o undef a:=by exact Or.inr ⟨by rfl,rfl⟩)
  (ha:a.put N undef=a':=by(simp only[Act.put,lS_,l0_,lC_,i64_w,i32_w];rfl)):wpAnyLast P md ops Q S ds (fuel+1) l a W:=pure_ l' hi hN hc hQ hy ha h
theorem pureY (i:Nat)(N:Option Tmp){v:Value}{fuel:Nat}{l:Array Bool}(l':Array Bool){a':Act}
  (h:wpAnyLast P md ops Q S ds fuel l' a' W) (hi:ops[i]?=some o:=by rfl) (hN:o.dst=N:=by rfl) (hc:anyB md ops l l' i=true:=by kernel_rfl)
  (hQ:∀c a w,Q (.panic c) (a.put o.dst v) w→Q (.panic c) a w:=by exact fun _ _ _ h=>h)
  (hy:Yields P ops o v a:=by exact Or.inl ⟨by rfl,by intro w';go_simp;with_reducible rfl⟩)
  (ha:a.put N v=a':=by(simp only[Act.put,lS_,l0_,lC_,i64_w,i32_w];rfl)):wpAnyLast P md ops Q S ds (fuel+1) l a W:=pure_ l' hi hN hc hQ hy ha h
theorem takeZ3 (i:Nat)(N:Option Tmp){v:Value}{fuel:Nat}{l:Array Bool}(l':Array Bool)(hS:S W){a':Act}
  (h:wpAnyLast P md ops Q S ds fuel l' a' W) (hi:ops[i]?=some o:=by rfl) (hN:o.dst=N:=by rfl) (hc:takeB md ops ds l l' i=true:=by exact take_ofW HT_.out HW_.out (by kernel_rfl))
  (hQ:∀c a w,Q (.panic c) (a.put o.dst v) w→Q (.panic c) a w:=by exact fun _ _ _ h=>h)
  (hy:YieldsIf P ops S o v a:=by exact Or.inl ⟨by rfl,by rintro w' ⟨s0,s1,s2⟩;go_simp;with_reducible rfl⟩)
  (ha:a.put N v=a':=by(simp only[Act.put,lS_,l0_,lC_,i64_w,i32_w];rfl)):wpAnyLast P md ops Q S ds (fuel+1) l a W:=take_ l' hi hN hc hQ hy hS ha h
theorem takeY3 (i:Nat)(N:Option Tmp){v:Value}{fuel:Nat}{l:Array Bool}(l':Array Bool)(hS:S W){a':Act}
  (h:wpAnyLast P md ops Q S ds fuel l' a' W) (hi:ops[i]?=some o:=by rfl) (hN:o.dst=N:=by rfl) (hc:takeB md ops ds l l' i=true:=by kernel_rfl)
  (hQ:∀c a w,Q (.panic c) (a.put o.dst v) w→Q (.panic c) a w:=by exact fun _ _ _ h=>h)
  (hy:YieldsIf P ops S o v a:=by exact Or.inl ⟨by rfl,by rintro w' ⟨s0,s1,s2⟩;go_simp;with_reducible rfl⟩)
  (ha:a.put N v=a':=by(simp only[Act.put,lS_,l0_,lC_,i64_w,i32_w];rfl)):wpAnyLast P md ops Q S ds (fuel+1) l a W:=take_ l' hi hN hc hQ hy hS ha h
theorem takeZ4 (i:Nat)(N:Option Tmp){v:Value}{fuel:Nat}{l:Array Bool}(l':Array Bool)(hS:S W){a':Act}
  (h:wpAnyLast P md ops Q S ds fuel l' a' W) (hi:ops[i]?=some o:=by rfl) (hN:o.dst=N:=by rfl) (hc:takeB md ops ds l l' i=true:=by exact take_ofW HT_.out HW_.out (by kernel_rfl))
  (hQ:∀c a w,Q (.panic c) (a.put o.dst v) w→Q (.panic c) a w:=by exact fun _ _ _ h=>h)
  (hy:YieldsIf P ops S o v a:=by exact Or.inl ⟨by rfl,by rintro w' ⟨s0,s1,s2,s3⟩;go_simp;with_reducible rfl⟩)
  (ha:a.put N v=a':=by(simp only[Act.put,lS_,l0_,lC_,i64_w,i32_w];rfl)):wpAnyLast P md ops Q S ds (fuel+1) l a W:=take_ l' hi hN hc hQ hy hS ha h
theorem takeY4 (i:Nat)(N:Option Tmp){v:Value}{fuel:Nat}{l:Array Bool}(l':Array Bool)(hS:S W){a':Act}
  (h:wpAnyLast P md ops Q S ds fuel l' a' W) (hi:ops[i]?=some o:=by rfl) (hN:o.dst=N:=by rfl) (hc:takeB md ops ds l l' i=true:=by kernel_rfl)
  (hQ:∀c a w,Q (.panic c) (a.put o.dst v) w→Q (.panic c) a w:=by exact fun _ _ _ h=>h)
  (hy:YieldsIf P ops S o v a:=by exact Or.inl ⟨by rfl,by rintro w' ⟨s0,s1,s2,s3⟩;go_simp;with_reducible rfl⟩)
  (ha:a.put N v=a':=by(simp only[Act.put,lS_,l0_,lC_,i64_w,i32_w];rfl)):wpAnyLast P md ops Q S ds (fuel+1) l a W:=take_ l' hi hN hc hQ hy hS ha h
theorem takeZ6 (i:Nat)(N:Option Tmp){v:Value}{fuel:Nat}{l:Array Bool}(l':Array Bool)(hS:S W){a':Act}
  (h:wpAnyLast P md ops Q S ds fuel l' a' W) (hi:ops[i]?=some o:=by rfl) (hN:o.dst=N:=by rfl) (hc:takeB md ops ds l l' i=true:=by exact take_ofW HT_.out HW_.out (by kernel_rfl))
  (hQ:∀c a w,Q (.panic c) (a.put o.dst v) w→Q (.panic c) a w:=by exact fun _ _ _ h=>h)
  (hy:YieldsIf P ops S o v a:=by exact Or.inl ⟨by rfl,by rintro w' ⟨s0,s1,s2,s3,s4,s5⟩;go_simp;with_reducible rfl⟩)
  (ha:a.put N v=a':=by(simp only[Act.put,lS_,l0_,lC_,i64_w,i32_w];rfl)):wpAnyLast P md ops Q S ds (fuel+1) l a W:=take_ l' hi hN hc hQ hy hS ha h
end
theorem cf2 {w:World}{g:Nat}{t:TypeId}{x0 x1:Value}(h:Aside0 (w.heap[g]?=some (.cells #[x0,x1] t (0,0)))):w.cell? ⟨g,0,none⟩=some x0∧w.cell? ⟨g,1,none⟩=some x1∧w.frozen? ⟨g,0,none⟩=false∧w.frozen? ⟨g,1,none⟩=false:=⟨(blk_cell h.out 0).trans rfl,(blk_cell h.out 1).trans rfl,blk_frozen h.out 0,blk_frozen h.out 1⟩
theorem cf3 {w:World}{g:Nat}{t:TypeId}{x0 x1 x2:Value}(h:Aside0 (w.heap[g]?=some (.cells #[x0,x1,x2] t (0,0)))):w.cell? ⟨g,0,none⟩=some x0∧w.cell? ⟨g,1,none⟩=some x1∧w.cell? ⟨g,2,none⟩=some x2∧w.frozen? ⟨g,0,none⟩=false∧w.frozen? ⟨g,1,none⟩=false∧w.frozen? ⟨g,2,none⟩=false:=⟨(blk_cell h.out 0).trans rfl,(blk_cell h.out 1).trans rfl,(blk_cell h.out 2).trans rfl,blk_frozen h.out 0,blk_frozen h.out 1,blk_frozen h.out 2⟩
theorem cf4 {w:World}{g:Nat}{t:TypeId}{x0 x1 x2 x3:Value}(h:Aside0 (w.heap[g]?=some (.cells #[x0,x1,x2,x3] t (0,0)))):w.cell? ⟨g,0,none⟩=some x0∧w.cell? ⟨g,1,none⟩=some x1∧w.cell? ⟨g,2,none⟩=some x2∧w.cell? ⟨g,3,none⟩=some x3∧w.frozen? ⟨g,0,none⟩=false∧w.frozen? ⟨g,1,none⟩=false∧w.frozen? ⟨g,2,none⟩=false∧w.frozen? ⟨g,3,none⟩=false:=⟨(blk_cell h.out 0).trans rfl,(blk_cell h.out 1).trans rfl,(blk_cell h.out 2).trans rfl,(blk_cell h.out 3).trans rfl,blk_frozen h.out 0,blk_frozen h.out 1,blk_frozen h.out 2,blk_frozen h.out 3⟩
abbrev yT:Bool:=true
abbrev yF:Bool:=false
abbrev yA (m n:Nat):Array Bool:=⟨List.replicate m true++List.replicate n false⟩
theorem rpI {B:Prop}(h:B:=by repeat(first|exact Reps.none _ _|refine Reps.one (show Kd.M _ _ _ _ _ _ from rfl) ?_)):B:=h
theorem A_ {p:Prop}(h:p):Aside0 p:=⟨h⟩
abbrev bS:=@below_step
abbrev bB:=@blk_below
abbrev rB:=@Kd.R_below
abbrev gC:=@gate_callee
abbrev gD:=@gate_dst
abbrev sI:=@oJ_
abbrev pR:=@bodyPost_ret
abbrev dT:=@decide_eq_true
abbrev dF:=@decide_eq_false
section
variable {α:Type}{r:α}{x y:Option α}{c:Prop}{i:Decidable c}
theorem iteN (h:(if c then x else none)=some r):c∧x=some r:=by
 by_cases hc:c
 ·rw[if_pos hc]at h;exact⟨hc,h⟩
 ·rw[if_neg hc]at h;cases h
theorem iteM (h:(if c then none else y)=some r):¬c∧y=some r:=by
 by_cases hc:c
 ·rw[if_pos hc]at h;cases h
 ·rw[if_neg hc]at h;exact⟨hc,h⟩
theorem iteE (h:(if c then x else y)=some r):(c∧x=some r)∨(¬c∧y=some r):=by
 by_cases hc:c
 ·rw[if_pos hc]at h;exact .inl ⟨hc,h⟩
 ·rw[if_neg hc]at h;exact .inr ⟨hc,h⟩
theorem iteB {b:Bool}(h:(if b=true then x else y)=some r):(b=true∧x=some r)∨(b=false∧y=some r):=by cases b <;> simpa using h
theorem iteNd (h:(if c then x else none)=some r):decide c=true∧x=some r:=⟨decide_eq_true (iteN h).1,(iteN h).2⟩
theorem iteEd (h:(if c then x else y)=some r):(decide c=true∧x=some r)∨(decide c=false∧y=some r):=(iteE h).imp (fun z=>⟨decide_eq_true z.1,z.2⟩) (fun z=>⟨decide_eq_false z.1,z.2⟩)
end
section
variable {α:Type}{r:α}{x y:Option α}{a b:Int}
theorem gtT (h:a>b):decide (b<a)=true:=decide_eq_true h
theorem gtF (h:¬a>b):decide (b<a)=false:=decide_eq_false h
theorem geT (h:a≥b):decide (b≤a)=true:=decide_eq_true h
theorem geF (h:¬a≥b):decide (b≤a)=false:=decide_eq_false h
theorem iteEg {i:Decidable (a>b)}(h:(if a>b then x else y)=some r):(@decide (b<a) (Int.decLt b a)=true∧x=some r)∨(@decide (b<a) (Int.decLt b a)=false∧y=some r):=(iteE h).imp (fun z=>⟨gtT z.1,z.2⟩) (fun z=>⟨gtF z.1,z.2⟩)
theorem iteEe {i:Decidable (a≥b)}(h:(if a≥b then x else y)=some r):(@decide (b≤a) (Int.decLe b a)=true∧x=some r)∨(@decide (b≤a) (Int.decLe b a)=false∧y=some r):=(iteE h).imp (fun z=>⟨geT z.1,z.2⟩) (fun z=>⟨geF z.1,z.2⟩)
end
section
variable {α β:Type}[BEq β][LawfulBEq β]{r:α}{x y:Option α}{a b:β}
theorem eqT (h:a=b):(a==b)=true∧(a != b)=false:=⟨beq_iff_eq.mpr h,bne_eq_false_iff_eq.mpr h⟩
theorem eqF (h:¬a=b):(a==b)=false∧(a != b)=true:=⟨bN_.mpr h,bne_iff_ne.mpr h⟩
theorem iteEq {i:Decidable (a=b)}(h:(if a=b then x else y)=some r):((a==b)=true∧(a != b)=false∧x=some r)∨((a==b)=false∧(a != b)=true∧¬a=b∧y=some r):=
 (iteE h).imp (fun z=>⟨(eqT z.1).1,(eqT z.1).2,z.2⟩) (fun z=>⟨(eqF z.1).1,(eqF z.1).2,z.1,z.2⟩)
end
theorem atB {P Q R:Prop}[Decidable P][Decidable Q](f:P→Q→R)(p:decide P=true:=by first|(with_reducible assumption)|assumption)(q:decide Q=true:=by first|(with_reducible assumption)|assumption):R∧(P=True)∧(Q=True):=
 ⟨f (of_decide_eq_true p) (of_decide_eq_true q),eq_true (of_decide_eq_true p),eq_true (of_decide_eq_true q)⟩
section
variable {P:Program}{f:FuncId}{args:Array Value}{w:World}{S:Value→World→Prop}
theorem mR {v:Value}{Q:World→Prop}(h:Calls P f args w fun e w'=>e=.returned v∧Q w')(k:∀w',Q w'→S v w'):Calls P f args w fun e w'=>∃u,e=.returned u∧S u w':=h.mono (fun _ w' z=>⟨v,z.1,k w' z.2⟩)
end
section
variable {w W:World}{a b c d:Addr}{s t u v:Value}(hb:Aside0 (Below w.heap.size w W))(h1:w.cell? a=some s)(h2:w.cell? b=some t)(h3:w.cell? c=some u)(h4:w.cell? d=some v)
include hb h1 h2
theorem cb2:W.cell? a=some s∧W.cell? b=some t:=⟨cbl hb h1,cbl hb h2⟩
include h3
theorem cb3:W.cell? a=some s∧W.cell? b=some t∧W.cell? c=some u:=⟨cbl hb h1,cbl hb h2,cbl hb h3⟩
include h4
theorem cb4:W.cell? a=some s∧W.cell? b=some t∧W.cell? c=some u∧W.cell? d=some v:=⟨cbl hb h1,cbl hb h2,cbl hb h3,cbl hb h4⟩
end
theorem zz0 {B:Prop}(f:B:=by first|rfl|(simp only[i64_w,i32_w];done)|(simp only[aid_isEmpty,aid_isEmpty2];done)|(simp;done)|(simp[*];done)):B:=f
theorem zz1 {B:Prop}(f:B:=by repeat(first|exact Drawn0.refl _|apply Drawn0.step)):B:=f
theorem zz3 {B:Prop}(f:B:=by first|rfl|(simp only[i64_w,i32_w];done)|(simp only[aid_isEmpty,aid_isEmpty2];done)|(simp;done)|((simp only[←hji9] <;> (first|rfl|simp));done)|(simp[*];done)):B:=f
theorem zz4 {B A0:Prop}(a0:Aside0 A0)(f:A0→B:=by intro g0_;have:=g0_;omega):B:=f a0.out
theorem zz5 {B:Prop}(f:B:=by first|(go_simp;done)|(go_simp;rfl)):B:=f
theorem zz6 {B A0:Prop}(a0:Aside0 A0)(f:A0→B:=by intro g0_;repeat(first|(with_reducible first|exact g0_|apply below_alloc|apply pw_below_drewN|apply below_drew1)|exact g0_)):B:=f a0.out
theorem zz7 {B A0:Prop}(a0:Aside0 A0)(f:A0→B:=by intro g0_;first|(with_reducible exact g0_)|((with_reducible repeat(first|apply Kd.R_alloc|apply Kd.R_drewN|apply Kd.R_drew));exact g0_)):B:=f a0.out
theorem zz9 {B:Prop}(f:B:=by first|rfl|(simp[errW_none,errW_some] <;> rfl)|(simp[*,errW_none,errW_some] <;> rfl)):B:=f
theorem zz10 {B:Prop}(f:B:=by first|omega|exact lL_ _):B:=f
theorem zz12 {B A0:Prop}(a0:Aside0 A0)(f:A0→B:=by intro g0_;have:=g0_;first|omega|exact lL_ _):B:=f a0.out
theorem zz16 {B A0 A1:Prop}(a0:Aside0 A0)(a1:Aside0 A1)(f:A0→A1→B:=by intro g0_ g1_;have:=g0_;have:=g1_;omega):B:=f a0.out a1.out
theorem zz18 {B A0:Prop}(a0:Aside0 A0)(f:A0→B:=by intro g0_;first|(with_reducible exact g0_)|((with_reducible repeat(first|apply blk_drewN|apply blk_drew|apply blk_alloc));exact g0_)):B:=f a0.out
theorem zz19 {B A0 A1:Prop}(a0:Aside0 A0)(a1:Aside0 A1)(f:A0→A1→B:=by intro g0_ g1_;repeat(first|(with_reducible first|exact g0_|apply below_alloc|apply pw_below_drewN|apply below_drew1|refine below_set ?_ g1_)|exact g0_)):B:=f a0.out a1.out
theorem zz22 {B A0:Prop}(a0:Aside0 A0)(f:A0→B:=by intro g0_;first|((repeat(first|(with_reducible first|exact g0_|refine blk_drewN ?_ _|refine blk_drew ?_|refine blk_alloc ?_ _|apply blk_put)|exact g0_));all_goals rfl;done)|(apply blk_put (i:=3);apply blk_put (i:=2);apply blk_put (i:=1);apply blk_put (i:=0);exact g0_;all_goals rfl)):B:=f a0.out
theorem zz23 {B A0:Prop}(a0:Aside0 A0)(f:A0→B:=by intro g0_;apply Kd.R_mono;(focus ((repeat(first|(with_reducible first|exact g0_|apply Kd.R_alloc|apply Kd.R_drewN|apply Kd.R_drew|apply Kd.R_far)|exact g0_));all_goals (intro _ hk_;first|exact hk_.2|exact hk_.1.2|exact hk_.1.1.2|exact hk_.1.1.1.2|exact hk_.1.1.1.1.2|exact hk_.1.1.1.1.1.2|exact hk_.1.1.1.1.1.1.2)));intro _ hk_;first|exact trivial|(repeat' (with_reducible apply And.intro)) <;> first|exact hk_|exact hk_.2|exact hk_.1.2|exact hk_.1.1.2|exact hk_.1.1.1.2|exact hk_.1.1.1.1.2|exact hk_.1.1.1.1.1.2|exact hk_.1.1.1.1.1.1.2|exact hk_.1|exact hk_.1.1|exact hk_.1.1.1|exact hk_.1.1.1.1|exact hk_.1.1.1.1.1|exact hk_.1.1.1.1.1.1|exact hk_.2.2|exact hk_.1.2.2|exact hk_.1.1.2.2|exact hk_.1.1.1.2.2|exact hk_.1.1.1.1.2.2|exact hk_.1.1.1.1.1.2.2|exact hk_.1.1.1.1.1.1.2.2|exact hk_.2.2.2|exact hk_.1.2.2.2|exact hk_.1.1.2.2.2|exact hk_.1.1.1.2.2.2|exact hk_.1.1.1.1.2.2.2|exact hk_.1.1.1.1.1.2.2.2|exact hk_.1.1.1.1.1.1.2.2.2|exact hk_.2.2.2.2|exact hk_.1.2.2.2.2|exact hk_.1.1.2.2.2.2|exact hk_.1.1.1.2.2.2.2|exact hk_.1.1.1.1.2.2.2.2|exact hk_.1.1.1.1.1.2.2.2.2|exact hk_.1.1.1.1.1.1.2.2.2.2|exact hk_.2.2.2.2.2|exact hk_.1.2.2.2.2.2|exact hk_.1.1.2.2.2.2.2|exact hk_.1.1.1.2.2.2.2.2|exact hk_.1.1.1.1.2.2.2.2.2|exact hk_.1.1.1.1.1.2.2.2.2.2|exact hk_.1.1.1.1.1.1.2.2.2.2.2|exact hk_.2.1|exact hk_.1.2.1|exact hk_.1.1.2.1|exact hk_.1.1.1.2.1|exact hk_.1.1.1.1.2.1|exact hk_.1.1.1.1.1.2.1|exact hk_.2.2.1|exact hk_.1.2.2.1|exact hk_.1.1.2.2.1|exact hk_.1.1.1.2.2.1|exact hk_.1.1.1.1.2.2.1|exact hk_.1.1.1.1.1.2.2.1|exact hk_.2.2.2.1|exact hk_.1.2.2.2.1|exact hk_.1.1.2.2.2.1|exact hk_.1.1.1.2.2.2.1|exact hk_.1.1.1.1.2.2.2.1|exact hk_.1.1.1.1.1.2.2.2.1|exact hk_.2.2.2.2.1|exact hk_.1.2.2.2.2.1|exact hk_.1.1.2.2.2.2.1|exact hk_.1.1.1.2.2.2.2.1|exact hk_.1.1.1.1.2.2.2.2.1|exact hk_.1.1.1.1.1.2.2.2.2.1|exact hk_.2.2.2.2.2.1|exact hk_.1.2.2.2.2.2.1|exact hk_.1.1.2.2.2.2.2.1|exact hk_.1.1.1.2.2.2.2.2.1|exact hk_.1.1.1.1.2.2.2.2.2.1|exact hk_.1.1.1.1.1.2.2.2.2.2.1):B:=f a0.out
theorem zz24 {B A0 A1:Prop}(a0:Aside0 A0)(a1:Aside0 A1)(f:A0→A1→B:=by intro g0_ g1_;(repeat(first|(with_reducible first|exact g0_|refine blk_drewN ?_ _|refine blk_drew ?_|refine blk_alloc ?_ _|apply blk_put|apply blk_far)|exact g0_));all_goals first|rfl|exact g1_):B:=f a0.out a1.out
theorem zz25 {B A0:Prop}(a0:Aside0 A0)(f:A0→B:=by intro g0_;first|((repeat(first|(with_reducible first|exact g0_|refine blk_drewN ?_ _|refine blk_drew ?_|refine blk_alloc ?_ _|apply blk_put)|exact g0_));all_goals rfl;done)|(apply blk_put (i:=2);apply blk_put (i:=1);apply blk_put (i:=0);exact g0_;all_goals rfl)):B:=f a0.out
theorem zz26 {B A0 A1 A2:Prop}(a0:Aside0 A0)(a1:Aside0 A1)(a2:Aside0 A2)(f:A0→A1→A2→B:=by intro g0_ g1_ g2_;repeat(first|(with_reducible first|exact g0_|apply below_alloc|apply pw_below_drewN|apply below_drew1|refine below_set ?_ g1_|refine below_set ?_ g2_)|exact g0_)):B:=f a0.out a1.out a2.out
theorem zz29 {B A0 A1:Prop}(a0:Aside0 A0)(a1:Aside0 A1)(f:A0→A1→B:=by intro g0_ g1_;repeat(first|exact(Kd.C_below g0_ g1_)|(with_reducible refine Kd.C_alloc ?_ _)|(with_reducible refine Kd.C_drewN ?_ _)|(with_reducible refine Kd.C_drew ?_))):B:=f a0.out a1.out
theorem zz30 {B A0:Prop}(a0:Aside0 A0)(f:A0→B:=by intro g0_;first|((repeat(first|(with_reducible first|exact g0_|refine blk_drewN ?_ _|refine blk_drew ?_|refine blk_alloc ?_ _|apply blk_put)|exact g0_));all_goals rfl;done)|(apply blk_put (i:=1);exact g0_;all_goals rfl)):B:=f a0.out
theorem zz31 {B A0:Prop}(a0:Aside0 A0)(f:A0→B:=by intro g0_;first|((repeat(first|(with_reducible first|exact g0_|refine blk_drewN ?_ _|refine blk_drew ?_|refine blk_alloc ?_ _|apply blk_put)|exact g0_));all_goals rfl;done)|(apply blk_put (i:=2);exact g0_;all_goals rfl)):B:=f a0.out
theorem zz37 {B A0:Prop}(a0:Aside0 A0)(f:A0→B:=by intro g0_;repeat(first|(with_reducible first|exact g0_|apply IsS105.alloc|apply IsS105.drewN|apply IsS105.drew|apply IsS105.set_1)|exact g0_)):B:=f a0.out
theorem zz38 {B A0:Prop}(a0:Aside0 A0)(f:A0→B:=by intro g0_;repeat(first|(with_reducible first|exact g0_|apply KeepBut.set_|apply keep_drewN|apply keep_drew|apply keep_alloc)|exact g0_)):B:=f a0.out
theorem zz39 {B A0 A1:Prop}(a0:Aside0 A0)(a1:Aside0 A1)(f:A0→A1→B:=by intro g0_ g1_;repeat(first|(with_reducible first|exact g0_|apply below_alloc|apply pw_below_drewN|apply below_drew1|refine below_set ?_ (IsS105.ge g1_))|exact g0_)):B:=f a0.out a1.out
theorem zz41 {B:Prop}(f:B:=by first|rfl|(simp[errW_none,errW_some] <;> rfl)|(simp only[←hji9];first|rfl|(simp[errW_none,errW_some] <;> rfl))|(simp[*,errW_none,errW_some] <;> rfl)):B:=f
theorem zz45 {B:Prop}(f:B:=by(try simp only[List.map_toArray,List.map_cons,List.map_nil]);first|done|rfl|(simp only[List.length_drop,lT_];rfl)):B:=f
theorem zz46 {B A0:Prop}(a0:Aside0 A0)(f:A0→B:=by intro g0_;repeat(first|exact(Kd.R_reads' g0_).2.2|(with_reducible refine Kd.C_alloc ?_ _)|(with_reducible refine Kd.C_drewN ?_ _)|(with_reducible refine Kd.C_drew ?_))):B:=f a0.out
theorem zz48 {B A0:Prop}(a0:Aside0 A0)(f:A0→B:=by intro g0_;(with_reducible repeat(first|apply Kd.S_alloc|apply Kd.S_drewN|apply Kd.S_drew));exact g0_):B:=f a0.out
theorem zz50 {B A0 A1:Prop}(a0:Aside0 A0)(a1:Aside0 A1)(f:A0→A1→B:=by intro g0_ g1_;repeat(first|(with_reducible first|exact g0_|apply IsS105.alloc|apply IsS105.drewN|apply IsS105.drew|apply IsS105.set_1|refine IsS105.far ?_ g1_ _)|exact g0_)):B:=f a0.out a1.out
theorem zz51 {B A0 A1 A2:Prop}(a0:Aside0 A0)(a1:Aside0 A1)(a2:Aside0 A2)(f:A0→A1→A2→B:=by intro g0_ g1_ g2_;repeat(first|(with_reducible first|exact g0_|apply below_alloc|apply pw_below_drewN|apply below_drew1|refine below_set ?_ (IsS105.ge g1_)|refine below_set ?_ g2_)|exact g0_)):B:=f a0.out a1.out a2.out
theorem zz53 {B A0 A1:Prop}(a0:Aside0 A0)(a1:Aside0 A1)(f:A0→A1→B:=by intro g0_ g1_;(with_reducible repeat(first|apply Kd.R_alloc|apply Kd.R_drewN|apply Kd.R_drew));exact(Kd.R_mono (Kd.R_far (p:=⟨gb765,2,none⟩) (Kd.R_far (p:=⟨gb765,1,none⟩) (Kd.R_far (p:=⟨gb765,0,none⟩) (Kd.R_types g0_ g1_ (by decide)) (fun _ hk=>hk.2) (.slice Ao23 y754.length co23)) (fun _ hk=>hk.2) (.slice Ao22 t757.length co22)) (fun _ hk=>hk.2) (.int .i64 (wrap64 (t761*t763)))) (fun _ h_=>h_.1))):B:=f a0.out a1.out
theorem zz54 {B A0 A1:Prop}(a0:Aside0 A0)(a1:Aside0 A1)(f:A0→A1→B:=by intro g0_ g1_;repeat(first|(with_reducible first|exact g0_|apply KeepBut.set_|apply keep_drewN|apply keep_drew|apply keep_alloc|refine keep_far ?_ g1_ _)|exact g0_)):B:=f a0.out a1.out
theorem zz55 {B A0:Prop}(a0:Aside0 A0)(f:A0→B:=by intro g0_;(with_reducible repeat(first|apply Kd.R_alloc|apply Kd.R_drewN|apply Kd.R_drew));exact Kd.R_mono g0_ (fun _ hk=>⟨hk.1.2,hk.2⟩)):B:=f a0.out
theorem zz60 {B A0:Prop}(a0:Aside0 A0)(f:A0→B:=by intro g0_;(with_reducible repeat(first|apply Kd.S_alloc|apply Kd.S_drewN|apply Kd.S_drew));exact Kd.S_mono g0_ (fun k_ hk=>⟨⟨hk.1,⟨hk.2.2.1,hk.2.2.2.2⟩⟩,fun e_=>e_.elim (fun h_=>hk.2.2.2.1 h_) (fun h_=>hk.2.1 h_)⟩)):B:=f a0.out
theorem zz61 {B A0:Prop}(a0:Aside0 A0)(f:A0→B:=by intro g0_;(with_reducible repeat(first|apply Kd.S_alloc|apply Kd.S_drewN|apply Kd.S_drew));exact Kd.S_mono g0_ (fun _ hk=>trivial)):B:=f a0.out
theorem zz62 {B A0:Prop}(a0:Aside0 A0)(f:A0→B:=by intro g0_;(with_reducible repeat(first|apply Kd.S_alloc|apply Kd.S_drewN|apply Kd.S_drew));exact Kd.S_mono g0_ (fun k_ hk=>⟨⟨hk.1.1.1.2,hk.2⟩,fun e_=>e_.elim (fun h_=>hk.1.1.2 h_) (fun h_=>hk.1.2 h_)⟩)):B:=f a0.out
theorem zz63 {B A0:Prop}(a0:Aside0 A0)(f:A0→B:=by intro g0_;(with_reducible repeat(first|apply Kd.S_alloc|apply Kd.S_drewN|apply Kd.S_drew));exact Kd.S_mono g0_ (fun k_ hk=>⟨trivial,fun e_=>hk.2 e_⟩)):B:=f a0.out
theorem zz68 {B:Prop}(f:B:=by first|exact Kd.R_nil _ _ _ _ _|exact Kd.N_nil _ _ _ _ _|exact Kd.V_nil _ _ _ _ _|exact Kd.Q_nil _ _ _ _ _|exact Kd.S_nil _ _ _ _ _):B:=f
theorem zz83 {B:Prop}(f:B:=by first|rfl|(simp only[i64_w,i32_w];done)|(simp only[aid_isEmpty,aid_isEmpty2];done)|(simp;done)|((simp only[←hji6] <;> (first|rfl|simp));done)|(simp[*];done)):B:=f
theorem zz84 {B A0:Prop}(a0:Aside0 A0)(f:A0→B:=by intro g0_;repeat(first|exact g0_|(with_reducible refine Kd.C_alloc ?_ _)|(with_reducible refine Kd.C_drewN ?_ _)|(with_reducible refine Kd.C_drew ?_))):B:=f a0.out
theorem zz103 {B A0:Prop}(a0:Aside0 A0)(f:A0→B:=by intro g0_;(with_reducible repeat(first|apply Kd.R_alloc|apply Kd.R_drewN|apply Kd.R_drew));exact Kd.R_mono g0_ (fun _ hk=>hk.2)):B:=f a0.out
theorem zz107 {B A0:Prop}(a0:Aside0 A0)(f:A0→B:=by intro g0_;(with_reducible repeat(first|apply Kd.R_alloc|apply Kd.R_drewN|apply Kd.R_drew));exact Kd.R_mono g0_ (fun _ hk=>⟨trivial,hk⟩)):B:=f a0.out
theorem zz108 {B A0 A1 A2:Prop}(a0:Aside0 A0)(a1:Aside0 A1)(a2:Aside0 A2)(f:A0→A1→A2→B:=by intro g0_ g1_ g2_;have:=g0_;have:=g1_;have:=g2_;omega):B:=f a0.out a1.out a2.out
theorem zz109 {B A0:Prop}(a0:Aside0 A0)(f:A0→B:=by intro g0_;(try simp only[hl9_3]);(with_reducible repeat(first|apply Kd.R_alloc|apply Kd.R_drewN|apply Kd.R_drew));exact Kd.R_mono g0_ (fun _ hk=>hk.2)):B:=f a0.out
theorem zz110 {B A0:Prop}(a0:Aside0 A0)(f:A0→B:=by intro g0_;(try simp only[hl9_3]);(with_reducible repeat(first|apply Kd.R_alloc|apply Kd.R_drewN|apply Kd.R_drew));exact g0_):B:=f a0.out
theorem zz120 {B A0:Prop}(a0:Aside0 A0)(f:A0→B:=by intro g0_;first|((repeat(first|(with_reducible first|exact g0_|refine blk_drewN ?_ _|refine blk_drew ?_|refine blk_alloc ?_ _|apply blk_put)|exact g0_));all_goals rfl;done)|(apply blk_put (i:=1);apply blk_put (i:=0);exact g0_;all_goals rfl)):B:=f a0.out
theorem zz135 {B A0:Prop}(a0:Aside0 A0)(f:A0→B:=by intro g0_;(with_reducible repeat(first|apply Kd.R_alloc|apply Kd.R_drewN|apply Kd.R_drew));exact Kd.R_mono g0_ (fun _ hk=>⟨hk.2,hk.1⟩)):B:=f a0.out
theorem zz136 {B A0 A1 A2 A3:Prop}(a0:Aside0 A0)(a1:Aside0 A1)(a2:Aside0 A2)(a3:Aside0 A3)(f:A0→A1→A2→A3→B:=by intro g0_ g1_ g2_ g3_;repeat(first|(with_reducible first|exact g0_|apply below_alloc|apply pw_below_drewN|apply below_drew1|refine below_set ?_ g1_|refine below_set ?_ g2_|refine below_set ?_ g3_)|exact g0_)):B:=f a0.out a1.out a2.out a3.out
theorem zz137 {B A0:Prop}(a0:Aside0 A0)(f:A0→B:=by intro g0_;repeat(first|exact(Kd.S_reads' g0_).2.2|(with_reducible refine Kd.C_alloc ?_ _)|(with_reducible refine Kd.C_drewN ?_ _)|(with_reducible refine Kd.C_drew ?_))):B:=f a0.out
theorem zz140 {B A0 A1:Prop}(a0:Aside0 A0)(a1:Aside0 A1)(f:A0→A1→B:=by intro g0_ g1_;(with_reducible repeat(first|apply Kd.R_alloc|apply Kd.R_drewN|apply Kd.R_drew));exact(Kd.R_mono (Kd.R_far (p:=⟨gb811,2,none⟩) (Kd.R_types g0_ g1_ (by decide)) (fun _ hk=>hk.2) (.bool true)) (fun _ h_=>h_.1))):B:=f a0.out a1.out
theorem zz141 {B A0 A1:Prop}(a0:Aside0 A0)(a1:Aside0 A1)(f:A0→A1→B:=by intro g0_ g1_;(with_reducible repeat(first|apply Kd.R_alloc|apply Kd.R_drewN|apply Kd.R_drew));exact(Kd.R_mono (Kd.R_far (p:=⟨gb811,3,none⟩) (Kd.R_types g0_ g1_ (by decide)) (fun _ hk=>hk.2) (.string t827)) (fun _ h_=>h_.1))):B:=f a0.out a1.out
theorem zz147 {B A0 A1:Prop}(a0:Aside0 A0)(a1:Aside0 A1)(f:A0→A1→B:=by intro g0_ g1_;first|(rw[add_block];exact Kd.own_blk (IsS105.own_ne g0_ g1_ (by decide)))|(show(Addr.add _ _).block≠_;rw[add_block];exact Kd.own_blk (IsS105.own_ne g0_ g1_ (by decide)))|exact Kd.own_blk (IsS105.own_ne g0_ g1_ (by decide))):B:=f a0.out a1.out
theorem zz148 {B:Prop}(f:B:=by first|(simp only[putAll,Act.put,lS_,l0_,lC_];done)|(simp only[putAll,Act.put,lS_,l0_,lC_];rfl)):B:=f
theorem zz149 {B A0:Prop}(a0:Aside0 A0)(f:A0→B:=by intro g0_;(with_reducible repeat(first|apply Kd.S_alloc|apply Kd.S_drewN|apply Kd.S_drew));exact Kd.S_mono g0_ (fun _ hk=>hk.2)):B:=f a0.out
theorem zz151 {B A0 A1:Prop}(a0:Aside0 A0)(a1:Aside0 A1)(f:A0→A1→B:=by intro g0_ g1_;first|exact Kd.own_blk (Kd.R_ne g0_ g1_ (by decide))|(rw[add_block];exact Kd.own_blk (Kd.R_ne g0_ g1_ (by decide)))|(show(Addr.add _ _).block≠_;rw[add_block];exact Kd.own_blk (Kd.R_ne g0_ g1_ (by decide)))|(dsimp only;exact Kd.own_blk (Kd.R_ne g0_ g1_ (by decide)))):B:=f a0.out a1.out
theorem zz153 {B A0 A1:Prop}(a0:Aside0 A0)(a1:Aside0 A1)(f:A0→A1→B:=by intro g0_ g1_;(with_reducible repeat(first|apply Kd.R_alloc|apply Kd.R_drewN|apply Kd.R_drew));exact(Kd.R_mono (Kd.R_far (p:=⟨gb899,3,none⟩) (Kd.R_far (p:=⟨gb899,2,none⟩) (Kd.R_far (p:=⟨gb899,1,none⟩) (Kd.R_far (p:=⟨gb899,0,none⟩) (Kd.R_types g0_ g1_ (by decide)) (fun _ hk=>hk.2) (.string (((⟨#[47,47]⟩:BA)++(rdOf bE_ t882 x5_1))++(⟨#[47,110,111,116,105,99,101]⟩:BA)))) (fun _ hk=>hk.2) (.string t892)) (fun _ hk=>hk.2) (.string (⟨#[]⟩:BA))) (fun _ hk=>hk.2) (.int .i64 (rd y893 t896))) (fun _ h_=>h_.1))):B:=f a0.out a1.out
theorem zz156 {B A0 A1:Prop}(a0:Aside0 A0)(a1:Aside0 A1)(f:A0→A1→B:=by intro g0_ g1_;(with_reducible repeat(first|apply Kd.R_alloc|apply Kd.R_drewN|apply Kd.R_drew));exact(Kd.R_mono (Kd.R_far (p:=⟨gb899,1,none⟩) (Kd.R_types g0_ g1_ (by decide)) (fun _ hk=>hk.2) (.string (⟨#[]⟩:BA))) (fun _ h_=>h_.1))):B:=f a0.out a1.out
theorem zz168 {B A0:Prop}(a0:Aside0 A0)(f:A0→B:=by intro g0_;(with_reducible repeat(first|apply Kd.R_alloc|apply Kd.R_drewN|apply Kd.R_drew));exact Kd.R_mono g0_ (fun _ hk=>trivial)):B:=f a0.out
theorem zz174 {B A0:Prop}(a0:Aside0 A0)(f:A0→B:=by intro g0_;(with_reducible repeat(first|apply Kd.R_alloc|apply Kd.R_drewN|apply Kd.R_drew));exact(Kd.R_mono (Kd.R_far (p:=⟨gb922,2,none⟩) (Kd.R_mono g0_ (fun k_ hk=>(⟨hk,hk.2⟩:_∧k_≠gb922))) (fun _ hk=>hk.2) (.string t925)) (fun _ h_=>h_.1))):B:=f a0.out
theorem zz182 {B A0 A1 A2:Prop}(a0:Aside0 A0)(a1:Aside0 A1)(a2:Aside0 A2)(f:A0→A1→A2→B:=by intro g0_ g1_ g2_;repeat(first|(with_reducible first|exact g0_|apply IsS105.alloc|apply IsS105.drewN|apply IsS105.drew|apply IsS105.set_1|refine IsS105.far ?_ g1_ _|refine IsS105.far ?_ g2_ _)|exact g0_)):B:=f a0.out a1.out a2.out
theorem zz184 {B A0 A1 A2:Prop}(a0:Aside0 A0)(a1:Aside0 A1)(a2:Aside0 A2)(f:A0→A1→A2→B:=by intro g0_ g1_ g2_;repeat(first|(with_reducible first|exact g0_|apply KeepBut.set_|apply keep_drewN|apply keep_drew|apply keep_alloc|refine keep_far ?_ g1_ _|refine keep_far ?_ g2_ _)|exact g0_)):B:=f a0.out a1.out a2.out
theorem zz186 {B A0 A1 A2 A3:Prop}(a0:Aside0 A0)(a1:Aside0 A1)(a2:Aside0 A2)(a3:Aside0 A3)(f:A0→A1→A2→A3→B:=by intro g0_ g1_ g2_ g3_;repeat(first|(with_reducible first|exact g0_|apply below_alloc|apply pw_below_drewN|apply below_drew1|refine below_set ?_ (IsS105.ge g1_)|refine below_set ?_ g2_|refine below_set ?_ g3_)|exact g0_)):B:=f a0.out a1.out a2.out a3.out
theorem zz222 {B:Prop}(f:B:=by first|rfl|(simp[errW_none,errW_some] <;> rfl)|(simp only[←hji4,←hji9];first|rfl|(simp[errW_none,errW_some] <;> rfl))|(simp[*,errW_none,errW_some] <;> rfl)):B:=f
theorem zz223 {B:Prop}(f:B:=by simp[intOf];omega):B:=f
theorem zz249 {B A0 A1:Prop}(a0:Aside0 A0)(a1:Aside0 A1)(f:A0→A1→B:=by intro g0_ g1_;(with_reducible repeat(first|apply Kd.R_alloc|apply Kd.R_drewN|apply Kd.R_drew));exact(Kd.R_mono (Kd.R_far (p:=⟨gb521,3,none⟩) (Kd.R_far (p:=⟨gb521,2,none⟩) (Kd.R_far (p:=⟨gb521,1,none⟩) (Kd.R_far (p:=⟨gb521,0,none⟩) (Kd.R_types g0_ g1_ (by decide)) (fun _ hk=>hk.2) (.string a0)) (fun _ hk=>hk.2) (.slice Ao31 t518.length co31)) (fun _ hk=>hk.2) (.bool t503)) (fun _ hk=>hk.2) (.string t504)) (fun _ h_=>h_.1))):B:=f a0.out a1.out
theorem zz251 {B:Prop}(f:B:=by(try simp only[List.map_toArray,List.map_cons,List.map_nil]);first|done|rfl|(simp only[List.length_drop,lT_];rfl)|(simp <;> repeat' (first|rfl|constructor))):B:=f
end Go.Proofs.YtloijngehifbmaaGreatDoor.P
end
section
namespace Go.Proofs
open Go.Shelf
def Tryz.lays156_ren:Go.Shelf.Ren:=⟨fun|156=>137|165=>161|166=>162|169=>163|240=>169|241=>170|276=>171|277=>172|n=>n,fun|31=>29|9=>9|3=>3|4=>4|0=>0|20=>20|72=>167|76=>171|70=>165|37=>37|75=>170|127=>179|164=>184|5=>5|80=>173|n=>n,fun|n=>n⟩
theorem Tryz.lays156:Go.Proofs.Lays.n156 Tryz.prog Tryz.lays156_ren:={
 mixed:=by kernel_rfl
 f156:=Tryz.func137.trans (congrArg some (by kernel_rfl))
 f165:=Tryz.func161.trans (congrArg some (by kernel_rfl))
 f166:=Tryz.func162.trans (congrArg some (by kernel_rfl))
 f169:=Tryz.func163.trans (congrArg some (by kernel_rfl))
 f240:=Tryz.func169.trans (congrArg some (by kernel_rfl))
 f241:=Tryz.func170.trans (congrArg some (by kernel_rfl))
 f276:=Tryz.func171.trans (congrArg some (by kernel_rfl))
 f277:=Tryz.func172.trans (congrArg some (by kernel_rfl))
 t0:=Tryz.underlying0
 a0:=Tryz.isAgg0
 z0:=Tryz.sizeOf0
 v0:=Tryz.zeroValue0
 t3:=Tryz.underlying3
 a3:=Tryz.isAgg3
 z3:=Tryz.sizeOf3
 v3:=Tryz.zeroValue3
 t4:=Tryz.underlying4
 a4:=Tryz.isAgg4
 z4:=Tryz.sizeOf4
 v4:=Tryz.zeroValue4
 t9:=Tryz.underlying9
 a9:=Tryz.isAgg9
 z9:=Tryz.sizeOf9
 v9:=Tryz.zeroValue9
 t20:=Tryz.underlying20
 a20:=Tryz.isAgg20
 z20:=Tryz.sizeOf20
 v20:=Tryz.zeroValue20
 t31:=Tryz.underlying29
 a31:=Tryz.isAgg29
 z31:=Tryz.sizeOf29
 v31:=Tryz.zeroValue29
 t37:=Tryz.underlying37
 a37:=Tryz.isAgg37
 z37:=Tryz.sizeOf37
 v37:=Tryz.zeroValue37
 t70:=Tryz.underlying165
 a70:=Tryz.isAgg165
 z70:=Tryz.sizeOf165
 v70:=Tryz.zeroValue165
 t72:=Tryz.underlying167
 a72:=Tryz.isAgg167
 z72:=Tryz.sizeOf167
 v72:=Tryz.zeroValue167
 t75:=Tryz.underlying170
 a75:=Tryz.isAgg170
 z75:=Tryz.sizeOf170
 v75:=Tryz.zeroValue170
 t76:=Tryz.underlying171
 a76:=Tryz.isAgg171
 z76:=Tryz.sizeOf171
 v76:=Tryz.zeroValue171
 t127:=Tryz.underlying179
 a127:=Tryz.isAgg179
 z127:=Tryz.sizeOf179
 v127:=Tryz.zeroValue179
 t164:=Tryz.underlying184
 a164:=Tryz.isAgg184
 z164:=Tryz.sizeOf184
 v164:=Tryz.zeroValue184 }
theorem Tryz.Builder_Extra_156:Builder.Extra Tryz.prog Tryz.lays156_ren:={
 sizeBuilder:=by kernel_rfl
 liesBuilder:=by kernel_rfl
 t5:=Tryz.underlying5
 a5:=Tryz.isAgg5
 z5:=Tryz.sizeOf5
 v5:=Tryz.zeroValue5
 infoByte:=by kernel_rfl
 cellsByte:=by kernel_rfl
 sizeByte:=by kernel_rfl
 neB5:=by decide }
open Go.RowKit in
theorem Tryz.strings_Join_none (a:Option Addr)(c:Nat)(sep:BA)(w:World):
  Calls Tryz.prog 137 #[.slice a 0 c,.string sep] w fun e w'=>e=.returned (.string ⟨#[]⟩)∧w'=w:=Any.strings_Join_none Tryz.lays156 Tryz.Builder_Extra_156 a c sep w
open Go.RowKit in
theorem Tryz.strings_Join (bk o c:Nat)(xs:List BA)(sep:BA)(w:World)(hcells:∀(j:Nat) x,xs[j]?=some x→w.cell? ⟨bk,o+j,none⟩=some (.string x))(hbk:bk<w.heap.size)(hN:xs.length≤140737488355328)(hcap:xs.length≤c)(hlen:(Lib.join (xs.map (·.data.toList)) sep.data.toList).length≤140737488355328):
  Calls Tryz.prog 137 #[.slice (some ⟨bk,o,none⟩) xs.length c,.string sep] w fun e w'=>e=.returned (.string ⟨(Lib.join (xs.map (·.data.toList)) sep.data.toList).toArray⟩)∧Below w.heap.size w w':=Any.strings_Join Tryz.lays156 Tryz.Builder_Extra_156 bk o c xs sep w hcells hbk hN hcap hlen
def Tryz.lays119_ren:Go.Shelf.Ren:=⟨fun|119=>159|n=>n,fun|21=>21|4=>4|n=>n,fun|n=>n⟩
theorem Tryz.lays119:Go.Proofs.Lays.n119 Tryz.prog Tryz.lays119_ren:={
 mixed:=by kernel_rfl
 f119:=Tryz.func159.trans (congrArg some (by kernel_rfl))
 t4:=Tryz.underlying4
 a4:=Tryz.isAgg4
 z4:=Tryz.sizeOf4
 v4:=Tryz.zeroValue4
 t21:=Tryz.underlying21
 a21:=Tryz.isAgg21
 z21:=Tryz.sizeOf21
 v21:=Tryz.zeroValue21 }
theorem Tryz.utf8_ValidRune (r:Int)(w:World):
  Calls Tryz.prog 159 #[.int .i32 r] w fun e w'=>e=.returned (.bool (Lib.validRune r))∧w'=w:=Any.utf8_ValidRune Tryz.lays119 r w
def Tryz.lays137_ren:Go.Shelf.Ren:=⟨fun|137=>158|217=>153|266=>166|n=>n,fun|9=>9|5=>5|3=>3|n=>n,fun|n=>n⟩
theorem Tryz.lays137:Go.Proofs.Lays.n137 Tryz.prog Tryz.lays137_ren:={
 mixed:=by kernel_rfl
 f137:=Tryz.func158.trans (congrArg some (by kernel_rfl))
 f217:=Tryz.func153.trans (congrArg some (by kernel_rfl))
 f266:=Tryz.func166.trans (congrArg some (by kernel_rfl))
 t3:=Tryz.underlying3
 a3:=Tryz.isAgg3
 z3:=Tryz.sizeOf3
 v3:=Tryz.zeroValue3
 t5:=Tryz.underlying5
 a5:=Tryz.isAgg5
 z5:=Tryz.sizeOf5
 v5:=Tryz.zeroValue5
 t9:=Tryz.underlying9
 a9:=Tryz.isAgg9
 z9:=Tryz.sizeOf9
 v9:=Tryz.zeroValue9 }
open Go.RowKit in
theorem Tryz.strings_IndexByte (s:BA)(c:Int)(w:World):
  Calls Tryz.prog 158 #[.string s,.int .u8 c] w fun e w'=>e=.returned (.int .i64 (Lib.indexByte s.data.toList c.toNat.toUInt8))∧w'=w:=Any.strings_IndexByte Tryz.lays137 s c w
def Tryz.lays210_ren:Go.Shelf.Ren:=⟨fun|210=>127|206=>157|n=>n,fun|9=>9|4=>4|3=>3|n=>n,fun|n=>n⟩
theorem Tryz.lays210:Go.Proofs.Lays.n210 Tryz.prog Tryz.lays210_ren:={
 mixed:=by kernel_rfl
 f206:=Tryz.func157.trans (congrArg some (by kernel_rfl))
 f210:=Tryz.func127.trans (congrArg some (by kernel_rfl))
 t3:=Tryz.underlying3
 a3:=Tryz.isAgg3
 z3:=Tryz.sizeOf3
 v3:=Tryz.zeroValue3
 t4:=Tryz.underlying4
 a4:=Tryz.isAgg4
 z4:=Tryz.sizeOf4
 v4:=Tryz.zeroValue4
 t9:=Tryz.underlying9
 a9:=Tryz.isAgg9
 z9:=Tryz.sizeOf9
 v9:=Tryz.zeroValue9 }
open Go.RowKit in
theorem Tryz.stringslite_CutPrefix (s p:BA)(w:World):
  Calls Tryz.prog 127 #[.string s,.string p] w fun e w'=>e=.returned (.tuple #[.string ⟨(Lib.trimPrefix s.data.toList p.data.toList).toArray⟩,.bool (Lib.hasPrefix s.data.toList p.data.toList)])∧w'=w:=Any.stringslite_CutPrefix Tryz.lays210 s p w
def Tryz.lays103_ren:Go.Shelf.Ren:=⟨fun|103=>97|210=>127|206=>157|n=>n,fun|9=>9|4=>4|24=>121|3=>3|n=>n,fun|n=>n⟩
theorem Tryz.lays103:Go.Proofs.Lays.n103 Tryz.prog Tryz.lays103_ren:={
 mixed:=by kernel_rfl
 f103:=Tryz.func97.trans (congrArg some (by kernel_rfl))
 f206:=Tryz.func157.trans (congrArg some (by kernel_rfl))
 f210:=Tryz.func127.trans (congrArg some (by kernel_rfl))
 t3:=Tryz.underlying3
 a3:=Tryz.isAgg3
 z3:=Tryz.sizeOf3
 v3:=Tryz.zeroValue3
 t4:=Tryz.underlying4
 a4:=Tryz.isAgg4
 z4:=Tryz.sizeOf4
 v4:=Tryz.zeroValue4
 t9:=Tryz.underlying9
 a9:=Tryz.isAgg9
 z9:=Tryz.sizeOf9
 v9:=Tryz.zeroValue9
 t24:=Tryz.underlying121
 a24:=Tryz.isAgg121
 z24:=Tryz.sizeOf121
 v24:=Tryz.zeroValue121 }
open Go.RowKit in
theorem Tryz.strings_CutPrefix (s p:BA)(w:World):
  Calls Tryz.prog 97 #[.string s,.string p] w fun e w'=>e=.returned (.tuple #[.string ⟨(Lib.trimPrefix s.data.toList p.data.toList).toArray⟩,.bool (Lib.hasPrefix s.data.toList p.data.toList)])∧w'=w:=Any.strings_CutPrefix Tryz.lays103 s p w
def Tryz.lays211_ren:Go.Shelf.Ren:=⟨fun|211=>117|207=>147|n=>n,fun|9=>9|4=>4|3=>3|n=>n,fun|n=>n⟩
theorem Tryz.lays211:Go.Proofs.Lays.n211 Tryz.prog Tryz.lays211_ren:={
 mixed:=by kernel_rfl
 f207:=Tryz.func147.trans (congrArg some (by kernel_rfl))
 f211:=Tryz.func117.trans (congrArg some (by kernel_rfl))
 t3:=Tryz.underlying3
 a3:=Tryz.isAgg3
 z3:=Tryz.sizeOf3
 v3:=Tryz.zeroValue3
 t4:=Tryz.underlying4
 a4:=Tryz.isAgg4
 z4:=Tryz.sizeOf4
 v4:=Tryz.zeroValue4
 t9:=Tryz.underlying9
 a9:=Tryz.isAgg9
 z9:=Tryz.sizeOf9
 v9:=Tryz.zeroValue9 }
open Go.RowKit in
theorem Tryz.stringslite_CutSuffix (s p:BA)(w:World)(hs:s.size≤9223372036854775807):
  Calls Tryz.prog 117 #[.string s,.string p] w fun e w'=>e=.returned (.tuple #[.string ⟨(Lib.trimSuffix s.data.toList p.data.toList).toArray⟩,.bool (Lib.hasSuffix s.data.toList p.data.toList)])∧w'=w:=Any.stringslite_CutSuffix Tryz.lays211 s p w hs
def Tryz.lays104_ren:Go.Shelf.Ren:=⟨fun|104=>89|211=>117|207=>147|n=>n,fun|9=>9|4=>4|24=>121|3=>3|n=>n,fun|n=>n⟩
theorem Tryz.lays104:Go.Proofs.Lays.n104 Tryz.prog Tryz.lays104_ren:={
 mixed:=by kernel_rfl
 f104:=Tryz.func89.trans (congrArg some (by kernel_rfl))
 f207:=Tryz.func147.trans (congrArg some (by kernel_rfl))
 f211:=Tryz.func117.trans (congrArg some (by kernel_rfl))
 t3:=Tryz.underlying3
 a3:=Tryz.isAgg3
 z3:=Tryz.sizeOf3
 v3:=Tryz.zeroValue3
 t4:=Tryz.underlying4
 a4:=Tryz.isAgg4
 z4:=Tryz.sizeOf4
 v4:=Tryz.zeroValue4
 t9:=Tryz.underlying9
 a9:=Tryz.isAgg9
 z9:=Tryz.sizeOf9
 v9:=Tryz.zeroValue9
 t24:=Tryz.underlying121
 a24:=Tryz.isAgg121
 z24:=Tryz.sizeOf121
 v24:=Tryz.zeroValue121 }
open Go.RowKit in
theorem Tryz.strings_CutSuffix (s p:BA)(w:World)(hs:s.size≤9223372036854775807):
  Calls Tryz.prog 89 #[.string s,.string p] w fun e w'=>e=.returned (.tuple #[.string ⟨(Lib.trimSuffix s.data.toList p.data.toList).toArray⟩,.bool (Lib.hasSuffix s.data.toList p.data.toList)])∧w'=w:=Any.strings_CutSuffix Tryz.lays104 s p w hs
def Tryz.lays219_ren:Go.Shelf.Ren:=⟨fun|219=>126|217=>153|225=>154|224=>155|267=>156|266=>166|314=>167|n=>n,fun|9=>9|3=>3|4=>4|5=>5|46=>160|146=>175|51=>174|n=>n,fun|1=>0|n=>n⟩
theorem Tryz.lays219:Go.Proofs.Lays.n219 Tryz.prog Tryz.lays219_ren:={
 mixed:=by kernel_rfl
 f217:=Tryz.func153.trans (congrArg some (by kernel_rfl))
 f219:=Tryz.func126.trans (congrArg some (by kernel_rfl))
 f224:=Tryz.func155.trans (congrArg some (by kernel_rfl))
 f225:=Tryz.func154.trans (congrArg some (by kernel_rfl))
 f266:=Tryz.func166.trans (congrArg some (by kernel_rfl))
 f267:=Tryz.func156.trans (congrArg some (by kernel_rfl))
 f314:=Tryz.func167.trans (congrArg some (by kernel_rfl))
 t3:=Tryz.underlying3
 a3:=Tryz.isAgg3
 z3:=Tryz.sizeOf3
 v3:=Tryz.zeroValue3
 t4:=Tryz.underlying4
 a4:=Tryz.isAgg4
 z4:=Tryz.sizeOf4
 v4:=Tryz.zeroValue4
 t5:=Tryz.underlying5
 a5:=Tryz.isAgg5
 z5:=Tryz.sizeOf5
 v5:=Tryz.zeroValue5
 t9:=Tryz.underlying9
 a9:=Tryz.isAgg9
 z9:=Tryz.sizeOf9
 v9:=Tryz.zeroValue9
 t46:=Tryz.underlying160
 a46:=Tryz.isAgg160
 z46:=Tryz.sizeOf160
 v46:=Tryz.zeroValue160
 t51:=Tryz.underlying174
 a51:=Tryz.isAgg174
 z51:=Tryz.sizeOf174
 v51:=Tryz.zeroValue174
 t146:=Tryz.underlying175
 a146:=Tryz.isAgg175
 z146:=Tryz.sizeOf175
 v146:=Tryz.zeroValue175
 g1:=by kernel_rfl }
open Go.RowKit Go.Lib in
theorem Tryz.stringslite_Index_one (s:BA)(c:UInt8)(w:World):
  Calls Tryz.prog 126 #[.string s,.string ⟨#[c]⟩] w fun e w'=>e=.returned (.int .i64 (Lib.indexByte s.data.toList c))∧w'=w:=Any.stringslite_Index_one Tryz.lays219 s c w
open Go.RowKit Go.Lib in
theorem Tryz.stringslite_Index (s sub:BA)(m:Int)(w:World)(hs:s.size<4294967281)(hm:w.cell? ⟨0,0,none⟩=some (.int .i64 m)):
  Calls Tryz.prog 126 #[.string s,.string sub] w fun e w'=>e=.returned (.int .i64 (Lib.index s.data.toList sub.data.toList))∧w'=w:=Any.stringslite_Index Tryz.lays219 s sub m w hs hm
def Tryz.lays143_ren:Go.Shelf.Ren:=⟨fun|143=>114|219=>126|217=>153|225=>154|224=>155|267=>156|266=>166|314=>167|n=>n,fun|9=>9|3=>3|4=>4|5=>5|46=>160|146=>175|51=>174|n=>n,fun|1=>0|n=>n⟩
theorem Tryz.lays143:Go.Proofs.Lays.n143 Tryz.prog Tryz.lays143_ren:={
 mixed:=by kernel_rfl
 f143:=Tryz.func114.trans (congrArg some (by kernel_rfl))
 f217:=Tryz.func153.trans (congrArg some (by kernel_rfl))
 f219:=Tryz.func126.trans (congrArg some (by kernel_rfl))
 f224:=Tryz.func155.trans (congrArg some (by kernel_rfl))
 f225:=Tryz.func154.trans (congrArg some (by kernel_rfl))
 f266:=Tryz.func166.trans (congrArg some (by kernel_rfl))
 f267:=Tryz.func156.trans (congrArg some (by kernel_rfl))
 f314:=Tryz.func167.trans (congrArg some (by kernel_rfl))
 t3:=Tryz.underlying3
 a3:=Tryz.isAgg3
 z3:=Tryz.sizeOf3
 v3:=Tryz.zeroValue3
 t4:=Tryz.underlying4
 a4:=Tryz.isAgg4
 z4:=Tryz.sizeOf4
 v4:=Tryz.zeroValue4
 t5:=Tryz.underlying5
 a5:=Tryz.isAgg5
 z5:=Tryz.sizeOf5
 v5:=Tryz.zeroValue5
 t9:=Tryz.underlying9
 a9:=Tryz.isAgg9
 z9:=Tryz.sizeOf9
 v9:=Tryz.zeroValue9
 t46:=Tryz.underlying160
 a46:=Tryz.isAgg160
 z46:=Tryz.sizeOf160
 v46:=Tryz.zeroValue160
 t51:=Tryz.underlying174
 a51:=Tryz.isAgg174
 z51:=Tryz.sizeOf174
 v51:=Tryz.zeroValue174
 t146:=Tryz.underlying175
 a146:=Tryz.isAgg175
 z146:=Tryz.sizeOf175
 v146:=Tryz.zeroValue175
 g1:=by kernel_rfl }
open Go.RowKit Go.Lib in
theorem Tryz.strings_Index (s sub:BA)(m:Int)(w:World)(hs:s.size<4294967281)(hm:w.cell? ⟨0,0,none⟩=some (.int .i64 m)):
  Calls Tryz.prog 114 #[.string s,.string sub] w fun e w'=>e=.returned (.int .i64 (Lib.index s.data.toList sub.data.toList))∧w'=w:=Any.strings_Index Tryz.lays143 s sub m w hs hm
def Tryz.lays220_ren:Go.Shelf.Ren:=⟨fun|220=>96|219=>126|217=>153|225=>154|224=>155|267=>156|266=>166|314=>167|n=>n,fun|9=>9|4=>4|3=>3|5=>5|46=>160|146=>175|51=>174|n=>n,fun|1=>0|n=>n⟩
theorem Tryz.lays220:Go.Proofs.Lays.n220 Tryz.prog Tryz.lays220_ren:={
 mixed:=by kernel_rfl
 f217:=Tryz.func153.trans (congrArg some (by kernel_rfl))
 f219:=Tryz.func126.trans (congrArg some (by kernel_rfl))
 f220:=Tryz.func96.trans (congrArg some (by kernel_rfl))
 f224:=Tryz.func155.trans (congrArg some (by kernel_rfl))
 f225:=Tryz.func154.trans (congrArg some (by kernel_rfl))
 f266:=Tryz.func166.trans (congrArg some (by kernel_rfl))
 f267:=Tryz.func156.trans (congrArg some (by kernel_rfl))
 f314:=Tryz.func167.trans (congrArg some (by kernel_rfl))
 t3:=Tryz.underlying3
 a3:=Tryz.isAgg3
 z3:=Tryz.sizeOf3
 v3:=Tryz.zeroValue3
 t4:=Tryz.underlying4
 a4:=Tryz.isAgg4
 z4:=Tryz.sizeOf4
 v4:=Tryz.zeroValue4
 t5:=Tryz.underlying5
 a5:=Tryz.isAgg5
 z5:=Tryz.sizeOf5
 v5:=Tryz.zeroValue5
 t9:=Tryz.underlying9
 a9:=Tryz.isAgg9
 z9:=Tryz.sizeOf9
 v9:=Tryz.zeroValue9
 t46:=Tryz.underlying160
 a46:=Tryz.isAgg160
 z46:=Tryz.sizeOf160
 v46:=Tryz.zeroValue160
 t51:=Tryz.underlying174
 a51:=Tryz.isAgg174
 z51:=Tryz.sizeOf174
 v51:=Tryz.zeroValue174
 t146:=Tryz.underlying175
 a146:=Tryz.isAgg175
 z146:=Tryz.sizeOf175
 v146:=Tryz.zeroValue175
 g1:=by kernel_rfl }
open Go.RowKit Go.Lib in
theorem Tryz.stringslite_Cut (s sep:BA)(m:Int)(w:World)(hs:s.size<4294967281)(hm:w.cell? ⟨0,0,none⟩=some (.int .i64 m)):
  Calls Tryz.prog 96 #[.string s,.string sep] w fun e w'=>e=.returned (.tuple #[.string ⟨(Lib.cut s.data.toList sep.data.toList).1.toArray⟩,.string ⟨(Lib.cut s.data.toList sep.data.toList).2.1.toArray⟩,.bool (Lib.cut s.data.toList sep.data.toList).2.2])∧∃n,w'=w.drewN n:=Any.stringslite_Cut Tryz.lays220 s sep m w hs hm
def Tryz.lays145_ren:Go.Shelf.Ren:=⟨fun|145=>70|220=>96|219=>126|217=>153|225=>154|224=>155|267=>156|266=>166|314=>167|n=>n,fun|9=>9|4=>4|59=>95|3=>3|5=>5|46=>160|146=>175|51=>174|n=>n,fun|1=>0|n=>n⟩
theorem Tryz.lays145:Go.Proofs.Lays.n145 Tryz.prog Tryz.lays145_ren:={
 mixed:=by kernel_rfl
 f145:=Tryz.func70.trans (congrArg some (by kernel_rfl))
 f217:=Tryz.func153.trans (congrArg some (by kernel_rfl))
 f219:=Tryz.func126.trans (congrArg some (by kernel_rfl))
 f220:=Tryz.func96.trans (congrArg some (by kernel_rfl))
 f224:=Tryz.func155.trans (congrArg some (by kernel_rfl))
 f225:=Tryz.func154.trans (congrArg some (by kernel_rfl))
 f266:=Tryz.func166.trans (congrArg some (by kernel_rfl))
 f267:=Tryz.func156.trans (congrArg some (by kernel_rfl))
 f314:=Tryz.func167.trans (congrArg some (by kernel_rfl))
 t3:=Tryz.underlying3
 a3:=Tryz.isAgg3
 z3:=Tryz.sizeOf3
 v3:=Tryz.zeroValue3
 t4:=Tryz.underlying4
 a4:=Tryz.isAgg4
 z4:=Tryz.sizeOf4
 v4:=Tryz.zeroValue4
 t5:=Tryz.underlying5
 a5:=Tryz.isAgg5
 z5:=Tryz.sizeOf5
 v5:=Tryz.zeroValue5
 t9:=Tryz.underlying9
 a9:=Tryz.isAgg9
 z9:=Tryz.sizeOf9
 v9:=Tryz.zeroValue9
 t46:=Tryz.underlying160
 a46:=Tryz.isAgg160
 z46:=Tryz.sizeOf160
 v46:=Tryz.zeroValue160
 t51:=Tryz.underlying174
 a51:=Tryz.isAgg174
 z51:=Tryz.sizeOf174
 v51:=Tryz.zeroValue174
 t59:=Tryz.underlying95
 a59:=Tryz.isAgg95
 z59:=Tryz.sizeOf95
 v59:=Tryz.zeroValue95
 t146:=Tryz.underlying175
 a146:=Tryz.isAgg175
 z146:=Tryz.sizeOf175
 v146:=Tryz.zeroValue175
 g1:=by kernel_rfl }
open Go.RowKit Go.Lib in
theorem Tryz.strings_Cut (s sep:BA)(m:Int)(w:World)(hs:s.size<4294967281)(hm:w.cell? ⟨0,0,none⟩=some (.int .i64 m)):
  Calls Tryz.prog 70 #[.string s,.string sep] w fun e w'=>e=.returned (.tuple #[.string ⟨(Lib.cut s.data.toList sep.data.toList).1.toArray⟩,.string ⟨(Lib.cut s.data.toList sep.data.toList).2.1.toArray⟩,.bool (Lib.cut s.data.toList sep.data.toList).2.2])∧∃n,w'=w.drewN n:=Any.strings_Cut Tryz.lays145 s sep m w hs hm
def Tryz.lays138_ren:Go.Shelf.Ren:=⟨fun|138=>113|195=>142|218=>144|143=>114|219=>126|217=>153|225=>154|224=>155|267=>156|266=>166|314=>167|n=>n,fun|9=>9|3=>3|4=>4|5=>5|0=>0|46=>160|146=>175|51=>174|n=>n,fun|1=>0|n=>n⟩
theorem Tryz.lays138:Go.Proofs.Lays.n138 Tryz.prog Tryz.lays138_ren:={
 mixed:=by kernel_rfl
 f138:=Tryz.func113.trans (congrArg some (by kernel_rfl))
 f143:=Tryz.func114.trans (congrArg some (by kernel_rfl))
 f195:=Tryz.func142.trans (congrArg some (by kernel_rfl))
 f217:=Tryz.func153.trans (congrArg some (by kernel_rfl))
 f218:=Tryz.func144.trans (congrArg some (by kernel_rfl))
 f219:=Tryz.func126.trans (congrArg some (by kernel_rfl))
 f224:=Tryz.func155.trans (congrArg some (by kernel_rfl))
 f225:=Tryz.func154.trans (congrArg some (by kernel_rfl))
 f266:=Tryz.func166.trans (congrArg some (by kernel_rfl))
 f267:=Tryz.func156.trans (congrArg some (by kernel_rfl))
 f314:=Tryz.func167.trans (congrArg some (by kernel_rfl))
 t0:=Tryz.underlying0
 a0:=Tryz.isAgg0
 z0:=Tryz.sizeOf0
 v0:=Tryz.zeroValue0
 t3:=Tryz.underlying3
 a3:=Tryz.isAgg3
 z3:=Tryz.sizeOf3
 v3:=Tryz.zeroValue3
 t4:=Tryz.underlying4
 a4:=Tryz.isAgg4
 z4:=Tryz.sizeOf4
 v4:=Tryz.zeroValue4
 t5:=Tryz.underlying5
 a5:=Tryz.isAgg5
 z5:=Tryz.sizeOf5
 v5:=Tryz.zeroValue5
 t9:=Tryz.underlying9
 a9:=Tryz.isAgg9
 z9:=Tryz.sizeOf9
 v9:=Tryz.zeroValue9
 t46:=Tryz.underlying160
 a46:=Tryz.isAgg160
 z46:=Tryz.sizeOf160
 v46:=Tryz.zeroValue160
 t51:=Tryz.underlying174
 a51:=Tryz.isAgg174
 z51:=Tryz.sizeOf174
 v51:=Tryz.zeroValue174
 t146:=Tryz.underlying175
 a146:=Tryz.isAgg175
 z146:=Tryz.sizeOf175
 v146:=Tryz.zeroValue175
 g1:=by kernel_rfl }
open Go.RowKit Go.Lib in
theorem Tryz.strings_Count_one (s:BA)(c:UInt8)(w:World):
  Calls Tryz.prog 113 #[.string s,.string ⟨#[c]⟩] w fun e w'=>e=.returned (.int .i64 (Lib.countByte s.data.toList c))∧w'=w:=Any.strings_Count_one Tryz.lays138 s c w
open Go.RowKit Go.Lib in
theorem Tryz.strings_Count (s sub:BA)(m:Int)(w:World)(hs:s.size<4294967281)(hm:w.cell? ⟨0,0,none⟩=some (.int .i64 m))(h2:2≤sub.size):
  Calls Tryz.prog 113 #[.string s,.string sub] w fun e w'=>e=.returned (.int .i64 (Lib.countB s sub))∧w'=w:=Any.strings_Count Tryz.lays138 s sub m w hs hm h2
def Tryz.lays206_ren:Go.Shelf.Ren:=⟨fun|206=>157|n=>n,fun|9=>9|4=>4|3=>3|n=>n,fun|n=>n⟩
theorem Tryz.lays206:Go.Proofs.Lays.n206 Tryz.prog Tryz.lays206_ren:={
 mixed:=by kernel_rfl
 f206:=Tryz.func157.trans (congrArg some (by kernel_rfl))
 t3:=Tryz.underlying3
 a3:=Tryz.isAgg3
 z3:=Tryz.sizeOf3
 v3:=Tryz.zeroValue3
 t4:=Tryz.underlying4
 a4:=Tryz.isAgg4
 z4:=Tryz.sizeOf4
 v4:=Tryz.zeroValue4
 t9:=Tryz.underlying9
 a9:=Tryz.isAgg9
 z9:=Tryz.sizeOf9
 v9:=Tryz.zeroValue9 }
open Go.RowKit Go.Lib in
theorem Tryz.stringslite_HasPrefix (s p:BA)(w:World):
  Calls Tryz.prog 157 #[.string s,.string p] w fun e w'=>e=.returned (.bool (Lib.hasPrefix s.data.toList p.data.toList))∧w'=w:=Any.stringslite_HasPrefix Tryz.lays206 s p w
def Tryz.lays207_ren:Go.Shelf.Ren:=⟨fun|207=>147|n=>n,fun|9=>9|4=>4|3=>3|n=>n,fun|n=>n⟩
theorem Tryz.lays207:Go.Proofs.Lays.n207 Tryz.prog Tryz.lays207_ren:={
 mixed:=by kernel_rfl
 f207:=Tryz.func147.trans (congrArg some (by kernel_rfl))
 t3:=Tryz.underlying3
 a3:=Tryz.isAgg3
 z3:=Tryz.sizeOf3
 v3:=Tryz.zeroValue3
 t4:=Tryz.underlying4
 a4:=Tryz.isAgg4
 z4:=Tryz.sizeOf4
 v4:=Tryz.zeroValue4
 t9:=Tryz.underlying9
 a9:=Tryz.isAgg9
 z9:=Tryz.sizeOf9
 v9:=Tryz.zeroValue9 }
open Go.RowKit Go.Lib in
theorem Tryz.stringslite_HasSuffix (s p:BA)(w:World)(hs:s.size≤9223372036854775807):
  Calls Tryz.prog 147 #[.string s,.string p] w fun e w'=>e=.returned (.bool (Lib.hasSuffix s.data.toList p.data.toList))∧w'=w:=Any.stringslite_HasSuffix Tryz.lays207 s p w hs
def Tryz.lays209_ren:Go.Shelf.Ren:=⟨fun|209=>145|207=>147|n=>n,fun|9=>9|4=>4|3=>3|n=>n,fun|n=>n⟩
theorem Tryz.lays209:Go.Proofs.Lays.n209 Tryz.prog Tryz.lays209_ren:={
 mixed:=by kernel_rfl
 f207:=Tryz.func147.trans (congrArg some (by kernel_rfl))
 f209:=Tryz.func145.trans (congrArg some (by kernel_rfl))
 t3:=Tryz.underlying3
 a3:=Tryz.isAgg3
 z3:=Tryz.sizeOf3
 v3:=Tryz.zeroValue3
 t4:=Tryz.underlying4
 a4:=Tryz.isAgg4
 z4:=Tryz.sizeOf4
 v4:=Tryz.zeroValue4
 t9:=Tryz.underlying9
 a9:=Tryz.isAgg9
 z9:=Tryz.sizeOf9
 v9:=Tryz.zeroValue9 }
open Go.RowKit Go.Lib in
theorem Tryz.stringslite_TrimSuffix (s p:BA)(w:World)(hs:s.size≤9223372036854775807):
  Calls Tryz.prog 145 #[.string s,.string p] w fun e w'=>e=.returned (.string ⟨(Lib.trimSuffix s.data.toList p.data.toList).toArray⟩)∧w'=w:=Any.stringslite_TrimSuffix Tryz.lays209 s p w hs
def Tryz.lays102_ren:Go.Shelf.Ren:=⟨fun|102=>115|209=>145|207=>147|n=>n,fun|9=>9|4=>4|3=>3|n=>n,fun|n=>n⟩
theorem Tryz.lays102:Go.Proofs.Lays.n102 Tryz.prog Tryz.lays102_ren:={
 mixed:=by kernel_rfl
 f102:=Tryz.func115.trans (congrArg some (by kernel_rfl))
 f207:=Tryz.func147.trans (congrArg some (by kernel_rfl))
 f209:=Tryz.func145.trans (congrArg some (by kernel_rfl))
 t3:=Tryz.underlying3
 a3:=Tryz.isAgg3
 z3:=Tryz.sizeOf3
 v3:=Tryz.zeroValue3
 t4:=Tryz.underlying4
 a4:=Tryz.isAgg4
 z4:=Tryz.sizeOf4
 v4:=Tryz.zeroValue4
 t9:=Tryz.underlying9
 a9:=Tryz.isAgg9
 z9:=Tryz.sizeOf9
 v9:=Tryz.zeroValue9 }
open Go.RowKit Go.Lib in
theorem Tryz.strings_TrimSuffix (s p:BA)(w:World)(hs:s.size≤9223372036854775807):
  Calls Tryz.prog 115 #[.string s,.string p] w fun e w'=>e=.returned (.string ⟨(Lib.trimSuffix s.data.toList p.data.toList).toArray⟩)∧w'=w:=Any.strings_TrimSuffix Tryz.lays102 s p w hs
def Tryz.lays152_ren:Go.Shelf.Ren:=⟨fun|152=>128|137=>158|119=>159|224=>155|225=>154|217=>153|266=>166|n=>n,fun|9=>9|21=>21|3=>3|4=>4|5=>5|0=>0|46=>160|n=>n,fun|n=>n⟩
theorem Tryz.lays152:Go.Proofs.Lays.n152 Tryz.prog Tryz.lays152_ren:={
 mixed:=by kernel_rfl
 f119:=Tryz.func159.trans (congrArg some (by kernel_rfl))
 f137:=Tryz.func158.trans (congrArg some (by kernel_rfl))
 f152:=Tryz.func128.trans (congrArg some (by kernel_rfl))
 f217:=Tryz.func153.trans (congrArg some (by kernel_rfl))
 f224:=Tryz.func155.trans (congrArg some (by kernel_rfl))
 f225:=Tryz.func154.trans (congrArg some (by kernel_rfl))
 f266:=Tryz.func166.trans (congrArg some (by kernel_rfl))
 t0:=Tryz.underlying0
 a0:=Tryz.isAgg0
 z0:=Tryz.sizeOf0
 v0:=Tryz.zeroValue0
 t3:=Tryz.underlying3
 a3:=Tryz.isAgg3
 z3:=Tryz.sizeOf3
 v3:=Tryz.zeroValue3
 t4:=Tryz.underlying4
 a4:=Tryz.isAgg4
 z4:=Tryz.sizeOf4
 v4:=Tryz.zeroValue4
 t5:=Tryz.underlying5
 a5:=Tryz.isAgg5
 z5:=Tryz.sizeOf5
 v5:=Tryz.zeroValue5
 t9:=Tryz.underlying9
 a9:=Tryz.isAgg9
 z9:=Tryz.sizeOf9
 v9:=Tryz.zeroValue9
 t21:=Tryz.underlying21
 a21:=Tryz.isAgg21
 z21:=Tryz.sizeOf21
 v21:=Tryz.zeroValue21
 t46:=Tryz.underlying160
 a46:=Tryz.isAgg160
 z46:=Tryz.sizeOf160
 v46:=Tryz.zeroValue160 }
open Go.RowKit Go.Lib in
theorem Tryz.strings_IndexRune_ascii (s:BA)(r:Int)(w:World)(h0:0≤r)(h1:r<128):
  Calls Tryz.prog 128 #[.string s,.int .i32 r] w fun e w'=>e=.returned (.int .i64 (Lib.indexByte s.data.toList r.toNat.toUInt8))∧w'=w:=Any.strings_IndexRune_ascii Tryz.lays152 s r w h0 h1
def Tryz.lays226_ren:Go.Shelf.Ren:=⟨fun|226=>129|n=>n,fun|3=>3|4=>4|n=>n,fun|n=>n⟩
theorem Tryz.lays226:Go.Proofs.Lays.n226 Tryz.prog Tryz.lays226_ren:={
 mixed:=by kernel_rfl
 f226:=Tryz.func129.trans (congrArg some (by kernel_rfl))
 t3:=Tryz.underlying3
 a3:=Tryz.isAgg3
 z3:=Tryz.sizeOf3
 v3:=Tryz.zeroValue3
 t4:=Tryz.underlying4
 a4:=Tryz.isAgg4
 z4:=Tryz.sizeOf4
 v4:=Tryz.zeroValue4 }
open Go.RowKit Go.Lib in
theorem Tryz.strings_shouldUseASCIISet (n:Int)(w:World):
  Calls Tryz.prog 129 #[.int .i64 n] w fun e w'=>e=.returned (.bool (decide (8<n)))∧w'=w:=Any.strings_shouldUseASCIISet Tryz.lays226 n w
def Tryz.lays153_ren:Go.Shelf.Ren:=⟨fun|153=>98|152=>128|226=>129|227=>130|228=>131|137=>158|119=>159|224=>155|225=>154|217=>153|266=>166|n=>n,fun|9=>9|3=>3|4=>4|5=>5|21=>21|117=>149|116=>148|0=>0|46=>160|124=>162|n=>n,fun|n=>n⟩
theorem Tryz.lays153:Go.Proofs.Lays.n153 Tryz.prog Tryz.lays153_ren:={
 mixed:=by kernel_rfl
 f119:=Tryz.func159.trans (congrArg some (by kernel_rfl))
 f137:=Tryz.func158.trans (congrArg some (by kernel_rfl))
 f152:=Tryz.func128.trans (congrArg some (by kernel_rfl))
 f153:=Tryz.func98.trans (congrArg some (by kernel_rfl))
 f217:=Tryz.func153.trans (congrArg some (by kernel_rfl))
 f224:=Tryz.func155.trans (congrArg some (by kernel_rfl))
 f225:=Tryz.func154.trans (congrArg some (by kernel_rfl))
 f226:=Tryz.func129.trans (congrArg some (by kernel_rfl))
 f227:=Tryz.func130.trans (congrArg some (by kernel_rfl))
 f228:=Tryz.func131.trans (congrArg some (by kernel_rfl))
 f266:=Tryz.func166.trans (congrArg some (by kernel_rfl))
 t0:=Tryz.underlying0
 a0:=Tryz.isAgg0
 z0:=Tryz.sizeOf0
 v0:=Tryz.zeroValue0
 t3:=Tryz.underlying3
 a3:=Tryz.isAgg3
 z3:=Tryz.sizeOf3
 v3:=Tryz.zeroValue3
 t4:=Tryz.underlying4
 a4:=Tryz.isAgg4
 z4:=Tryz.sizeOf4
 v4:=Tryz.zeroValue4
 t5:=Tryz.underlying5
 a5:=Tryz.isAgg5
 z5:=Tryz.sizeOf5
 v5:=Tryz.zeroValue5
 t9:=Tryz.underlying9
 a9:=Tryz.isAgg9
 z9:=Tryz.sizeOf9
 v9:=Tryz.zeroValue9
 t21:=Tryz.underlying21
 a21:=Tryz.isAgg21
 z21:=Tryz.sizeOf21
 v21:=Tryz.zeroValue21
 t46:=Tryz.underlying160
 a46:=Tryz.isAgg160
 z46:=Tryz.sizeOf160
 v46:=Tryz.zeroValue160
 t116:=Tryz.underlying148
 a116:=Tryz.isAgg148
 z116:=Tryz.sizeOf148
 t117:=Tryz.underlying149
 a117:=Tryz.isAgg149
 z117:=Tryz.sizeOf149
 v117:=Tryz.zeroValue149
 t124:=Tryz.underlying162
 a124:=Tryz.isAgg162
 z124:=Tryz.sizeOf162
 v124:=Tryz.zeroValue162 }
open Go.RowKit Go.Lib in
theorem Tryz.strings_IndexAny_long (hv116:∀w,(zeroValue 148).run Tryz.prog w=.ok (.agg (Array.replicate 256 (.bool false))) w)(s chars:BA)(w:World)(h2:2≤chars.size)(h8:8<s.size)(hs:s.size<4294967281)(hcs:chars.size<4294967281)(hascii:∀(j:Nat) b,chars.data.toList[j]?=some b→b.toNat<128):
  Calls Tryz.prog 98 #[.string s,.string chars] w fun e w'=>e=.returned (.int .i64 (Lib.indexAny s.data.toList chars.data.toList))∧w'=((w.alloc (.cells (Lib.setCells chars.data.toList) 148)).alloc (.cells (Lib.setCells chars.data.toList) 148)):=Any.strings_IndexAny_long Tryz.lays153 hv116 (by kernel_rfl) s chars w h2 h8 hs hcs hascii
open Go.RowKit Go.Lib in
theorem Tryz.strings_IndexAny (hv116:∀w,(zeroValue 148).run Tryz.prog w=.ok (.agg (Array.replicate 256 (.bool false))) w)(s chars:BA)(w:World)(hs:s.size<4294967281)(hcs:chars.size<4294967281)(has:∀(j:Nat) b,s.data.toList[j]?=some b→b.toNat<128)(hac:∀(j:Nat) b,chars.data.toList[j]?=some b→b.toNat<128):
  Calls Tryz.prog 98 #[.string s,.string chars] w fun e w'=>e=.returned (.int .i64 (Lib.indexAny s.data.toList chars.data.toList))∧Below w.heap.size w w':=Any.strings_IndexAny Tryz.lays153 hv116 (by kernel_rfl) s chars w hs hcs has hac
def Tryz.lays110_ren:Go.Shelf.Ren:=⟨fun|110=>56|109=>83|n=>n,fun|31=>29|9=>9|4=>4|3=>3|0=>0|n=>n,fun|n=>n⟩
theorem Tryz.lays110:Go.Proofs.Lays.n110 Tryz.prog Tryz.lays110_ren:={
 mixed:=by kernel_rfl
 f109:=Tryz.func83.trans (congrArg some (by kernel_rfl))
 f110:=Tryz.func56.trans (congrArg some (by kernel_rfl))
 t0:=Tryz.underlying0
 a0:=Tryz.isAgg0
 z0:=Tryz.sizeOf0
 v0:=Tryz.zeroValue0
 t3:=Tryz.underlying3
 a3:=Tryz.isAgg3
 z3:=Tryz.sizeOf3
 v3:=Tryz.zeroValue3
 t4:=Tryz.underlying4
 a4:=Tryz.isAgg4
 z4:=Tryz.sizeOf4
 v4:=Tryz.zeroValue4
 t9:=Tryz.underlying9
 a9:=Tryz.isAgg9
 z9:=Tryz.sizeOf9
 v9:=Tryz.zeroValue9
 t31:=Tryz.underlying29
 a31:=Tryz.isAgg29
 z31:=Tryz.sizeOf29
 v31:=Tryz.zeroValue29 }
open Go.Lib in
theorem Tryz.slices_Contains_string (b off n c:Nat)(zs:List BA)(x:BA)(w:World)(hz:n≤zs.length)(hbig:n≤9223372036854775807)(hc:∀j,j<zs.length→w.cell? ⟨b,off+j,none⟩=some (.string (zs.getD j bE_))):
  Calls Tryz.prog 56 #[.slice (some ⟨b,off,none⟩) n c,.string x] w fun e w'=>e=.returned (.bool (Lib.containsS (zs.take n) x))∧w'=w:=Any.slices_Contains_string Tryz.lays110 b off n c zs x w hz hbig hc
open Go.Lib in
theorem Tryz.slices_Contains_string_empty (a:Option Addr)(c:Nat)(x:BA)(w:World):
  Calls Tryz.prog 56 #[.slice a 0 c,.string x] w fun e w'=>e=.returned (.bool false)∧w'=w:=Any.slices_Contains_string_empty Tryz.lays110 a c x w
def Tryz.laysNm216_ren:Go.Shelf.Ren:=⟨fun|16=>133|n=>n,fun|24=>29|9=>9|4=>4|n=>n,fun|n=>n⟩
theorem Tryz.laysNm216:Go.Proofs.Lays2.n16 Tryz.prog Tryz.laysNm216_ren:={
 mixed:=by kernel_rfl
 f16:=Tryz.func133.trans (congrArg some (by kernel_rfl))
 t4:=Tryz.underlying4
 a4:=Tryz.isAgg4
 z4:=Tryz.sizeOf4
 v4:=Tryz.zeroValue4
 t9:=Tryz.underlying9
 a9:=Tryz.isAgg9
 z9:=Tryz.sizeOf9
 v9:=Tryz.zeroValue9
 t24:=Tryz.underlying29
 a24:=Tryz.isAgg29
 z24:=Tryz.sizeOf29
 v24:=Tryz.zeroValue29
 i9:=by kernel_rfl }
open Go.RowKit Go.Lib in
theorem Tryz.slices_Clone_string (b off n c:Nat)(zs:List BA)(w:World)(hz:n≤zs.length)(hbig:n*16≤140737488355328)(hc:∀j,j<zs.length→w.cell? ⟨b,off+j,none⟩=some (.string (zs.getD j bE_))):
  Calls Tryz.prog 133 #[.slice (some ⟨b,off,none⟩) n c] w fun e w'=>∃v',e=.returned v'∧w'.ownsRow w.heap.size 9 1 v' n ((zs.take n).map (Value.string))∧v'≠.slice none 0 0∧Below w.heap.size w w':=Any.slices_Clone_string Tryz.laysNm216 b off n c zs w hz hbig hc
open Go.RowKit Go.Lib in
theorem Tryz.slices_Clone_string_nil (n c:Nat)(w:World):
  Calls Tryz.prog 133 #[.slice none n c] w fun e w'=>e=.returned (.slice none 0 0)∧w'=w:=Any.slices_Clone_string_nil Tryz.laysNm216 n c w
open Go.RowKit Go.Lib in
theorem Tryz.slices_Clone_string_zero (a:Addr)(c:Nat)(w:World):
  Calls Tryz.prog 133 #[.slice (some a) 0 c] w fun e w'=>∃v',e=.returned v'∧w'.ownsRow w.heap.size 9 1 v' 0 []∧v'≠.slice none 0 0∧Below w.heap.size w w':=Any.slices_Clone_string_zero Tryz.laysNm216 a c w
end Go.Proofs
end
section
namespace Go.Proofs.YtloijngehifbmaaGreatDoor.P
open Go.RowKit Go.Proofs.YtloijngehifbmaaGreatDoorW PrintWords PrintLast PrintMore
attribute [local go_sem] max2_int min2_int max_two min_two max_three min_three max_four min_four
set_option maxHeartbeats 8000000
set_option maxRecDepth 100000
def spec_l1Cut.l0:Nat→BA→Int→Int→Option (BA×BA×Bool)
 |0,_,_,_=>none
 |k+1,x0,x1,x7=>if x7<(x0.size:Int)then(if 0≤x7 then(if(bt x0 x7)=x1 then(if x7≤(x0.size:Int)then(if 0≤(wrap64 (x7+1))then(if(wrap64 (x7+1))≤(x0.size:Int)then(some (x0.extract 0 (x7:Int).toNat,x0.extract ((wrap64 (x7+1)):Int).toNat x0.size,true))else(none))else(none))else(none))else(spec_l1Cut.l0 k x0 x1 (wrap64 (x7+1))))else(none))else(some (x0,(⟨#[]⟩:BA),false))
def spec_l1Cut.f (k:Nat)(a0:BA)(a1:Int):Option (BA×BA×Bool):=spec_l1Cut.l0 k a0 a1 0
theorem spec_l1Cut.calls (k:Nat)(a0:BA)(a1:Int)(r1:BA)(r2:BA)(r3:Bool)(w:World)(h:spec_l1Cut.f k a0 a1=some (r1,r2,r3)):
  Calls Tryz.prog 62 #[.string a0,.int .u8 a1] w fun e w'=>e=.returned (.tuple #[.string r1,.string r2,.bool r3])∧Drawn0 w w':=by
 unfold spec_l1Cut.f at h;have H:=h;clear h;have H':=A_ H;clear H;go_enter Tryz.func62,Tryz.ntmps62;go_wp2
 repeat(go_quiet (fail);try go_wp2)
 go_loopg [7] k (fun kq v7 w'=>∃(x7_1:Int),v7=.int .i64 x7_1∧Aside0 (spec_l1Cut.l0 kq a0 a1 x7_1=some (r1,r2,r3))∧Aside0 (kq≤k)∧Drawn0 w w')
 case atStart=>exact⟨(0),zz0,H',⟨lL_ _⟩,zz1⟩
 case round=>
  clear H';obtain⟨x7_1,rfl,HA,HK1,⟨m1,rfl⟩⟩:=hrel;cases gk with
  |zero=>exact absurd HA.out (by simp[spec_l1Cut.l0])
  |succ k1=>
   obtain⟨H⟩:=HA;simp only[spec_l1Cut.l0]at H;replace H:=iteEd H;rcases H with⟨c3b0,H⟩|⟨c3b0,H⟩
   ·replace H:=iteNd H
    obtain⟨c4b0,H⟩:=H;replace H:=iteEq H;rcases H with⟨c6b0,c6b1,H⟩|⟨c6b0,c6b1,c6,H⟩
    ·have c7b0:=eq_true (ofD:0≤x7_1)
     replace H:=iteN H;obtain⟨c8,H⟩:=H;have c8b0:=eq_true c8;have c8b1:=dT c8;clear c8;obtain⟨ji9,hji9⟩:∃j_:Int,(wrap64 (x7_1+1))=j_:=⟨_,rfl⟩;(first|rw[hji9]at H|simp only[hji9]at H);have hji9w:(IntKind.i64.wrap (x7_1+1))=ji9:=(i64_w _).trans hji9;replace H:=iteN H;obtain⟨c10,H⟩:=H;have c10b0:=eq_true c10;have c10b1:=dT c10;clear c10;replace H:=iteN H;obtain⟨c11,H⟩:=H;have c11b0:=eq_true c11;have c11b1:=dT c11;clear c11;simp only[oI_,pI_]at H;obtain⟨rfl,rfl,rfl⟩:=H;have p5:0≤(x7_1:Int):=ofD;have q5:x7_1<(a0.size:Int):=ofD;have hx5:=bt_at a0 x7_1;replace p5:=eq_true p5;replace q5:=eq_true q5;go_wp2
     repeat(go_quiet (fail);try go_wp2)
     go_ret3
     exact⟨zz3,zz1⟩
    ·have H':=A_ H
     clear H;have p5:0≤(x7_1:Int):=ofD;have q5:x7_1<(a0.size:Int):=ofD;have hx5:=bt_at a0 x7_1;replace p5:=eq_true p5;replace q5:=eq_true q5;go_wp2
     repeat(go_quiet (fail);try go_wp2)
     go_roundg k1
     case measure=>have:=HK1.out;omega
     case rel=>exact⟨(wrap64 (x7_1+1)),zz0,H',⟨(zz4 HK1)⟩,zz1⟩
   ·simp only[oI_,pI_]at H
    obtain⟨rfl,rfl,rfl⟩:=H;go_wp2
    repeat(go_quiet (fail);try go_wp2)
    go_ret3
    exact⟨zz0,zz1⟩
def spec_l1Split.l0:Nat→Int→List BA→BA→Bool→Option (List BA)
 |0,_,_,_,_=>none
 |k+1,x1,x5,x6,x7=>if x7=true then((spec_l1Cut.f k x6 x1).bind fun bt107=>(if x5.length<8796093022208 then(spec_l1Split.l0 k x1 (x5++[bt107.1]) bt107.2.1 bt107.2.2)else(none)))else(some x5)
def spec_l1Split.f (k:Nat)(a0:BA)(a1:Int):Option (List BA):=spec_l1Split.l0 k a1 (([]:List BA)) a0 true
theorem spec_l1Split.calls (k:Nat)(a0:BA)(a1:Int)(r:List BA)(w:World)(h:spec_l1Split.f k a0 a1=some r):
  Calls Tryz.prog 105 #[.string a0,.int .u8 a1] w fun e w'=>∃v0_:Value,e=.returned (v0_)∧Kd.R Kd.string 9 w' w.heap.size (fun _=>True) v0_ r∧Below w.heap.size w w':=by
 have HB:=A_ (Below.refl w.heap.size w);unfold spec_l1Split.f at h;have H:=h;clear h;obtain⟨y104,Ny104⟩:=toY (([]:List BA));(first|with_reducible replace H:=bindZ Ny104 H|rw[←Ny104.out]at H|skip);have H':=A_ H;clear H;go_enter Tryz.func105,Tryz.ntmps105;go_wp2_with (first|((with_reducible refine gD (N:=9) rfl ?_);refine Kd.R_lit Kd.string _ 9 ?hg (N:=9) ?hd (xs:=([]:List BA)) (inner:=[]) (ok:=fun _=>True) (okp:=fun _=>True) ?hr ?hp (fun _ hk=>hk) trivial (Below.refl _ _) (lL_ _) (by simp) ?_;(case hd=>rfl);(case hg=>rfl);(case hr=>exact zz5);(case hp=>exact(Reps.none _ _));intro v105 w3 ho4 hb hg_ hnew_;clear hg_ hnew_;(first|rw[←Ny104.out]at ho4|(simp only[Int.reduceToNat]at ho4;rw[←Ny104.out]at ho4));have HO106:=A_ (Kd.R_lower ho4 (below_size (zz6 HB)));replace HB:=A_ (bS (zz6 HB) hb);clear hb ho4))
 go_loopg [5,6,7] k (fun kq v5 v6 v7 w'=>∃(x5_1:List BA)(x6_1:BA)(x7_1:Bool),v6=.string x6_1∧v7=.bool x7_1∧Aside0 (spec_l1Split.l0 kq a1 x5_1 x6_1 x7_1=some r)∧Aside0 (kq≤k)∧Aside0 (Kd.R Kd.string 9 w' w.heap.size (fun _=>True) v5 x5_1)∧Aside0 (Below w.heap.size w w'))
 case atStart=>exact⟨(y104),(a0),(true),zz0,zz0,H',⟨lL_ _⟩,⟨(zz7 HO106)⟩,⟨(zz6 HB)⟩⟩
 case round=>
  clear H';obtain⟨x5_1,x6_1,x7_1,rfl,rfl,HA,HK1,HO_5,HB⟩:=hrel;cases gk with
  |zero=>exact absurd HA.out (by simp[spec_l1Split.l0])
  |succ k1=>
   obtain⟨H⟩:=HA;simp only[spec_l1Split.l0]at H;replace H:=iteB H;rcases H with⟨rfl,H⟩|⟨rfl,H⟩
   ·replace H:=bindA H
    obtain⟨⟨t107,t108,t109⟩,A6,H⟩:=H;try dsimp only at H;replace H:=iteN H;obtain⟨c7,H⟩:=H;have LMc7:=A_ c7;clear c7;obtain⟨y110,Ny110⟩:=toY (x5_1++[t107]);(first|with_reducible replace H:=bindZ Ny110 H|rw[←Ny110.out]at H|skip);have H':=A_ H;clear H;go_wp2_with (first|(refine gR 62 (some 15) Tryz.func62 (spec_l1Cut.calls k1 x6_1 a1 t107 t108 t109 _ A6.out) ?_;rintro w' ⟨nd,rfl⟩)|((with_reducible refine gate_builtin (b:=.append) (xs:=#[.tmp 19,.tmp 21]) rfl ?_);at_builtin;refine Kd.R_append Kd.string (w0:=w) w.heap.size rfl (.tmp 19) (.tmp 21) 29 9 (.string ⟨#[]⟩) 16 rfl Tryz.underlying29 info9 rfl (by decide) (by omega) u5 x5_1 t107 [.string t107] (fun _=>True) (fun _=>False) rfl rfl ?aP (fun _ hk=>hk.elim) ?aF ?aO ?aB ?aS ?aL ?_;(case aP=>exact rfl);(case aB=>exact(zz6 HB));(case aF=>exact(fun _ _=>trivial));(case aO=>exact(zz7 HO_5));(case aS=>exact(below_size (zz6 HB)));(case aL=>exact(zz4 LMc7));intro v111 w8 ho hb hg hat;rw[←Ny110.out]at ho;replace HB:=A_ (hb);have HO112:=A_ (ho);clear HO_5;clear ho hb hg hat))
    go_roundg k1
    case measure=>have:=HK1.out;omega
    case rel=>exact⟨(y110),(t108),(t109),zz0,zz0,H',⟨(zz4 HK1)⟩,⟨(zz7 HO112)⟩,⟨(zz6 HB)⟩⟩
   ·obtain rfl:=sI H
    go_wp2;go_ret;exact⟨_,zz9,(zz7 HO_5),(zz6 HB)⟩
mutual
def spec_l1Hex.j0:Nat→Int→Bool→Option (Int)
 |0,_,_=>none
 |k+1,x0,x3=>if x3=true then(some ((x0-48)%256))else(if x0≥97 then(spec_l1Hex.j1 k x0 (decide (x0≤102)))else(spec_l1Hex.j1 k x0 false))
def spec_l1Hex.j1:Nat→Int→Bool→Option (Int)
 |0,_,_=>none
 |k+1,x0,x13=>if x13=true then(some (((x0-97)%256)+10))else(if x0≥65 then(if x0≤70 then(some (((x0-65)%256)+10))else(some (-1)))else(some (-1)))
end
def spec_l1Hex.f (k:Nat)(a0:Int):Option (Int):=if a0≥48 then(spec_l1Hex.j0 k a0 (decide (a0≤57)))else(spec_l1Hex.j0 k a0 false)
theorem spec_l1Hex.mono_l:∀k,(∀y0 y1,LeO (spec_l1Hex.j0 k y0 y1) (spec_l1Hex.j0 (k+1) y0 y1))∧(∀y0 y1,LeO (spec_l1Hex.j1 k y0 y1) (spec_l1Hex.j1 (k+1) y0 y1))
 |0=>by refine⟨?_,?_⟩ <;> (intros;intro r h;simp[spec_l1Hex.j0,spec_l1Hex.j1]at h)
 |k+1=>by
  obtain⟨ih0,ih1⟩:=spec_l1Hex.mono_l k;refine⟨?_,?_⟩ <;> intros <;> (first|unfold spec_l1Hex.j0|unfold spec_l1Hex.j1) <;>
  repeat' first|(with_reducible first|exact ih0 _ _|exact ih1 _ _|exact LeO.refl _|exact LeO.none _|refine LeO.ite ?_ ?_|refine LeO.bind ?_ (fun _=>?_))|exact LeO.none _|refine LeO.ite ?_ ?_|refine LeO.bind ?_ (fun _=>?_)
theorem spec_l1Hex.mono:∀a0 k,LeO (spec_l1Hex.f k a0) (spec_l1Hex.f (k+1) a0):=by
 intro a0 k;obtain⟨ih0,ih1⟩:=spec_l1Hex.mono_l k;unfold spec_l1Hex.f
 repeat' first|(with_reducible first|exact ih0 _ _|exact ih1 _ _|exact LeO.refl _|exact LeO.none _|refine LeO.ite ?_ ?_|refine LeO.bind ?_ (fun _=>?_))|exact LeO.none _|refine LeO.ite ?_ ?_|refine LeO.bind ?_ (fun _=>?_)
theorem spec_l1Hex.calls (k:Nat)(a0:Int)(r:Int)(w:World)(h:spec_l1Hex.f k a0=some r):
  Calls Tryz.prog 148 #[.int .u8 a0] w fun e w'=>e=.returned (.int .i64 r)∧Drawn0 w w':=by
 unfold spec_l1Hex.f at h;have H:=h;clear h;have HC2:=A_ H;clear H;go_enter Tryz.func148,Tryz.ntmps148;go_upto_region 1 with(fail)
 go_cut [3] (fun v3 wc=>∃(kq:Nat)(x3_1:Bool),v3=.bool x3_1∧Aside0 (spec_l1Hex.j0 kq a0 x3_1=some r)∧Aside0 (kq≤k)∧Drawn0 w wc)
 case first=>
  obtain⟨H⟩:=HC2;replace H:=iteEe H;rcases H with⟨c3b0,H⟩|⟨c3b0,H⟩
  ·(first|rw[c3b0]|(simp only[i64_w,i32_w];rw[c3b0])|skip)
   have H':=A_ H;clear H;go_wp2
   go_meet
   case rel=>exact⟨_,(decide (a0≤57)),zz0,H',⟨zz10⟩,zz1⟩
  ·(first|rw[c3b0]|(simp only[i64_w,i32_w];rw[c3b0])|skip)
   have H':=A_ H;clear H;go_wp2
   go_meet
   case rel=>exact⟨_,(false),zz0,H',⟨zz10⟩,zz1⟩
 case rest=>
  clear HC2;obtain⟨kq,x3_1,rfl,HA,HJ1,⟨mc1,rfl⟩⟩:=hcut;cases kq with
  |zero=>exact absurd HA.out (by simp[spec_l1Hex.j0])
  |succ kj1=>
   obtain⟨H⟩:=HA;simp only[spec_l1Hex.j0]at H;replace H:=iteB H;rcases H with⟨rfl,H⟩|⟨rfl,H⟩
   ·obtain rfl:=sI H
    go_wp2;go_ret;exact⟨zz0,zz1⟩
   ·have HC5:=A_ H
    clear H;go_upto_region 3 with(fail)
    go_cut [13] (fun v13 wc=>∃(kq:Nat)(x13_4:Bool),v13=.bool x13_4∧Aside0 (spec_l1Hex.j1 kq a0 x13_4=some r)∧Aside0 (kq≤kj1)∧Drawn0 w wc)
    case first=>
     obtain⟨H⟩:=HC5;replace H:=iteEe H;rcases H with⟨c6b0,H⟩|⟨c6b0,H⟩
     ·(first|rw[c6b0]|(simp only[i64_w,i32_w];rw[c6b0])|skip)
      have H':=A_ H;clear H;go_wp2
      go_meet
      case rel=>exact⟨_,(decide (a0≤102)),zz0,H',⟨(zz12 HJ1)⟩,zz1⟩
     ·(first|rw[c6b0]|(simp only[i64_w,i32_w];rw[c6b0])|skip)
      have H':=A_ H;clear H;go_wp2
      go_meet
      case rel=>exact⟨_,(false),zz0,H',⟨(zz12 HJ1)⟩,zz1⟩
    case rest=>
     clear HC5;obtain⟨kq,x13_4,rfl,HA,HJ4,⟨mc4,rfl⟩⟩:=hcut;cases kq with
     |zero=>exact absurd HA.out (by simp[spec_l1Hex.j1])
     |succ kj4=>
      obtain⟨H⟩:=HA;simp only[spec_l1Hex.j1]at H;replace H:=iteB H;rcases H with⟨rfl,H⟩|⟨rfl,H⟩
      ·obtain rfl:=sI H
       go_wp2;go_ret;exact⟨zz0,zz1⟩
      ·replace H:=iteE H
       rcases H with⟨c8,H⟩|⟨c8,H⟩
       ·have c8b0:=geT c8
        clear c8;replace H:=iteEd H;rcases H with⟨c9b0,H⟩|⟨c9b0,H⟩
        ·obtain rfl:=sI H
         go_wp2;go_ret;exact⟨zz0,zz1⟩
        ·obtain rfl:=sI H
         go_wp2;go_ret;exact⟨zz0,zz1⟩
       ·have c8b0:=geF c8
        clear c8;obtain rfl:=sI H;go_wp2;go_ret;exact⟨zz0,zz1⟩
mutual
def spec_PathClean.l0:Nat→List BA→List BA→Int→Option (List BA)
 |0,_,_,_=>none
 |k+1,x0,x3,x4=>if x4<(x0.length:Int)then(if 0≤x4 then(if(rdOf bE_ x0 x4).toList=([]:List UInt8)then(spec_PathClean.j1 k x0 x3 x4 true)else(spec_PathClean.j1 k x0 x3 x4 ((rdOf bE_ x0 x4).toList==([46]:List UInt8))))else(none))else(some x3)
def spec_PathClean.j1:Nat→List BA→List BA→Int→Bool→Option (List BA)
 |0,_,_,_,_=>none
 |k+1,x0,x3,x4,x19=>if x19=true then(spec_PathClean.l0 k x0 x3 (wrap64 (x4+1)))else(if 0≤x4 then(if x4<(x0.length:Int)then(if(rdOf bE_ x0 x4).toList=([46,46]:List UInt8)then(if 0≤(mx (wrap64 ((x3.length:Int)-1)) 0)then(if(mx (wrap64 ((x3.length:Int)-1)) 0)≤(x3.length:Int)then(spec_PathClean.l0 k x0 (x3.take ((mx (wrap64 ((x3.length:Int)-1)) 0):Int).toNat) (wrap64 (x4+1)))else(none))else(none))else(if x3.length<8796093022208 then(spec_PathClean.l0 k x0 (x3++[rdOf bE_ x0 x4]) (wrap64 (x4+1)))else(none)))else(none))else(none))
end
def spec_PathClean.f (k:Nat)(l0:List BA):Option (List BA):=spec_PathClean.l0 k l0 (([]:List BA)) 0
theorem spec_PathClean.calls (k:Nat)(A0:Option Addr)(c0:Nat)(l0:List BA)(r:List BA)(w:World)(hr0:Kd.C Kd.string w A0 l0.length l0)(hc0:l0.length≤c0)(h:spec_PathClean.f k l0=some r):
  Calls Tryz.prog 120 #[.slice A0 l0.length c0] w fun e w'=>∃v0_:Value,e=.returned (v0_)∧Kd.R Kd.string 9 w' w.heap.size (fun _=>True) v0_ r∧Below w.heap.size w w':=by
 have HR0:=A_ hr0;have HC0:=A_ hc0;clear hr0 hc0;have HB:=A_ (Below.refl w.heap.size w);unfold spec_PathClean.f at h;have H:=h;clear h;obtain⟨y122,Ny122⟩:=toY (([]:List BA));(first|with_reducible replace H:=bindZ Ny122 H|rw[←Ny122.out]at H|skip);have H':=A_ H;clear H;go_enter Tryz.func120,Tryz.ntmps120;go_wp2_with (first|((with_reducible refine gD (N:=5) rfl ?_);refine Kd.R_lit Kd.string _ 9 ?hg (N:=5) ?hd (xs:=([]:List BA)) (inner:=[]) (ok:=fun _=>True) (okp:=fun _=>True) ?hr ?hp (fun _ hk=>hk) trivial (Below.refl _ _) (lL_ _) (by simp) ?_;(case hd=>rfl);(case hg=>rfl);(case hr=>exact zz5);(case hp=>exact(Reps.none _ _));intro v123 w2 ho3 hb hg_ hnew_;clear hg_ hnew_;(first|rw[←Ny122.out]at ho3|(simp only[Int.reduceToNat]at ho3;rw[←Ny122.out]at ho3));have HO124:=A_ (Kd.R_lower ho3 (below_size (zz6 HB)));replace HB:=A_ (bS (zz6 HB) hb);clear hb ho3))
 go_loopg [3,4] k (fun kq v3 v4 w'=>∃(x3_1:List BA)(x4_1:Int),v4=.int .i64 x4_1∧Aside0 (spec_PathClean.l0 kq l0 x3_1 x4_1=some r)∧Aside0 (kq≤k)∧Aside0 (Kd.R Kd.string 9 w' w.heap.size (fun _=>True) v3 x3_1)∧Aside0 (Below w.heap.size w w'))
 case atStart=>exact⟨(y122),(0),zz0,H',⟨lL_ _⟩,⟨(zz7 HO124)⟩,⟨(zz6 HB)⟩⟩
 case round=>
  clear H';obtain⟨x3_1,x4_1,rfl,HA,HK1,HO_3,HB⟩:=hrel;cases gk with
  |zero=>exact absurd HA.out (by simp[spec_PathClean.l0])
  |succ k1=>
   obtain⟨H⟩:=HA;simp only[spec_PathClean.l0]at H;replace H:=iteEd H;rcases H with⟨c4b0,H⟩|⟨c4b0,H⟩
   ·have HC5:=A_ H
    clear H;go_upto_region 6 with(fail)
    go_cut [19] (fun v19 wc=>∃(kq:Nat)(x19_4:Bool),v19=.bool x19_4∧Aside0 (spec_PathClean.j1 kq l0 x3_1 x4_1 x19_4=some r)∧Aside0 (kq≤k1)∧Aside0 (Kd.R Kd.string 9 wc w.heap.size (fun _=>True) u3 x3_1)∧Aside0 (Below w.heap.size w wc))
    case first=>
     obtain⟨H⟩:=HC5;replace H:=iteNd H;obtain⟨c6b0,H⟩:=H;(first|rw[c6b0]|(simp only[i64_w,i32_w];rw[c6b0])|skip);replace H:=iteEq H;rcases H with⟨c7b0,c7b1,H⟩|⟨c7b0,c7b1,c7,H⟩
     ·have H':=A_ H
      clear H;obtain⟨⟨ad125,e125,hx125_0⟩,p125,q125⟩:=atB (Kd.at_string HR0.out x4_1);cases e125;replace hx125_0:=cbl HB hx125_0;go_wp2
      go_meet
      case rel=>exact⟨_,(true),zz0,H',⟨(zz12 HK1)⟩,⟨(zz7 HO_3)⟩,⟨(zz6 HB)⟩⟩
     ·have H':=A_ H
      clear H;obtain⟨⟨ad125,e125,hx125_0⟩,p125,q125⟩:=atB (Kd.at_string HR0.out x4_1);cases e125;replace hx125_0:=cbl HB hx125_0;obtain⟨⟨ad126,e126,hx126_0⟩,p126,q126⟩:=atB (Kd.at_string HR0.out x4_1);obtain rfl:ad125=ad126:=(by injection e126);replace hx126_0:=cbl HB hx126_0;go_wp2
      go_meet
      case rel=>exact⟨_,(((rdOf bE_ l0 x4_1).toList==([46]:List UInt8))),zz0,H',⟨(zz12 HK1)⟩,⟨(zz7 HO_3)⟩,⟨(zz6 HB)⟩⟩
    case rest=>
     clear HC5;obtain⟨kq,x19_4,rfl,HA,HJ4,HO_3,HB⟩:=hcut;cases kq with
     |zero=>exact absurd HA.out (by simp[spec_PathClean.j1])
     |succ kj4=>
      obtain⟨H⟩:=HA;simp only[spec_PathClean.j1]at H;replace H:=iteB H;rcases H with⟨rfl,H⟩|⟨rfl,H⟩
      ·have H':=A_ H
       clear H;go_wp2
       go_roundg kj4
       case measure=>have:=HK1.out;have:=HJ4.out;omega
       case rel=>exact⟨(x3_1),(wrap64 (x4_1+1)),zz0,H',⟨(zz16 HK1 HJ4)⟩,⟨(zz7 HO_3)⟩,⟨(zz6 HB)⟩⟩
      ·replace H:=iteN H
       obtain⟨c9,H⟩:=H;have c9b0:=dT c9;clear c9;replace H:=iteNd H;obtain⟨c10b0,H⟩:=H;replace H:=iteEq H;rcases H with⟨c11b0,c11b1,H⟩|⟨c11b0,c11b1,c11,H⟩
       ·obtain⟨ji12,hji12⟩:∃j_:Int,(mx (wrap64 ((x3_1.length:Int)-1)) 0)=j_:=⟨_,rfl⟩
        (first|rw[hji12]at H|simp only[hji12]at H)
        have hji12_:(if(wrap64 ((x3_1.length:Int)-1))<0 then 0 else(wrap64 ((x3_1.length:Int)-1)))=ji12:=hji12;replace H:=iteN H;obtain⟨c13,H⟩:=H;have c13b0:=eq_true c13;have c13b1:=dT c13;clear c13;replace H:=iteN H;obtain⟨c14,H⟩:=H;have c14b0:=eq_true c14;have c14b1:=dT c14;clear c14;obtain⟨y128,Ny128⟩:=toY (x3_1.take ((ji12):Int).toNat);(first|with_reducible replace H:=bindZ Ny128 H|rw[←Ny128.out]at H|skip);have H':=A_ H;clear H;obtain⟨⟨ad127,e127,hx127_0⟩,p127,q127⟩:=atB (Kd.at_string HR0.out x4_1);cases e127;replace hx127_0:=cbl HB hx127_0;obtain⟨Ao15,co15,eo15⟩:=Kd.R_slice HO_3.out;subst eo15;have q16:((ji12):Int)≤((x3_1.length:Int):Int):=ofD;obtain⟨i016,hi016,_,hsz16,_⟩:=info_parts info9;have hcut16:=cut_to (P:=Tryz.prog) 29 9 .i64 Tryz.underlying29 hi016 Ao15 x3_1.length co15 (ji12) ofD q16 (Kd.R_reads' HO_3.out).2.1;have hr16:=Kd.R_take (m:=((ji12):Int).toNat) HO_3.out (by omega);have hy16:y128.length=((ji12):Int).toNat:=(by rw[Ny128.out,lT_];omega);rw[←Ny128.out]at hr16;rw[←hy16]at hr16 hcut16;clear hy16 hi016 hsz16 HO_3;have HO130:=A_ hr16;clear hr16;replace q16:=eq_true q16;go_wp2
        go_roundg kj4
        case measure=>have:=HK1.out;have:=HJ4.out;omega
        case rel=>exact⟨(y128),(wrap64 (x4_1+1)),zz0,H',⟨(zz16 HK1 HJ4)⟩,⟨(zz7 HO130)⟩,⟨(zz6 HB)⟩⟩
       ·replace H:=iteN H
        obtain⟨c17,H⟩:=H;have LMc17:=A_ c17;clear c17;obtain⟨y132,Ny132⟩:=toY (x3_1++[rdOf bE_ l0 x4_1]);(first|with_reducible replace H:=bindZ Ny132 H|rw[←Ny132.out]at H|skip);have H':=A_ H;clear H;obtain⟨⟨ad127,e127,hx127_0⟩,p127,q127⟩:=atB (Kd.at_string HR0.out x4_1);cases e127;replace hx127_0:=cbl HB hx127_0;obtain⟨⟨ad131,e131,hx131_0⟩,p131,q131⟩:=atB (Kd.at_string HR0.out x4_1);obtain rfl:ad127=ad131:=(by injection e131);replace hx131_0:=cbl HB hx131_0;go_wp2_with (first|((with_reducible refine gate_builtin (b:=.append) (xs:=#[.tmp 12,.tmp 17]) rfl ?_);at_builtin;refine Kd.R_append Kd.string (w0:=w) w.heap.size rfl (.tmp 12) (.tmp 17) 29 9 (.string ⟨#[]⟩) 16 rfl Tryz.underlying29 info9 rfl (by decide) (by omega) u3 x3_1 (rdOf bE_ l0 x4_1) [.string (rdOf bE_ l0 x4_1)] (fun _=>True) (fun _=>False) rfl rfl ?aP (fun _ hk=>hk.elim) ?aF ?aO ?aB ?aS ?aL ?_;(case aP=>exact rfl);(case aB=>exact(zz6 HB));(case aF=>exact(fun _ _=>trivial));(case aO=>exact(zz7 HO_3));(case aS=>exact(below_size (zz6 HB)));(case aL=>exact(zz4 LMc17));intro v133 w18 ho hb hg hat;rw[←Ny132.out]at ho;replace HB:=A_ (hb);have HO134:=A_ (ho);clear HO_3;clear ho hb hg hat))
        go_roundg kj4
        case measure=>have:=HK1.out;have:=HJ4.out;omega
        case rel=>exact⟨(y132),(wrap64 (x4_1+1)),zz0,H',⟨(zz16 HK1 HJ4)⟩,⟨(zz7 HO134)⟩,⟨(zz6 HB)⟩⟩
   ·obtain rfl:=sI H
    go_wp2;go_ret;exact⟨_,zz9,(zz7 HO_3),(zz6 HB)⟩
def spec_l1Path.l0:Nat→BA→Int→BA→List BA→Bool→BA→Option (BA)
 |0,_,_,_,_,_,_=>none
 |k+1,x3,x4,x137000,x137001,x137002,x137003=>if x4<(x137001.length:Int)then(if x4>0 then(if x3.size+1≤9223372036854775807 then(if 0≤x4 then(if x3.size+1+(rdOf bE_ x137001 x4).size≤9223372036854775807 then(spec_l1Path.l0 k ((x3++(⟨#[47]⟩:BA))++(rdOf bE_ x137001 x4)) (wrap64 (x4+1)) x137000 x137001 x137002 x137003)else(none))else(none))else(none))else(if 0≤x4 then(if x3.size+(rdOf bE_ x137001 x4).size≤9223372036854775807 then(spec_l1Path.l0 k (x3++(rdOf bE_ x137001 x4)) (wrap64 (x4+1)) x137000 x137001 x137002 x137003)else(none))else(none)))else(if x137002=true then(if x3.size+1≤9223372036854775807 then(if x3.size+1+x137003.size≤9223372036854775807 then(some ((x3++(⟨#[63]⟩:BA))++x137003))else(none))else(none))else(some x3))
def spec_l1Path.f (k:Nat)(a0_0:BA)(l0_1:List BA)(a0_2:Bool)(a0_3:BA):Option (BA):=spec_l1Path.l0 k (⟨#[47]⟩:BA) 0 a0_0 l0_1 a0_2 a0_3
theorem spec_l1Path.mono_l:∀k,(∀y0 y1 y2 y3 y4 y5,LeO (spec_l1Path.l0 k y0 y1 y2 y3 y4 y5) (spec_l1Path.l0 (k+1) y0 y1 y2 y3 y4 y5))
 |0=>by intros;intro r h;simp[spec_l1Path.l0]at h
 |k+1=>by
  have ih0:=spec_l1Path.mono_l k;intros;unfold spec_l1Path.l0;repeat' first|(with_reducible first|exact ih0 _ _ _ _ _ _|exact LeO.refl _|exact LeO.none _|refine LeO.ite ?_ ?_|refine LeO.bind ?_ (fun _=>?_))|exact LeO.none _|refine LeO.ite ?_ ?_|refine LeO.bind ?_ (fun _=>?_)
theorem spec_l1Path.mono:∀a0 a1 a2 a3 k,LeO (spec_l1Path.f k a0 a1 a2 a3) (spec_l1Path.f (k+1) a0 a1 a2 a3):=by
 intro a0 a1 a2 a3 k;have ih0:=spec_l1Path.mono_l k;unfold spec_l1Path.f
 repeat' first|(with_reducible first|exact ih0 _ _ _ _ _ _|exact LeO.refl _|exact LeO.none _|refine LeO.ite ?_ ?_|refine LeO.bind ?_ (fun _=>?_))|exact LeO.none _|refine LeO.ite ?_ ?_|refine LeO.bind ?_ (fun _=>?_)
theorem spec_l1Path.calls (k:Nat)(a0_0:BA)(A0_1:Option Addr)(c0_1:Nat)(l0_1:List BA)(a0_2:Bool)(a0_3:BA)(r:BA)(w:World)(hr0_1:Kd.C Kd.string w A0_1 l0_1.length l0_1)(hc0_1:l0_1.length≤c0_1)(h:spec_l1Path.f k a0_0 l0_1 a0_2 a0_3=some r):
  Calls Tryz.prog 67 #[.agg #[.string a0_0,.slice A0_1 l0_1.length c0_1,.bool a0_2,.string a0_3]] w fun e w'=>e=.returned (.string r)∧Below w.heap.size w w':=by
 have hu51:=Tryz.underlying51;have HR0_1:=A_ hr0_1;have HC0_1:=A_ hc0_1;clear hr0_1 hc0_1;have HB:=A_ (Below.refl w.heap.size w);unfold spec_l1Path.f at h;have H:=h;clear h;have H':=A_ H;clear H;go_enter Tryz.func67,Tryz.ntmps67;go_wp2_with (first|(refine boxF 1 #[.string a0_0,.slice A0_1 l0_1.length c0_1,.bool a0_2,.string a0_3] 51 ?_;intro gb136 hg w2 BK136 hb;have GE136:=geB hg (zz6 HB);replace HB:=A_ (bS (zz6 HB) hb);clear hb hg))
 go_loopg [3,4] k (fun kq v3 v4 w'=>∃(x3_1:BA)(x4_1:Int),v3=.string x3_1∧v4=.int .i64 x4_1∧Aside0 (spec_l1Path.l0 kq x3_1 x4_1 a0_0 l0_1 a0_2 a0_3=some r)∧Aside0 (kq≤k)∧Aside0 (w'.heap[gb136]?=some (.cells #[.string a0_0,(.slice A0_1 l0_1.length c0_1),.bool a0_2,.string a0_3] 51 (0,0)))∧Aside0 (Below w.heap.size w w'))
 case atStart=>exact⟨((⟨#[47]⟩:BA)),(0),zz0,zz0,H',⟨lL_ _⟩,⟨(zz18 BK136)⟩,⟨(zz19 HB GE136)⟩⟩
 case round=>
  clear H';obtain⟨x3_1,x4_1,rfl,rfl,HA,HK1,BK136,HB⟩:=hrel;cases gk with
  |zero=>exact absurd HA.out (by simp[spec_l1Path.l0])
  |succ k1=>
   obtain⟨H⟩:=HA;simp only[spec_l1Path.l0]at H;replace H:=iteEd H;rcases H with⟨c3b0,H⟩|⟨c3b0,H⟩
   ·replace H:=iteEg H
    rcases H with⟨c4b0,H⟩|⟨c4b0,H⟩
    ·replace H:=iteN H
     obtain⟨c5,H⟩:=H;have c5b0:=eq_true c5;have c5b1:=dT c5;try have c5b2:(9223372036854775807<x3_1.size+1)=False:=eq_false (nL_.2 c5);replace H:=iteNd H;obtain⟨c6b0,H⟩:=H;replace H:=iteN H;obtain⟨c7,H⟩:=H;have c7b0:=eq_true c7;have c7b1:=dT c7;try have c7b2:(9223372036854775807<x3_1.size+1+(rdOf bE_ l0_1 x4_1).size)=False:=eq_false (nL_.2 c7);have H':=A_ H;clear H;obtain⟨_,_,_,_,_,_,_,_⟩:=cf4 BK136;obtain⟨⟨ad137,e137,hx137_0⟩,p137,q137⟩:=atB (Kd.at_string HR0_1.out x4_1);cases e137;replace hx137_0:=cbl HB hx137_0;go_wp2
     go_roundg k1
     case measure=>have:=HK1.out;omega
     case rel=>exact⟨((x3_1++(⟨#[47]⟩:BA))++(rdOf bE_ l0_1 x4_1)),(wrap64 (x4_1+1)),zz0,zz0,H',⟨(zz4 HK1)⟩,⟨(zz18 BK136)⟩,⟨(zz19 HB GE136)⟩⟩
    ·replace H:=iteNd H
     obtain⟨c9b0,H⟩:=H;replace H:=iteN H;obtain⟨c10,H⟩:=H;have c10b0:=eq_true c10;have c10b1:=dT c10;try have c10b2:(9223372036854775807<x3_1.size+(rdOf bE_ l0_1 x4_1).size)=False:=eq_false (nL_.2 c10);have H':=A_ H;clear H;obtain⟨_,_,_,_,_,_,_,_⟩:=cf4 BK136;obtain⟨⟨ad138,e138,hx138_0⟩,p138,q138⟩:=atB (Kd.at_string HR0_1.out x4_1);cases e138;replace hx138_0:=cbl HB hx138_0;go_wp2
     go_roundg k1
     case measure=>have:=HK1.out;omega
     case rel=>exact⟨(x3_1++(rdOf bE_ l0_1 x4_1)),(wrap64 (x4_1+1)),zz0,zz0,H',⟨(zz4 HK1)⟩,⟨(zz18 BK136)⟩,⟨(zz19 HB GE136)⟩⟩
   ·replace H:=iteB H
    rcases H with⟨rfl,H⟩|⟨rfl,H⟩
    ·replace H:=iteN H
     obtain⟨c13,H⟩:=H;have c13b0:=eq_true c13;have c13b1:=dT c13;try have c13b2:(9223372036854775807<x3_1.size+1)=False:=eq_false (nL_.2 c13);replace H:=iteN H;obtain⟨c14,H⟩:=H;have c14b0:=eq_true c14;have c14b1:=dT c14;try have c14b2:(9223372036854775807<x3_1.size+1+a0_3.size)=False:=eq_false (nL_.2 c14);obtain rfl:=sI H;obtain⟨_,_,_,_,_,_,_,_⟩:=cf4 BK136;go_wp2;go_ret;exact⟨zz9,(zz19 HB GE136)⟩
    ·obtain rfl:=sI H
     obtain⟨_,_,_,_,_,_,_,_⟩:=cf4 BK136;go_wp2;go_ret;exact⟨zz9,(zz19 HB GE136)⟩
def spec_l11At.l0:Nat→List (S57)→BA→Int→Option (BA×BA×BA×Int×Bool)
 |0,_,_,_=>none
 |k+1,x0,x1,x6=>if x6<(x0.length:Int)then(if 0≤x6 then(if((rd_T57 x0 x6).f0).toList=x1.toList then(some ((rd_T57 x0 x6).f0,(rd_T57 x0 x6).f1,(rd_T57 x0 x6).f2,(rd_T57 x0 x6).f3,true))else(spec_l11At.l0 k x0 x1 (wrap64 (x6+1))))else(none))else(some ((⟨#[]⟩:BA),(⟨#[]⟩:BA),(⟨#[]⟩:BA),0,false))
def spec_l11At.f (k:Nat)(l0:List (S57))(a1:BA):Option (BA×BA×BA×Int×Bool):=spec_l11At.l0 k l0 a1 0
theorem spec_l11At.calls (k:Nat)(A0:Option Addr)(c0:Nat)(l0:List (S57))(a1:BA)(r1:BA)(r2:BA)(r3:BA)(r4:Int)(r5:Bool)(w:World)(hr0:Kd.C k57 w A0 l0.length l0)(hc0:l0.length≤c0)(h:spec_l11At.f k l0 a1=some (r1,r2,r3,r4,r5)):
  Calls Tryz.prog 103 #[.slice A0 l0.length c0,.string a1] w fun e w'=>e=.returned (.tuple #[.agg #[.string r1,.string r2,.string r3,.int .i64 r4],.bool r5])∧Below w.heap.size w w':=by
 have hu57:=Tryz.underlying57;have HR0:=A_ hr0;have HC0:=A_ hc0;clear hr0 hc0;have HB:=A_ (Below.refl w.heap.size w);unfold spec_l11At.f at h;have H:=h;clear h;have H':=A_ H;clear H;go_enter Tryz.func103,Tryz.ntmps103;go_wp2_with (first|(refine boxF 4 #[.string (⟨#[]⟩:BA),.string (⟨#[]⟩:BA),.string (⟨#[]⟩:BA),.int .i64 0] 57 ?_;intro gb239 hg w3 BK239 hb;have GE239:=geB hg (zz6 HB);replace HB:=A_ (bS (zz6 HB) hb);clear hb hg))
 go_loopg [6] k (fun kq v6 w'=>∃(x6_1:Int)(x240000_1:BA)(x240001_1:BA)(x240002_1:BA)(x240003_1:Int),v6=.int .i64 x6_1∧Aside0 (spec_l11At.l0 kq l0 a1 x6_1=some (r1,r2,r3,r4,r5))∧Aside0 (kq≤k)∧Aside0 (w'.heap[gb239]?=some (.cells #[.string x240000_1,.string x240001_1,.string x240002_1,.int .i64 x240003_1] 57 (0,0)))∧Aside0 (Below w.heap.size w w'))
 case atStart=>exact⟨(0),((⟨#[]⟩:BA)),((⟨#[]⟩:BA)),((⟨#[]⟩:BA)),(0),zz0,H',⟨lL_ _⟩,⟨(zz18 BK239)⟩,⟨(zz19 HB GE239)⟩⟩
 case round=>
  clear H';obtain⟨x6_1,x240000_1,x240001_1,x240002_1,x240003_1,rfl,HA,HK1,BK239,HB⟩:=hrel;cases gk with
  |zero=>exact absurd HA.out (by simp[spec_l11At.l0])
  |succ k1=>
   obtain⟨H⟩:=HA;simp only[spec_l11At.l0]at H;replace H:=iteEd H;rcases H with⟨c4b0,H⟩|⟨c4b0,H⟩
   ·replace H:=iteNd H
    obtain⟨c5b0,H⟩:=H;replace H:=iteEq H;rcases H with⟨c6b0,c6b1,H⟩|⟨c6b0,c6b1,c6,H⟩
    ·simp only[oI_,pI_]at H
     obtain⟨rfl,rfl,rfl,rfl,rfl⟩:=H;obtain⟨⟨ad240,e240,hx240_0,hx240_1,hx240_2,hx240_3⟩,p240,q240⟩:=atB (at_T57 HR0.out x6_1);cases e240;obtain⟨hx240_0,hx240_1,hx240_2,hx240_3⟩:=cb4 HB hx240_0 hx240_1 hx240_2 hx240_3;obtain⟨⟨ad241,e241,hx241_0,hx241_1,hx241_2,hx241_3⟩,p241,q241⟩:=atB (at_T57 HR0.out x6_1);obtain rfl:ad240=ad241:=(by injection e241);obtain⟨hx241_0,hx241_1,hx241_2,hx241_3⟩:=cb4 HB hx241_0 hx241_1 hx241_2 hx241_3;obtain⟨_,_,_,_,_,_,_,_⟩:=cf4 BK239;go_wp2;refine pR (results_ct rfl _ _ gb239 57 #[.string ((rd_T57 l0 x6_1).f0),.string ((rd_T57 l0 x6_1).f1),.string ((rd_T57 l0 x6_1).f2),.int .i64 ((rd_T57 l0 x6_1).f3)] (0,0) _ rfl (zz22 BK239) Tryz.underlying57 rfl (by kernel_rfl)) rfl ?_;exact⟨zz9,(zz19 HB GE239)⟩
    ·have H':=A_ H
     clear H;obtain⟨⟨ad240,e240,hx240_0,hx240_1,hx240_2,hx240_3⟩,p240,q240⟩:=atB (at_T57 HR0.out x6_1);cases e240;obtain⟨hx240_0,hx240_1,hx240_2,hx240_3⟩:=cb4 HB hx240_0 hx240_1 hx240_2 hx240_3;go_wp2
     go_roundg k1
     case measure=>have:=HK1.out;omega
     case rel=>exact⟨(wrap64 (x6_1+1)),(x240000_1),(x240001_1),(x240002_1),(x240003_1),zz0,H',⟨(zz4 HK1)⟩,⟨(zz18 BK239)⟩,⟨(zz19 HB GE239)⟩⟩
   ·simp only[oI_,pI_]at H
    obtain⟨rfl,rfl,rfl,rfl,rfl⟩:=H;obtain⟨_,_,_,_,_,_,_,_⟩:=cf4 BK239;go_wp2;refine pR (results_ct rfl _ _ gb239 57 #[.string (⟨#[]⟩:BA),.string (⟨#[]⟩:BA),.string (⟨#[]⟩:BA),.int .i64 0] (0,0) _ rfl (zz22 BK239) Tryz.underlying57 rfl (by kernel_rfl)) rfl ?_;exact⟨zz9,(zz19 HB GE239)⟩
mutual
def spec_l2Of.l0:Nat→List (S32)→BA→Bool→Int→List BA→List (S93)→Int→Option (List BA×(List (S93))×Int×Bool)
 |0,_,_,_,_,_,_,_=>none
 |k+1,x0,x1,x7,x8,x258000,x258001,x258002=>if x8<(x0.length:Int)then(spec_l2Of.l1 k x0 x1 x7 x8 false 0 x258000 x258001 x258002)else(some (x258000,x258001,x258002,x7))
def spec_l2Of.l1:Nat→List (S32)→BA→Bool→Int→Bool→Int→List BA→List (S93)→Int→Option (List BA×(List (S93))×Int×Bool)
 |0,_,_,_,_,_,_,_,_,_=>none
 |k+1,x0,x1,x7,x8,x9,x10,x258000,x258001,x258002=>if 0≤x8 then(if x8<(x0.length:Int)then(if x10<(((rd_T32 x0 x8).f0).length:Int)then(if x9=true then(spec_l2Of.l1 k x0 x1 x7 x8 true (wrap64 (x10+1)) x258000 x258001 x258002)else(if 0≤x10 then(spec_l2Of.l1 k x0 x1 x7 x8 ((rdOf bE_ ((rd_T32 x0 x8).f0) x10).toList==x1.toList) (wrap64 (x10+1)) x258000 x258001 x258002)else(none)))else(if x9=true then(if x258001.length+((rd_T32 x0 x8).f1).length<5864062014805 then(spec_l2Of.l0 k x0 x1 true (wrap64 (x8+1)) x258000 (x258001++((rd_T32 x0 x8).f1)) (mx x258002 ((rd_T32 x0 x8).f2)))else(none))else(spec_l2Of.l0 k x0 x1 x7 (wrap64 (x8+1)) x258000 x258001 x258002)))else(none))else(none)
end
def spec_l2Of.f (k:Nat)(l0:List (S32))(a1:BA):Option (List BA×(List (S93))×Int×Bool):=spec_l2Of.l0 k l0 a1 false 0 (([a1]:List BA)) (([]:List (S93))) 0
def spec_l2Of.T13:Bool×List (List Nat×List Nat):=(true,[([],[]),([0],[0]),([],[]),([],[]),([2,3],[2,3]),([4],[4]),([5],[5]),([1,6],[1,6]),([0,1,2,3,4,5,6,7],[]),([8,7,7,0,1,2,3,4,5,6,7],[7,8])])
def spec_l2Of.B13:List Nat:=[0,1,0,0,12,28,60,127,255,511]
theorem spec_l2Of.tab13:rtab .any (opsOf Tryz.f104 13)=spec_l2Of.T13:=by kernel_rfl
theorem spec_l2Of.bits13:waitsOk spec_l2Of.T13.2 spec_l2Of.B13=true:=by kernel_rfl
def spec_l2Of.T14:Bool×List (List Nat×List Nat):=(true,[([],[]),([0],[0]),([],[]),([],[]),([2,3],[2,3]),([4],[4]),([5],[5]),([1,6],[1,6]),([0,1,2,3,4,5,6,7],[]),([8,7,0,1,2,3,4,5,6,7],[7,8])])
def spec_l2Of.B14:List Nat:=[0,1,0,0,12,28,60,127,255,511]
theorem spec_l2Of.tab14:rtab .any (opsOf Tryz.f104 14)=spec_l2Of.T14:=by kernel_rfl
theorem spec_l2Of.bits14:waitsOk spec_l2Of.T14.2 spec_l2Of.B14=true:=by kernel_rfl
theorem spec_l2Of.calls (k:Nat)(A0:Option Addr)(c0:Nat)(l0:List (S32))(a1:BA)(r1:List BA)(r2:List (S93))(r3:Int)(r4:Bool)(w:World)(hr0:Kd.C k32 w A0 l0.length l0)(hc0:l0.length≤c0)(h:spec_l2Of.f k l0 a1=some (r1,r2,r3,r4)):
  Calls Tryz.prog 104 #[.slice A0 l0.length c0,.string a1] w fun e w'=>∃v0_ v1_:Value,e=.returned (.tuple #[.agg #[v0_,v1_,.int .i64 r3],.bool r4])∧Kd.R Kd.string 9 w' w.heap.size (fun _=>True) v0_ r1∧Kd.R k93 93 w' w.heap.size (fun _=>True) v1_ r2∧Below w.heap.size w w':=by
 have hu32:=Tryz.underlying32;have HR0:=A_ hr0;have HC0:=A_ hc0;clear hr0 hc0;have HB:=A_ (Below.refl w.heap.size w);unfold spec_l2Of.f at h;have H:=h;clear h;obtain⟨y251,Ny251⟩:=toY (([a1]:List BA));(first|with_reducible replace H:=bindZ Ny251 H|rw[←Ny251.out]at H|skip);obtain⟨y254,Ny254⟩:=toY (([]:List (S93)));(first|with_reducible replace H:=bindZ Ny254 H|rw[←Ny254.out]at H|skip);have H':=A_ H;clear H;go_enter Tryz.func104,Tryz.ntmps104;go_wp2_with (first|(refine boxF 4 #[.slice none 0 0,.slice none 0 0,.int .i64 0] 32 ?_;intro gb250 hg w3 BK250 hb;have GE250:=geB hg (zz6 HB);replace HB:=A_ (bS (zz6 HB) hb);clear hb hg)|((with_reducible refine gD (N:=12) rfl ?_);refine Kd.R_lit Kd.string _ 9 ?hg (N:=12) ?hd (xs:=([a1]:List BA)) (inner:=[.string a1]) (ok:=fun _=>True) (okp:=fun _=>True) ?hr ?hp (fun _ hk=>hk) trivial (Below.refl _ _) (lL_ _) (by simp) ?_;(case hd=>rfl);(case hg=>rfl);(case hr=>exact zz5);(case hp=>exact(Reps.one (show Kd.M Kd.string _ _ _ a1 [.string a1]from rfl) (Reps.none _ _)));intro v252 w4 ho5 hb hg_ hnew_;clear hg_ hnew_;(first|rw[←Ny251.out]at ho5|(simp only[Int.reduceToNat]at ho5;rw[←Ny251.out]at ho5));have HO253:=A_ (Kd.R_lower ho5 (below_size (zz19 HB GE250)));replace BK250:=A_ (bB (zz18 BK250) hb);replace HB:=A_ (bS (zz19 HB GE250) hb);clear hb ho5)|((with_reducible refine gD (N:=13) rfl ?_);refine Kd.R_lit k93 _ 93 ?hg (N:=13) ?hd (xs:=([]:List (S93))) (inner:=[]) (ok:=fun _=>True) (okp:=fun _=>True) ?hr ?hp (fun _ hk=>hk) trivial (Below.refl _ _) (lL_ _) (by simp) ?_;(case hd=>rfl);(case hg=>rfl);(case hr=>exact zz5);(case hp=>exact(Reps.none _ _));intro v255 w6 ho7 hb hg_ hnew_;clear hg_ hnew_;(first|rw[←Ny254.out]at ho7|(simp only[Int.reduceToNat]at ho7;rw[←Ny254.out]at ho7));replace HO253:=A_ (rB (zz7 HO253) hb);have HO256:=A_ (Kd.R_lower ho7 (below_size (zz19 HB GE250)));replace BK250:=A_ (bB (zz18 BK250) hb);replace HB:=A_ (bS (zz19 HB GE250) hb);clear hb ho7;obtain⟨Ao8,co8,eo8⟩:=Kd.R_slice HO256.out;subst eo8;obtain⟨Ao9,co9,eo9⟩:=Kd.R_slice HO253.out;subst eo9)|(refine boxF 6 #[.slice none 0 0,.slice none 0 0,.int .i64 0] 32 ?_;intro gb257 hg w10 BK257 hb;replace HO253:=A_ (rB (zz7 HO253) hb);replace HO256:=A_ (rB (zz7 HO256) hb);have GE257:=geB hg (zz19 HB GE250);replace HB:=A_ (bS (zz19 HB GE250) hb);have NB250_257:=A_ ((by rw[hg];exact Nat.ne_of_lt (blk_lt (zz18 BK250)):gb250≠gb257));have NB257_250:=A_ ((by rw[hg];exact Nat.ne_of_gt (blk_lt (zz18 BK250)):gb257≠gb250));replace BK250:=A_ (bB (zz18 BK250) hb);clear hb hg;have hnb11:=NB257_250.out;have hnc11:=NB250_257.out;obtain⟨_,_,_,_,_,_⟩:=cf3 BK257))
 go_loopg [7,8] k (fun kq v7 v8 w'=>∃(x7_1:Bool)(x8_1:Int)(x258001_1:List (S93))(x258002_1:Int)(u258001:Value),v7=.bool x7_1∧v8=.int .i64 x8_1∧Aside0 (spec_l2Of.l0 kq l0 a1 x7_1 x8_1 y251 x258001_1 x258002_1=some (r1,r2,r3,r4))∧Aside0 (kq≤k)∧Aside0 (Kd.R Kd.string 9 w' w.heap.size (fun _=>True) (.slice Ao9 y251.length co9) y251)∧Aside0 (Kd.R k93 93 w' w.heap.size (fun _=>True) u258001 x258001_1)∧Aside0 (w'.heap[gb250]?=some (.cells #[(.slice none 0 0),(.slice none 0 0),.int .i64 0] 32 (0,0)))∧Aside0 (w'.heap[gb257]?=some (.cells #[(.slice Ao9 y251.length co9),u258001,.int .i64 x258002_1] 32 (0,0)))∧Aside0 (Below w.heap.size w w'))
 case atStart=>exact⟨(false),(0),(y254),(0),(.slice Ao8 y254.length co8),zz0,zz0,H',⟨lL_ _⟩,⟨(zz23 (rt HO253 BK257))⟩,⟨(zz23 (rt HO256 BK257))⟩,⟨(zz24 BK250 NB250_257)⟩,⟨(zz25 BK257)⟩,⟨(zz26 HB GE250 GE257)⟩⟩
 case round=>
  clear H';obtain⟨x7_1,x8_1,x258001_1,x258002_1,u258001,rfl,rfl,HA,HK1,HO_258000,HO_258001,BK250,BK257,HB⟩:=hrel;cases gk with
  |zero=>exact absurd HA.out (by simp[spec_l2Of.l0])
  |succ k1=>
   obtain⟨H⟩:=HA;simp only[spec_l2Of.l0]at H;replace H:=iteEd H;rcases H with⟨c13b0,H⟩|⟨c13b0,H⟩
   ·have H':=A_ H
    clear H;go_wp2
    go_loopg [9,10] k1 (fun kq v9 v10 w'=>∃(x9_2:Bool)(x10_2:Int),v9=.bool x9_2∧v10=.int .i64 x10_2∧Aside0 (spec_l2Of.l1 kq l0 a1 x7_1 x8_1 x9_2 x10_2 y251 x258001_1 x258002_1=some (r1,r2,r3,r4))∧Aside0 (kq≤k1)∧Aside0 (Kd.R Kd.string 9 w' w.heap.size (fun _=>True) (.slice Ao9 y251.length co9) y251)∧Aside0 (Kd.R k93 93 w' w.heap.size (fun _=>True) u258001 x258001_1)∧Aside0 (w'.heap[gb250]?=some (.cells #[(.slice none 0 0),(.slice none 0 0),.int .i64 0] 32 (0,0)))∧Aside0 (w'.heap[gb257]?=some (.cells #[(.slice Ao9 y251.length co9),u258001,.int .i64 x258002_1] 32 (0,0)))∧Aside0 (Below w.heap.size w w'))
    case atStart=>exact⟨(false),(0),zz0,zz0,H',⟨lL_ _⟩,⟨(zz7 HO_258000)⟩,⟨(zz7 HO_258001)⟩,⟨(zz18 BK250)⟩,⟨(zz18 BK257)⟩,⟨(zz26 HB GE250 GE257)⟩⟩
    case round=>
     clear H';obtain⟨x9_2,x10_2,rfl,rfl,HA,HK2,HO_258000,HO_258001,BK250,BK257,HB⟩:=hrel;cases gk with
     |zero=>exact absurd HA.out (by simp[spec_l2Of.l1])
     |succ k2=>
      obtain⟨H⟩:=HA;simp only[spec_l2Of.l1]at H;replace H:=iteNd H;obtain⟨c14b0,H⟩:=H;replace H:=iteNd H;obtain⟨c15b0,H⟩:=H;replace H:=iteEd H;rcases H with⟨c16b0,H⟩|⟨c16b0,H⟩
      ·replace H:=iteB H
       rcases H with⟨rfl,H⟩|⟨rfl,H⟩
       ·have H':=A_ H
        clear H;obtain⟨⟨ad258,A258_0,c258_0,A258_1,c258_1,e258,hx258_0,hx258_1,hx258_2,hl258_0,hi258_0,hl258_1,hi258_1⟩,p258,q258⟩:=atB (at_T32 HR0.out x8_1);cases e258;obtain⟨hx258_0,hx258_1,hx258_2⟩:=cb3 HB hx258_0 hx258_1 hx258_2;have HR258_0:=A_ hi258_0;have HC258_0:=A_ hl258_0;clear hi258_0 hl258_0;have HR258_1:=A_ hi258_1;have HC258_1:=A_ hl258_1;clear hi258_1 hl258_1;go_wp2
        go_roundg k2
        case measure=>have:=HK1.out;have:=HK2.out;omega
        case rel=>exact⟨(true),(wrap64 (x10_2+1)),zz0,zz0,H',⟨(zz16 HK1 HK2)⟩,⟨(zz7 HO_258000)⟩,⟨(zz7 HO_258001)⟩,⟨(zz18 BK250)⟩,⟨(zz18 BK257)⟩,⟨(zz26 HB GE250 GE257)⟩⟩
       ·replace H:=iteN H
        obtain⟨c18,H⟩:=H;have c18b0:=dT c18;clear c18;have H':=A_ H;clear H;obtain⟨⟨ad258,A258_0,c258_0,A258_1,c258_1,e258,hx258_0,hx258_1,hx258_2,hl258_0,hi258_0,hl258_1,hi258_1⟩,p258,q258⟩:=atB (at_T32 HR0.out x8_1);cases e258;obtain⟨hx258_0,hx258_1,hx258_2⟩:=cb3 HB hx258_0 hx258_1 hx258_2;have HR258_0:=A_ hi258_0;have HC258_0:=A_ hl258_0;clear hi258_0 hl258_0;have HR258_1:=A_ hi258_1;have HC258_1:=A_ hl258_1;clear hi258_1 hl258_1;obtain⟨⟨ad259,A259_0,c259_0,A259_1,c259_1,e259,hx259_0,hx259_1,hx259_2,hl259_0,hi259_0,hl259_1,hi259_1⟩,p259,q259⟩:=atB (at_T32 HR0.out x8_1);obtain rfl:ad258=ad259:=(by injection e259);obtain⟨hx259_0,hx259_1,hx259_2⟩:=cb3 HB hx259_0 hx259_1 hx259_2;have HR259_0:=A_ hi259_0;have HC259_0:=A_ hl259_0;clear hi259_0 hl259_0;have HR259_1:=A_ hi259_1;have HC259_1:=A_ hl259_1;clear hi259_1 hl259_1;have ea_:=sI (hx258_0.symm.trans hx259_0);injection ea_ with ea_ en_ ec_;subst ea_;subst ec_;clear en_;have ea_:=sI (hx258_1.symm.trans hx259_1);injection ea_ with ea_ en_ ec_;subst ea_;subst ec_;clear en_;obtain⟨⟨ad260,e260,hx260_0⟩,p260,q260⟩:=atB (Kd.at_string HR259_0.out x10_2);cases e260;replace hx260_0:=cbl HB hx260_0;go_wp2
        go_roundg k2
        case measure=>have:=HK1.out;have:=HK2.out;omega
        case rel=>exact⟨(((rdOf bE_ ((rd_T32 l0 x8_1).f0) x10_2).toList==a1.toList)),(wrap64 (x10_2+1)),zz0,zz0,H',⟨(zz16 HK1 HK2)⟩,⟨(zz7 HO_258000)⟩,⟨(zz7 HO_258001)⟩,⟨(zz18 BK250)⟩,⟨(zz18 BK257)⟩,⟨(zz26 HB GE250 GE257)⟩⟩
      ·replace H:=iteB H
       rcases H with⟨rfl,H⟩|⟨rfl,H⟩
       ·replace H:=iteN H
        obtain⟨c20,H⟩:=H;have LMc20:=A_ c20;clear c20;obtain⟨y262,Ny262⟩:=toY (x258001_1++((rd_T32 l0 x8_1).f1));(first|with_reducible replace H:=bindZ Ny262 H|rw[←Ny262.out]at H|skip);obtain⟨ji21,hji21⟩:∃j_:Int,(mx x258002_1 ((rd_T32 l0 x8_1).f2))=j_:=⟨_,rfl⟩;(first|rw[hji21]at H|simp only[hji21]at H);have hji21_:(if x258002_1<((rd_T32 l0 x8_1).f2)then((rd_T32 l0 x8_1).f2)else x258002_1)=ji21:=hji21;have H':=A_ H;clear H;obtain⟨⟨ad258,A258_0,c258_0,A258_1,c258_1,e258,hx258_0,hx258_1,hx258_2,hl258_0,hi258_0,hl258_1,hi258_1⟩,p258,q258⟩:=atB (at_T32 HR0.out x8_1);cases e258;obtain⟨hx258_0,hx258_1,hx258_2⟩:=cb3 HB hx258_0 hx258_1 hx258_2;have HR258_0:=A_ hi258_0;have HC258_0:=A_ hl258_0;clear hi258_0 hl258_0;have HR258_1:=A_ hi258_1;have HC258_1:=A_ hl258_1;clear hi258_1 hl258_1;try go_wp2;replace HO_258000:=A_ (Kd.R_drew HO_258000.out);replace HO_258001:=A_ (Kd.R_drew HO_258001.out);replace BK250:=A_ (blk_drew BK250.out);replace BK257:=A_ (blk_drew BK257.out);replace HB:=A_ (below_drew1 HB.out);obtain⟨⟨ad261,A261_0,c261_0,A261_1,c261_1,e261,hx261_0,hx261_1,hx261_2,hl261_0,hi261_0,hl261_1,hi261_1⟩,p261,q261⟩:=atB (at_T32 HR0.out x8_1);have hw261_2:=hx261_2;have hw261_1:=hx261_1;have hw261_0:=hx261_0;obtain rfl:ad258=ad261:=(by injection e261);obtain⟨hx261_0,hx261_1,hx261_2⟩:=cb3 HB hx261_0 hx261_1 hx261_2;have HR261_0:=A_ hi261_0;have HC261_0:=A_ hl261_0;clear hi261_0 hl261_0;have HR261_1:=A_ hi261_1;have HC261_1:=A_ hl261_1;clear hi261_1 hl261_1;refine start_ (n:=10) (S:=fun w'=>w'.cell? ⟨gb257,0,none⟩=some (.slice Ao9 y251.length co9)∧w'.cell? ⟨gb257,1,none⟩=some (u258001)∧w'.cell? ⟨gb257,2,none⟩=some (.int .i64 x258002_1)∧w'.cell? (ad258.add ((x8_1).toNat*3))=some (.slice A261_0 ((rd_T32 l0 x8_1).f0).length c261_0)∧w'.cell? ⟨(ad258.add ((x8_1).toNat*3)).block,(ad258.add ((x8_1).toNat*3)).off+1,none⟩=some (.slice A261_1 ((rd_T32 l0 x8_1).f1).length c261_1)∧w'.cell? ⟨(ad258.add ((x8_1).toNat*3)).block,(ad258.add ((x8_1).toNat*3)).off+2,none⟩=some (.int .i64 ((rd_T32 l0 x8_1).f2))) (ds:=[9]) #[yF,yF,yF,yF,yF,yF,yF,yF,yF,yF] (by kernel_rfl) rfl rfl ⟨(blk_cell BK257.out 0).trans rfl,(blk_cell BK257.out 1).trans rfl,(blk_cell BK257.out 2).trans rfl,((HB.out.cell (wb_ w _ hw261_0)).trans hw261_0),((HB.out.cell (wb_ w _ hw261_1)).trans hw261_1),((HB.out.cell (wb_ w _ hw261_2)).trans hw261_2)⟩ (fun hHeld=>?_);refine with_tabW spec_l2Of.tab13 spec_l2Of.bits13 (fun HT_ HW_=>?_);generalize wr.drew=w22 at HO_258000 HO_258001 BK250 BK257 HB HR261_0 HR261_1 hx261_0 hx261_1 hx261_2 hHeld ⊢;refine pureZ 0 (some 45) (yA 1 9) ?_;refine pureZ 2 (some 47) #[yT,yF,yT,yF,yF,yF,yF,yF,yF,yF] ?_;refine pureZ 3 (some 48) #[yT,yF,yT,yT,yF,yF,yF,yF,yF,yF] ?_;refine pureZ 4 (some 49) #[yT,yF,yT,yT,yT,yF,yF,yF,yF,yF] ?_;refine pureZ 5 (some 50) #[yT,yF,yT,yT,yT,yT,yF,yF,yF,yF] ?_;refine takeZ6 1 (some 46) (yA 6 4) hHeld ?_;refine takeZ6 6 (some 51) (yA 7 3) hHeld ?_;refine oneZ 7 (some 52) (yA 8 2) (fun K hK=>?_);refine Kd.R_append_rows_step k93 (w0:=w) w.heap.size (by rfl) (.tmp 46) (.tmp 51) 30 93 (.agg #[(.bool false),(.string ⟨#[]⟩)]) 24 rfl Tryz.underlying30 info93 rfl (by decide) (by omega) u258001 x258001_1 ((rd_T32 l0 x8_1).f1) _ _ _ (fun _=>True) (fun _=>False) rfl rfl ?aO ?aR (fun _ _ h=>h) (fun _ h=>h.elim) ?aF ?aB ?aS ?aL ?_;(case aR=>exact(zz29 HR261_1 HB))
        (case aB=>exact(zz26 HB GE250 GE257))
        (case aF=>exact(fun _ _=>trivial))
        (case aO=>exact(zz7 HO_258001))
        (case aS=>exact(below_size (zz26 HB GE250 GE257)))
        (case aL=>exact(zz4 LMc20))
        intro v263 w23 ho hb hg hat;rw[←Ny262.out]at ho;replace HO_258000:=A_ (Kd.R_over' (zz7 HO_258000) (Kd.R_typed (zz7 HO_258001)) (by decide) hg);replace BK250:=A_ (blk_grown (zz18 BK250) hg (Kd.R_ne HO_258001.out BK250.out (by decide)));replace BK257:=A_ (blk_grown (zz18 BK257) hg (Kd.R_ne HO_258001.out BK257.out (by decide)));replace HB:=A_ (hb);have HO264:=A_ (ho);clear HO_258001;clear ho hb hg hat;obtain⟨Ao24,co24,eo24⟩:=Kd.R_slice HO264.out;(first|subst eo24|(injection eo24 with f1_ f2_ f3_;have f4_:=f1_.symm;have f5_:=f3_.symm;clear f1_ f2_ f3_;subst f4_;subst f5_));refine hK.out _ _ ⟨(blk_cell BK257.out 0).trans rfl,(blk_cell BK257.out 1).trans rfl,(blk_cell BK257.out 2).trans rfl,((HB.out.cell (wb_ w _ hw261_0)).trans hw261_0),((HB.out.cell (wb_ w _ hw261_1)).trans hw261_1),((HB.out.cell (wb_ w _ hw261_2)).trans hw261_2)⟩ (fun hHeld=>?_);clear hK K;refine nZ 52 ?_;refine pureZ 8 (some 53) (yA 9 1) ?_;refine last_ (i:=9) (N:=none) (yA 10 0) rfl rfl (one_of HT_.out (by kernel_rfl)) (by decide) (fun K hK=>?_);have hs25:w23.cell? ⟨gb257,1,none⟩=some (u258001):=(blk_cell BK257.out 1).trans rfl;have hfs25:=blk_frozen BK257.out 1;have hns25_0:=NB250_257.out;have hms25_0:=NB257_250.out;refine skip_ (w1:=?_) (by rfl) rfl ?_ ?_;rotate_left
        ·go_simp
         rfl
        refine hK.out _ _ ?_;clear hK K;refine done_ (done_of HT_.out (by kernel_rfl)) ?_;try go_wp2;have n0_:Aside0 (Kd.R Kd.string 9 (w23.setCell ⟨gb257,1,none⟩ (.slice Ao24 y262.length co24)) w.heap.size (fun _=>True) (.slice Ao9 y251.length co9) y251):=⟨(zz23 (rt HO_258000 BK257))⟩;have n1_:Aside0 (Kd.R k93 93 (w23.setCell ⟨gb257,1,none⟩ (.slice Ao24 y262.length co24)) w.heap.size (fun _=>True) (.slice Ao24 y262.length co24) y262):=⟨(zz23 (rt HO264 BK257))⟩;have n2_:Aside0 ((w23.setCell ⟨gb257,1,none⟩ (.slice Ao24 y262.length co24)).heap[gb250]?=some (.cells #[.slice none 0 0,.slice none 0 0,.int .i64 0] 32 (0,0))):=⟨(zz24 BK250 NB250_257)⟩;have n3_:Aside0 ((w23.setCell ⟨gb257,1,none⟩ (.slice Ao24 y262.length co24)).heap[gb257]?=some (.cells #[.slice Ao9 y251.length co9,.slice Ao24 y262.length co24,.int .i64 x258002_1] 32 (0,0))):=⟨(zz30 BK257)⟩;have n4_:Aside0 (Below w.heap.size w (w23.setCell ⟨gb257,1,none⟩ (.slice Ao24 y262.length co24))):=⟨(zz26 HB GE250 GE257)⟩;(try clear HO_258000)
        (try clear HO264)
        (try clear BK250)
        (try clear BK257)
        (try clear HB)
        generalize (w23.setCell ⟨gb257,1,none⟩ (.slice Ao24 y262.length co24))=w26 at n0_ n1_ n2_ n3_ n4_ ⊢;have HO_258000:=n0_;have HO264:=n1_;have BK250:=n2_;have BK257:=n3_;have HB:=n4_;clear n0_ n1_ n2_ n3_ n4_;replace HO_258000:=A_ (Kd.R_drew HO_258000.out);replace HO264:=A_ (Kd.R_drew HO264.out);replace BK250:=A_ (blk_drew BK250.out);replace BK257:=A_ (blk_drew BK257.out);replace HB:=A_ (below_drew1 HB.out);obtain⟨⟨ad265,A265_0,c265_0,A265_1,c265_1,e265,hx265_0,hx265_1,hx265_2,hl265_0,hi265_0,hl265_1,hi265_1⟩,p265,q265⟩:=atB (at_T32 HR0.out x8_1);have hw265_2:=hx265_2;have hw265_1:=hx265_1;have hw265_0:=hx265_0;obtain rfl:ad258=ad265:=(by injection e265);obtain⟨hx265_0,hx265_1,hx265_2⟩:=cb3 HB hx265_0 hx265_1 hx265_2;have HR265_0:=A_ hi265_0;have HC265_0:=A_ hl265_0;clear hi265_0 hl265_0;have HR265_1:=A_ hi265_1;have HC265_1:=A_ hl265_1;clear hi265_1 hl265_1;refine start_ (n:=10) (S:=fun w'=>w'.cell? ⟨gb257,0,none⟩=some (.slice Ao9 y251.length co9)∧w'.cell? ⟨gb257,1,none⟩=some (.slice Ao24 y262.length co24)∧w'.cell? ⟨gb257,2,none⟩=some (.int .i64 x258002_1)∧w'.cell? (ad258.add ((x8_1).toNat*3))=some (.slice A265_0 ((rd_T32 l0 x8_1).f0).length c265_0)∧w'.cell? ⟨(ad258.add ((x8_1).toNat*3)).block,(ad258.add ((x8_1).toNat*3)).off+1,none⟩=some (.slice A265_1 ((rd_T32 l0 x8_1).f1).length c265_1)∧w'.cell? ⟨(ad258.add ((x8_1).toNat*3)).block,(ad258.add ((x8_1).toNat*3)).off+2,none⟩=some (.int .i64 ((rd_T32 l0 x8_1).f2))) (ds:=[9]) #[yF,yF,yF,yF,yF,yF,yF,yF,yF,yF] (by kernel_rfl) rfl rfl ⟨(blk_cell BK257.out 0).trans rfl,(blk_cell BK257.out 1).trans rfl,(blk_cell BK257.out 2).trans rfl,((HB.out.cell (wb_ w _ hw265_0)).trans hw265_0),((HB.out.cell (wb_ w _ hw265_1)).trans hw265_1),((HB.out.cell (wb_ w _ hw265_2)).trans hw265_2)⟩ (fun hHeld=>?_);refine with_tabW spec_l2Of.tab14 spec_l2Of.bits14 (fun HT_ HW_=>?_);generalize w26.drew=w27 at HO_258000 HO264 BK250 BK257 HB HR265_0 HR265_1 hx265_0 hx265_1 hx265_2 hHeld ⊢;refine pureZ 0 (some 54) (yA 1 9) ?_;refine pureZ 2 (some 56) #[yT,yF,yT,yF,yF,yF,yF,yF,yF,yF] ?_;refine pureZ 3 (some 57) #[yT,yF,yT,yT,yF,yF,yF,yF,yF,yF] ?_;refine pureZ 4 (some 58) #[yT,yF,yT,yT,yT,yF,yF,yF,yF,yF] ?_;refine pureZ 5 (some 59) #[yT,yF,yT,yT,yT,yT,yF,yF,yF,yF] ?_;refine takeZ6 1 (some 55) (yA 6 4) hHeld ?_;refine takeZ6 6 (some 60) (yA 7 3) hHeld ?_;refine pureZ 7 (some 61) (yA 8 2) ?_;refine pureZ 8 (some 62) (yA 9 1) ?_;refine last_ (i:=9) (N:=none) (yA 10 0) rfl rfl (one_of HT_.out (by kernel_rfl)) (by decide) (fun K hK=>?_);have hs28:w27.cell? ⟨gb257,2,none⟩=some (.int .i64 x258002_1):=(blk_cell BK257.out 2).trans rfl;have hfs28:=blk_frozen BK257.out 2;have hns28_0:=NB250_257.out;have hms28_0:=NB257_250.out;refine skip_ (w1:=?_) (by rfl) rfl ?_ ?_;rotate_left
        ·go_simp
         rfl
        refine hK.out _ _ ?_;clear hK K;refine done_ (done_of HT_.out (by kernel_rfl)) ?_;try go_wp2
        go_roundg k2
        case measure=>have:=HK1.out;have:=HK2.out;omega
        case rel=>exact⟨(true),(wrap64 (x8_1+1)),(y262),(ji21),(.slice Ao24 y262.length co24),zz0,zz0,H',⟨(zz16 HK1 HK2)⟩,⟨(zz23 (rt HO_258000 BK257))⟩,⟨(zz23 (rt HO264 BK257))⟩,⟨(zz24 BK250 NB250_257)⟩,⟨(zz31 BK257)⟩,⟨(zz26 HB GE250 GE257)⟩⟩
       ·have H':=A_ H
        clear H;obtain⟨⟨ad258,A258_0,c258_0,A258_1,c258_1,e258,hx258_0,hx258_1,hx258_2,hl258_0,hi258_0,hl258_1,hi258_1⟩,p258,q258⟩:=atB (at_T32 HR0.out x8_1);cases e258;obtain⟨hx258_0,hx258_1,hx258_2⟩:=cb3 HB hx258_0 hx258_1 hx258_2;have HR258_0:=A_ hi258_0;have HC258_0:=A_ hl258_0;clear hi258_0 hl258_0;have HR258_1:=A_ hi258_1;have HC258_1:=A_ hl258_1;clear hi258_1 hl258_1;go_wp2
        go_roundg k2
        case measure=>have:=HK1.out;have:=HK2.out;omega
        case rel=>exact⟨(x7_1),(wrap64 (x8_1+1)),(x258001_1),(x258002_1),(u258001),zz0,zz0,H',⟨(zz16 HK1 HK2)⟩,⟨(zz7 HO_258000)⟩,⟨(zz7 HO_258001)⟩,⟨(zz18 BK250)⟩,⟨(zz18 BK257)⟩,⟨(zz26 HB GE250 GE257)⟩⟩
   ·simp only[oI_,pI_]at H
    obtain⟨rfl,rfl,rfl,rfl⟩:=H;have hnb29:=NB257_250.out;have hnc29:=NB250_257.out;obtain⟨_,_,_,_,_,_⟩:=cf3 BK257;obtain⟨_,_,_,_,_,_⟩:=cf3 BK250;obtain⟨Ao32,co32,eo32⟩:=Kd.R_slice HO_258001.out;subst eo32;go_wp2;refine pR (results_ct rfl _ _ gb250 32 #[.slice Ao9 y251.length co9,.slice Ao32 x258001_1.length co32,.int .i64 x258002_1] (0,0) _ rfl (zz25 BK250) Tryz.underlying32 rfl (by kernel_rfl)) rfl ?_;exact⟨_,_,zz9,(zz23 (rt HO_258000 BK250)),(zz23 (rt HO_258001 BK250)),(zz26 HB GE250 GE257)⟩
def spec_l2Num.l0:Nat→BA→Int→Int→Int→Option (Int)
 |0,_,_,_,_=>none
 |k+1,x0,x1,x5,x6=>if x6<(x0.size:Int)then(if 0≤x6 then(if(bt x0 x6)<48 then(some 0)else(if(bt x0 x6)>57 then(some 0)else(spec_l2Num.l0 k x0 x1 (mn (wrap64 ((wrap64 (x5*10))+(((bt x0 x6)-48)%256))) x1) (wrap64 (x6+1)))))else(none))else(some x5)
def spec_l2Num.f (k:Nat)(a0:BA)(a1:Int):Option (Int):=spec_l2Num.l0 k a0 a1 0 0
theorem spec_l2Num.mono_l:∀k,(∀y0 y1 y2 y3,LeO (spec_l2Num.l0 k y0 y1 y2 y3) (spec_l2Num.l0 (k+1) y0 y1 y2 y3))
 |0=>by intros;intro r h;simp[spec_l2Num.l0]at h
 |k+1=>by
  have ih0:=spec_l2Num.mono_l k;intros;unfold spec_l2Num.l0;repeat' first|(with_reducible first|exact ih0 _ _ _ _|exact LeO.refl _|exact LeO.none _|refine LeO.ite ?_ ?_|refine LeO.bind ?_ (fun _=>?_))|exact LeO.none _|refine LeO.ite ?_ ?_|refine LeO.bind ?_ (fun _=>?_)
theorem spec_l2Num.mono:∀a0 a1 k,LeO (spec_l2Num.f k a0 a1) (spec_l2Num.f (k+1) a0 a1):=by
 intro a0 a1 k;have ih0:=spec_l2Num.mono_l k;unfold spec_l2Num.f
 repeat' first|(with_reducible first|exact ih0 _ _ _ _|exact LeO.refl _|exact LeO.none _|refine LeO.ite ?_ ?_|refine LeO.bind ?_ (fun _=>?_))|exact LeO.none _|refine LeO.ite ?_ ?_|refine LeO.bind ?_ (fun _=>?_)
theorem spec_l2Num.calls (k:Nat)(a0:BA)(a1:Int)(r:Int)(w:World)(h:spec_l2Num.f k a0 a1=some r):
  Calls Tryz.prog 138 #[.string a0,.int .i64 a1] w fun e w'=>e=.returned (.int .i64 r)∧Below w.heap.size w w':=by
 have HB:=A_ (Below.refl w.heap.size w);unfold spec_l2Num.f at h;have H:=h;clear h;have H':=A_ H;clear H;go_enter Tryz.func138,Tryz.ntmps138;go_wp2
 go_loopg [5,6] k (fun kq v5 v6 w'=>∃(x5_1:Int)(x6_1:Int),v5=.int .i64 x5_1∧v6=.int .i64 x6_1∧Aside0 (spec_l2Num.l0 kq a0 a1 x5_1 x6_1=some r)∧Aside0 (kq≤k)∧Aside0 (Below w.heap.size w w'))
 case atStart=>exact⟨(0),(0),zz0,zz0,H',⟨lL_ _⟩,⟨(zz6 HB)⟩⟩
 case round=>
  clear H';obtain⟨x5_1,x6_1,rfl,rfl,HA,HK1,HB⟩:=hrel;cases gk with
  |zero=>exact absurd HA.out (by simp[spec_l2Num.l0])
  |succ k1=>
   obtain⟨H⟩:=HA;simp only[spec_l2Num.l0]at H;replace H:=iteEd H;rcases H with⟨c3b0,H⟩|⟨c3b0,H⟩
   ·replace H:=iteNd H
    obtain⟨c4b0,H⟩:=H;replace H:=iteEd H;rcases H with⟨c6b0,H⟩|⟨c6b0,H⟩
    ·obtain rfl:=sI H
     have p5:0≤(x6_1:Int):=ofD;have q5:x6_1<(a0.size:Int):=ofD;have hx5:=bt_at a0 x6_1;replace p5:=eq_true p5;replace q5:=eq_true q5;go_wp2;go_ret;exact⟨zz9,(zz6 HB)⟩
    ·replace H:=iteEg H
     rcases H with⟨c8b0,H⟩|⟨c8b0,H⟩
     ·obtain rfl:=sI H
      have p5:0≤(x6_1:Int):=ofD;have q5:x6_1<(a0.size:Int):=ofD;have hx5:=bt_at a0 x6_1;replace p5:=eq_true p5;replace q5:=eq_true q5;have p7:0≤(x6_1:Int):=ofD;have q7:x6_1<(a0.size:Int):=ofD;have hx7:=bt_at a0 x6_1;replace p7:=eq_true p7;replace q7:=eq_true q7;go_wp2;go_ret;exact⟨zz9,(zz6 HB)⟩
     ·obtain⟨ji10,hji10⟩:∃j_:Int,(mn (wrap64 ((wrap64 (x5_1*10))+(((bt a0 x6_1)-48)%256))) a1)=j_:=⟨_,rfl⟩
      (first|rw[hji10]at H|simp only[hji10]at H)
      have hji10_:(if a1<(wrap64 ((wrap64 (x5_1*10))+(((bt a0 x6_1)-48)%256)))then a1 else(wrap64 ((wrap64 (x5_1*10))+(((bt a0 x6_1)-48)%256))))=ji10:=hji10;have H':=A_ H;clear H;have p5:0≤(x6_1:Int):=ofD;have q5:x6_1<(a0.size:Int):=ofD;have hx5:=bt_at a0 x6_1;replace p5:=eq_true p5;replace q5:=eq_true q5;have p7:0≤(x6_1:Int):=ofD;have q7:x6_1<(a0.size:Int):=ofD;have hx7:=bt_at a0 x6_1;replace p7:=eq_true p7;replace q7:=eq_true q7;have p9:0≤(x6_1:Int):=ofD;have q9:x6_1<(a0.size:Int):=ofD;have hx9:=bt_at a0 x6_1;replace p9:=eq_true p9;replace q9:=eq_true q9;go_wp2
      go_roundg k1
      case measure=>have:=HK1.out;omega
      case rel=>exact⟨(ji10),(wrap64 (x6_1+1)),(by first|rfl|(simp only[i64_w,i32_w];done)|(simp only[aid_isEmpty,aid_isEmpty2];done)|(simp;done)|((simp only[←hji10] <;> (first|rfl|simp));done)|(simp[*];done)),zz0,H',⟨(zz4 HK1)⟩,⟨(zz6 HB)⟩⟩
   ·obtain rfl:=sI H
    go_wp2;go_ret;exact⟨zz9,(zz6 HB)⟩
def slices_Index_bool_bool.l0:Nat→List Bool→Bool→Int→Int→Option (Int)
 |0,_,_,_,_=>none
 |k+1,x0,x1,x7,x8=>if x8<x7 then(if 0≤x8 then(if x8<(x0.length:Int)then(if(x1==(rdOf false x0 x8))=true then(some x8)else(slices_Index_bool_bool.l0 k x0 x1 x7 (wrap64 (x8+1))))else(none))else(none))else(some (-1))
def slices_Index_bool_bool.f (k:Nat)(l0:List Bool)(a1:Bool):Option (Int):=slices_Index_bool_bool.l0 k l0 a1 (l0.length:Int) 0
theorem slices_Index_bool_bool.calls (k:Nat)(A0:Option Addr)(c0:Nat)(l0:List Bool)(a1:Bool)(r:Int)(w:World)(hr0:Kd.C Kd.bool w A0 l0.length l0)(hc0:l0.length≤c0)(h:slices_Index_bool_bool.f k l0 a1=some r):
  Calls Tryz.prog 118 #[.slice A0 l0.length c0,.bool a1] w fun e w'=>e=.returned (.int .i64 r)∧Drawn0 w w':=by
 have HR0:=A_ hr0;have HC0:=A_ hc0;clear hr0 hc0;unfold slices_Index_bool_bool.f at h;have H:=h;clear h;have H':=A_ H;clear H;go_enter Tryz.func118,Tryz.ntmps118;go_wp2
 go_loopg [8] k (fun kq v8 w'=>∃(x8_1:Int),v8=.int .i64 x8_1∧Aside0 (slices_Index_bool_bool.l0 kq l0 a1 (l0.length:Int) x8_1=some r)∧Aside0 (kq≤k)∧Drawn0 w w')
 case atStart=>exact⟨(0),zz0,H',⟨lL_ _⟩,zz1⟩
 case round=>
  clear H';obtain⟨x8_1,rfl,HA,HK1,⟨m1,rfl⟩⟩:=hrel;cases gk with
  |zero=>exact absurd HA.out (by simp[slices_Index_bool_bool.l0])
  |succ k1=>
   obtain⟨H⟩:=HA;simp only[slices_Index_bool_bool.l0]at H;replace H:=iteEd H;rcases H with⟨c3b0,H⟩|⟨c3b0,H⟩
   ·replace H:=iteNd H
    obtain⟨c4b0,H⟩:=H;replace H:=iteNd H;obtain⟨c5b0,H⟩:=H;replace H:=iteE H;rcases H with⟨c6,H⟩|⟨c6,H⟩
    ·have c6b0:(a1==(rdOf false l0 x8_1))=true:=c6
     (try(have c6b1:decide (a1=(rdOf false l0 x8_1))=true:=by simpa using c6))
     (try(have c6b2:(a1==(rdOf false l0 x8_1))=true:=by simpa using c6))
     clear c6;obtain rfl:=sI H;obtain⟨⟨ad398,e398,hx398_0⟩,p398,q398⟩:=atB (Kd.at_bool HR0.out x8_1);cases e398;go_wp2;go_ret;exact⟨zz0,zz1⟩
    ·have c6b0:(a1==(rdOf false l0 x8_1))=false:=by simpa using c6
     (try(have c6b1:decide (a1=(rdOf false l0 x8_1))=false:=by simpa using c6))
     (try(have c6b2:(a1==(rdOf false l0 x8_1))=false:=by simpa using c6))
     (try(have c6b3:¬(a1=(rdOf false l0 x8_1)):=by simpa using c6))
     clear c6;have H':=A_ H;clear H;obtain⟨⟨ad398,e398,hx398_0⟩,p398,q398⟩:=atB (Kd.at_bool HR0.out x8_1);cases e398;go_wp2
     go_roundg k1
     case measure=>have:=HK1.out;omega
     case rel=>exact⟨(wrap64 (x8_1+1)),zz0,H',⟨(zz4 HK1)⟩,zz1⟩
   ·obtain rfl:=sI H
    go_wp2;go_ret;exact⟨zz0,zz1⟩
def IsS105 (w0 W:World)(g:Nat)(f0:List Int)(f1:Int):Prop:=∃A0 c0,W.heap[g]?=some (.cells #[.slice A0 f0.length c0,.int .i64 f1] 105 (0,0))∧w0.heap.size≤g∧Kd.C (Kd.int .u8) w0 A0 f0.length f0
theorem IsS105.grown {w0 W:World}{g:Nat}{f0:List Int}{f1:Int}{W1:World}{row:Option Nat}(h:IsS105 w0 W g f0 f1)(hw:W.grownBy W1 row)(hne:some g≠row):IsS105 w0 W1 g f0 f1:=by
 obtain⟨A0,c0,hb,hg,hr0⟩:=h;exact⟨A0,c0,blk_grown hb hw hne,hg,hr0⟩
theorem IsS105.fresh {w0 W:World}{g:Nat}{f0:List Int}{f1:Int}(h:IsS105 w0 W g f0 f1):∀k,W.heap.size≤k→k≠g:=by
 obtain⟨A0,c0,hb,hg,hr0⟩:=h;exact Kd.freshB hb
theorem IsS105.kept {w0 W:World}{g:Nat}{f0:List Int}{f1:Int}{W1:World}{S:Nat→Prop}(h:IsS105 w0 W g f0 f1)(hk:Kept W W1 S)(hne:¬S g):IsS105 w0 W1 g f0 f1:=by
 obtain⟨A0,c0,hb,hg,hr0⟩:=h;exact⟨A0,c0,blk_kept hb hk hne,hg,hr0⟩
theorem IsS105.below {w0 W:World}{g:Nat}{f0:List Int}{f1:Int}{W1:World}(h:IsS105 w0 W g f0 f1)(hw:Below W.heap.size W W1):IsS105 w0 W1 g f0 f1:=h.grown (grown_of_below hw none) (by simp)
theorem IsS105.alloc {w0 W:World}{g:Nat}{f0:List Int}{f1:Int}(h:IsS105 w0 W g f0 f1)(o:Obj):IsS105 w0 (W.alloc o) g f0 f1:=h.below (below_alloc (Below.refl _ _) o)
theorem IsS105.drewN {w0 W:World}{g:Nat}{f0:List Int}{f1:Int}(h:IsS105 w0 W g f0 f1)(m:Nat):IsS105 w0 (W.drewN m) g f0 f1:=h
theorem IsS105.drew {w0 W:World}{g:Nat}{f0:List Int}{f1:Int}(h:IsS105 w0 W g f0 f1):IsS105 w0 W.drew g f0 f1:=h
theorem IsS105.at_ {w0 W:World}{g:Nat}{f0:List Int}{f1:Int}{w':World}{m:Nat}(hq:W.drewN m=w')(h:IsS105 w0 W g f0 f1):IsS105 w0 w' g f0 f1:=by subst hq;exact IsS105.drewN h m
theorem IsS105.apart {w0 W:World}{g:Nat}{f0:List Int}{f1:Int}{α:Type}{d:Kd α}{e:Nat}{base:Nat}{ok:Nat→Prop}{v:Value}{xs:List α}(h:IsS105 w0 W g f0 f1)(ho:d.R e W base ok v xs)(ht:∀q,q∈e::d.E→q≠105):d.R e W base (fun k=>ok k∧k≠g) v xs:=by
 obtain⟨A0,c0,hb,hg,hr0⟩:=h;exact Kd.R_types ho hb ht
theorem IsS105.own_ne {w0 W:World}{g:Nat}{f0:List Int}{f1:Int}{α:Type}{d:Kd α}{e:Nat}{base:Nat}{ok:Nat→Prop}{v:Value}{xs:List α}(h:IsS105 w0 W g f0 f1)(ho:d.R e W base ok v xs)(ht:e≠105):some g≠v.ownBlock:=by
 obtain⟨A0,c0,hb,hg,hr0⟩:=h;exact Kd.R_ne ho hb ht
theorem IsS105.apartS {w0 W:World}{g:Nat}{f0:List Int}{f1:Int}{α:Type}{d:Kd α}{e:Nat}{base:Nat}{ok:Nat→Prop}{v:Value}{xs:List α}(h:IsS105 w0 W g f0 f1)(ho:d.S e W base ok v xs)(ht:∀q,q∈e::d.E→q≠105):d.S e W base (fun k=>ok k∧k≠g) v xs:=by
 obtain⟨A0,c0,hb,hg,hr0⟩:=h;exact Kd.S_types ho hb ht
theorem IsS105.own_neS {w0 W:World}{g:Nat}{f0:List Int}{f1:Int}{α:Type}{d:Kd α}{e:Nat}{base:Nat}{ok:Nat→Prop}{v:Value}{xs:List α}(h:IsS105 w0 W g f0 f1)(ho:d.S e W base ok v xs)(ht:e≠105):some g≠v.ownBlock:=by
 obtain⟨A0,c0,hb,hg,hr0⟩:=h;exact Kd.S_ne ho hb ht
theorem IsS105.lt {w0 W:World}{g:Nat}{f0:List Int}{f1:Int}(h:IsS105 w0 W g f0 f1):g<W.heap.size:=by
 obtain⟨A0,c0,hb,hg,hr0⟩:=h;exact blk_lt hb
theorem IsS105.ge {w0 W:World}{g:Nat}{f0:List Int}{f1:Int}(h:IsS105 w0 W g f0 f1):w0.heap.size≤g:=by
 obtain⟨A0,c0,hb,hg,hr0⟩:=h;exact hg
theorem IsS105.far {w0 W:World}{g:Nat}{f0:List Int}{f1:Int}{p:Addr}(h:IsS105 w0 W g f0 f1)(hne:g≠p.block)(u:Value):IsS105 w0 (W.setCell p u) g f0 f1:=by
 obtain⟨A0,c0,hb,hg,hr0⟩:=h;exact⟨A0,c0,blk_far hb hne u,hg,hr0⟩
theorem cellS105_0 {W:World}{g:Nat}{A0:Option Addr}{c0:Nat}{f0:List Int}{f1:Int}(h:W.heap[g]?=some (.cells #[.slice A0 f0.length c0,.int .i64 f1] 105 (0,0))):W.cell? ⟨g,0,none⟩=some (.slice A0 f0.length c0):=(blk_cell h 0).trans rfl
theorem cellS105_1 {W:World}{g:Nat}{A0:Option Addr}{c0:Nat}{f0:List Int}{f1:Int}(h:W.heap[g]?=some (.cells #[.slice A0 f0.length c0,.int .i64 f1] 105 (0,0))):W.cell? ⟨g,1,none⟩=some (.int .i64 f1):=(blk_cell h 1).trans rfl
theorem IsS105.set_1 {w0 W:World}{g:Nat}{f0:List Int}{f1:Int}(h:IsS105 w0 W g f0 f1)(x:Int):IsS105 w0 (W.setCell ⟨g,1,none⟩ (.int .i64 x)) g f0 x:=by
 obtain⟨A0,c0,hb,hg,hr0⟩:=h;exact⟨A0,c0,(by simpa using blk_set hb 1 (.int .i64 x)),hg,hr0⟩
def spec_l6Open.f (l0:List Int):Option (List Int×Int):=if(l0.length:Int)>2000 then(if 2000≤(l0.length:Int)then(some (l0.take 2000,0))else(none))else(some (l0,0))
theorem spec_l6Open.calls (A0:Option Addr)(c0:Nat)(l0:List Int)(r1:List Int)(r2:Int)(w0 w:World)(hB:Below w0.heap.size w0 w)(hr0:Kd.C (Kd.int .u8) w0 A0 l0.length l0)(hc0:l0.length≤c0)(h:spec_l6Open.f l0=some (r1,r2)):
  Calls Tryz.prog 47 #[.slice A0 l0.length c0] w fun e w'=>∃g_:Nat,e=.returned (.pointer (some ⟨g_,0,none⟩))∧IsS105 w0 w' g_ r1 r2∧Below w0.heap.size w0 w'∧Below w.heap.size w w':=by
 have hu105:=Tryz.underlying105;have HR0:=A_ hr0;have HC0:=A_ hc0;clear hr0 hc0;have HBW:=A_ (Below.refl w.heap.size w);have HW0:=A_ hB.size;have HB:=A_ hB;clear hB;unfold spec_l6Open.f at h;have H:=h;clear h;replace H:=iteE H;rcases H with⟨c2,H⟩|⟨c2,H⟩
 ·have c2b0:=gtT c2
  have c2b1:decide (2000<l0.length)=true:=dT (by omega);clear c2;replace H:=iteN H;obtain⟨c3,H⟩:=H;have c3b0:=eq_true c3;have c3b1:=dT c3;clear c3;simp only[oI_,pI_]at H;obtain⟨rfl,rfl⟩:=H;obtain⟨i04,hi04,_,hsz4,_⟩:=info_parts info5;obtain⟨hcut4,hA4,hC4⟩:=print_take_of (P:=Tryz.prog) (Value.int .u8) 0 37 5 .i64 Tryz.underlying37 hi04 hsz4 A0 c0 l0 2000 (by omega) ofD HC0.out;have HR684:=A_ (Kd.C_of_reads (h1:=fun _=>rfl) (hA4 _ (Kd.reads_of_C HR0.out)));have HC684:=A_ hC4;clear hA4 hC4 hi04 hsz4;go_enter Tryz.func47,Tryz.ntmps47;go_wp2_with (first|(refine boxF 10 #[.slice A0 (l0.take 2000).length c0,.int .i64 0] 105 ?_;intro gb685 hg w5 BK685 hb;replace HB:=A_ (bS (zz6 HB) hb);have GW685:=A_ ((by rw[hg];exact(below_size (zz6 HBW)):w.heap.size≤gb685));have GE685:=A_ ((nT_ HW0.out (by rw[hg];exact(below_size (zz6 HBW)):w.heap.size≤gb685):w0.heap.size≤gb685));replace HBW:=A_ (bS HBW.out hb);clear hb hg));go_ret;exact⟨_,rfl,(show IsS105 w0 _ gb685 (l0.take 2000) 0 from⟨_,_,(zz18 BK685),GE685.out,HR684.out⟩),(zz19 HB GE685),(zz19 HBW GW685)⟩
 ·have c2b0:=gtF c2
  have c2b1:decide (2000<l0.length)=false:=dF (by omega);clear c2;simp only[oI_,pI_]at H;obtain⟨rfl,rfl⟩:=H;go_enter Tryz.func47,Tryz.ntmps47;go_wp2_with (first|(refine boxF 10 #[.slice A0 l0.length c0,.int .i64 0] 105 ?_;intro gb686 hg w6 BK686 hb;replace HB:=A_ (bS (zz6 HB) hb);have GW686:=A_ ((by rw[hg];exact(below_size (zz6 HBW)):w.heap.size≤gb686));have GE686:=A_ ((nT_ HW0.out (by rw[hg];exact(below_size (zz6 HBW)):w.heap.size≤gb686):w0.heap.size≤gb686));replace HBW:=A_ (bS HBW.out hb);clear hb hg));go_ret;exact⟨_,rfl,(show IsS105 w0 _ gb686 l0 0 from⟨_,_,(zz18 BK686),GE686.out,HR0.out⟩),(zz19 HB GE686),(zz19 HBW GW686)⟩
def spec_l6Rd_pick.j0:Nat→Int→Bool→List Int→Int→Option (Int×Int)
 |0,_,_,_,_=>none
 |k+1,x1,x24,x1000,x1001=>if x24=true then(some (0,x1001))else(if(wrap64 (x1001-1))<(x1000.length:Int)then(if 0≤(wrap64 (x1001-1))then(if x1=0 then(none)else(some (Int.tmod (wrap64 (rd x1000 (wrap64 (x1001-1)))) x1,x1001)))else(none))else(if(x1000.length:Int)=0 then(none)else(if 0≤(Int.tmod (wrap64 (x1001-1)) (x1000.length:Int))then(if(Int.tmod (wrap64 (x1001-1)) (x1000.length:Int))<(x1000.length:Int)then(if 0≤(Int.tmod (wrap64 ((wrap64 ((wrap64 (x1001-1))*7))+3)) (x1000.length:Int))then(if(Int.tmod (wrap64 ((wrap64 ((wrap64 (x1001-1))*7))+3)) (x1000.length:Int))<(x1000.length:Int)then(if x1=0 then(none)else(some (Int.tmod (Go.bits .xor .i64 (wrap64 ((wrap64 ((wrap64 ((wrap64 ((wrap64 (rd x1000 (Int.tmod (wrap64 (x1001-1)) (x1000.length:Int))))*131))+(wrap64 ((wrap64 (rd x1000 (Int.tmod (wrap64 ((wrap64 ((wrap64 (x1001-1))*7))+3)) (x1000.length:Int))))*1117))))+(wrap64 ((wrap64 (x1001-1))*29))))+(wrap64 ((wrap64 (Int.tdiv (wrap64 (x1001-1)) (x1000.length:Int)))*53)))) (wrap64 (Int.tdiv (wrap64 ((wrap64 ((wrap64 ((wrap64 ((wrap64 (rd x1000 (Int.tmod (wrap64 (x1001-1)) (x1000.length:Int))))*131))+(wrap64 ((wrap64 (rd x1000 (Int.tmod (wrap64 ((wrap64 ((wrap64 (x1001-1))*7))+3)) (x1000.length:Int))))*1117))))+(wrap64 ((wrap64 (x1001-1))*29))))+(wrap64 ((wrap64 (Int.tdiv (wrap64 (x1001-1)) (x1000.length:Int)))*53)))) 64))) x1,x1001)))else(none))else(none))else(none))else(none))))
def spec_l6Rd_pick.f (k:Nat)(s0_0:List Int)(s0_1:Int)(a1:Int):Option (Int×Int):=if a1<1 then(spec_l6Rd_pick.j0 k a1 true s0_0 (wrap64 (s0_1+1)))else(spec_l6Rd_pick.j0 k a1 ((s0_0.length:Int)==0) s0_0 (wrap64 (s0_1+1)))
theorem spec_l6Rd_pick.mono_l:∀k,(∀y0 y1 y2 y3,LeO (spec_l6Rd_pick.j0 k y0 y1 y2 y3) (spec_l6Rd_pick.j0 (k+1) y0 y1 y2 y3))
 |0=>by intros;intro r h;simp[spec_l6Rd_pick.j0]at h
 |k+1=>by
  have ih0:=spec_l6Rd_pick.mono_l k;intros;unfold spec_l6Rd_pick.j0;repeat' first|(with_reducible first|exact ih0 _ _ _ _|exact LeO.refl _|exact LeO.none _|refine LeO.ite ?_ ?_|refine LeO.bind ?_ (fun _=>?_))|exact LeO.none _|refine LeO.ite ?_ ?_|refine LeO.bind ?_ (fun _=>?_)
theorem spec_l6Rd_pick.mono:∀a0 a1 a2 k,LeO (spec_l6Rd_pick.f k a0 a1 a2) (spec_l6Rd_pick.f (k+1) a0 a1 a2):=by
 intro a0 a1 a2 k;have ih0:=spec_l6Rd_pick.mono_l k;unfold spec_l6Rd_pick.f
 repeat' first|(with_reducible first|exact ih0 _ _ _ _|exact LeO.refl _|exact LeO.none _|refine LeO.ite ?_ ?_|refine LeO.bind ?_ (fun _=>?_))|exact LeO.none _|refine LeO.ite ?_ ?_|refine LeO.bind ?_ (fun _=>?_)
theorem spec_l6Rd_pick.calls (k:Nat)(g:Nat)(s0_0:List Int)(s0_1:Int)(a1:Int)(r1:Int)(r2:Int)(w0 w:World)(hI:IsS105 w0 w g s0_0 s0_1)(hB:Below w0.heap.size w0 w)(h:spec_l6Rd_pick.f k s0_0 s0_1 a1=some (r1,r2)):
  Calls Tryz.prog 81 #[.pointer (some ⟨g,0,none⟩),.int .i64 a1] w fun e w'=>e=.returned (.int .i64 r1)∧IsS105 w0 w' g s0_0 r2∧Below w0.heap.size w0 w'∧KeepBut w w' g none:=by
 have HI0:=A_ hI;have HK:=A_ (KeepBut.refl w g none);have HL:=A_ hB.size;clear hI;have HW0:=A_ hB.size;have HB:=A_ hB;clear hB;unfold spec_l6Rd_pick.f at h;have H:=h;clear h;have HC3:=A_ H;clear H;obtain⟨ASz4_0,cSz4_0,HGz4,hgz4,HSz4_0⟩:=HI0.out;have hcz4_0:=cellS105_0 HGz4;have hcz4_1:=cellS105_1 HGz4;have hfz4_1:=blk_frozen HGz4 1;clear HGz4 hgz4;go_enter Tryz.func81,Tryz.ntmps81;go_upto_region 2 with(fail)
 repeat(go_quiet (fail);go_upto_region 2 with(fail))
 go_cut [24] (fun v24 wc=>∃(kq:Nat)(x24_2:Bool),v24=.bool x24_2∧Aside0 (spec_l6Rd_pick.j0 kq a1 x24_2 s0_0 (wrap64 (s0_1+1))=some (r1,r2))∧Aside0 (kq≤k)∧Aside0 (IsS105 w0 wc g s0_0 (wrap64 (s0_1+1)))∧Aside0 (KeepBut w wc g none)∧Aside0 (Below w0.heap.size w0 wc))
 case first=>
  obtain⟨H⟩:=HC3;replace H:=iteEd H;rcases H with⟨c5b0,H⟩|⟨c5b0,H⟩
  ·(first|rw[c5b0]|(simp only[i64_w,i32_w];rw[c5b0])|skip)
   have H':=A_ H;clear H;go_wp2
   repeat(go_quiet (fail);try go_wp2)
   go_meet
   case rel=>exact⟨_,(true),zz0,H',⟨zz10⟩,⟨(zz37 HI0)⟩,⟨(zz38 HK)⟩,⟨(zz39 HB HI0)⟩⟩
  ·(first|rw[c5b0]|(simp only[i64_w,i32_w];rw[c5b0])|skip)
   have H':=A_ H;clear H;obtain⟨ASz6_0,cSz6_0,HGz6,hgz6,HSz6_0⟩:=HI0.out;have hcz6_0:=cellS105_0 HGz6;have hcz6_1:=cellS105_1 HGz6;have hfz6_1:=blk_frozen HGz6 1;clear HGz6 hgz6;go_wp2
   repeat(go_quiet (fail);try go_wp2)
   go_meet
   case rel=>exact⟨_,(((s0_0.length:Int)==0)),zz0,H',⟨zz10⟩,⟨(zz37 HI0)⟩,⟨(zz38 HK)⟩,⟨(zz39 HB HI0)⟩⟩
 case rest=>
  clear HC3;obtain⟨kq,x24_2,rfl,HA,HJ2,HI0,HK,HB⟩:=hcut;cases kq with
  |zero=>exact absurd HA.out (by simp[spec_l6Rd_pick.j0])
  |succ kj2=>
   obtain⟨H⟩:=HA;simp only[spec_l6Rd_pick.j0]at H;replace H:=iteB H;rcases H with⟨rfl,H⟩|⟨rfl,H⟩
   ·simp only[oI_,pI_]at H
    obtain⟨rfl,rfl⟩:=H;go_wp2
    repeat(go_quiet (fail);try go_wp2)
    go_ret;exact⟨zz9,(zz37 HI0),(zz39 HB HI0),(zz38 HK)⟩
   ·replace H:=iteE H
    rcases H with⟨c8,H⟩|⟨c8,H⟩
    ·have c8b0:=dT c8
     clear c8;obtain⟨ji9,hji9⟩:∃j_:Int,(wrap64 ((wrap64 (s0_1+1))-1))=j_:=⟨_,rfl⟩;(first|rw[hji9]at H|simp only[hji9]at H)
     (try rw[hji9]at c8b0)
     have hji9w:(IntKind.i64.wrap ((wrap64 (s0_1+1))-1))=ji9:=(i64_w _).trans hji9;replace H:=iteNd H;obtain⟨c10b0,H⟩:=H;replace H:=iteM H;obtain⟨c11,H⟩:=H;obtain⟨c11b0,c11b1⟩:=eqF c11;simp only[oI_,pI_]at H;obtain⟨rfl,rfl⟩:=H;obtain⟨ASz12_0,cSz12_0,HGz12,hgz12,HSz12_0⟩:=HI0.out;have hcz12_0:=cellS105_0 HGz12;have hcz12_1:=cellS105_1 HGz12;have hfz12_1:=blk_frozen HGz12 1;clear HGz12 hgz12;obtain⟨⟨ad687,e687,hx687_0⟩,p687,q687⟩:=atB (Kd.at_int HSz12_0 (ji9));cases e687;replace hx687_0:=pw_cell_below HB.out hx687_0;go_wp2
     repeat(go_quiet (fail);try go_wp2)
     go_ret;exact⟨zz41,(zz37 HI0),(zz39 HB HI0),(zz38 HK)⟩
    ·have c8b0:=dF c8
     clear c8;replace H:=iteM H;obtain⟨c13,H⟩:=H;obtain⟨c13b0,c13b1⟩:=eqF c13;have c13b2:¬(s0_0=[]):=fun h_=>c13 (by rw[h_];rfl)
     obtain⟨ji14,hji14⟩:∃j_:Int,(Int.tmod (wrap64 ((wrap64 (s0_1+1))-1)) (s0_0.length:Int))=j_:=⟨_,rfl⟩;(first|rw[hji14]at H|simp only[hji14]at H);replace H:=iteE H;rcases H with⟨c15,H⟩|⟨c15,H⟩
     ·have c15b0:=dT c15
      clear c15;replace H:=iteNd H;obtain⟨c16b0,H⟩:=H;obtain⟨ji17,hji17⟩:∃j_:Int,(Int.tmod (wrap64 ((wrap64 ((wrap64 ((wrap64 (s0_1+1))-1))*7))+3)) (s0_0.length:Int))=j_:=⟨_,rfl⟩;(first|rw[hji17]at H|simp only[hji17]at H);replace H:=iteNd H;obtain⟨c18b0,H⟩:=H;replace H:=iteNd H;obtain⟨c19b0,H⟩:=H;replace H:=iteM H;obtain⟨c20,H⟩:=H;obtain⟨c20b0,c20b1⟩:=eqF c20;simp only[oI_,pI_]at H;obtain⟨rfl,rfl⟩:=H;obtain⟨ASz21_0,cSz21_0,HGz21,hgz21,HSz21_0⟩:=HI0.out;have hcz21_0:=cellS105_0 HGz21;have hcz21_1:=cellS105_1 HGz21;have hfz21_1:=blk_frozen HGz21 1;clear HGz21 hgz21;obtain⟨⟨ad688,e688,hx688_0⟩,p688,q688⟩:=atB (Kd.at_int HSz21_0 (ji14));cases e688;replace hx688_0:=pw_cell_below HB.out hx688_0;obtain⟨⟨ad689,e689,hx689_0⟩,p689,q689⟩:=atB (Kd.at_int HSz21_0 (ji17));obtain rfl:ad688=ad689:=(by injection e689);replace hx689_0:=pw_cell_below HB.out hx689_0;go_wp2
      repeat(go_quiet (fail);try go_wp2)
      go_ret;exact⟨(by first|rfl|(simp[errW_none,errW_some] <;> rfl)|(simp only[←hji14,←hji17];first|rfl|(simp[errW_none,errW_some] <;> rfl))|(simp[*,errW_none,errW_some] <;> rfl)),(zz37 HI0),(zz39 HB HI0),(zz38 HK)⟩
     ·exact absurd H (by simp)
def spec_l6Rd_of.f (k:Nat)(s0_0:List Int)(s0_1:Int)(l1:List BA):Option (BA×Int):=(spec_l6Rd_pick.f k s0_0 s0_1 (l1.length:Int)).bind fun bt690=>(if 0≤bt690.1 then(if bt690.1<(l1.length:Int)then(some (rdOf bE_ l1 bt690.1,bt690.2))else(none))else(none))
theorem spec_l6Rd_of.mono:∀a0 a1 a2 k,LeO (spec_l6Rd_of.f k a0 a1 a2) (spec_l6Rd_of.f (k+1) a0 a1 a2):=by
 intro a0 a1 a2 k;unfold spec_l6Rd_of.f
 repeat' first|(with_reducible first|exact spec_l6Rd_pick.mono _ _ _ _|exact LeO.refl _|exact LeO.none _|refine LeO.ite ?_ ?_|refine LeO.bind ?_ (fun _=>?_))|exact LeO.none _|refine LeO.ite ?_ ?_|refine LeO.bind ?_ (fun _=>?_)
theorem spec_l6Rd_of.calls (k:Nat)(g:Nat)(s0_0:List Int)(s0_1:Int)(A1:Option Addr)(c1:Nat)(l1:List BA)(r1:BA)(r2:Int)(w0 w:World)(hI:IsS105 w0 w g s0_0 s0_1)(hB:Below w0.heap.size w0 w)(hr1:Kd.C Kd.string w A1 l1.length l1)(hc1:l1.length≤c1)(hf1:∀ad,A1=some ad→0<l1.length→ad.block≠g)(h:spec_l6Rd_of.f k s0_0 s0_1 l1=some (r1,r2)):
  Calls Tryz.prog 49 #[.pointer (some ⟨g,0,none⟩),.slice A1 l1.length c1] w fun e w'=>e=.returned (.string r1)∧IsS105 w0 w' g s0_0 r2∧Below w0.heap.size w0 w'∧KeepBut w w' g none:=by
 have HR1:=A_ hr1;have HC1:=A_ hc1;clear hr1 hc1;have HI0:=A_ hI;have HK:=A_ (KeepBut.refl w g none);have HL:=A_ hB.size;clear hI;have HW0:=A_ hB.size;have HB:=A_ hB;clear hB;unfold spec_l6Rd_of.f at h;have H:=h;clear h;replace H:=bindA H;obtain⟨⟨t690,t691⟩,A3,H⟩:=H;try dsimp only at H;replace H:=iteE H;rcases H with⟨c4,H⟩|⟨c4,H⟩
 ·have c4b0:=dT c4
  clear c4;replace H:=iteNd H;obtain⟨c5b0,H⟩:=H;simp only[oI_,pI_]at H;obtain⟨rfl,rfl⟩:=H;go_enter Tryz.func49,Tryz.ntmps49;go_wp2_with (first|(refine gR 81 (some 9) Tryz.func81 (spec_l6Rd_pick.calls k g s0_0 s0_1 (l1.length:Int) t690 t691 w0 _ ?side1 ?side2 A3.out) ?_;(case side1=>exact(zz37 HI0));(case side2=>exact(zz39 HB HI0));rintro w6 ⟨hi,hb,hk⟩;replace HK:=A_ (KeepBut.trans (zz38 HK) hk (.inl rfl));replace HB:=A_ (hb);replace HI0:=A_ (hi);(try clear hb hk hi);have p692:0≤(t690:Int):=ofD;have q692:t690<(l1.length:Int):=ofD;obtain⟨ad692,e692,hx692_0⟩:=Kd.at_string HR1.out t690 p692 q692;cases e692;replace hx692_0:=keep_cell HK.out hx692_0 (by first|(rw[add_block];exact hf1 _ rfl (by omega))|exact hf1 _ rfl (by omega)|exact hf1 ad692 rfl (by omega));replace p692:=eq_true p692;replace q692:=eq_true q692));go_ret;exact⟨zz9,(zz37 HI0),(zz39 HB HI0),(zz38 HK)⟩
 ·exact absurd H (by simp)
def spec_l6Dec.f:Nat→Int→Option (BA)
 |0,_=>none
 |k+1,a0=>if a0<(-9223372036854775807)then(some (⟨#[45,57,50,50,51,51,55,50,48,51,54,56,53,52,55,55,53,56,48,56]⟩:BA))else(if a0<0 then((spec_l6Dec.f k (wrap64 (-a0))).bind fun t696=>(if 1+t696.size≤9223372036854775807 then(some ((⟨#[45]⟩:BA)++t696))else(none)))else(if a0<10 then(some (strOfNums (([(wrap64 (48+a0))%256]:List Int))))else((spec_l6Dec.f k (wrap64 (Int.tdiv a0 10))).bind fun t700=>((some (([(wrap64 (48+(Int.tmod a0 10)))%256]:List Int):List Int)).bind fun y701=>(if t700.size+(strOfNums y701).size≤9223372036854775807 then(some (t700++(strOfNums y701)))else(none))))))
theorem spec_l6Dec.mono_l:∀k,(∀y0,LeO (spec_l6Dec.f k y0) (spec_l6Dec.f (k+1) y0))
 |0=>by intros;intro r h;simp[spec_l6Dec.f]at h
 |k+1=>by
  have ih0:=spec_l6Dec.mono_l k;intros;unfold spec_l6Dec.f;repeat' first|(with_reducible first|exact ih0 _|exact LeO.refl _|exact LeO.none _|refine LeO.ite ?_ ?_|refine LeO.bind ?_ (fun _=>?_))|exact LeO.none _|refine LeO.ite ?_ ?_|refine LeO.bind ?_ (fun _=>?_)
theorem spec_l6Dec.mono:∀a0 k,LeO (spec_l6Dec.f k a0) (spec_l6Dec.f (k+1) a0):=by
 intro a0 k;have ih0:=spec_l6Dec.mono_l k;exact ih0 a0
def spec_l6Dec.T7:Bool×List (List Nat×List Nat):=(true,[([],[]),([0],[0]),([1],[1]),([],[]),([3],[3]),([4],[4]),([5],[5]),([6],[6]),([7],[7]),([2,8],[2,8]),([9,2,0,1,2,3,4,5,6,7,8,9],[9])])
def spec_l6Dec.B7:List Nat:=[0,1,3,0,8,24,56,120,248,511,1023]
theorem spec_l6Dec.tab7:rtab .any (opsOf Tryz.f82 7)=spec_l6Dec.T7:=by kernel_rfl
theorem spec_l6Dec.bits7:waitsOk spec_l6Dec.T7.2 spec_l6Dec.B7=true:=by kernel_rfl
theorem spec_l6Dec.calls (k:Nat):∀(a0:Int)(r:BA)(w:World)(h:spec_l6Dec.f k a0=some r),
  Calls Tryz.prog 82 #[.int .i64 a0] w fun e w'=>e=.returned (.string r)∧Below w.heap.size w w':=by
 induction k using Nat.strongRecOn with
 |_ k ih=>
 intro a0 r w h;cases k with
 |zero=>exact absurd h (by simp[spec_l6Dec.f])
 |succ k=>
 simp only[spec_l6Dec.f]at h;have HB:=A_ (Below.refl w.heap.size w);have H:(if a0<(-9223372036854775807)then(some (⟨#[45,57,50,50,51,51,55,50,48,51,54,56,53,52,55,55,53,56,48,56]⟩:BA))else(if a0<0 then((spec_l6Dec.f k (wrap64 (-a0))).bind fun t696=>(if 1+t696.size≤9223372036854775807 then(some ((⟨#[45]⟩:BA)++t696))else(none)))else(if a0<10 then(some (strOfNums (([(wrap64 (48+a0))%256]:List Int))))else((spec_l6Dec.f k (wrap64 (Int.tdiv a0 10))).bind fun t700=>((some (([(wrap64 (48+(Int.tmod a0 10)))%256]:List Int):List Int)).bind fun y701=>(if t700.size+(strOfNums y701).size≤9223372036854775807 then(some (t700++(strOfNums y701)))else(none)))))))=some r:=h;clear h;replace H:=iteEd H;rcases H with⟨c2b0,H⟩|⟨c2b0,H⟩
 ·obtain rfl:=sI H
  go_enter Tryz.func82,Tryz.ntmps82;go_wp2
  go_ret;exact⟨zz9,(zz6 HB)⟩
 ·replace H:=iteEd H
  rcases H with⟨c3b0,H⟩|⟨c3b0,H⟩
  ·replace H:=bindA H
   obtain⟨t696,A4,H⟩:=H;replace H:=iteN H;obtain⟨c5,H⟩:=H;have c5b0:=eq_true c5;have c5b1:=dT c5;try have c5b2:(9223372036854775807<1+t696.size)=False:=eq_false (nL_.2 c5);obtain rfl:=sI H;go_enter Tryz.func82,Tryz.ntmps82;go_wp2_with (first|(refine gR 82 (some 9) Tryz.func82 (ih k (by omega) (wrap64 (-a0)) t696 _ A4.out) ?_;rintro w6 hb;replace HB:=A_ (bS (zz6 HB) hb);(try clear hb)));go_ret;exact⟨zz9,(zz6 HB)⟩
  ·replace H:=iteEd H
   rcases H with⟨c7b0,H⟩|⟨c7b0,H⟩
   ·obtain⟨y697,Ny697⟩:=toY (([(wrap64 (48+a0))%256]:List Int))
    (first|with_reducible replace H:=bindZ Ny697 H|rw[←Ny697.out]at H|skip)
    obtain rfl:=sI H;go_enter Tryz.func82,Tryz.ntmps82;go_wp2_with (first|((with_reducible refine gD (N:=16) rfl ?_);refine Kd.R_lit (Kd.int .u8) _ 5 ?hg (N:=16) ?hd (xs:=([(wrap64 (48+a0))%256]:List Int)) (inner:=[.int .u8 ((wrap64 (48+a0))%256)]) (ok:=fun _=>True) (okp:=fun _=>True) ?hr ?hp (fun _ hk=>hk) trivial (Below.refl _ _) (lL_ _) (by simp) ?_;(case hd=>rfl);(case hg=>rfl);(case hr=>exact zz5);(case hp=>exact(Reps.one (show Kd.M (Kd.int .u8) _ _ _ ((wrap64 (48+a0))%256) [.int .u8 ((wrap64 (48+a0))%256)]from rfl) (Reps.none _ _)));intro v698 w8 ho9 hb hg_ hnew_;clear hg_ hnew_;(first|rw[←Ny697.out]at ho9|(simp only[Int.reduceToNat]at ho9;rw[←Ny697.out]at ho9));have HO699:=A_ (Kd.R_lower ho9 (below_size (zz6 HB)));replace HB:=A_ (bS (zz6 HB) hb);clear hb ho9;have hcv10:=own_string (P:=Tryz.prog) Tryz.underlying37 Tryz.underlying5 Tryz.underlying9 (Kd.own_of_R HO699.out)));go_ret;exact⟨zz9,(zz6 HB)⟩
   ·replace H:=bindA H
    obtain⟨t700,A11,H⟩:=H;obtain⟨y701,Ny701,H⟩:=bindY H;replace H:=iteE H;rcases H with⟨c12,H⟩|⟨c12,H⟩
    ·have c12b0:=eq_true c12
     have c12b1:=dT c12;try have c12b2:(9223372036854775807<t700.size+(strOfNums y701).size)=False:=eq_false (nL_.2 c12);obtain rfl:=sI H;go_enter Tryz.func82,Tryz.ntmps82;try go_wp2;replace HB:=A_ (below_drew1 HB.out);refine start_ (n:=11) (S:=fun w'=>True) (ds:=[]) #[yF,yF,yF,yF,yF,yF,yF,yF,yF,yF,yF] (by kernel_rfl) rfl rfl trivial (fun hHeld=>?_);refine with_tabW spec_l6Dec.tab7 spec_l6Dec.bits7 (fun HT_ HW_=>?_);generalize w.drew=w13 at HB hHeld ⊢;refine pureZ 0 (some 18) (yA 1 10) ?_;refine pureZ 1 (some 19) (yA 2 9) ?_;refine pureZ 3 (some 21) #[yT,yT,yF,yT,yF,yF,yF,yF,yF,yF,yF] ?_;refine pureZ 4 (some 22) #[yT,yT,yF,yT,yT,yF,yF,yF,yF,yF,yF] ?_;refine pureZ 5 (some 23) #[yT,yT,yF,yT,yT,yT,yF,yF,yF,yF,yF] ?_;refine pureZ 6 (some 24) #[yT,yT,yF,yT,yT,yT,yT,yF,yF,yF,yF] ?_;refine join_ (σ:=Value) 2 (yA 9 2) (fun s_=>[(20,.string t700),(25,s_),(26,.string (strOfNums y701))]) (fun s_ w'=>(Kd.R (Kd.int .u8) 5 w' w.heap.size (fun _=>True) s_ y701)∧(Below w.heap.size w w')) ?_ ?_;rotate_left
     ·intro hCont
      refine twoZ 2 7 (some 20) (some 25) (yA 7 4) #[yT,yT,yF,yT,yT,yT,yT,yT,yF,yF,yF] (fun K hK=>?_) (fun K hK=>?_)
      ·skip
       refine goes_ Tryz.func82 (by kernel_rfl) rfl #[.int .i64 (wrap64 (Int.tdiv a0 10))] (by rfl) rfl rfl zz45 ?_;with_reducible refine(ih k (by omega) (wrap64 (Int.tdiv a0 10)) t700 _ A11.out).mono ?_;rintro e w14 ⟨rfl,hb⟩;refine⟨_,rfl,?_⟩;replace HB:=A_ (bS (zz6 HB) hb);(try clear hb)
       (try clear hb2)
       (try clear hk)
       (try clear hi)
       refine hK.out _ _ trivial (fun hHeld=>?_);clear hK K;refine nZ 20 ?_;refine oneZ 7 (some 25) (yA 8 3) (fun K hK=>?_);refine Kd.R_lit_step (Kd.int .u8) _ 5 ?hg (N:=25) ?hd (xs:=([(wrap64 (48+(Int.tmod a0 10)))%256]:List Int)) (inner:=[.int .u8 ((wrap64 (48+(Int.tmod a0 10)))%256)]) (ok:=fun _=>True) (okp:=fun _=>True) ?hr ?hp (fun _ hk=>hk) trivial (Below.refl _ _) (lL_ _) (by simp) ?_;(case hd=>rfl);(case hg=>rfl);(case hr=>exact zz5);(case hp=>exact(Reps.one (show Kd.M (Kd.int .u8) _ _ _ ((wrap64 (48+(Int.tmod a0 10)))%256) [.int .u8 ((wrap64 (48+(Int.tmod a0 10)))%256)]from rfl) (Reps.none _ _)));intro v702 w15 ho16 hb hg_ hnew_;clear hg_ hnew_;(first|rw[←Ny701.out]at ho16|(simp only[Int.reduceToNat]at ho16;rw[←Ny701.out]at ho16));have HO703:=A_ (Kd.R_lower ho16 (below_size (zz6 HB)));replace HB:=A_ (bS (zz6 HB) hb);clear hb ho16;refine hK.out _ _ trivial (fun hHeld=>?_);clear hK K;refine nZ 25 ?_;refine oneZ 8 (some 26) (yA 9 2) (fun K hK=>?_);have hcv17:=own_string (P:=Tryz.prog) Tryz.underlying37 Tryz.underlying5 Tryz.underlying9 (Kd.own_of_R HO703.out);refine value_ (w1:=?_) (v:=?_) (by rfl) rfl ?_ ?_;rotate_left 2
       ·go_simp
        constructor
        ·rfl
        ·rfl
       clear hcv17;refine hK.out _ _ trivial (fun hHeld=>?_);clear hK K;refine nZ 26 ?_;exact norm_ viaP (hCont (v702) _ ⟨(zz7 HO703),(zz6 HB)⟩)
      ·skip
       refine Kd.R_lit_step (Kd.int .u8) _ 5 ?hg (N:=25) ?hd (xs:=([(wrap64 (48+(Int.tmod a0 10)))%256]:List Int)) (inner:=[.int .u8 ((wrap64 (48+(Int.tmod a0 10)))%256)]) (ok:=fun _=>True) (okp:=fun _=>True) ?hr ?hp (fun _ hk=>hk) trivial (Below.refl _ _) (lL_ _) (by simp) ?_;(case hd=>rfl);(case hg=>rfl);(case hr=>exact zz5);(case hp=>exact(Reps.one (show Kd.M (Kd.int .u8) _ _ _ ((wrap64 (48+(Int.tmod a0 10)))%256) [.int .u8 ((wrap64 (48+(Int.tmod a0 10)))%256)]from rfl) (Reps.none _ _)));intro v702 w14 ho15 hb hg_ hnew_;clear hg_ hnew_;(first|rw[←Ny701.out]at ho15|(simp only[Int.reduceToNat]at ho15;rw[←Ny701.out]at ho15));have HO703:=A_ (Kd.R_lower ho15 (below_size (zz6 HB)));replace HB:=A_ (bS (zz6 HB) hb);clear hb ho15;refine hK.out _ _ trivial (fun hHeld=>?_);clear hK K;refine nZ 25 ?_;refine twoZ 2 8 (some 20) (some 26) (yA 8 3) #[yT,yT,yF,yT,yT,yT,yT,yT,yT,yF,yF] (fun K hK=>?_) (fun K hK=>?_)
       ·skip
        refine goes_ Tryz.func82 (by kernel_rfl) rfl #[.int .i64 (wrap64 (Int.tdiv a0 10))] (by rfl) rfl rfl zz45 ?_;with_reducible refine(ih k (by omega) (wrap64 (Int.tdiv a0 10)) t700 _ A11.out).mono ?_;rintro e w16 ⟨rfl,hb⟩;refine⟨_,rfl,?_⟩;replace HO703:=A_ (rB (zz7 HO703) hb);replace HB:=A_ (bS (zz6 HB) hb);(try clear hb)
        (try clear hb2)
        (try clear hk)
        (try clear hi)
        refine hK.out _ _ trivial (fun hHeld=>?_);clear hK K;refine nZ 20 ?_;refine oneZ 8 (some 26) (yA 9 2) (fun K hK=>?_);have hcv17:=own_string (P:=Tryz.prog) Tryz.underlying37 Tryz.underlying5 Tryz.underlying9 (Kd.own_of_R HO703.out);refine value_ (w1:=?_) (v:=?_) (by rfl) rfl ?_ ?_;rotate_left 2
        ·go_simp
         constructor
         ·rfl
         ·rfl
        clear hcv17;refine hK.out _ _ trivial (fun hHeld=>?_);clear hK K;refine nZ 26 ?_;exact norm_ viaP (hCont (v702) _ ⟨(zz7 HO703),(zz6 HB)⟩)
       ·skip
        have hcv16:=own_string (P:=Tryz.prog) Tryz.underlying37 Tryz.underlying5 Tryz.underlying9 (Kd.own_of_R HO703.out);refine value_ (w1:=?_) (v:=?_) (by rfl) rfl ?_ ?_;rotate_left 2
        ·go_simp
         constructor
         ·rfl
         ·rfl
        clear hcv16;refine hK.out _ _ trivial (fun hHeld=>?_);clear hK K;refine nZ 26 ?_;refine oneZ 2 (some 20) (yA 9 2) (fun K hK=>?_);refine goes_ Tryz.func82 (by kernel_rfl) rfl #[.int .i64 (wrap64 (Int.tdiv a0 10))] (by rfl) rfl rfl zz45 ?_;with_reducible refine(ih k (by omega) (wrap64 (Int.tdiv a0 10)) t700 _ A11.out).mono ?_;rintro e w17 ⟨rfl,hb⟩;refine⟨_,rfl,?_⟩;replace HO703:=A_ (rB (zz7 HO703) hb);replace HB:=A_ (bS (zz6 HB) hb);(try clear hb)
        (try clear hb2)
        (try clear hk)
        (try clear hi)
        refine hK.out _ _ trivial (fun hHeld=>?_);clear hK K;refine nZ 20 ?_;exact norm_ viaP (hCont (v702) _ ⟨(zz7 HO703),(zz6 HB)⟩)
     rintro v702 w18 ⟨h0_,h1_⟩;have n0_:=A_ h0_;have n1_:=A_ h1_;(try dsimp only at n0_ n1_);clear HB;clear h0_ h1_;have HO703:=n0_;have HB:=n1_;clear n0_ n1_;have hHeld:=trivial;refine norm_ (a':=?_) ?_ ?_;rotate_left
     ·simp only[putAll,Act.put,lS_,l0_,lC_]
      rfl
     refine pureZ 9 (some 27) (yA 10 1) ?_;refine pureZ 10 (some 2) (yA 11 0) ?_;refine done_ (done_of HT_.out (by kernel_rfl)) ?_;try go_wp2;go_ret;exact⟨zz9,(zz6 HB)⟩
    ·exact absurd H (by simp)
def spec_l71Rule.f (k:Nat)(s0_0:List Int)(s0_1:Int):Option (BA×Int):=(spec_l6Rd_of.f k s0_0 s0_1 (([(⟨#[47]⟩:BA),(⟨#[47,97]⟩:BA),(⟨#[47,98]⟩:BA),(⟨#[47,97,47]⟩:BA),(⟨#[47,42,98]⟩:BA),(⟨#[47,97,36]⟩:BA),(⟨#[47,99]⟩:BA),(⟨#[47,42,63]⟩:BA),(⟨#[47,97,47,98]⟩:BA),(⟨#[47,42,47,98,36]⟩:BA),(⟨#[47,36]⟩:BA),(⟨#[47,98,42,99]⟩:BA),(⟨#[47,110,111,116,105,99,101]⟩:BA),(⟨#[47,42]⟩:BA)]:List BA))).bind fun bt730=>(some (bt730.1,bt730.2))
theorem spec_l71Rule.calls (k:Nat)(g:Nat)(s0_0:List Int)(s0_1:Int)(r1:BA)(r2:Int)(w0 w:World)(hI:IsS105 w0 w g s0_0 s0_1)(hB:Below w0.heap.size w0 w)(h:spec_l71Rule.f k s0_0 s0_1=some (r1,r2)):
  Calls Tryz.prog 164 #[.pointer (some ⟨g,0,none⟩)] w fun e w'=>e=.returned (.string r1)∧IsS105 w0 w' g s0_0 r2∧Below w0.heap.size w0 w'∧KeepBut w w' g none:=by
 have HI0:=A_ hI;have HK:=A_ (KeepBut.refl w g none);have HL:=A_ hB.size;clear hI;have HW0:=A_ hB.size;have HB:=A_ hB;clear hB;unfold spec_l71Rule.f at h;have H:=h;clear h;obtain⟨y727,Ny727⟩:=toY (([(⟨#[47]⟩:BA),(⟨#[47,97]⟩:BA),(⟨#[47,98]⟩:BA),(⟨#[47,97,47]⟩:BA),(⟨#[47,42,98]⟩:BA),(⟨#[47,97,36]⟩:BA),(⟨#[47,99]⟩:BA),(⟨#[47,42,63]⟩:BA),(⟨#[47,97,47,98]⟩:BA),(⟨#[47,42,47,98,36]⟩:BA),(⟨#[47,36]⟩:BA),(⟨#[47,98,42,99]⟩:BA),(⟨#[47,110,111,116,105,99,101]⟩:BA),(⟨#[47,42]⟩:BA)]:List BA));(first|with_reducible replace H:=bindZ Ny727 H|rw[←Ny727.out]at H|skip);replace H:=bindA H;obtain⟨⟨t730,t731⟩,A2,H⟩:=H;try dsimp only at H;simp only[oI_,pI_]at H;obtain⟨rfl,rfl⟩:=H;go_enter Tryz.func164,Tryz.ntmps164;go_wp2_with (first|((with_reducible refine gD (N:=4) rfl ?_);refine Kd.R_lit Kd.string _ 9 ?hg (N:=4) ?hd (xs:=([(⟨#[47]⟩:BA),(⟨#[47,97]⟩:BA),(⟨#[47,98]⟩:BA),(⟨#[47,97,47]⟩:BA),(⟨#[47,42,98]⟩:BA),(⟨#[47,97,36]⟩:BA),(⟨#[47,99]⟩:BA),(⟨#[47,42,63]⟩:BA),(⟨#[47,97,47,98]⟩:BA),(⟨#[47,42,47,98,36]⟩:BA),(⟨#[47,36]⟩:BA),(⟨#[47,98,42,99]⟩:BA),(⟨#[47,110,111,116,105,99,101]⟩:BA),(⟨#[47,42]⟩:BA)]:List BA)) (inner:=[.string (⟨#[47]⟩:BA),.string (⟨#[47,97]⟩:BA),.string (⟨#[47,98]⟩:BA),.string (⟨#[47,97,47]⟩:BA),.string (⟨#[47,42,98]⟩:BA),.string (⟨#[47,97,36]⟩:BA),.string (⟨#[47,99]⟩:BA),.string (⟨#[47,42,63]⟩:BA),.string (⟨#[47,97,47,98]⟩:BA),.string (⟨#[47,42,47,98,36]⟩:BA),.string (⟨#[47,36]⟩:BA),.string (⟨#[47,98,42,99]⟩:BA),.string (⟨#[47,110,111,116,105,99,101]⟩:BA),.string (⟨#[47,42]⟩:BA)]) (ok:=fun _=>True) (okp:=fun _=>True) ?hr ?hp (fun _ hk=>hk) trivial (Below.refl _ _) (lL_ _) (by simp) ?_;(case hd=>rfl);(case hg=>rfl);(case hr=>exact zz5);(case hp=>exact(Reps.one (show Kd.M Kd.string _ _ _ (⟨#[47]⟩:BA) [.string (⟨#[47]⟩:BA)]from rfl) (Reps.one (show Kd.M Kd.string _ _ _ (⟨#[47,97]⟩:BA) [.string (⟨#[47,97]⟩:BA)]from rfl) (Reps.one (show Kd.M Kd.string _ _ _ (⟨#[47,98]⟩:BA) [.string (⟨#[47,98]⟩:BA)]from rfl) (Reps.one (show Kd.M Kd.string _ _ _ (⟨#[47,97,47]⟩:BA) [.string (⟨#[47,97,47]⟩:BA)]from rfl) (Reps.one (show Kd.M Kd.string _ _ _ (⟨#[47,42,98]⟩:BA) [.string (⟨#[47,42,98]⟩:BA)]from rfl) (Reps.one (show Kd.M Kd.string _ _ _ (⟨#[47,97,36]⟩:BA) [.string (⟨#[47,97,36]⟩:BA)]from rfl) (Reps.one (show Kd.M Kd.string _ _ _ (⟨#[47,99]⟩:BA) [.string (⟨#[47,99]⟩:BA)]from rfl) (Reps.one (show Kd.M Kd.string _ _ _ (⟨#[47,42,63]⟩:BA) [.string (⟨#[47,42,63]⟩:BA)]from rfl) (Reps.one (show Kd.M Kd.string _ _ _ (⟨#[47,97,47,98]⟩:BA) [.string (⟨#[47,97,47,98]⟩:BA)]from rfl) (Reps.one (show Kd.M Kd.string _ _ _ (⟨#[47,42,47,98,36]⟩:BA) [.string (⟨#[47,42,47,98,36]⟩:BA)]from rfl) (Reps.one (show Kd.M Kd.string _ _ _ (⟨#[47,36]⟩:BA) [.string (⟨#[47,36]⟩:BA)]from rfl) (Reps.one (show Kd.M Kd.string _ _ _ (⟨#[47,98,42,99]⟩:BA) [.string (⟨#[47,98,42,99]⟩:BA)]from rfl) (Reps.one (show Kd.M Kd.string _ _ _ (⟨#[47,110,111,116,105,99,101]⟩:BA) [.string (⟨#[47,110,111,116,105,99,101]⟩:BA)]from rfl) (Reps.one (show Kd.M Kd.string _ _ _ (⟨#[47,42]⟩:BA) [.string (⟨#[47,42]⟩:BA)]from rfl) (Reps.none _ _))))))))))))))));intro v728 w3 ho4 hb hg_ hnew_;clear hg_ hnew_;(first|rw[←Ny727.out]at ho4|(simp only[Int.reduceToNat]at ho4;rw[←Ny727.out]at ho4));have HO729:=A_ (Kd.R_lower ho4 (keep_size (w:=w) (g:=g) (row:=none) (zz38 HK)));replace HK:=A_ (KeepBut.trans (zz38 HK) (KeepBut.of_below hb g none) (.inl rfl));replace HB:=A_ (bS (zz39 HB HI0) hb);replace HI0:=A_ (IsS105.below (zz37 HI0) hb);clear hb ho4;obtain⟨Ao5,co5,eo5⟩:=Kd.R_slice HO729.out;subst eo5)|(refine gR 49 (some 5) Tryz.func49 (spec_l6Rd_of.calls k g s0_0 s0_1 _ _ y727 t730 t731 w0 _ ?side1 ?side2 ?side3 ?side4 ?side5 A2.out) ?_;(case side1=>exact(zz37 HI0));(case side2=>exact(zz39 HB HI0));(case side3=>exact(zz46 HO729));(case side4=>exact(Kd.R_reads' HO729.out).2.1);(case side5=>exact far_slice (IsS105.own_ne HI0.out HO729.out (by decide)));rintro w6 ⟨hi,hb,hk⟩;replace HO729:=A_ (Kd.R_mono (Kd.R_keep (IsS105.apart (show IsS105 w0 _ g s0_0 s0_1 from(zz37 HI0)) (zz7 HO729) (by decide)) hk (fun _ h=>h.2)) (fun _ h=>h.1));replace HK:=A_ (KeepBut.trans (zz38 HK) hk (.inl rfl));replace HB:=A_ (hb);replace HI0:=A_ (hi);(try clear hb hk hi)));go_ret;exact⟨zz9,(zz37 HI0),(zz39 HB HI0),(zz38 HK)⟩
def spec_l71Rules.l0:Nat→List (S93)→Int→List Int→Int→Option ((List (S93))×Int)
 |0,_,_,_,_=>none
 |k+1,x3,x4,x1000,x1001=>if x4>0 then((spec_l6Rd_pick.f k x1000 x1001 2).bind fun bt737=>((spec_l71Rule.f k x1000 bt737.2).bind fun bt739=>(if x3.length<5864062014805 then(spec_l71Rules.l0 k (x3++[(⟨(bt737.1==0),bt739.1⟩:S93)]) (wrap64 (x4-1)) x1000 bt739.2)else(none))))else(some (x3,x1001))
def spec_l71Rules.f (k:Nat)(s0_0:List Int)(s0_1:Int):Option ((List (S93))×Int):=(spec_l6Rd_pick.f k s0_0 s0_1 5).bind fun bt735=>(spec_l71Rules.l0 k (([]:List (S93))) bt735.1 s0_0 bt735.2)
theorem spec_l71Rules.calls (k:Nat)(g:Nat)(s0_0:List Int)(s0_1:Int)(r1:List (S93))(r2:Int)(w0 w:World)(hI:IsS105 w0 w g s0_0 s0_1)(hB:Below w0.heap.size w0 w)(h:spec_l71Rules.f k s0_0 s0_1=some (r1,r2)):
  Calls Tryz.prog 140 #[.pointer (some ⟨g,0,none⟩)] w fun e w'=>∃v0_:Value,e=.returned (v0_)∧Kd.R k93 93 w' w.heap.size (fun _=>True) v0_ r1∧IsS105 w0 w' g s0_0 r2∧Below w0.heap.size w0 w'∧KeepBut w w' g none:=by
 have hu93:=Tryz.underlying93;have HI0:=A_ hI;have HK:=A_ (KeepBut.refl w g none);have HL:=A_ hB.size;clear hI;have HW0:=A_ hB.size;have HB:=A_ hB;clear hB;unfold spec_l71Rules.f at h;have H:=h;clear h;obtain⟨y732,Ny732⟩:=toY (([]:List (S93)));(first|with_reducible replace H:=bindZ Ny732 H|rw[←Ny732.out]at H|skip);replace H:=bindA H;obtain⟨⟨t735,t736⟩,A2,H⟩:=H;try dsimp only at H;have H':=A_ H;clear H;go_enter Tryz.func140,Tryz.ntmps140;go_wp2_with (first|((with_reducible refine gD (N:=5) rfl ?_);refine Kd.R_lit k93 _ 93 ?hg (N:=5) ?hd (xs:=([]:List (S93))) (inner:=[]) (ok:=fun _=>True) (okp:=fun _=>True) ?hr ?hp (fun _ hk=>hk) trivial (Below.refl _ _) (lL_ _) (by simp) ?_;(case hd=>rfl);(case hg=>rfl);(case hr=>exact zz5);(case hp=>exact(Reps.none _ _));intro v733 w3 ho4 hb hg_ hnew_;clear hg_ hnew_;(first|rw[←Ny732.out]at ho4|(simp only[Int.reduceToNat]at ho4;rw[←Ny732.out]at ho4));have HO734:=A_ (Kd.R_lower ho4 (keep_size (w:=w) (g:=g) (row:=none) (zz38 HK)));replace HK:=A_ (KeepBut.trans (zz38 HK) (KeepBut.of_below hb g none) (.inl rfl));replace HB:=A_ (bS (zz39 HB HI0) hb);replace HI0:=A_ (IsS105.below (zz37 HI0) hb);clear hb ho4)|(refine gR 81 (some 7) Tryz.func81 (spec_l6Rd_pick.calls k g s0_0 s0_1 5 t735 t736 w0 _ ?side1 ?side2 A2.out) ?_;(case side1=>exact(zz37 HI0));(case side2=>exact(zz39 HB HI0));rintro w5 ⟨hi,hb,hk⟩;replace HO734:=A_ (Kd.R_mono (Kd.R_keep (IsS105.apart (show IsS105 w0 _ g s0_0 s0_1 from(zz37 HI0)) (zz7 HO734) (by decide)) hk (fun _ h=>h.2)) (fun _ h=>h.1));replace HK:=A_ (KeepBut.trans (zz38 HK) hk (.inl rfl));replace HB:=A_ (hb);replace HI0:=A_ (hi);(try clear hb hk hi)))
 go_loopg [3,4] k (fun kq v3 v4 w'=>∃(x3_1:List (S93))(x4_1:Int)(x1001_1:Int),v4=.int .i64 x4_1∧Aside0 (spec_l71Rules.l0 kq x3_1 x4_1 s0_0 x1001_1=some (r1,r2))∧Aside0 (kq≤k)∧Aside0 (Kd.R k93 93 w' w.heap.size (fun _=>True) v3 x3_1)∧Aside0 (IsS105 w0 w' g s0_0 x1001_1)∧Aside0 (KeepBut w w' g none)∧Aside0 (Below w0.heap.size w0 w'))
 case atStart=>exact⟨(y732),(t735),(t736),zz0,H',⟨lL_ _⟩,⟨(zz7 HO734)⟩,⟨(zz37 HI0)⟩,⟨(zz38 HK)⟩,⟨(zz39 HB HI0)⟩⟩
 case round=>
  clear H';obtain⟨x3_1,x4_1,x1001_1,rfl,HA,HK1,HO_3,HI0,HK,HB⟩:=hrel;cases gk with
  |zero=>exact absurd HA.out (by simp[spec_l71Rules.l0])
  |succ k1=>
   obtain⟨H⟩:=HA;simp only[spec_l71Rules.l0]at H;replace H:=iteEg H;rcases H with⟨c6b0,H⟩|⟨c6b0,H⟩
   ·replace H:=bindA H
    obtain⟨⟨t737,t738⟩,A7,H⟩:=H;try dsimp only at H;replace H:=bindA H;obtain⟨⟨t739,t740⟩,A8,H⟩:=H;try dsimp only at H;replace H:=iteN H;obtain⟨c9,H⟩:=H;have LMc9:=A_ c9;clear c9;obtain⟨y741,Ny741⟩:=toY (x3_1++[(⟨(t737==0),t739⟩:S93)]);(first|with_reducible replace H:=bindZ Ny741 H|rw[←Ny741.out]at H|skip);have H':=A_ H;clear H;go_wp2_with (first|(refine gR 81 (some 14) Tryz.func81 (spec_l6Rd_pick.calls k1 g s0_0 x1001_1 2 t737 t738 w0 _ ?side1 ?side2 A7.out) ?_;(case side1=>exact(zz37 HI0));(case side2=>exact(zz39 HB HI0));rintro w10 ⟨hi,hb,hk⟩;replace HO_3:=A_ (Kd.R_mono (Kd.R_keep (IsS105.apart (show IsS105 w0 _ g s0_0 x1001_1 from(zz37 HI0)) (zz7 HO_3) (by decide)) hk (fun _ h=>h.2)) (fun _ h=>h.1));replace HK:=A_ (KeepBut.trans (zz38 HK) hk (.inl rfl));replace HB:=A_ (hb);replace HI0:=A_ (hi);(try clear hb hk hi))|(refine gR 164 (some 17) Tryz.func164 (spec_l71Rule.calls k1 g s0_0 t738 t739 t740 w0 _ ?side1 ?side2 A8.out) ?_;(case side1=>exact(zz37 HI0));(case side2=>exact(zz39 HB HI0));rintro w11 ⟨hi,hb,hk⟩;replace HO_3:=A_ (Kd.R_mono (Kd.R_keep (IsS105.apart (show IsS105 w0 _ g s0_0 t738 from(zz37 HI0)) (zz7 HO_3) (by decide)) hk (fun _ h=>h.2)) (fun _ h=>h.1));replace HK:=A_ (KeepBut.trans (zz38 HK) hk (.inl rfl));replace HB:=A_ (hb);replace HI0:=A_ (hi);(try clear hb hk hi))|((with_reducible refine gate_builtin (b:=.append) (xs:=#[.tmp 12,.tmp 19]) rfl ?_);at_builtin;refine Kd.R_append k93 w.heap.size rfl (.tmp 12) (.tmp 19) 30 93 (.agg #[(.bool false),(.string ⟨#[]⟩)]) 24 rfl Tryz.underlying30 info93 rfl (by decide) (by omega) u3 x3_1 (⟨(t737==0),t739⟩:S93) [.bool (t737==0),.string t739] (fun _=>True) (fun _=>False) rfl rfl ?aP (fun _ hk=>hk.elim) ?aF ?aO (Below.refl _ _) ?aS ?aL ?_;(case aP=>exact k93_mkM _ _ _ (⟨(t737==0),t739⟩:S93));(case aF=>exact(fun _ _=>trivial));(case aO=>exact(zz7 HO_3));(case aS=>exact(keep_size (w:=w) (g:=g) (row:=none) (zz38 HK)));(case aL=>exact(zz4 LMc9));intro v742 w12 ho hb hg hat;rw[←Ny741.out]at ho;replace HB:=A_ (below_weaken (zz39 HB HI0) HL.out hb);replace HI0:=A_ (IsS105.grown (zz37 HI0) hg (IsS105.own_ne HI0.out HO_3.out (by decide)));replace HK:=A_ (KeepBut.trans (zz38 HK) (KeepBut.of_grown hg g) (Kd.R_base2 HO_3.out));have HO743:=A_ (ho);clear HO_3;clear ho hb hg hat))
    go_roundg k1
    case measure=>have:=HK1.out;omega
    case rel=>exact⟨(y741),(wrap64 (x4_1-1)),(t740),zz0,H',⟨(zz4 HK1)⟩,⟨(zz7 HO743)⟩,⟨(zz37 HI0)⟩,⟨(zz38 HK)⟩,⟨(zz39 HB HI0)⟩⟩
   ·simp only[oI_,pI_]at H
    obtain⟨rfl,rfl⟩:=H;go_wp2;go_ret;exact⟨_,zz9,(zz7 HO_3),(zz37 HI0),(zz39 HB HI0),(zz38 HK)⟩
def spec_l71Groups.l0:Nat→List (S32)→Int→List Int→Int→Option ((List (S32))×Int)
 |0,_,_,_,_=>none
 |k+1,x3,x4,x1000,x1001=>if x4>0 then((spec_l6Rd_of.f k x1000 x1001 (([(⟨#[42]⟩:BA),(⟨#[114,111,118,101,114]⟩:BA),(⟨#[115,99,111,117,116]⟩:BA)]:List BA))).bind fun bt752=>((some (([bt752.1]:List BA):List BA)).bind fun y754=>((spec_l71Rules.f k x1000 bt752.2).bind fun bt757=>((spec_l6Rd_pick.f k x1000 bt757.2 4).bind fun bt761=>((spec_l6Rd_pick.f k x1000 bt761.2 3).bind fun bt763=>((spec_l6Rd_pick.f k x1000 bt763.2 4).bind fun bt766=>(if bt766.1=0 then((spec_l6Rd_of.f k x1000 bt766.2 (([(⟨#[42]⟩:BA),(⟨#[114,111,118,101,114]⟩:BA),(⟨#[120]⟩:BA)]:List BA))).bind fun bt771=>(if y754.length<8796093022208 then((some (y754++[bt771.1]:List BA)).bind fun y773=>(if(bt757.1.length:Int)>0 then(if x3.length<2513169434916 then(spec_l71Groups.l0 k (x3++[(⟨y773,bt757.1,wrap64 (bt761.1*bt763.1)⟩:S32)]) (wrap64 (x4-1)) x1000 bt771.2)else(none))else(if(wrap64 (bt761.1*bt763.1))>0 then(if x3.length<2513169434916 then(spec_l71Groups.l0 k (x3++[(⟨y773,bt757.1,wrap64 (bt761.1*bt763.1)⟩:S32)]) (wrap64 (x4-1)) x1000 bt771.2)else(none))else(spec_l71Groups.l0 k x3 (wrap64 (x4-1)) x1000 bt771.2))))else(none)))else(if(bt757.1.length:Int)>0 then(if x3.length<2513169434916 then(spec_l71Groups.l0 k (x3++[(⟨y754,bt757.1,wrap64 (bt761.1*bt763.1)⟩:S32)]) (wrap64 (x4-1)) x1000 bt766.2)else(none))else(if(wrap64 (bt761.1*bt763.1))>0 then(if x3.length<2513169434916 then(spec_l71Groups.l0 k (x3++[(⟨y754,bt757.1,wrap64 (bt761.1*bt763.1)⟩:S32)]) (wrap64 (x4-1)) x1000 bt766.2)else(none))else(spec_l71Groups.l0 k x3 (wrap64 (x4-1)) x1000 bt766.2))))))))))else((spec_l6Rd_pick.f k x1000 x1001 24).bind fun bt788=>(if bt788.1=0 then(if x3.length<2513169434916 then(some ((x3++[(⟨(([(⟨#[120]⟩:BA)]:List BA)),([]:List (S93)),0⟩:S32)]),bt788.2))else(none))else(if bt788.1=1 then(if x3.length<2513169434916 then(some ((x3++[(⟨([]:List BA),([]:List (S93)),2⟩:S32)]),bt788.2))else(none))else(if bt788.1=2 then(if x3.length<2513169434916 then(some ((x3++[(⟨(([(⟨#[88]⟩:BA)]:List BA)),([]:List (S93)),2⟩:S32)]),bt788.2))else(none))else(some (x3,bt788.2))))))
def spec_l71Groups.f (k:Nat)(s0_0:List Int)(s0_1:Int):Option ((List (S32))×Int):=(spec_l6Rd_pick.f k s0_0 s0_1 4).bind fun bt747=>(spec_l71Groups.l0 k (([]:List (S32))) bt747.1 s0_0 bt747.2)
def spec_l71Groups.T7:Bool×List (List Nat×List Nat):=(true,[([],[]),([0],[0]),([],[]),([],[]),([2,3],[2,3]),([4],[4]),([1,5,4],[1,5]),([0,1,2,3,4,5,6],[]),([7,6,6,0,1,2,3,4,5,6],[6,7])])
def spec_l71Groups.B7:List Nat:=[0,1,0,0,12,28,63,127,255]
theorem spec_l71Groups.tab7:rtab .any (opsOf Tryz.f109 7)=spec_l71Groups.T7:=by kernel_rfl
theorem spec_l71Groups.bits7:waitsOk spec_l71Groups.T7.2 spec_l71Groups.B7=true:=by kernel_rfl
theorem spec_l71Groups.calls (k:Nat)(g:Nat)(s0_0:List Int)(s0_1:Int)(r1:List (S32))(r2:Int)(w0 w:World)(hI:IsS105 w0 w g s0_0 s0_1)(hB:Below w0.heap.size w0 w)(h:spec_l71Groups.f k s0_0 s0_1=some (r1,r2)):
  Calls Tryz.prog 109 #[.pointer (some ⟨g,0,none⟩)] w fun e w'=>∃v0_:Value,e=.returned (v0_)∧Kd.S k32 32 w' w.heap.size (fun _=>True) v0_ r1∧IsS105 w0 w' g s0_0 r2∧Below w0.heap.size w0 w'∧KeepBut w w' g none:=by
 have hu32:=Tryz.underlying32;have HI0:=A_ hI;have HK:=A_ (KeepBut.refl w g none);have HL:=A_ hB.size;clear hI;have HW0:=A_ hB.size;have HB:=A_ hB;clear hB;unfold spec_l71Groups.f at h;have H:=h;clear h;obtain⟨y744,Ny744⟩:=toY (([]:List (S32)));(first|with_reducible replace H:=bindZ Ny744 H|rw[←Ny744.out]at H|skip);replace H:=bindA H;obtain⟨⟨t747,t748⟩,A2,H⟩:=H;try dsimp only at H;have H':=A_ H;clear H;go_enter Tryz.func109,Tryz.ntmps109;go_wp2_with (first|((with_reducible refine gD (N:=6) rfl ?_);refine Kd.S_lit k32 _ 32 ?hg (N:=6) ?hd (xs:=([]:List (S32))) (inner:=[]) (ok:=fun _=>True) (okp:=fun _=>True) ?hr ?hp (fun _ hk=>hk) trivial (Below.refl _ _) (lL_ _) (by simp) ?_;(case hd=>rfl);(case hg=>rfl);(case hr=>exact zz5);(case hp=>exact(Reps.none _ _));intro v745 w3 ho4 hb hg_ hnew_;clear hg_ hnew_;(first|rw[←Ny744.out]at ho4|(simp only[Int.reduceToNat]at ho4;rw[←Ny744.out]at ho4));have HO746:=A_ (Kd.S_lower ho4 (keep_size (w:=w) (g:=g) (row:=none) (zz38 HK)));replace HK:=A_ (KeepBut.trans (zz38 HK) (KeepBut.of_below hb g none) (.inl rfl));replace HB:=A_ (bS (zz39 HB HI0) hb);replace HI0:=A_ (IsS105.below (zz37 HI0) hb);clear hb ho4)|(refine gR 81 (some 8) Tryz.func81 (spec_l6Rd_pick.calls k g s0_0 s0_1 4 t747 t748 w0 _ ?side1 ?side2 A2.out) ?_;(case side1=>exact(zz37 HI0));(case side2=>exact(zz39 HB HI0));rintro w5 ⟨hi,hb,hk⟩;replace HO746:=A_ (Kd.S_mono (Kd.S_keep (IsS105.apartS (show IsS105 w0 _ g s0_0 s0_1 from(zz37 HI0)) (zz48 HO746) (by decide)) hk (fun _ h=>h.2)) (fun _ h=>h.1));replace HK:=A_ (KeepBut.trans (zz38 HK) hk (.inl rfl));replace HB:=A_ (hb);replace HI0:=A_ (hi);(try clear hb hk hi)))
 go_loopg [3,4] k (fun kq v3 v4 w'=>∃(x3_1:List (S32))(x4_1:Int)(x1001_1:Int),v4=.int .i64 x4_1∧Aside0 (spec_l71Groups.l0 kq x3_1 x4_1 s0_0 x1001_1=some (r1,r2))∧Aside0 (kq≤k)∧Aside0 (Kd.S k32 32 w' w.heap.size (fun _=>True) v3 x3_1)∧Aside0 (IsS105 w0 w' g s0_0 x1001_1)∧Aside0 (KeepBut w w' g none)∧Aside0 (Below w0.heap.size w0 w'))
 case atStart=>exact⟨(y744),(t747),(t748),zz0,H',⟨lL_ _⟩,⟨(zz48 HO746)⟩,⟨(zz37 HI0)⟩,⟨(zz38 HK)⟩,⟨(zz39 HB HI0)⟩⟩
 case round=>
  clear H';obtain⟨x3_1,x4_1,x1001_1,rfl,HA,HK1,HO_3,HI0,HK,HB⟩:=hrel;cases gk with
  |zero=>exact absurd HA.out (by simp[spec_l71Groups.l0])
  |succ k1=>
   obtain⟨H⟩:=HA;simp only[spec_l71Groups.l0]at H;replace H:=iteEg H;rcases H with⟨c6b0,H⟩|⟨c6b0,H⟩
   ·obtain⟨y749,Ny749⟩:=toY (([(⟨#[42]⟩:BA),(⟨#[114,111,118,101,114]⟩:BA),(⟨#[115,99,111,117,116]⟩:BA)]:List BA))
    (first|with_reducible replace H:=bindZ Ny749 H|rw[←Ny749.out]at H|skip)
    replace H:=bindA H;obtain⟨⟨t752,t753⟩,A7,H⟩:=H;try dsimp only at H;obtain⟨y754,Ny754,H⟩:=bindY H;replace H:=bindA H;obtain⟨⟨t757,t760⟩,A8,H⟩:=H;try dsimp only at H;replace H:=bindA H;obtain⟨⟨t761,t762⟩,A9,H⟩:=H;try dsimp only at H;replace H:=bindA H;obtain⟨⟨t763,t764⟩,A10,H⟩:=H;try dsimp only at H;replace H:=bindA H;obtain⟨⟨t766,t767⟩,A11,H⟩:=H;try dsimp only at H;have HF12:=A_ H;clear H;go_upto_if 27 with(first|((with_reducible refine gD (N:=14) rfl ?_);refine Kd.R_lit Kd.string _ 9 ?hg (N:=14) ?hd (xs:=([(⟨#[42]⟩:BA),(⟨#[114,111,118,101,114]⟩:BA),(⟨#[115,99,111,117,116]⟩:BA)]:List BA)) (inner:=[.string (⟨#[42]⟩:BA),.string (⟨#[114,111,118,101,114]⟩:BA),.string (⟨#[115,99,111,117,116]⟩:BA)]) (ok:=fun _=>True) (okp:=fun _=>True) ?hr ?hp (fun _ hk=>hk) trivial (Below.refl _ _) (lL_ _) (by simp) ?_;(case hd=>rfl);(case hg=>rfl);(case hr=>exact zz5);(case hp=>exact(Reps.one (show Kd.M Kd.string _ _ _ (⟨#[42]⟩:BA) [.string (⟨#[42]⟩:BA)]from rfl) (Reps.one (show Kd.M Kd.string _ _ _ (⟨#[114,111,118,101,114]⟩:BA) [.string (⟨#[114,111,118,101,114]⟩:BA)]from rfl) (Reps.one (show Kd.M Kd.string _ _ _ (⟨#[115,99,111,117,116]⟩:BA) [.string (⟨#[115,99,111,117,116]⟩:BA)]from rfl) (Reps.none _ _)))));intro v750 w13 ho14 hb hg_ hnew_;clear hg_ hnew_;(first|rw[←Ny749.out]at ho14|(simp only[Int.reduceToNat]at ho14;rw[←Ny749.out]at ho14));replace HO_3:=A_ (Kd.S_elder' (zz48 HO_3) (Kd.R_base ho14) hb);have HO751:=A_ (Kd.R_lower ho14 (keep_size (w:=w) (g:=g) (row:=none) (zz38 HK)));replace HK:=A_ (KeepBut.trans (zz38 HK) (KeepBut.of_below hb g none) (.inl rfl));replace HB:=A_ (bS (zz39 HB HI0) hb);replace HI0:=A_ (IsS105.below (zz37 HI0) hb);clear hb ho14;obtain⟨Ao15,co15,eo15⟩:=Kd.R_slice HO751.out;subst eo15)|(refine gR 49 (some 15) Tryz.func49 (spec_l6Rd_of.calls k1 g s0_0 x1001_1 _ _ y749 t752 t753 w0 _ ?side1 ?side2 ?side3 ?side4 ?side5 A7.out) ?_;(case side1=>exact(zz37 HI0));(case side2=>exact(zz39 HB HI0));(case side3=>exact(zz46 HO751));(case side4=>exact(Kd.R_reads' HO751.out).2.1);(case side5=>exact far_slice (IsS105.own_ne HI0.out HO751.out (by decide)));rintro w16 ⟨hi,hb,hk⟩;replace HO_3:=A_ (Kd.S_mono (Kd.S_keep (IsS105.apartS (show IsS105 w0 _ g s0_0 x1001_1 from(zz37 HI0)) (zz48 HO_3) (by decide)) hk (fun _ h=>h.2)) (fun _ h=>h.1));replace HO751:=A_ (Kd.R_mono (Kd.R_keep (IsS105.apart (show IsS105 w0 _ g s0_0 x1001_1 from(zz37 HI0)) (zz7 HO751) (by decide)) hk (fun _ h=>h.2)) (fun _ h=>h.1));replace HK:=A_ (KeepBut.trans (zz38 HK) hk (.inl rfl));replace HB:=A_ (hb);replace HI0:=A_ (hi);(try clear hb hk hi))|((with_reducible refine gD (N:=16) rfl ?_);refine Kd.R_lit Kd.string _ 9 ?hg (N:=16) ?hd (xs:=([t752]:List BA)) (inner:=[.string t752]) (ok:=fun _=>True) (okp:=fun _=>True) ?hr ?hp (fun _ hk=>hk) trivial (Below.refl _ _) (lL_ _) (by simp) ?_;(case hd=>rfl);(case hg=>rfl);(case hr=>exact zz5);(case hp=>exact(Reps.one (show Kd.M Kd.string _ _ _ t752 [.string t752]from rfl) (Reps.none _ _)));intro v755 w17 ho18 hb hg_ hnew_;clear hg_ hnew_;(first|rw[←Ny754.out]at ho18|(simp only[Int.reduceToNat]at ho18;rw[←Ny754.out]at ho18));replace HO_3:=A_ (Kd.S_elder' (zz48 HO_3) (Kd.R_base ho18) hb);have HO756:=A_ (Kd.R_lower (Kd.R_new' ho18 (Kd.R_lt (zz7 HO751))) (keep_size (w:=w) (g:=g) (row:=none) (zz38 HK)));replace HO751:=A_ (Kd.R_elder' (zz7 HO751) (Kd.R_base ho18) hb);replace HK:=A_ (KeepBut.trans (zz38 HK) (KeepBut.of_below hb g none) (.inl rfl));replace HB:=A_ (bS (zz39 HB HI0) hb);replace HI0:=A_ (IsS105.below (zz37 HI0) hb);clear hb ho18)|(refine gV 140 (some 18) Tryz.func140 (spec_l71Rules.calls k1 g s0_0 t753 t757 t760 w0 _ ?side1 ?side2 A8.out) ?_;(case side1=>exact(zz37 HI0));(case side2=>exact(zz39 HB HI0));rintro v758 w19 ⟨ho0,hi,hb,hk⟩;replace HO_3:=A_ (Kd.S_mono (Kd.S_told (Kd.S_oldK (IsS105.apartS (show IsS105 w0 _ g s0_0 t753 from(zz37 HI0)) (zz48 HO_3) (by decide)) hk) (Kd.R_base ho0)) (fun _ h_=>h_.1));replace HO751:=A_ (Kd.R_mono (Kd.R_keep (IsS105.apart (show IsS105 w0 _ g s0_0 t753 from(zz37 HI0)) (zz7 HO751) (by decide)) hk (fun _ h=>h.2)) (fun _ h=>h.1));replace HO756:=A_ (Kd.R_mono (Kd.R_keep (IsS105.apart (show IsS105 w0 _ g s0_0 t753 from(zz37 HI0)) (zz7 HO756) (by decide)) hk (fun _ h=>h.2)) (fun _ h=>h.1));have HO759:=A_ (Kd.R_lower ho0 (keep_size (w:=w) (g:=g) (row:=none) (zz38 HK)));replace HK:=A_ (KeepBut.trans (zz38 HK) hk (.inl rfl));replace HB:=A_ (hb);replace HI0:=A_ (hi);(try clear hb hk hi ho0))|(refine gR 81 (some 20) Tryz.func81 (spec_l6Rd_pick.calls k1 g s0_0 t760 4 t761 t762 w0 _ ?side1 ?side2 A9.out) ?_;(case side1=>exact(zz37 HI0));(case side2=>exact(zz39 HB HI0));rintro w20 ⟨hi,hb,hk⟩;replace HO_3:=A_ (Kd.S_mono (Kd.S_keep (IsS105.apartS (show IsS105 w0 _ g s0_0 t760 from(zz37 HI0)) (zz48 HO_3) (by decide)) hk (fun _ h=>h.2)) (fun _ h=>h.1));replace HO751:=A_ (Kd.R_mono (Kd.R_keep (IsS105.apart (show IsS105 w0 _ g s0_0 t760 from(zz37 HI0)) (zz7 HO751) (by decide)) hk (fun _ h=>h.2)) (fun _ h=>h.1));replace HO756:=A_ (Kd.R_mono (Kd.R_keep (IsS105.apart (show IsS105 w0 _ g s0_0 t760 from(zz37 HI0)) (zz7 HO756) (by decide)) hk (fun _ h=>h.2)) (fun _ h=>h.1));replace HO759:=A_ (Kd.R_mono (Kd.R_keep (IsS105.apart (show IsS105 w0 _ g s0_0 t760 from(zz37 HI0)) (zz7 HO759) (by decide)) hk (fun _ h=>h.2)) (fun _ h=>h.1));replace HK:=A_ (KeepBut.trans (zz38 HK) hk (.inl rfl));replace HB:=A_ (hb);replace HI0:=A_ (hi);(try clear hb hk hi))|(refine gR 81 (some 22) Tryz.func81 (spec_l6Rd_pick.calls k1 g s0_0 t762 3 t763 t764 w0 _ ?side1 ?side2 A10.out) ?_;(case side1=>exact(zz37 HI0));(case side2=>exact(zz39 HB HI0));rintro w21 ⟨hi,hb,hk⟩;replace HO_3:=A_ (Kd.S_mono (Kd.S_keep (IsS105.apartS (show IsS105 w0 _ g s0_0 t762 from(zz37 HI0)) (zz48 HO_3) (by decide)) hk (fun _ h=>h.2)) (fun _ h=>h.1));replace HO751:=A_ (Kd.R_mono (Kd.R_keep (IsS105.apart (show IsS105 w0 _ g s0_0 t762 from(zz37 HI0)) (zz7 HO751) (by decide)) hk (fun _ h=>h.2)) (fun _ h=>h.1));replace HO756:=A_ (Kd.R_mono (Kd.R_keep (IsS105.apart (show IsS105 w0 _ g s0_0 t762 from(zz37 HI0)) (zz7 HO756) (by decide)) hk (fun _ h=>h.2)) (fun _ h=>h.1));replace HO759:=A_ (Kd.R_mono (Kd.R_keep (IsS105.apart (show IsS105 w0 _ g s0_0 t762 from(zz37 HI0)) (zz7 HO759) (by decide)) hk (fun _ h=>h.2)) (fun _ h=>h.1));replace HK:=A_ (KeepBut.trans (zz38 HK) hk (.inl rfl));replace HB:=A_ (hb);replace HI0:=A_ (hi);(try clear hb hk hi);obtain⟨Ao22,co22,eo22⟩:=Kd.R_slice HO759.out;subst eo22;obtain⟨Ao23,co23,eo23⟩:=Kd.R_slice HO756.out;subst eo23)|(refine boxF 5 #[.slice none 0 0,.slice none 0 0,.int .i64 0] 32 ?_;intro gb765 hg w24 BK765 hb;replace HO_3:=A_ (Kd.S_below (Kd.S_elderB (zz48 HO_3) gb765 (Nat.le_of_eq hg.symm)) hb);replace HO751:=A_ (rB (zz7 HO751) hb);replace HO756:=A_ (rB (zz7 HO756) hb);replace HO759:=A_ (rB (zz7 HO759) hb);replace HB:=A_ (bS (zz39 HB HI0) hb);have GW765:=A_ ((by rw[hg];exact(keep_size (w:=w) (g:=g) (row:=none) (zz38 HK)):w.heap.size≤gb765));have GE765:=A_ ((nT_ HW0.out (by rw[hg];exact(keep_size (w:=w) (g:=g) (row:=none) (zz38 HK)):w.heap.size≤gb765):w0.heap.size≤gb765));replace HK:=A_ (KeepBut.trans (zz38 HK) (KeepBut.of_below hb g none) (.inl rfl));have NB0_765:=A_ ((by rw[hg];exact Nat.ne_of_lt (IsS105.lt (show IsS105 w0 _ g s0_0 t764 from(zz37 HI0))):g≠gb765));have NB765_0:=A_ ((by rw[hg];exact Nat.ne_of_gt (IsS105.lt (show IsS105 w0 _ g s0_0 t764 from(zz37 HI0))):gb765≠g));replace HI0:=A_ (IsS105.below (zz37 HI0) hb);clear hb hg;have hnb25:=NB765_0.out;have hnc25:=NB0_765.out;obtain⟨_,_,_,_,_,_⟩:=cf3 BK765)|(refine gR 81 (some 26) Tryz.func81 (spec_l6Rd_pick.calls k1 g s0_0 t764 4 t766 t767 w0 _ ?side1 ?side2 A11.out) ?_;(case side1=>exact(zz50 HI0 NB0_765));(case side2=>exact(zz51 HB HI0 GE765));rintro w27 ⟨hi,hb,hk⟩;replace HO_3:=A_ (Kd.S_mono (Kd.S_keep (IsS105.apartS (show IsS105 w0 _ g s0_0 t764 from(zz50 HI0 NB0_765)) (by(with_reducible repeat(first|apply Kd.S_alloc|apply Kd.S_drewN|apply Kd.S_drew));exact(Kd.S_mono (Kd.S_far (p:=⟨gb765,2,none⟩) (Kd.S_far (p:=⟨gb765,1,none⟩) (Kd.S_far (p:=⟨gb765,0,none⟩) (Kd.S_mono HO_3.out (fun k_ hk=>(⟨hk,hk.2⟩:_∧k_≠gb765))) (fun _ hk=>hk.2) (.slice Ao23 y754.length co23)) (fun _ hk=>hk.2) (.slice Ao22 t757.length co22)) (fun _ hk=>hk.2) (.int .i64 (wrap64 (t761*t763)))) (fun _ h_=>h_.1))) (by decide)) hk (fun _ h=>h.2)) (fun _ h=>h.1));replace HO751:=A_ (Kd.R_mono (Kd.R_keep (IsS105.apart (show IsS105 w0 _ g s0_0 t764 from(zz50 HI0 NB0_765)) (zz53 HO751 BK765) (by decide)) hk (fun _ h=>h.2)) (fun _ h=>h.1));replace HO756:=A_ (Kd.R_mono (Kd.R_keep (IsS105.apart (show IsS105 w0 _ g s0_0 t764 from(zz50 HI0 NB0_765)) (zz53 HO756 BK765) (by decide)) hk (fun _ h=>h.2)) (fun _ h=>h.1));replace HO759:=A_ (Kd.R_mono (Kd.R_keep (IsS105.apart (show IsS105 w0 _ g s0_0 t764 from(zz50 HI0 NB0_765)) (zz53 HO759 BK765) (by decide)) hk (fun _ h=>h.2)) (fun _ h=>h.1));replace BK765:=A_ (KeepBut.blk hk (g':=gb765) (o:=.cells #[.slice Ao23 y754.length co23,.slice Ao22 t757.length co22,.int .i64 (wrap64 (t761*t763))] 32 (0,0)) (zz25 BK765) NB765_0.out (by simp));replace HK:=A_ (KeepBut.trans (zz54 HK GW765) hk (.inl rfl));replace HB:=A_ (hb);replace HI0:=A_ (hi);(try clear hb hk hi)))
    obtain⟨H⟩:=HF12;replace H:=iteEq H;rcases H with⟨c28b0,c28b1,H⟩|⟨c28b0,c28b1,c28,H⟩
    ·(first|rw[c28b0]|(simp only[i64_w,i32_w];rw[c28b0])|skip)
     obtain⟨y768,Ny768⟩:=toY (([(⟨#[42]⟩:BA),(⟨#[114,111,118,101,114]⟩:BA),(⟨#[120]⟩:BA)]:List BA));(first|with_reducible replace H:=bindZ Ny768 H|rw[←Ny768.out]at H|skip);replace H:=bindA H;obtain⟨⟨t771,t772⟩,A29,H⟩:=H;try dsimp only at H;replace H:=iteN H;obtain⟨c30,H⟩:=H;have LMc30:=A_ c30;clear c30;obtain⟨y773,Ny773⟩:=toY (y754++[t771]);(first|with_reducible replace H:=bindZ Ny773 H|rw[←Ny773.out]at H|skip);have HF31:=A_ H;clear H;try go_wp2;replace HO_3:=A_ (Kd.S_drew HO_3.out);replace HO751:=A_ (Kd.R_drew HO751.out);replace HO756:=A_ (Kd.R_drew HO756.out);replace HO759:=A_ (Kd.R_drew HO759.out);replace BK765:=A_ (blk_drew BK765.out);replace HI0:=A_ (IsS105.drew HI0.out);replace HK:=A_ (keep_drew HK.out);replace HB:=A_ (below_drew1 HB.out);refine start_ (n:=9) (S:=fun w'=>w'.cell? ⟨gb765,0,none⟩=some (.slice Ao23 y754.length co23)∧w'.cell? ⟨gb765,1,none⟩=some (.slice Ao22 t757.length co22)∧w'.cell? ⟨gb765,2,none⟩=some (.int .i64 (wrap64 (t761*t763)))) (ds:=[8]) #[yF,yF,yF,yF,yF,yF,yF,yF,yF] (by kernel_rfl) rfl rfl ⟨(blk_cell BK765.out 0).trans rfl,(blk_cell BK765.out 1).trans rfl,(blk_cell BK765.out 2).trans rfl⟩ (fun hHeld=>?_);refine with_tabW spec_l71Groups.tab7 spec_l71Groups.bits7 (fun HT_ HW_=>?_);generalize w27.drew=w32 at HO_3 HO751 HO756 HO759 BK765 HI0 HK HB hHeld ⊢;refine pureZ 0 (some 28) (yA 1 8) ?_;refine pureZ 2 (some 30) #[yT,yF,yT,yF,yF,yF,yF,yF,yF] ?_;refine takeZ3 1 (some 29) (yA 3 6) hHeld ?_;refine oneZ 3 (some 31) (yA 4 5) (fun K hK=>?_);refine Kd.R_lit_step Kd.string _ 9 ?hg (N:=31) ?hd (xs:=([(⟨#[42]⟩:BA),(⟨#[114,111,118,101,114]⟩:BA),(⟨#[120]⟩:BA)]:List BA)) (inner:=[.string (⟨#[42]⟩:BA),.string (⟨#[114,111,118,101,114]⟩:BA),.string (⟨#[120]⟩:BA)]) (ok:=fun _=>True) (okp:=fun _=>True) ?hr ?hp (fun _ hk=>hk) trivial (Below.refl _ _) (lL_ _) (by simp) ?_;(case hd=>rfl);(case hg=>rfl);(case hr=>exact zz5);(case hp=>exact(Reps.one (show Kd.M Kd.string _ _ _ (⟨#[42]⟩:BA) [.string (⟨#[42]⟩:BA)]from rfl) (Reps.one (show Kd.M Kd.string _ _ _ (⟨#[114,111,118,101,114]⟩:BA) [.string (⟨#[114,111,118,101,114]⟩:BA)]from rfl) (Reps.one (show Kd.M Kd.string _ _ _ (⟨#[120]⟩:BA) [.string (⟨#[120]⟩:BA)]from rfl) (Reps.none _ _)))));intro v769 w33 ho34 hb hg_ hnew_;clear hg_ hnew_;(first|rw[←Ny768.out]at ho34|(simp only[Int.reduceToNat]at ho34;rw[←Ny768.out]at ho34));replace HO_3:=A_ (Kd.S_elder' (zz48 HO_3) (Kd.R_base ho34) hb);replace HO759:=A_ (rB (zz7 HO759) hb);have HO770:=A_ (Kd.R_lower (Kd.R_new' (Kd.R_new' ho34 (Kd.R_lt (zz7 HO751))) (Kd.R_lt (zz7 HO756))) (keep_size (w:=w) (g:=g) (row:=none) (zz54 HK GW765)));replace HO751:=A_ (Kd.R_elder' (zz7 HO751) (Kd.R_base ho34) hb);replace HO756:=A_ (Kd.R_elder' (zz7 HO756) (Kd.R_base ho34) hb);replace BK765:=A_ (bB (zz18 BK765) hb);replace HK:=A_ (KeepBut.trans (zz54 HK GW765) (KeepBut.of_below hb g none) (.inl rfl));replace HB:=A_ (bS (zz51 HB HI0 GE765) hb);replace HI0:=A_ (IsS105.below (zz50 HI0 NB0_765) hb);clear hb ho34;obtain⟨Ao35,co35,eo35⟩:=Kd.R_slice HO770.out;(first|subst eo35|(injection eo35 with f1_ f2_ f3_;have f4_:=f1_.symm;have f5_:=f3_.symm;clear f1_ f2_ f3_;subst f4_;subst f5_));refine hK.out _ _ ⟨(blk_cell BK765.out 0).trans rfl,(blk_cell BK765.out 1).trans rfl,(blk_cell BK765.out 2).trans rfl⟩ (fun hHeld=>?_);clear hK K;refine nZ 31 ?_;refine oneZ 4 (some 32) (yA 5 4) (fun K hK=>?_);refine goes_ Tryz.func49 (by kernel_rfl) rfl #[.pointer (some ⟨g,0,none⟩),.slice Ao35 y768.length co35] (by rfl) rfl rfl zz45 ?_;with_reducible refine(spec_l6Rd_of.calls k1 g s0_0 t767 _ _ y768 t771 t772 w0 _ ?side1 ?side2 ?side3 ?side4 ?side5 A29.out).mono ?_
     (case side1=>exact(zz50 HI0 NB0_765))
     (case side2=>exact(zz51 HB HI0 GE765))
     (case side3=>exact(zz46 HO770))
     (case side4=>exact(Kd.R_reads' HO770.out).2.1)
     (case side5=>exact far_slice (IsS105.own_ne HI0.out HO770.out (by decide)))
     rintro e w36 ⟨rfl,hi,hb,hk⟩;refine⟨_,rfl,?_⟩;replace HO_3:=A_ (Kd.S_mono (Kd.S_keep (IsS105.apartS (show IsS105 w0 _ g s0_0 t767 from(zz50 HI0 NB0_765)) (zz48 HO_3) (by decide)) hk (fun _ h=>h.2)) (fun _ h=>h.1));replace HO751:=A_ (Kd.R_mono (Kd.R_keep (IsS105.apart (show IsS105 w0 _ g s0_0 t767 from(zz50 HI0 NB0_765)) (zz7 HO751) (by decide)) hk (fun _ h=>h.2)) (fun _ h=>h.1));replace HO756:=A_ (Kd.R_mono (Kd.R_keep (IsS105.apart (show IsS105 w0 _ g s0_0 t767 from(zz50 HI0 NB0_765)) (zz7 HO756) (by decide)) hk (fun _ h=>h.2)) (fun _ h=>h.1));replace HO759:=A_ (Kd.R_mono (Kd.R_keep (IsS105.apart (show IsS105 w0 _ g s0_0 t767 from(zz50 HI0 NB0_765)) (zz7 HO759) (by decide)) hk (fun _ h=>h.2)) (fun _ h=>h.1));replace BK765:=A_ (KeepBut.blk hk (g':=gb765) (o:=.cells #[.slice Ao23 y754.length co23,.slice Ao22 t757.length co22,.int .i64 (wrap64 (t761*t763))] 32 (0,0)) (zz18 BK765) NB765_0.out (by simp));replace HO770:=A_ (Kd.R_mono (Kd.R_keep (IsS105.apart (show IsS105 w0 _ g s0_0 t767 from(zz50 HI0 NB0_765)) (zz7 HO770) (by decide)) hk (fun _ h=>h.2)) (fun _ h=>h.1));replace HK:=A_ (KeepBut.trans (zz54 HK GW765) hk (.inl rfl));replace HB:=A_ (hb);replace HI0:=A_ (hi);(try clear hb)
     (try clear hb2)
     (try clear hk)
     (try clear hi)
     refine hK.out _ _ ⟨(blk_cell BK765.out 0).trans rfl,(blk_cell BK765.out 1).trans rfl,(blk_cell BK765.out 2).trans rfl⟩ (fun hHeld=>?_);clear hK K;refine nZ 32 ?_;refine oneZ 5 (some 33) (yA 6 3) (fun K hK=>?_);refine value_ (w1:=?_) (v:=?_) (by rfl) rfl ?_ ?_;rotate_left 2
     ·go_simp
      constructor
      ·rfl
      ·rfl
     refine hK.out _ _ ⟨(blk_cell (blk_alloc BK765.out _) 0).trans rfl,(blk_cell (blk_alloc BK765.out _) 1).trans rfl,(blk_cell (blk_alloc BK765.out _) 2).trans rfl⟩ (fun hHeld=>?_);clear hK K;refine nZ 33 ?_;refine oneZ 6 (some 34) (yA 7 2) (fun K hK=>?_);refine Kd.R_append_step Kd.string w.heap.size (by rfl) (.tmp 29) (.tmp 33) 29 9 (.string ⟨#[]⟩) 16 rfl Tryz.underlying29 info9 rfl (by decide) (by omega) (.slice Ao23 y754.length co23) y754 t771 [.string t771] (fun k_=>some k_≠(.slice Ao15 y749.length co15:Value).ownBlock∧some k_≠(.slice Ao35 y768.length co35:Value).ownBlock) (fun _=>False) rfl rfl ?aP (fun _ hk=>hk.elim) ?aF ?aO (Below.refl _ _) ?aS ?aL ?_;(case aP=>exact rfl)
     (case aF=>exact(fun k_ hk=>⟨Kd.fresh' (Kd.R_lt (zz7 HO751)) k_ hk,Kd.fresh' (Kd.R_lt (zz7 HO770)) k_ hk⟩))
     (case aO=>exact(zz55 HO756))
     (case aS=>exact(keep_size (w:=w) (g:=g) (row:=none) (zz54 HK GW765)))
     (case aL=>exact(zz4 LMc30))
     intro v774 w37 ho hb hg hat;rw[←Ny773.out]at ho;replace HO_3:=A_ (Kd.S_after (ok:=(fun k_=>some k_≠(.slice Ao15 y749.length co15:Value).ownBlock∧some k_≠(.slice Ao22 t757.length co22:Value).ownBlock∧some k_≠(.slice Ao35 y768.length co35:Value).ownBlock∧k_≠gb765)) (by(with_reducible repeat(first|apply Kd.S_alloc|apply Kd.S_drewN|apply Kd.S_drew));exact Kd.S_mono HO_3.out (fun _ hk=>⟨⟨hk.1.1.1.1.2,⟨hk.1.1.2,⟨hk.2,hk.1.2⟩⟩⟩,hk.1.1.1.2⟩)) hg hat);replace HO751:=A_ (Kd.R_after (ok:=(fun k_=>some k_≠(.slice Ao35 y768.length co35:Value).ownBlock)) (by(with_reducible repeat(first|apply Kd.R_alloc|apply Kd.R_drewN|apply Kd.R_drew));exact Kd.R_mono HO751.out (fun _ hk=>⟨hk.2,hk.1.2⟩)) hg hat);replace HO759:=A_ (Kd.R_over' (zz7 HO759) (Kd.R_typed (zz7 HO756)) (by decide) hg);replace BK765:=A_ (blk_grown (zz18 BK765) hg (Kd.R_ne HO756.out BK765.out (by decide)));replace HO770:=A_ (Kd.R_after (ok:=(fun k_=>some k_≠(.slice Ao15 y749.length co15:Value).ownBlock)) (zz55 HO770) hg hat);replace HB:=A_ (below_weaken (zz51 HB HI0 GE765) HL.out hb);replace HI0:=A_ (IsS105.grown (zz50 HI0 NB0_765) hg (IsS105.own_ne HI0.out HO756.out (by decide)));replace HK:=A_ (KeepBut.trans (zz54 HK GW765) (KeepBut.of_grown hg g) (Kd.R_base2 HO756.out));have HO775:=A_ (ho);clear HO756;clear ho hb hg hat;obtain⟨Ao38,co38,eo38⟩:=Kd.R_slice HO775.out;(first|subst eo38|(injection eo38 with f1_ f2_ f3_;have f4_:=f1_.symm;have f5_:=f3_.symm;clear f1_ f2_ f3_;subst f4_;subst f5_));refine hK.out _ _ ⟨(blk_cell BK765.out 0).trans rfl,(blk_cell BK765.out 1).trans rfl,(blk_cell BK765.out 2).trans rfl⟩ (fun hHeld=>?_);clear hK K;refine nZ 34 ?_;refine pureZ 7 (some 35) (yA 8 1) ?_;refine last_ (i:=8) (N:=none) (yA 9 0) rfl rfl (one_of HT_.out (by kernel_rfl)) (by decide) (fun K hK=>?_);have hs39:w37.cell? ⟨gb765,0,none⟩=some (.slice Ao23 y754.length co23):=(blk_cell BK765.out 0).trans rfl;have hfs39:=blk_frozen BK765.out 0;refine skip_ (w1:=?_) (by rfl) rfl ?_ ?_;rotate_left
     ·go_simp
      rfl
     refine hK.out _ _ ?_;clear hK K;refine done_ (done_of HT_.out (by kernel_rfl)) ?_;have n0_:Aside0 (Kd.S k32 32 (w37.setCell ⟨gb765,0,none⟩ (.slice Ao38 y773.length co38)) w.heap.size (fun k_=>some k_≠(.slice Ao15 y749.length co15:Value).ownBlock∧some k_≠(.slice Ao22 t757.length co22:Value).ownBlock∧some k_≠(.slice Ao35 y768.length co35:Value).ownBlock∧some k_≠(.slice Ao38 y773.length co38:Value).ownBlock∧k_≠gb765) u3 x3_1):=⟨(by(with_reducible repeat(first|apply Kd.S_alloc|apply Kd.S_drewN|apply Kd.S_drew));exact Kd.S_mono (Kd.S_far (p:=⟨gb765,0,none⟩) (Kd.S_mono HO_3.out (fun k_ hk=>(⟨hk,hk.1.2.2.2⟩:_∧k_≠gb765))) (fun _ hk=>hk.2) (.slice Ao38 y773.length co38)) (fun _ hk=>⟨hk.1.1.1,⟨hk.1.1.2.1,⟨hk.1.1.2.2.1,⟨hk.1.2,hk.1.1.2.2.2⟩⟩⟩⟩))⟩;have n1_:Aside0 (Kd.R Kd.string 9 (w37.setCell ⟨gb765,0,none⟩ (.slice Ao38 y773.length co38)) w.heap.size (fun k_=>some k_≠(.slice Ao35 y768.length co35:Value).ownBlock∧some k_≠(.slice Ao38 y773.length co38:Value).ownBlock) (.slice Ao15 y749.length co15) y749):=⟨(zz23 (rt HO751 BK765))⟩;have n2_:Aside0 (Kd.R k93 93 (w37.setCell ⟨gb765,0,none⟩ (.slice Ao38 y773.length co38)) w.heap.size (fun _=>True) (.slice Ao22 t757.length co22) t757):=⟨(zz23 (rt HO759 BK765))⟩;have n3_:Aside0 (Kd.R Kd.string 9 (w37.setCell ⟨gb765,0,none⟩ (.slice Ao38 y773.length co38)) w.heap.size (fun k_=>some k_≠(.slice Ao15 y749.length co15:Value).ownBlock∧some k_≠(.slice Ao38 y773.length co38:Value).ownBlock) (.slice Ao35 y768.length co35) y768):=⟨(zz23 (rt HO770 BK765))⟩;have n4_:Aside0 (Kd.R Kd.string 9 (w37.setCell ⟨gb765,0,none⟩ (.slice Ao38 y773.length co38)) w.heap.size (fun k_=>some k_≠(.slice Ao15 y749.length co15:Value).ownBlock∧some k_≠(.slice Ao35 y768.length co35:Value).ownBlock) (.slice Ao38 y773.length co38) y773):=⟨(zz23 (rt HO775 BK765))⟩;have n5_:Aside0 ((w37.setCell ⟨gb765,0,none⟩ (.slice Ao38 y773.length co38)).heap[gb765]?=some (.cells #[.slice Ao38 y773.length co38,.slice Ao22 t757.length co22,.int .i64 (wrap64 (t761*t763))] 32 (0,0))):=⟨(by first|((repeat(first|(with_reducible first|exact BK765.out|refine blk_drewN ?_ _|refine blk_drew ?_|refine blk_alloc ?_ _|apply blk_put)|exact BK765.out));all_goals rfl;done)|(apply blk_put (i:=0);exact BK765.out;all_goals rfl))⟩;have n6_:Aside0 (IsS105 w0 (w37.setCell ⟨gb765,0,none⟩ (.slice Ao38 y773.length co38)) g s0_0 t772):=⟨(zz50 HI0 NB0_765)⟩;have n7_:Aside0 (KeepBut w (w37.setCell ⟨gb765,0,none⟩ (.slice Ao38 y773.length co38)) g none):=⟨(zz54 HK GW765)⟩;have n8_:Aside0 (Below w0.heap.size w0 (w37.setCell ⟨gb765,0,none⟩ (.slice Ao38 y773.length co38))):=⟨(zz51 HB HI0 GE765)⟩;(try clear HO_3)
     (try clear HO751)
     (try clear HO759)
     (try clear HO770)
     (try clear HO775)
     (try clear BK765)
     (try clear HI0)
     (try clear HK)
     (try clear HB)
     generalize (w37.setCell ⟨gb765,0,none⟩ (.slice Ao38 y773.length co38))=w40 at n0_ n1_ n2_ n3_ n4_ n5_ n6_ n7_ n8_ ⊢;have HO_3:=n0_;have HO751:=n1_;have HO759:=n2_;have HO770:=n3_;have HO775:=n4_;have BK765:=n5_;have HI0:=n6_;have HK:=n7_;have HB:=n8_;clear n0_ n1_ n2_ n3_ n4_ n5_ n6_ n7_ n8_;have hnb41:=NB765_0.out;have hnc41:=NB0_765.out;obtain⟨_,_,_,_,_,_⟩:=cf3 BK765;go_wp2_with (first|((with_reducible refine atG ?_ ?_ fun K_ hK_=>?_);rfl;exact undecG)|((with_reducible refine atI ?_ fun K_ hK_=>?_);exact undecI));refine unG hK_ ?_;clear hK_ K_;obtain⟨H⟩:=HF31;replace H:=iteE H;rcases H with⟨c43,H⟩|⟨c43,H⟩
     ·have c43b0:=gtT c43
      have c43b1:decide (0<t757.length)=true:=dT (by omega);(first|refine iteT ?_|refine iteF ?_|skip);clear c43;(first|rw[c43b0]|(simp only[i64_w,i32_w];rw[c43b0])|skip);replace H:=iteN H;obtain⟨c44,H⟩:=H;have LMc44:=A_ c44;clear c44;obtain⟨y776,Ny776⟩:=toY (x3_1++[(⟨y773,t757,wrap64 (t761*t763)⟩:S32)]);(first|with_reducible replace H:=bindZ Ny776 H|rw[←Ny776.out]at H|skip);have H':=A_ H;clear H;have hnb45:=NB765_0.out;have hnc45:=NB0_765.out;obtain⟨_,_,_,_,_,_⟩:=cf3 BK765;go_wp2_with (first|((with_reducible refine gate_builtin (b:=.append) (xs:=#[.tmp 45,.tmp 47]) rfl ?_);at_builtin;refine Kd.S_append k32 w.heap.size rfl (.tmp 45) (.tmp 47) 43 32 (.agg #[(.slice none 0 0),(.slice none 0 0),(.int .i64 0)]) 56 rfl Tryz.underlying43 info32 rfl (by decide) (by omega) u3 x3_1 (⟨y773,t757,wrap64 (t761*t763)⟩:S32) [.slice Ao38 y773.length co38,.slice Ao22 t757.length co22,.int .i64 (wrap64 (t761*t763))] (fun k_=>some k_≠(.slice Ao15 y749.length co15:Value).ownBlock∧some k_≠(.slice Ao35 y768.length co35:Value).ownBlock∧k_≠gb765) (fun k_=>some k_=(.slice Ao38 y773.length co38:Value).ownBlock∨some k_=(.slice Ao22 t757.length co22:Value).ownBlock) rfl rfl ?aP (fun k_ hk_=>hk_.elim (fun h_=>((Kd.R_mono (ok':=fun k_=>((fun k_=>some k_≠(.slice Ao15 y749.length co15:Value).ownBlock∧some k_≠(.slice Ao35 y768.length co35:Value).ownBlock∧k_≠gb765)) k_∧some k_≠(u3:Value).ownBlock) (Kd.R_types (Kd.R_apart' (HO775.out) (Kd.S_typed HO_3.out) (by decide)) BK765.out (by decide)) (fun k_ hk=>⟨⟨hk.1.1.1,⟨hk.1.1.2,hk.2⟩⟩,hk.1.2⟩))).1 k_ h_.symm) (fun h_=>((Kd.R_mono (ok':=fun k_=>((fun k_=>some k_≠(.slice Ao15 y749.length co15:Value).ownBlock∧some k_≠(.slice Ao35 y768.length co35:Value).ownBlock∧k_≠gb765)) k_∧some k_≠(u3:Value).ownBlock) (Kd.R_types (Kd.R_apart' (Kd.R_apart' (Kd.R_apart' (HO759.out) (Kd.R_typed HO751.out) (by decide)) (Kd.R_typed HO770.out) (by decide)) (Kd.S_typed HO_3.out) (by decide)) BK765.out (by decide)) (fun k_ hk=>⟨⟨hk.1.1.1.2,⟨hk.1.1.2,hk.2⟩⟩,hk.1.2⟩))).1 k_ h_.symm)) ?aF ?aO (Below.refl _ _) ?aS ?aL ?_;(case aP=>exact k32_mkM _ _ _ (⟨y773,t757,wrap64 (t761*t763)⟩:S32) (Kd.R_mono (Kd.R_tight rfl (Kd.R_mono (ok':=fun k_=>((fun k_=>some k_≠(.slice Ao15 y749.length co15:Value).ownBlock∧some k_≠(.slice Ao35 y768.length co35:Value).ownBlock∧k_≠gb765)) k_∧some k_≠(u3:Value).ownBlock) (Kd.R_types (Kd.R_apart' (HO775.out) (Kd.S_typed HO_3.out) (by decide)) BK765.out (by decide)) (fun k_ hk=>⟨⟨hk.1.1.1,⟨hk.1.1.2,hk.2⟩⟩,hk.1.2⟩))) (fun _ h_=>Or.inl h_)) (Kd.R_mono (Kd.R_tight rfl (Kd.R_mono (ok':=fun k_=>((fun k_=>some k_≠(.slice Ao15 y749.length co15:Value).ownBlock∧some k_≠(.slice Ao35 y768.length co35:Value).ownBlock∧k_≠gb765)) k_∧some k_≠(u3:Value).ownBlock) (Kd.R_types (Kd.R_apart' (Kd.R_apart' (Kd.R_apart' (HO759.out) (Kd.R_typed HO751.out) (by decide)) (Kd.R_typed HO770.out) (by decide)) (Kd.S_typed HO_3.out) (by decide)) BK765.out (by decide)) (fun k_ hk=>⟨⟨hk.1.1.1.2,⟨hk.1.1.2,hk.2⟩⟩,hk.1.2⟩))) (fun _ h_=>Or.inr (h_))));(case aF=>exact(fun k_ hk=>⟨Kd.fresh' (Kd.R_lt (zz7 HO751)) k_ hk,Kd.fresh' (Kd.R_lt (zz7 HO770)) k_ hk,Kd.freshB (zz18 BK765) k_ hk⟩));(case aO=>exact(zz60 HO_3));(case aS=>exact(keep_size (w:=w) (g:=g) (row:=none) (zz54 HK GW765)));(case aL=>exact(zz4 LMc44));intro v777 w47 ho hb hg hat;rw[←Ny776.out]at ho;replace HO751:=A_ (Kd.R_over' (zz7 HO751) (Kd.S_typed (zz48 HO_3)) (by decide) hg);replace BK765:=A_ (blk_grown (zz18 BK765) hg (Kd.S_away HO_3.out (fun _ hk=>hk.2.2.2.2)));replace HO770:=A_ (Kd.R_over' (zz7 HO770) (Kd.S_typed (zz48 HO_3)) (by decide) hg);replace HB:=A_ (below_weaken (zz51 HB HI0 GE765) HL.out hb);replace HI0:=A_ (IsS105.grown (zz50 HI0 NB0_765) hg (IsS105.own_neS HI0.out HO_3.out (by decide)));replace HK:=A_ (KeepBut.trans (zz54 HK GW765) (KeepBut.of_grown hg g) (Kd.S_base2 HO_3.out));have HO778:=A_ (ho);clear HO_3;clear HO759;clear HO775;clear ho hb hg hat))
      go_roundg k1
      case measure=>have:=HK1.out;omega
      case rel=>exact⟨(y776),(wrap64 (x4_1-1)),(t772),zz0,H',⟨(zz4 HK1)⟩,⟨(zz61 HO778)⟩,⟨(zz50 HI0 NB0_765)⟩,⟨(zz54 HK GW765)⟩,⟨(zz51 HB HI0 GE765)⟩⟩
     ·have c43b0:=gtF c43
      have c43b1:decide (0<t757.length)=false:=dF (by omega);(first|refine iteT ?_|refine iteF ?_|skip);clear c43;(first|rw[c43b0]|(simp only[i64_w,i32_w];rw[c43b0])|skip);replace H:=iteEg H;rcases H with⟨c48b0,H⟩|⟨c48b0,H⟩
      ·replace H:=iteN H
       obtain⟨c49,H⟩:=H;have LMc49:=A_ c49;clear c49;obtain⟨y779,Ny779⟩:=toY (x3_1++[(⟨y773,t757,wrap64 (t761*t763)⟩:S32)]);(first|with_reducible replace H:=bindZ Ny779 H|rw[←Ny779.out]at H|skip);have H':=A_ H;clear H;have hnb50:=NB765_0.out;have hnc50:=NB0_765.out;obtain⟨_,_,_,_,_,_⟩:=cf3 BK765;go_wp2_with (first|((with_reducible refine gate_builtin (b:=.append) (xs:=#[.tmp 45,.tmp 47]) rfl ?_);at_builtin;refine Kd.S_append k32 w.heap.size rfl (.tmp 45) (.tmp 47) 43 32 (.agg #[(.slice none 0 0),(.slice none 0 0),(.int .i64 0)]) 56 rfl Tryz.underlying43 info32 rfl (by decide) (by omega) u3 x3_1 (⟨y773,t757,wrap64 (t761*t763)⟩:S32) [.slice Ao38 y773.length co38,.slice Ao22 t757.length co22,.int .i64 (wrap64 (t761*t763))] (fun k_=>some k_≠(.slice Ao15 y749.length co15:Value).ownBlock∧some k_≠(.slice Ao35 y768.length co35:Value).ownBlock∧k_≠gb765) (fun k_=>some k_=(.slice Ao38 y773.length co38:Value).ownBlock∨some k_=(.slice Ao22 t757.length co22:Value).ownBlock) rfl rfl ?aP (fun k_ hk_=>hk_.elim (fun h_=>((Kd.R_mono (ok':=fun k_=>((fun k_=>some k_≠(.slice Ao15 y749.length co15:Value).ownBlock∧some k_≠(.slice Ao35 y768.length co35:Value).ownBlock∧k_≠gb765)) k_∧some k_≠(u3:Value).ownBlock) (Kd.R_types (Kd.R_apart' (HO775.out) (Kd.S_typed HO_3.out) (by decide)) BK765.out (by decide)) (fun k_ hk=>⟨⟨hk.1.1.1,⟨hk.1.1.2,hk.2⟩⟩,hk.1.2⟩))).1 k_ h_.symm) (fun h_=>((Kd.R_mono (ok':=fun k_=>((fun k_=>some k_≠(.slice Ao15 y749.length co15:Value).ownBlock∧some k_≠(.slice Ao35 y768.length co35:Value).ownBlock∧k_≠gb765)) k_∧some k_≠(u3:Value).ownBlock) (Kd.R_types (Kd.R_apart' (Kd.R_apart' (Kd.R_apart' (HO759.out) (Kd.R_typed HO751.out) (by decide)) (Kd.R_typed HO770.out) (by decide)) (Kd.S_typed HO_3.out) (by decide)) BK765.out (by decide)) (fun k_ hk=>⟨⟨hk.1.1.1.2,⟨hk.1.1.2,hk.2⟩⟩,hk.1.2⟩))).1 k_ h_.symm)) ?aF ?aO (Below.refl _ _) ?aS ?aL ?_;(case aP=>exact k32_mkM _ _ _ (⟨y773,t757,wrap64 (t761*t763)⟩:S32) (Kd.R_mono (Kd.R_tight rfl (Kd.R_mono (ok':=fun k_=>((fun k_=>some k_≠(.slice Ao15 y749.length co15:Value).ownBlock∧some k_≠(.slice Ao35 y768.length co35:Value).ownBlock∧k_≠gb765)) k_∧some k_≠(u3:Value).ownBlock) (Kd.R_types (Kd.R_apart' (HO775.out) (Kd.S_typed HO_3.out) (by decide)) BK765.out (by decide)) (fun k_ hk=>⟨⟨hk.1.1.1,⟨hk.1.1.2,hk.2⟩⟩,hk.1.2⟩))) (fun _ h_=>Or.inl h_)) (Kd.R_mono (Kd.R_tight rfl (Kd.R_mono (ok':=fun k_=>((fun k_=>some k_≠(.slice Ao15 y749.length co15:Value).ownBlock∧some k_≠(.slice Ao35 y768.length co35:Value).ownBlock∧k_≠gb765)) k_∧some k_≠(u3:Value).ownBlock) (Kd.R_types (Kd.R_apart' (Kd.R_apart' (Kd.R_apart' (HO759.out) (Kd.R_typed HO751.out) (by decide)) (Kd.R_typed HO770.out) (by decide)) (Kd.S_typed HO_3.out) (by decide)) BK765.out (by decide)) (fun k_ hk=>⟨⟨hk.1.1.1.2,⟨hk.1.1.2,hk.2⟩⟩,hk.1.2⟩))) (fun _ h_=>Or.inr (h_))));(case aF=>exact(fun k_ hk=>⟨Kd.fresh' (Kd.R_lt (zz7 HO751)) k_ hk,Kd.fresh' (Kd.R_lt (zz7 HO770)) k_ hk,Kd.freshB (zz18 BK765) k_ hk⟩));(case aO=>exact(zz60 HO_3));(case aS=>exact(keep_size (w:=w) (g:=g) (row:=none) (zz54 HK GW765)));(case aL=>exact(zz4 LMc49));intro v780 w52 ho hb hg hat;rw[←Ny779.out]at ho;replace HO751:=A_ (Kd.R_over' (zz7 HO751) (Kd.S_typed (zz48 HO_3)) (by decide) hg);replace BK765:=A_ (blk_grown (zz18 BK765) hg (Kd.S_away HO_3.out (fun _ hk=>hk.2.2.2.2)));replace HO770:=A_ (Kd.R_over' (zz7 HO770) (Kd.S_typed (zz48 HO_3)) (by decide) hg);replace HB:=A_ (below_weaken (zz51 HB HI0 GE765) HL.out hb);replace HI0:=A_ (IsS105.grown (zz50 HI0 NB0_765) hg (IsS105.own_neS HI0.out HO_3.out (by decide)));replace HK:=A_ (KeepBut.trans (zz54 HK GW765) (KeepBut.of_grown hg g) (Kd.S_base2 HO_3.out));have HO781:=A_ (ho);clear HO_3;clear HO759;clear HO775;clear ho hb hg hat))
       go_roundg k1
       case measure=>have:=HK1.out;omega
       case rel=>exact⟨(y779),(wrap64 (x4_1-1)),(t772),zz0,H',⟨(zz4 HK1)⟩,⟨(zz61 HO781)⟩,⟨(zz50 HI0 NB0_765)⟩,⟨(zz54 HK GW765)⟩,⟨(zz51 HB HI0 GE765)⟩⟩
      ·have H':=A_ H
       clear H;have hnb53:=NB765_0.out;have hnc53:=NB0_765.out;obtain⟨_,_,_,_,_,_⟩:=cf3 BK765;go_wp2
       go_roundg k1
       case measure=>have:=HK1.out;omega
       case rel=>exact⟨(x3_1),(wrap64 (x4_1-1)),(t772),zz0,H',⟨(zz4 HK1)⟩,⟨(zz61 HO_3)⟩,⟨(zz50 HI0 NB0_765)⟩,⟨(zz54 HK GW765)⟩,⟨(zz51 HB HI0 GE765)⟩⟩
    ·(first|rw[c28b0]|(simp only[i64_w,i32_w];rw[c28b0])|skip)
     replace H:=iteE H;rcases H with⟨c55,H⟩|⟨c55,H⟩
     ·have c55b0:=gtT c55
      have c55b1:decide (0<t757.length)=true:=dT (by omega);clear c55;replace H:=iteN H;obtain⟨c56,H⟩:=H;have LMc56:=A_ c56;clear c56;obtain⟨y782,Ny782⟩:=toY (x3_1++[(⟨y754,t757,wrap64 (t761*t763)⟩:S32)]);(first|with_reducible replace H:=bindZ Ny782 H|rw[←Ny782.out]at H|skip);have H':=A_ H;clear H;have hnb57:=NB765_0.out;have hnc57:=NB0_765.out;obtain⟨_,_,_,_,_,_⟩:=cf3 BK765;go_wp2_with (first|((with_reducible refine gate_builtin (b:=.append) (xs:=#[.tmp 45,.tmp 47]) rfl ?_);at_builtin;refine Kd.S_append k32 w.heap.size rfl (.tmp 45) (.tmp 47) 43 32 (.agg #[(.slice none 0 0),(.slice none 0 0),(.int .i64 0)]) 56 rfl Tryz.underlying43 info32 rfl (by decide) (by omega) u3 x3_1 (⟨y754,t757,wrap64 (t761*t763)⟩:S32) [.slice Ao23 y754.length co23,.slice Ao22 t757.length co22,.int .i64 (wrap64 (t761*t763))] (fun k_=>some k_≠(.slice Ao15 y749.length co15:Value).ownBlock∧k_≠gb765) (fun k_=>some k_=(.slice Ao23 y754.length co23:Value).ownBlock∨some k_=(.slice Ao22 t757.length co22:Value).ownBlock) rfl rfl ?aP (fun k_ hk_=>hk_.elim (fun h_=>((Kd.R_mono (ok':=fun k_=>((fun k_=>some k_≠(.slice Ao15 y749.length co15:Value).ownBlock∧k_≠gb765)) k_∧some k_≠(u3:Value).ownBlock) (Kd.R_types (Kd.R_apart' (HO756.out) (Kd.S_typed HO_3.out) (by decide)) BK765.out (by decide)) (fun k_ hk=>⟨⟨hk.1.1.2,hk.2⟩,hk.1.2⟩))).1 k_ h_.symm) (fun h_=>((Kd.R_mono (ok':=fun k_=>((fun k_=>some k_≠(.slice Ao15 y749.length co15:Value).ownBlock∧k_≠gb765)) k_∧some k_≠(u3:Value).ownBlock) (Kd.R_types (Kd.R_apart' (Kd.R_apart' (HO759.out) (Kd.R_typed HO751.out) (by decide)) (Kd.S_typed HO_3.out) (by decide)) BK765.out (by decide)) (fun k_ hk=>⟨⟨hk.1.1.2,hk.2⟩,hk.1.2⟩))).1 k_ h_.symm)) ?aF ?aO (Below.refl _ _) ?aS ?aL ?_;(case aP=>exact k32_mkM _ _ _ (⟨y754,t757,wrap64 (t761*t763)⟩:S32) (Kd.R_mono (Kd.R_tight rfl (Kd.R_mono (ok':=fun k_=>((fun k_=>some k_≠(.slice Ao15 y749.length co15:Value).ownBlock∧k_≠gb765)) k_∧some k_≠(u3:Value).ownBlock) (Kd.R_types (Kd.R_apart' (HO756.out) (Kd.S_typed HO_3.out) (by decide)) BK765.out (by decide)) (fun k_ hk=>⟨⟨hk.1.1.2,hk.2⟩,hk.1.2⟩))) (fun _ h_=>Or.inl h_)) (Kd.R_mono (Kd.R_tight rfl (Kd.R_mono (ok':=fun k_=>((fun k_=>some k_≠(.slice Ao15 y749.length co15:Value).ownBlock∧k_≠gb765)) k_∧some k_≠(u3:Value).ownBlock) (Kd.R_types (Kd.R_apart' (Kd.R_apart' (HO759.out) (Kd.R_typed HO751.out) (by decide)) (Kd.S_typed HO_3.out) (by decide)) BK765.out (by decide)) (fun k_ hk=>⟨⟨hk.1.1.2,hk.2⟩,hk.1.2⟩))) (fun _ h_=>Or.inr (h_))));(case aF=>exact(fun k_ hk=>⟨Kd.fresh' (Kd.R_lt (zz7 HO751)) k_ hk,Kd.freshB (zz18 BK765) k_ hk⟩));(case aO=>exact(zz62 HO_3));(case aS=>exact(keep_size (w:=w) (g:=g) (row:=none) (zz54 HK GW765)));(case aL=>exact(zz4 LMc56));intro v783 w59 ho hb hg hat;rw[←Ny782.out]at ho;replace HO751:=A_ (Kd.R_over' (zz7 HO751) (Kd.S_typed (zz48 HO_3)) (by decide) hg);replace BK765:=A_ (blk_grown (zz18 BK765) hg (Kd.S_away HO_3.out (fun _ hk=>hk.2)));replace HB:=A_ (below_weaken (zz51 HB HI0 GE765) HL.out hb);replace HI0:=A_ (IsS105.grown (zz50 HI0 NB0_765) hg (IsS105.own_neS HI0.out HO_3.out (by decide)));replace HK:=A_ (KeepBut.trans (zz54 HK GW765) (KeepBut.of_grown hg g) (Kd.S_base2 HO_3.out));have HO784:=A_ (ho);clear HO_3;clear HO756;clear HO759;clear ho hb hg hat))
      go_roundg k1
      case measure=>have:=HK1.out;omega
      case rel=>exact⟨(y782),(wrap64 (x4_1-1)),(t767),zz0,H',⟨(zz4 HK1)⟩,⟨(zz61 HO784)⟩,⟨(zz50 HI0 NB0_765)⟩,⟨(zz54 HK GW765)⟩,⟨(zz51 HB HI0 GE765)⟩⟩
     ·have c55b0:=gtF c55
      have c55b1:decide (0<t757.length)=false:=dF (by omega);clear c55;replace H:=iteEg H;rcases H with⟨c60b0,H⟩|⟨c60b0,H⟩
      ·replace H:=iteN H
       obtain⟨c61,H⟩:=H;have LMc61:=A_ c61;clear c61;obtain⟨y785,Ny785⟩:=toY (x3_1++[(⟨y754,t757,wrap64 (t761*t763)⟩:S32)]);(first|with_reducible replace H:=bindZ Ny785 H|rw[←Ny785.out]at H|skip);have H':=A_ H;clear H;have hnb62:=NB765_0.out;have hnc62:=NB0_765.out;obtain⟨_,_,_,_,_,_⟩:=cf3 BK765;go_wp2_with (first|((with_reducible refine gate_builtin (b:=.append) (xs:=#[.tmp 45,.tmp 47]) rfl ?_);at_builtin;refine Kd.S_append k32 w.heap.size rfl (.tmp 45) (.tmp 47) 43 32 (.agg #[(.slice none 0 0),(.slice none 0 0),(.int .i64 0)]) 56 rfl Tryz.underlying43 info32 rfl (by decide) (by omega) u3 x3_1 (⟨y754,t757,wrap64 (t761*t763)⟩:S32) [.slice Ao23 y754.length co23,.slice Ao22 t757.length co22,.int .i64 (wrap64 (t761*t763))] (fun k_=>some k_≠(.slice Ao15 y749.length co15:Value).ownBlock∧k_≠gb765) (fun k_=>some k_=(.slice Ao23 y754.length co23:Value).ownBlock∨some k_=(.slice Ao22 t757.length co22:Value).ownBlock) rfl rfl ?aP (fun k_ hk_=>hk_.elim (fun h_=>((Kd.R_mono (ok':=fun k_=>((fun k_=>some k_≠(.slice Ao15 y749.length co15:Value).ownBlock∧k_≠gb765)) k_∧some k_≠(u3:Value).ownBlock) (Kd.R_types (Kd.R_apart' (HO756.out) (Kd.S_typed HO_3.out) (by decide)) BK765.out (by decide)) (fun k_ hk=>⟨⟨hk.1.1.2,hk.2⟩,hk.1.2⟩))).1 k_ h_.symm) (fun h_=>((Kd.R_mono (ok':=fun k_=>((fun k_=>some k_≠(.slice Ao15 y749.length co15:Value).ownBlock∧k_≠gb765)) k_∧some k_≠(u3:Value).ownBlock) (Kd.R_types (Kd.R_apart' (Kd.R_apart' (HO759.out) (Kd.R_typed HO751.out) (by decide)) (Kd.S_typed HO_3.out) (by decide)) BK765.out (by decide)) (fun k_ hk=>⟨⟨hk.1.1.2,hk.2⟩,hk.1.2⟩))).1 k_ h_.symm)) ?aF ?aO (Below.refl _ _) ?aS ?aL ?_;(case aP=>exact k32_mkM _ _ _ (⟨y754,t757,wrap64 (t761*t763)⟩:S32) (Kd.R_mono (Kd.R_tight rfl (Kd.R_mono (ok':=fun k_=>((fun k_=>some k_≠(.slice Ao15 y749.length co15:Value).ownBlock∧k_≠gb765)) k_∧some k_≠(u3:Value).ownBlock) (Kd.R_types (Kd.R_apart' (HO756.out) (Kd.S_typed HO_3.out) (by decide)) BK765.out (by decide)) (fun k_ hk=>⟨⟨hk.1.1.2,hk.2⟩,hk.1.2⟩))) (fun _ h_=>Or.inl h_)) (Kd.R_mono (Kd.R_tight rfl (Kd.R_mono (ok':=fun k_=>((fun k_=>some k_≠(.slice Ao15 y749.length co15:Value).ownBlock∧k_≠gb765)) k_∧some k_≠(u3:Value).ownBlock) (Kd.R_types (Kd.R_apart' (Kd.R_apart' (HO759.out) (Kd.R_typed HO751.out) (by decide)) (Kd.S_typed HO_3.out) (by decide)) BK765.out (by decide)) (fun k_ hk=>⟨⟨hk.1.1.2,hk.2⟩,hk.1.2⟩))) (fun _ h_=>Or.inr (h_))));(case aF=>exact(fun k_ hk=>⟨Kd.fresh' (Kd.R_lt (zz7 HO751)) k_ hk,Kd.freshB (zz18 BK765) k_ hk⟩));(case aO=>exact(zz62 HO_3));(case aS=>exact(keep_size (w:=w) (g:=g) (row:=none) (zz54 HK GW765)));(case aL=>exact(zz4 LMc61));intro v786 w64 ho hb hg hat;rw[←Ny785.out]at ho;replace HO751:=A_ (Kd.R_over' (zz7 HO751) (Kd.S_typed (zz48 HO_3)) (by decide) hg);replace BK765:=A_ (blk_grown (zz18 BK765) hg (Kd.S_away HO_3.out (fun _ hk=>hk.2)));replace HB:=A_ (below_weaken (zz51 HB HI0 GE765) HL.out hb);replace HI0:=A_ (IsS105.grown (zz50 HI0 NB0_765) hg (IsS105.own_neS HI0.out HO_3.out (by decide)));replace HK:=A_ (KeepBut.trans (zz54 HK GW765) (KeepBut.of_grown hg g) (Kd.S_base2 HO_3.out));have HO787:=A_ (ho);clear HO_3;clear HO756;clear HO759;clear ho hb hg hat))
       go_roundg k1
       case measure=>have:=HK1.out;omega
       case rel=>exact⟨(y785),(wrap64 (x4_1-1)),(t767),zz0,H',⟨(zz4 HK1)⟩,⟨(zz61 HO787)⟩,⟨(zz50 HI0 NB0_765)⟩,⟨(zz54 HK GW765)⟩,⟨(zz51 HB HI0 GE765)⟩⟩
      ·have H':=A_ H
       clear H;have hnb65:=NB765_0.out;have hnc65:=NB0_765.out;obtain⟨_,_,_,_,_,_⟩:=cf3 BK765;go_wp2
       go_roundg k1
       case measure=>have:=HK1.out;omega
       case rel=>exact⟨(x3_1),(wrap64 (x4_1-1)),(t767),zz0,H',⟨(zz4 HK1)⟩,⟨(zz61 HO_3)⟩,⟨(zz50 HI0 NB0_765)⟩,⟨(zz54 HK GW765)⟩,⟨(zz51 HB HI0 GE765)⟩⟩
   ·replace H:=bindA H
    obtain⟨⟨t788,t789⟩,A67,H⟩:=H;try dsimp only at H;have HF68:=A_ H;clear H;go_upto_if 51 with(first|(refine gR 81 (some 50) Tryz.func81 (spec_l6Rd_pick.calls k1 g s0_0 x1001_1 24 t788 t789 w0 _ ?side1 ?side2 A67.out) ?_;(case side1=>exact(zz37 HI0));(case side2=>exact(zz39 HB HI0));rintro w69 ⟨hi,hb,hk⟩;replace HO_3:=A_ (Kd.S_mono (Kd.S_keep (IsS105.apartS (show IsS105 w0 _ g s0_0 x1001_1 from(zz37 HI0)) (zz48 HO_3) (by decide)) hk (fun _ h=>h.2)) (fun _ h=>h.1));replace HK:=A_ (KeepBut.trans (zz38 HK) hk (.inl rfl));replace HB:=A_ (hb);replace HI0:=A_ (hi);(try clear hb hk hi)))
    obtain⟨H⟩:=HF68;replace H:=iteEq H;rcases H with⟨c70b0,c70b1,H⟩|⟨c70b0,c70b1,c70,H⟩
    ·(first|rw[c70b0]|(simp only[i64_w,i32_w];rw[c70b0])|skip)
     obtain⟨y790,Ny790⟩:=toY (([(⟨#[120]⟩:BA)]:List BA));(first|with_reducible replace H:=bindZ Ny790 H|rw[←Ny790.out]at H|skip);replace H:=iteN H;obtain⟨c71,H⟩:=H;have LMc71:=A_ c71;clear c71;obtain⟨y793,Ny793⟩:=toY (x3_1++[(⟨y790,([]:List (S93)),0⟩:S32)]);(first|with_reducible replace H:=bindZ Ny793 H|rw[←Ny793.out]at H|skip);simp only[oI_,pI_]at H;obtain⟨rfl,rfl⟩:=H;go_wp2_with (first|((with_reducible refine gD (N:=54) rfl ?_);refine Kd.R_lit Kd.string _ 9 ?hg (N:=54) ?hd (xs:=([(⟨#[120]⟩:BA)]:List BA)) (inner:=[.string (⟨#[120]⟩:BA)]) (ok:=fun _=>True) (okp:=fun _=>True) ?hr ?hp (fun _ hk=>hk) trivial (Below.refl _ _) (lL_ _) (by simp) ?_;(case hd=>rfl);(case hg=>rfl);(case hr=>exact zz5);(case hp=>exact(Reps.one (show Kd.M Kd.string _ _ _ (⟨#[120]⟩:BA) [.string (⟨#[120]⟩:BA)]from rfl) (Reps.none _ _)));intro v791 w72 ho73 hb hg_ hnew_;clear hg_ hnew_;(first|rw[←Ny790.out]at ho73|(simp only[Int.reduceToNat]at ho73;rw[←Ny790.out]at ho73));replace HO_3:=A_ (Kd.S_elder' (zz48 HO_3) (Kd.R_base ho73) hb);have HO792:=A_ (Kd.R_lower ho73 (keep_size (w:=w) (g:=g) (row:=none) (zz38 HK)));replace HK:=A_ (KeepBut.trans (zz38 HK) (KeepBut.of_below hb g none) (.inl rfl));replace HB:=A_ (bS (zz39 HB HI0) hb);replace HI0:=A_ (IsS105.below (zz37 HI0) hb);clear hb ho73;obtain⟨Ao74,co74,eo74⟩:=Kd.R_slice HO792.out;subst eo74)|((with_reducible refine gate_builtin (b:=.append) (xs:=#[.tmp 53,.tmp 56]) rfl ?_);at_builtin;refine Kd.S_append k32 w.heap.size rfl (.tmp 53) (.tmp 56) 43 32 (.agg #[(.slice none 0 0),(.slice none 0 0),(.int .i64 0)]) 56 rfl Tryz.underlying43 info32 rfl (by decide) (by omega) u3 x3_1 (⟨y790,([]:List (S93)),0⟩:S32) [.slice Ao74 y790.length co74,.slice none 0 0,.int .i64 0] (fun _=>True) (fun k_=>some k_=(.slice Ao74 y790.length co74:Value).ownBlock) rfl rfl ?aP (fun k_ hk_=>((Kd.R_mono (ok':=fun k_=>((fun _=>True)) k_∧some k_≠(u3:Value).ownBlock) (Kd.R_apart' (HO792.out) (Kd.S_typed HO_3.out) (by decide)) (fun k_ hk=>⟨trivial,hk.2⟩))).1 k_ hk_.symm) ?aF ?aO (Below.refl _ _) ?aS ?aL ?_;(case aP=>exact k32_mkM _ _ _ (⟨y790,([]:List (S93)),0⟩:S32) (Kd.R_mono (Kd.R_tight rfl (Kd.R_mono (ok':=fun k_=>((fun _=>True)) k_∧some k_≠(u3:Value).ownBlock) (Kd.R_apart' (HO792.out) (Kd.S_typed HO_3.out) (by decide)) (fun k_ hk=>⟨trivial,hk.2⟩))) (fun _ h_=>h_)) (Kd.R_nil _ _ _ _ _));(case aF=>exact(fun _ _=>trivial));(case aO=>exact(zz63 HO_3));(case aS=>exact(keep_size (w:=w) (g:=g) (row:=none) (zz38 HK)));(case aL=>exact(zz4 LMc71));intro v794 w75 ho hb hg hat;rw[←Ny793.out]at ho;replace HB:=A_ (below_weaken (zz39 HB HI0) HL.out hb);replace HI0:=A_ (IsS105.grown (zz37 HI0) hg (IsS105.own_neS HI0.out HO_3.out (by decide)));replace HK:=A_ (KeepBut.trans (zz38 HK) (KeepBut.of_grown hg g) (Kd.S_base2 HO_3.out));have HO795:=A_ (ho);clear HO_3;clear HO792;clear ho hb hg hat));go_ret;exact⟨_,zz9,(zz48 HO795),(zz37 HI0),(zz39 HB HI0),(zz38 HK)⟩
    ·(first|rw[c70b0]|(simp only[i64_w,i32_w];rw[c70b0])|skip)
     replace H:=iteEq H;rcases H with⟨c76b0,c76b1,H⟩|⟨c76b0,c76b1,c76,H⟩
     ·replace H:=iteN H
      obtain⟨c77,H⟩:=H;have LMc77:=A_ c77;clear c77;obtain⟨y796,Ny796⟩:=toY (x3_1++[(⟨([]:List BA),([]:List (S93)),2⟩:S32)]);(first|with_reducible replace H:=bindZ Ny796 H|rw[←Ny796.out]at H|skip);simp only[oI_,pI_]at H;obtain⟨rfl,rfl⟩:=H;go_wp2_with (first|((with_reducible refine gate_builtin (b:=.append) (xs:=#[.tmp 60,.tmp 62]) rfl ?_);at_builtin;refine Kd.S_append k32 w.heap.size rfl (.tmp 60) (.tmp 62) 43 32 (.agg #[(.slice none 0 0),(.slice none 0 0),(.int .i64 0)]) 56 rfl Tryz.underlying43 info32 rfl (by decide) (by omega) u3 x3_1 (⟨([]:List BA),([]:List (S93)),2⟩:S32) [.slice none 0 0,.slice none 0 0,.int .i64 2] (fun _=>True) (fun _=>False) rfl rfl ?aP (fun k_ hk_=>hk_.elim) ?aF ?aO (Below.refl _ _) ?aS ?aL ?_;(case aP=>exact k32_mkM _ _ _ (⟨([]:List BA),([]:List (S93)),2⟩:S32) (Kd.R_nil _ _ _ _ _) (Kd.R_nil _ _ _ _ _));(case aF=>exact(fun _ _=>trivial));(case aO=>exact(by(with_reducible repeat(first|apply Kd.S_alloc|apply Kd.S_drewN|apply Kd.S_drew));exact Kd.S_mono HO_3.out (fun k_ hk=>⟨trivial,fun e_=>e_⟩)));(case aS=>exact(keep_size (w:=w) (g:=g) (row:=none) (zz38 HK)));(case aL=>exact(zz4 LMc77));intro v797 w78 ho hb hg hat;rw[←Ny796.out]at ho;replace HB:=A_ (below_weaken (zz39 HB HI0) HL.out hb);replace HI0:=A_ (IsS105.grown (zz37 HI0) hg (IsS105.own_neS HI0.out HO_3.out (by decide)));replace HK:=A_ (KeepBut.trans (zz38 HK) (KeepBut.of_grown hg g) (Kd.S_base2 HO_3.out));have HO798:=A_ (ho);clear HO_3;clear ho hb hg hat));go_ret;exact⟨_,zz9,(zz48 HO798),(zz37 HI0),(zz39 HB HI0),(zz38 HK)⟩
     ·replace H:=iteEq H
      rcases H with⟨c79b0,c79b1,H⟩|⟨c79b0,c79b1,c79,H⟩
      ·obtain⟨y799,Ny799⟩:=toY (([(⟨#[88]⟩:BA)]:List BA))
       (first|with_reducible replace H:=bindZ Ny799 H|rw[←Ny799.out]at H|skip)
       replace H:=iteN H;obtain⟨c80,H⟩:=H;have LMc80:=A_ c80;clear c80;obtain⟨y802,Ny802⟩:=toY (x3_1++[(⟨y799,([]:List (S93)),2⟩:S32)]);(first|with_reducible replace H:=bindZ Ny802 H|rw[←Ny802.out]at H|skip);simp only[oI_,pI_]at H;obtain⟨rfl,rfl⟩:=H;go_wp2_with (first|((with_reducible refine gD (N:=67) rfl ?_);refine Kd.R_lit Kd.string _ 9 ?hg (N:=67) ?hd (xs:=([(⟨#[88]⟩:BA)]:List BA)) (inner:=[.string (⟨#[88]⟩:BA)]) (ok:=fun _=>True) (okp:=fun _=>True) ?hr ?hp (fun _ hk=>hk) trivial (Below.refl _ _) (lL_ _) (by simp) ?_;(case hd=>rfl);(case hg=>rfl);(case hr=>exact zz5);(case hp=>exact(Reps.one (show Kd.M Kd.string _ _ _ (⟨#[88]⟩:BA) [.string (⟨#[88]⟩:BA)]from rfl) (Reps.none _ _)));intro v800 w81 ho82 hb hg_ hnew_;clear hg_ hnew_;(first|rw[←Ny799.out]at ho82|(simp only[Int.reduceToNat]at ho82;rw[←Ny799.out]at ho82));replace HO_3:=A_ (Kd.S_elder' (zz48 HO_3) (Kd.R_base ho82) hb);have HO801:=A_ (Kd.R_lower ho82 (keep_size (w:=w) (g:=g) (row:=none) (zz38 HK)));replace HK:=A_ (KeepBut.trans (zz38 HK) (KeepBut.of_below hb g none) (.inl rfl));replace HB:=A_ (bS (zz39 HB HI0) hb);replace HI0:=A_ (IsS105.below (zz37 HI0) hb);clear hb ho82;obtain⟨Ao83,co83,eo83⟩:=Kd.R_slice HO801.out;subst eo83)|((with_reducible refine gate_builtin (b:=.append) (xs:=#[.tmp 66,.tmp 69]) rfl ?_);at_builtin;refine Kd.S_append k32 w.heap.size rfl (.tmp 66) (.tmp 69) 43 32 (.agg #[(.slice none 0 0),(.slice none 0 0),(.int .i64 0)]) 56 rfl Tryz.underlying43 info32 rfl (by decide) (by omega) u3 x3_1 (⟨y799,([]:List (S93)),2⟩:S32) [.slice Ao83 y799.length co83,.slice none 0 0,.int .i64 2] (fun _=>True) (fun k_=>some k_=(.slice Ao83 y799.length co83:Value).ownBlock) rfl rfl ?aP (fun k_ hk_=>((Kd.R_mono (ok':=fun k_=>((fun _=>True)) k_∧some k_≠(u3:Value).ownBlock) (Kd.R_apart' (HO801.out) (Kd.S_typed HO_3.out) (by decide)) (fun k_ hk=>⟨trivial,hk.2⟩))).1 k_ hk_.symm) ?aF ?aO (Below.refl _ _) ?aS ?aL ?_;(case aP=>exact k32_mkM _ _ _ (⟨y799,([]:List (S93)),2⟩:S32) (Kd.R_mono (Kd.R_tight rfl (Kd.R_mono (ok':=fun k_=>((fun _=>True)) k_∧some k_≠(u3:Value).ownBlock) (Kd.R_apart' (HO801.out) (Kd.S_typed HO_3.out) (by decide)) (fun k_ hk=>⟨trivial,hk.2⟩))) (fun _ h_=>h_)) (Kd.R_nil _ _ _ _ _));(case aF=>exact(fun _ _=>trivial));(case aO=>exact(zz63 HO_3));(case aS=>exact(keep_size (w:=w) (g:=g) (row:=none) (zz38 HK)));(case aL=>exact(zz4 LMc80));intro v803 w84 ho hb hg hat;rw[←Ny802.out]at ho;replace HB:=A_ (below_weaken (zz39 HB HI0) HL.out hb);replace HI0:=A_ (IsS105.grown (zz37 HI0) hg (IsS105.own_neS HI0.out HO_3.out (by decide)));replace HK:=A_ (KeepBut.trans (zz38 HK) (KeepBut.of_grown hg g) (Kd.S_base2 HO_3.out));have HO804:=A_ (ho);clear HO_3;clear HO801;clear ho hb hg hat));go_ret;exact⟨_,zz9,(zz48 HO804),(zz37 HI0),(zz39 HB HI0),(zz38 HK)⟩
      ·simp only[oI_,pI_]at H
       obtain⟨rfl,rfl⟩:=H;go_wp2;go_ret;exact⟨_,zz9,(zz48 HO_3),(zz37 HI0),(zz39 HB HI0),(zz38 HK)⟩
def spec_l71Name.f (k:Nat)(s0_0:List Int)(s0_1:Int):Option (BA×Int):=(spec_l6Rd_of.f k s0_0 s0_1 (([(⟨#[114,111,118,101,114]⟩:BA),(⟨#[114,111,118,101,114]⟩:BA),(⟨#[115,99,111,117,116]⟩:BA),(⟨#[111,116,104,101,114]⟩:BA)]:List BA))).bind fun bt972=>(some (bt972.1,bt972.2))
theorem spec_l71Name.calls (k:Nat)(g:Nat)(s0_0:List Int)(s0_1:Int)(r1:BA)(r2:Int)(w0 w:World)(hI:IsS105 w0 w g s0_0 s0_1)(hB:Below w0.heap.size w0 w)(h:spec_l71Name.f k s0_0 s0_1=some (r1,r2)):
  Calls Tryz.prog 50 #[.pointer (some ⟨g,0,none⟩)] w fun e w'=>e=.returned (.string r1)∧IsS105 w0 w' g s0_0 r2∧Below w0.heap.size w0 w'∧KeepBut w w' g none:=by
 have HI0:=A_ hI;have HK:=A_ (KeepBut.refl w g none);have HL:=A_ hB.size;clear hI;have HW0:=A_ hB.size;have HB:=A_ hB;clear hB;unfold spec_l71Name.f at h;have H:=h;clear h;obtain⟨y969,Ny969⟩:=toY (([(⟨#[114,111,118,101,114]⟩:BA),(⟨#[114,111,118,101,114]⟩:BA),(⟨#[115,99,111,117,116]⟩:BA),(⟨#[111,116,104,101,114]⟩:BA)]:List BA));(first|with_reducible replace H:=bindZ Ny969 H|rw[←Ny969.out]at H|skip);replace H:=bindA H;obtain⟨⟨t972,t973⟩,A2,H⟩:=H;try dsimp only at H;simp only[oI_,pI_]at H;obtain⟨rfl,rfl⟩:=H;go_enter Tryz.func50,Tryz.ntmps50;go_wp2_with (first|((with_reducible refine gD (N:=4) rfl ?_);refine Kd.R_lit Kd.string _ 9 ?hg (N:=4) ?hd (xs:=([(⟨#[114,111,118,101,114]⟩:BA),(⟨#[114,111,118,101,114]⟩:BA),(⟨#[115,99,111,117,116]⟩:BA),(⟨#[111,116,104,101,114]⟩:BA)]:List BA)) (inner:=[.string (⟨#[114,111,118,101,114]⟩:BA),.string (⟨#[114,111,118,101,114]⟩:BA),.string (⟨#[115,99,111,117,116]⟩:BA),.string (⟨#[111,116,104,101,114]⟩:BA)]) (ok:=fun _=>True) (okp:=fun _=>True) ?hr ?hp (fun _ hk=>hk) trivial (Below.refl _ _) (lL_ _) (by simp) ?_;(case hd=>rfl);(case hg=>rfl);(case hr=>exact zz5);(case hp=>exact(Reps.one (show Kd.M Kd.string _ _ _ (⟨#[114,111,118,101,114]⟩:BA) [.string (⟨#[114,111,118,101,114]⟩:BA)]from rfl) (Reps.one (show Kd.M Kd.string _ _ _ (⟨#[114,111,118,101,114]⟩:BA) [.string (⟨#[114,111,118,101,114]⟩:BA)]from rfl) (Reps.one (show Kd.M Kd.string _ _ _ (⟨#[115,99,111,117,116]⟩:BA) [.string (⟨#[115,99,111,117,116]⟩:BA)]from rfl) (Reps.one (show Kd.M Kd.string _ _ _ (⟨#[111,116,104,101,114]⟩:BA) [.string (⟨#[111,116,104,101,114]⟩:BA)]from rfl) (Reps.none _ _))))));intro v970 w3 ho4 hb hg_ hnew_;clear hg_ hnew_;(first|rw[←Ny969.out]at ho4|(simp only[Int.reduceToNat]at ho4;rw[←Ny969.out]at ho4));have HO971:=A_ (Kd.R_lower ho4 (keep_size (w:=w) (g:=g) (row:=none) (zz38 HK)));replace HK:=A_ (KeepBut.trans (zz38 HK) (KeepBut.of_below hb g none) (.inl rfl));replace HB:=A_ (bS (zz39 HB HI0) hb);replace HI0:=A_ (IsS105.below (zz37 HI0) hb);clear hb ho4;obtain⟨Ao5,co5,eo5⟩:=Kd.R_slice HO971.out;subst eo5)|(refine gR 49 (some 5) Tryz.func49 (spec_l6Rd_of.calls k g s0_0 s0_1 _ _ y969 t972 t973 w0 _ ?side1 ?side2 ?side3 ?side4 ?side5 A2.out) ?_;(case side1=>exact(zz37 HI0));(case side2=>exact(zz39 HB HI0));(case side3=>exact(zz46 HO971));(case side4=>exact(Kd.R_reads' HO971.out).2.1);(case side5=>exact far_slice (IsS105.own_ne HI0.out HO971.out (by decide)));rintro w6 ⟨hi,hb,hk⟩;replace HO971:=A_ (Kd.R_mono (Kd.R_keep (IsS105.apart (show IsS105 w0 _ g s0_0 s0_1 from(zz37 HI0)) (zz7 HO971) (by decide)) hk (fun _ h=>h.2)) (fun _ h=>h.1));replace HK:=A_ (KeepBut.trans (zz38 HK) hk (.inl rfl));replace HB:=A_ (hb);replace HI0:=A_ (hi);(try clear hb hk hi)));go_ret;exact⟨zz9,(zz37 HI0),(zz39 HB HI0),(zz38 HK)⟩
def laws_lpTexts.l0:Nat→List BA→List BA→Int→Option (Bool)
 |0,_,_,_=>none
 |k+1,x0,x1,x5=>if x5<(x0.length:Int)then(if 0≤x5 then(if x5<(x1.length:Int)then(if(rdOf bE_ x0 x5).toList=(rdOf bE_ x1 x5).toList then(laws_lpTexts.l0 k x0 x1 (wrap64 (x5+1)))else(some false))else(none))else(none))else(some true)
def laws_lpTexts.f (k:Nat)(l0:List BA)(l1:List BA):Option (Bool):=if(l0.length:Int)=(l1.length:Int)then(laws_lpTexts.l0 k l0 l1 0)else(some false)
theorem laws_lpTexts.calls (k:Nat)(A0:Option Addr)(c0:Nat)(l0:List BA)(A1:Option Addr)(c1:Nat)(l1:List BA)(r:Bool)(w:World)(hr0:Kd.C Kd.string w A0 l0.length l0)(hc0:l0.length≤c0)(hr1:Kd.C Kd.string w A1 l1.length l1)(hc1:l1.length≤c1)(h:laws_lpTexts.f k l0 l1=some r):
  Calls Tryz.prog 51 #[.slice A0 l0.length c0,.slice A1 l1.length c1] w fun e w'=>e=.returned (.bool r)∧Drawn0 w w':=by
 have HR0:=A_ hr0;have HC0:=A_ hc0;clear hr0 hc0;have HR1:=A_ hr1;have HC1:=A_ hc1;clear hr1 hc1;unfold laws_lpTexts.f at h;have H:=h;clear h;replace H:=iteE H;rcases H with⟨c3,H⟩|⟨c3,H⟩
 ·obtain⟨c3b0,c3b1⟩:=eqT c3
  have c3b2:(l0.length==l1.length)=true:=by first|simpa using c3|(simp at c3 ⊢;omega)
  clear c3;have H':=A_ H;clear H;go_enter Tryz.func51,Tryz.ntmps51;go_wp2
  repeat(go_quiet (fail);try go_wp2)
  go_loopg [5] k (fun kq v5 w'=>∃(x5_1:Int),v5=.int .i64 x5_1∧Aside0 (laws_lpTexts.l0 kq l0 l1 x5_1=some r)∧Aside0 (kq≤k)∧Drawn0 w w')
  case atStart=>exact⟨(0),zz0,H',⟨lL_ _⟩,zz1⟩
  case round=>
   clear H';obtain⟨x5_1,rfl,HA,HK1,⟨m1,rfl⟩⟩:=hrel;cases gk with
   |zero=>exact absurd HA.out (by simp[laws_lpTexts.l0])
   |succ k1=>
    obtain⟨H⟩:=HA;simp only[laws_lpTexts.l0]at H;replace H:=iteEd H;rcases H with⟨c4b0,H⟩|⟨c4b0,H⟩
    ·replace H:=iteNd H
     obtain⟨c5b0,H⟩:=H;replace H:=iteNd H;obtain⟨c6b0,H⟩:=H;replace H:=iteEq H;rcases H with⟨c7b0,c7b1,H⟩|⟨c7b0,c7b1,c7,H⟩
     ·have H':=A_ H
      clear H;obtain⟨⟨ad988,e988,hx988_0⟩,p988,q988⟩:=atB (Kd.at_string HR0.out x5_1);cases e988;obtain⟨⟨ad989,e989,hx989_0⟩,p989,q989⟩:=atB (Kd.at_string HR1.out x5_1);cases e989;go_wp2
      repeat(go_quiet (fail);try go_wp2)
      go_roundg k1
      case measure=>have:=HK1.out;omega
      case rel=>exact⟨(wrap64 (x5_1+1)),zz0,H',⟨(zz4 HK1)⟩,zz1⟩
     ·obtain rfl:=sI H
      obtain⟨⟨ad988,e988,hx988_0⟩,p988,q988⟩:=atB (Kd.at_string HR0.out x5_1);cases e988;obtain⟨⟨ad989,e989,hx989_0⟩,p989,q989⟩:=atB (Kd.at_string HR1.out x5_1);cases e989;go_wp2
      repeat(go_quiet (fail);try go_wp2)
      go_ret;exact⟨zz0,zz1⟩
    ·obtain rfl:=sI H
     go_wp2
     repeat(go_quiet (fail);try go_wp2)
     go_ret;exact⟨zz0,zz1⟩
 ·obtain⟨c3b0,c3b1⟩:=eqF c3
  have c3b2:(l0.length==l1.length)=false:=by first|simpa using c3|(simp at c3 ⊢;omega)
  obtain rfl:=sI H;go_enter Tryz.func51,Tryz.ntmps51;go_wp2
  repeat(go_quiet (fail);try go_wp2)
  go_ret;exact⟨zz0,zz1⟩
end Go.Proofs.YtloijngehifbmaaGreatDoor.P
end
section
namespace Go.Proofs.YtloijngehifbmaaGreatDoor.P
open Go.RowKit Go.Proofs.YtloijngehifbmaaGreatDoorW PrintWords PrintLast PrintMore
attribute [local go_sem] max2_int min2_int max_two min_two max_three min_three max_four min_four
theorem eqA93 (d:Nat)(w:World)(x0 y0:Bool)(x1 y1:BA):
  (Op.equalIn (d+2) 93 (.agg #[.bool x0,.string x1]) (.agg #[.bool y0,.string y1])).run Tryz.prog w=.ok (x0==y0&&(x1.toList==y1.toList)) w:=by
 refine eqA_of Tryz.underlying93 (by kernel_rfl) ?_;refine eqf_cons (by rfl) (by go_simp;rfl) (by go_simp;rfl) (by go_simp) ?_;exact eqf_last (by rfl) (by go_simp;rfl) (by go_simp;rfl) (by go_simp)
end Go.Proofs.YtloijngehifbmaaGreatDoor.P
end
section
namespace Go.Proofs.YtloijngehifbmaaGreatDoor.P
open Go.RowKit Go.Proofs.YtloijngehifbmaaGreatDoorW PrintWords PrintLast PrintMore
attribute [local go_sem] max2_int min2_int max_two min_two max_three min_three max_four min_four
set_option maxHeartbeats 8000000
set_option maxRecDepth 100000
def impl_allSmallLetters.l0:Nat→BA→Int→Option (Bool)
 |0,_,_=>none
 |k+1,x0,x3=>if x3<(x0.size:Int)then(if 0≤x3 then(if(bt x0 x3)<97 then(some false)else(if(bt x0 x3)>122 then(some false)else(impl_allSmallLetters.l0 k x0 (wrap64 (x3+1)))))else(none))else(some true)
def impl_allSmallLetters.f (k:Nat)(a0:BA):Option (Bool):=impl_allSmallLetters.l0 k a0 0
theorem impl_allSmallLetters.mono_l:∀k,(∀y0 y1,LeO (impl_allSmallLetters.l0 k y0 y1) (impl_allSmallLetters.l0 (k+1) y0 y1))
 |0=>by intros;intro r h;simp[impl_allSmallLetters.l0]at h
 |k+1=>by
  have ih0:=impl_allSmallLetters.mono_l k;intros;unfold impl_allSmallLetters.l0;repeat' first|(with_reducible first|exact ih0 _ _|exact LeO.refl _|exact LeO.none _|refine LeO.ite ?_ ?_|refine LeO.bind ?_ (fun _=>?_))|exact LeO.none _|refine LeO.ite ?_ ?_|refine LeO.bind ?_ (fun _=>?_)
theorem impl_allSmallLetters.mono:∀a0 k,LeO (impl_allSmallLetters.f k a0) (impl_allSmallLetters.f (k+1) a0):=by
 intro a0 k;have ih0:=impl_allSmallLetters.mono_l k;unfold impl_allSmallLetters.f
 repeat' first|(with_reducible first|exact ih0 _ _|exact LeO.refl _|exact LeO.none _|refine LeO.ite ?_ ?_|refine LeO.bind ?_ (fun _=>?_))|exact LeO.none _|refine LeO.ite ?_ ?_|refine LeO.bind ?_ (fun _=>?_)
theorem impl_allSmallLetters.calls (k:Nat)(a0:BA)(r:Bool)(w:World)(h:impl_allSmallLetters.f k a0=some r):
  Calls Tryz.prog 69 #[.string a0] w fun e w'=>e=.returned (.bool r)∧Drawn0 w w':=by
 unfold impl_allSmallLetters.f at h;have H:=h;clear h;have H':=A_ H;clear H;go_enter Tryz.func69,Tryz.ntmps69;go_wp2
 go_loopg [3] k (fun kq v3 w'=>∃(x3_1:Int),v3=.int .i64 x3_1∧Aside0 (impl_allSmallLetters.l0 kq a0 x3_1=some r)∧Aside0 (kq≤k)∧Drawn0 w w')
 case atStart=>exact⟨(0),zz0,H',⟨lL_ _⟩,zz1⟩
 case round=>
  clear H';obtain⟨x3_1,rfl,HA,HK1,⟨m1,rfl⟩⟩:=hrel;cases gk with
  |zero=>exact absurd HA.out (by simp[impl_allSmallLetters.l0])
  |succ k1=>
   obtain⟨H⟩:=HA;simp only[impl_allSmallLetters.l0]at H;replace H:=iteEd H;rcases H with⟨c2b0,H⟩|⟨c2b0,H⟩
   ·replace H:=iteNd H
    obtain⟨c3b0,H⟩:=H;replace H:=iteEd H;rcases H with⟨c5b0,H⟩|⟨c5b0,H⟩
    ·obtain rfl:=sI H
     have p4:0≤(x3_1:Int):=ofD;have q4:x3_1<(a0.size:Int):=ofD;have hx4:=bt_at a0 x3_1;replace p4:=eq_true p4;replace q4:=eq_true q4;go_wp2;go_ret;exact⟨zz0,zz1⟩
    ·replace H:=iteEg H
     rcases H with⟨c7b0,H⟩|⟨c7b0,H⟩
     ·obtain rfl:=sI H
      have p4:0≤(x3_1:Int):=ofD;have q4:x3_1<(a0.size:Int):=ofD;have hx4:=bt_at a0 x3_1;replace p4:=eq_true p4;replace q4:=eq_true q4;have p6:0≤(x3_1:Int):=ofD;have q6:x3_1<(a0.size:Int):=ofD;have hx6:=bt_at a0 x3_1;replace p6:=eq_true p6;replace q6:=eq_true q6;go_wp2;go_ret;exact⟨zz0,zz1⟩
     ·have H':=A_ H
      clear H;have p4:0≤(x3_1:Int):=ofD;have q4:x3_1<(a0.size:Int):=ofD;have hx4:=bt_at a0 x3_1;replace p4:=eq_true p4;replace q4:=eq_true q4;have p6:0≤(x3_1:Int):=ofD;have q6:x3_1<(a0.size:Int):=ofD;have hx6:=bt_at a0 x3_1;replace p6:=eq_true p6;replace q6:=eq_true q6;go_wp2
      go_roundg k1
      case measure=>have:=HK1.out;omega
      case rel=>exact⟨(wrap64 (x3_1+1)),zz0,H',⟨(zz4 HK1)⟩,zz1⟩
   ·obtain rfl:=sI H
    go_wp2;go_ret;exact⟨zz0,zz1⟩
def impl_readWait.l0:Nat→BA→Int→Int→Option (Int)
 |0,_,_,_=>none
 |k+1,x0,x3,x4=>if x4<(x0.size:Int)then(if 0≤x4 then(if(bt x0 x4)<48 then(some 0)else(if(bt x0 x4)>57 then(some 0)else(impl_readWait.l0 k x0 (mn (wrap64 ((wrap64 (x3*10))+(((bt x0 x4)-48)%256))) 20) (wrap64 (x4+1)))))else(none))else(some x3)
def impl_readWait.f (k:Nat)(a0:BA):Option (Int):=impl_readWait.l0 k a0 0 0
theorem impl_readWait.mono_l:∀k,(∀y0 y1 y2,LeO (impl_readWait.l0 k y0 y1 y2) (impl_readWait.l0 (k+1) y0 y1 y2))
 |0=>by intros;intro r h;simp[impl_readWait.l0]at h
 |k+1=>by
  have ih0:=impl_readWait.mono_l k;intros;unfold impl_readWait.l0;repeat' first|(with_reducible first|exact ih0 _ _ _|exact LeO.refl _|exact LeO.none _|refine LeO.ite ?_ ?_|refine LeO.bind ?_ (fun _=>?_))|exact LeO.none _|refine LeO.ite ?_ ?_|refine LeO.bind ?_ (fun _=>?_)
theorem impl_readWait.mono:∀a0 k,LeO (impl_readWait.f k a0) (impl_readWait.f (k+1) a0):=by
 intro a0 k;have ih0:=impl_readWait.mono_l k;unfold impl_readWait.f
 repeat' first|(with_reducible first|exact ih0 _ _ _|exact LeO.refl _|exact LeO.none _|refine LeO.ite ?_ ?_|refine LeO.bind ?_ (fun _=>?_))|exact LeO.none _|refine LeO.ite ?_ ?_|refine LeO.bind ?_ (fun _=>?_)
theorem impl_readWait.calls (k:Nat)(a0:BA)(r:Int)(w:World)(h:impl_readWait.f k a0=some r):
  Calls Tryz.prog 88 #[.string a0] w fun e w'=>e=.returned (.int .i64 r)∧Below w.heap.size w w':=by
 have HB:=A_ (Below.refl w.heap.size w);unfold impl_readWait.f at h;have H:=h;clear h;have H':=A_ H;clear H;go_enter Tryz.func88,Tryz.ntmps88;go_wp2
 go_loopg [3,4] k (fun kq v3 v4 w'=>∃(x3_1:Int)(x4_1:Int),v3=.int .i64 x3_1∧v4=.int .i64 x4_1∧Aside0 (impl_readWait.l0 kq a0 x3_1 x4_1=some r)∧Aside0 (kq≤k)∧Aside0 (Below w.heap.size w w'))
 case atStart=>exact⟨(0),(0),zz0,zz0,H',⟨lL_ _⟩,⟨(zz6 HB)⟩⟩
 case round=>
  clear H';obtain⟨x3_1,x4_1,rfl,rfl,HA,HK1,HB⟩:=hrel;cases gk with
  |zero=>exact absurd HA.out (by simp[impl_readWait.l0])
  |succ k1=>
   obtain⟨H⟩:=HA;simp only[impl_readWait.l0]at H;replace H:=iteEd H;rcases H with⟨c2b0,H⟩|⟨c2b0,H⟩
   ·replace H:=iteNd H
    obtain⟨c3b0,H⟩:=H;replace H:=iteEd H;rcases H with⟨c5b0,H⟩|⟨c5b0,H⟩
    ·obtain rfl:=sI H
     have p4:0≤(x4_1:Int):=ofD;have q4:x4_1<(a0.size:Int):=ofD;have hx4:=bt_at a0 x4_1;replace p4:=eq_true p4;replace q4:=eq_true q4;go_wp2;go_ret;exact⟨zz9,(zz6 HB)⟩
    ·replace H:=iteEg H
     rcases H with⟨c7b0,H⟩|⟨c7b0,H⟩
     ·obtain rfl:=sI H
      have p4:0≤(x4_1:Int):=ofD;have q4:x4_1<(a0.size:Int):=ofD;have hx4:=bt_at a0 x4_1;replace p4:=eq_true p4;replace q4:=eq_true q4;have p6:0≤(x4_1:Int):=ofD;have q6:x4_1<(a0.size:Int):=ofD;have hx6:=bt_at a0 x4_1;replace p6:=eq_true p6;replace q6:=eq_true q6;go_wp2;go_ret;exact⟨zz9,(zz6 HB)⟩
     ·obtain⟨ji9,hji9⟩:∃j_:Int,(mn (wrap64 ((wrap64 (x3_1*10))+(((bt a0 x4_1)-48)%256))) 20)=j_:=⟨_,rfl⟩
      (first|rw[hji9]at H|simp only[hji9]at H)
      have hji9_:(if 20<(wrap64 ((wrap64 (x3_1*10))+(((bt a0 x4_1)-48)%256)))then 20 else(wrap64 ((wrap64 (x3_1*10))+(((bt a0 x4_1)-48)%256))))=ji9:=hji9;have H':=A_ H;clear H;have p4:0≤(x4_1:Int):=ofD;have q4:x4_1<(a0.size:Int):=ofD;have hx4:=bt_at a0 x4_1;replace p4:=eq_true p4;replace q4:=eq_true q4;have p6:0≤(x4_1:Int):=ofD;have q6:x4_1<(a0.size:Int):=ofD;have hx6:=bt_at a0 x4_1;replace p6:=eq_true p6;replace q6:=eq_true q6;have p8:0≤(x4_1:Int):=ofD;have q8:x4_1<(a0.size:Int):=ofD;have hx8:=bt_at a0 x4_1;replace p8:=eq_true p8;replace q8:=eq_true q8;go_wp2
      go_roundg k1
      case measure=>have:=HK1.out;omega
      case rel=>exact⟨(ji9),(wrap64 (x4_1+1)),zz3,zz0,H',⟨(zz4 HK1)⟩,⟨(zz6 HB)⟩⟩
   ·obtain rfl:=sI H
    go_wp2;go_ret;exact⟨zz9,(zz6 HB)⟩
mutual
def impl_PathClean.l0:Nat→List BA→List BA→Int→Int→Option (List BA)
 |0,_,_,_,_=>none
 |k+1,x3,x6,x7,x8=>if x8<x7 then(if 0≤x8 then(if x8<(x6.length:Int)then(if(rdOf bE_ x6 x8).toList=([]:List UInt8)then(impl_PathClean.j1 k x3 (rdOf bE_ x6 x8) x6 x7 x8 (rdOf bE_ x6 x8) ((rdOf bE_ x6 x8).toList==([]:List UInt8)))else(impl_PathClean.j1 k x3 (rdOf bE_ x6 x8) x6 x7 x8 (rdOf bE_ x6 x8) ((rdOf bE_ x6 x8).toList==([46]:List UInt8))))else(none))else(none))else(some x3)
def impl_PathClean.j1:Nat→List BA→BA→List BA→Int→Int→BA→Bool→Option (List BA)
 |0,_,_,_,_,_,_,_=>none
 |k+1,x3,x5,x6,x7,x8,x12,x13=>if x13=true then(impl_PathClean.l0 k x3 x6 x7 (wrap64 (x8+1)))else(if x12.toList=([46,46]:List UInt8)then(if(x3.length:Int)>0 then(if 0≤(wrap64 ((x3.length:Int)-1))then(if(wrap64 ((x3.length:Int)-1))≤(x3.length:Int)then(impl_PathClean.l0 k (x3.take ((wrap64 ((x3.length:Int)-1)):Int).toNat) x6 x7 (wrap64 (x8+1)))else(none))else(none))else(impl_PathClean.l0 k x3 x6 x7 (wrap64 (x8+1))))else(if x3.length<8796093022208 then(impl_PathClean.l0 k (x3++[x5]) x6 x7 (wrap64 (x8+1)))else(none)))
end
def impl_PathClean.f (k:Nat)(l0:List BA):Option (List BA):=impl_PathClean.l0 k ([]:List BA) l0 (l0.length:Int) 0
theorem impl_PathClean.mono_l:∀k,(∀y0 y1 y2 y3,LeO (impl_PathClean.l0 k y0 y1 y2 y3) (impl_PathClean.l0 (k+1) y0 y1 y2 y3))∧(∀y0 y1 y2 y3 y4 y5 y6,LeO (impl_PathClean.j1 k y0 y1 y2 y3 y4 y5 y6) (impl_PathClean.j1 (k+1) y0 y1 y2 y3 y4 y5 y6))
 |0=>by refine⟨?_,?_⟩ <;> (intros;intro r h;simp[impl_PathClean.l0,impl_PathClean.j1]at h)
 |k+1=>by
  obtain⟨ih0,ih1⟩:=impl_PathClean.mono_l k;refine⟨?_,?_⟩ <;> intros <;> (first|unfold impl_PathClean.l0|unfold impl_PathClean.j1) <;>
  repeat' first|(with_reducible first|exact ih0 _ _ _ _|exact ih1 _ _ _ _ _ _ _|exact LeO.refl _|exact LeO.none _|refine LeO.ite ?_ ?_|refine LeO.bind ?_ (fun _=>?_))|exact LeO.none _|refine LeO.ite ?_ ?_|refine LeO.bind ?_ (fun _=>?_)
theorem impl_PathClean.mono:∀a0 k,LeO (impl_PathClean.f k a0) (impl_PathClean.f (k+1) a0):=by
 intro a0 k;obtain⟨ih0,ih1⟩:=impl_PathClean.mono_l k;unfold impl_PathClean.f
 repeat' first|(with_reducible first|exact ih0 _ _ _ _|exact ih1 _ _ _ _ _ _ _|exact LeO.refl _|exact LeO.none _|refine LeO.ite ?_ ?_|refine LeO.bind ?_ (fun _=>?_))|exact LeO.none _|refine LeO.ite ?_ ?_|refine LeO.bind ?_ (fun _=>?_)
theorem impl_PathClean.calls (k:Nat)(A0:Option Addr)(c0:Nat)(l0:List BA)(r:List BA)(w:World)(hr0:Kd.C Kd.string w A0 l0.length l0)(hc0:l0.length≤c0)(h:impl_PathClean.f k l0=some r):
  Calls Tryz.prog 134 #[.slice A0 l0.length c0] w fun e w'=>∃v0_:Value,e=.returned (v0_)∧Kd.R Kd.string 9 w' w.heap.size (fun _=>True) v0_ r∧Below w.heap.size w w':=by
 have HR0:=A_ hr0;have HC0:=A_ hc0;clear hr0 hc0;have HB:=A_ (Below.refl w.heap.size w);unfold impl_PathClean.f at h;have H:=h;clear h;have H':=A_ H;clear H;go_enter Tryz.func134,Tryz.ntmps134;go_wp2
 go_step3
 go_wp2
 go_step3
 go_wp2
 go_loopg [3,8] k (fun kq v3 v8 w'=>∃(x3_1:List BA)(x8_1:Int),v8=.int .i64 x8_1∧Aside0 (impl_PathClean.l0 kq x3_1 l0 (l0.length:Int) x8_1=some r)∧Aside0 (kq≤k)∧Aside0 (Kd.R Kd.string 9 w' w.heap.size (fun _=>True) v3 x3_1)∧Aside0 (Below w.heap.size w w'))
 case atStart=>exact⟨(([]:List BA)),(0),zz0,H',⟨lL_ _⟩,⟨zz68⟩,⟨(zz6 HB)⟩⟩
 case round=>
  clear H';obtain⟨x3_1,x8_1,rfl,HA,HK1,HO_3,HB⟩:=hrel;cases gk with
  |zero=>exact absurd HA.out (by simp[impl_PathClean.l0])
  |succ k1=>
   obtain⟨H⟩:=HA;simp only[impl_PathClean.l0]at H;replace H:=iteEd H;rcases H with⟨c2b0,H⟩|⟨c2b0,H⟩
   ·replace H:=iteNd H
    obtain⟨c3b0,H⟩:=H;replace H:=iteNd H;obtain⟨c4b0,H⟩:=H;have HC5:=A_ H;clear H;obtain⟨⟨ad493,e493,hx493_0⟩,p493,q493⟩:=atB (Kd.at_string HR0.out x8_1);cases e493;replace hx493_0:=cbl HB hx493_0;go_upto_if 13 with(fail)
    go_cut [13] (fun v13 wc=>∃(kq:Nat)(x13_4:Bool),v13=.bool x13_4∧Aside0 (impl_PathClean.j1 kq x3_1 (rdOf bE_ l0 x8_1) l0 (l0.length:Int) x8_1 (rdOf bE_ l0 x8_1) x13_4=some r)∧Aside0 (kq≤k1)∧Aside0 (Kd.R Kd.string 9 wc w.heap.size (fun _=>True) u3 x3_1)∧Aside0 (Below w.heap.size w wc))
    case first=>
     obtain⟨H⟩:=HC5;replace H:=iteE H;rcases H with⟨c6,H⟩|⟨c6,H⟩
     ·have c6b0:((rdOf bE_ l0 x8_1).toList==([]:List UInt8))=true:=beq_iff_eq.mpr c6
      have c6i0:(rdOf bE_ l0 x8_1).toList.isEmpty=true:=(aid_isEmpty2 _).symm.trans c6b0;have c6b1:((rdOf bE_ l0 x8_1).toList != ([]:List UInt8))=false:=bne_eq_false_iff_eq.mpr c6;clear c6;(first|rw[c6b0]|(simp only[i64_w,i32_w];rw[c6b0])|skip);have H':=A_ H;clear H;go_wp2
      all_goals (first|(exfalso;have h_:(rdOf bE_ l0 x8_1).toList.isEmpty=false:=(by assumption);rw[c6i0]at h_;cases h_;done)|skip)
      go_meet
      case rel=>exact⟨_,(((rdOf bE_ l0 x8_1).toList==([]:List UInt8))),zz0,H',⟨(zz12 HK1)⟩,⟨(zz7 HO_3)⟩,⟨(zz6 HB)⟩⟩
     ·have c6b0:((rdOf bE_ l0 x8_1).toList==([]:List UInt8))=false:=bN_.mpr c6
      have c6i0:(rdOf bE_ l0 x8_1).toList.isEmpty=false:=(aid_isEmpty2 _).symm.trans c6b0;have c6b1:((rdOf bE_ l0 x8_1).toList != ([]:List UInt8))=true:=bne_iff_ne.mpr c6;(first|rw[c6b0]|(simp only[i64_w,i32_w];rw[c6b0])|skip);have H':=A_ H;clear H;go_wp2
      all_goals (first|(exfalso;have h_:(rdOf bE_ l0 x8_1).toList.isEmpty=true:=(by assumption);rw[c6i0]at h_;cases h_;done)|skip)
      go_meet
      case rel=>exact⟨_,(((rdOf bE_ l0 x8_1).toList==([46]:List UInt8))),zz0,H',⟨(zz12 HK1)⟩,⟨(zz7 HO_3)⟩,⟨(zz6 HB)⟩⟩
    case rest=>
     clear HC5;obtain⟨kq,x13_4,rfl,HA,HJ4,HO_3,HB⟩:=hcut;cases kq with
     |zero=>exact absurd HA.out (by simp[impl_PathClean.j1])
     |succ kj4=>
      obtain⟨H⟩:=HA;simp only[impl_PathClean.j1]at H;replace H:=iteB H;rcases H with⟨rfl,H⟩|⟨rfl,H⟩
      ·have H':=A_ H
       clear H;go_wp2
       go_roundg kj4
       case measure=>have:=HK1.out;have:=HJ4.out;omega
       case rel=>exact⟨(x3_1),(wrap64 (x8_1+1)),zz0,H',⟨(zz16 HK1 HJ4)⟩,⟨(zz7 HO_3)⟩,⟨(zz6 HB)⟩⟩
      ·replace H:=iteE H
       rcases H with⟨c8,H⟩|⟨c8,H⟩
       ·obtain⟨c8b0,c8b1⟩:=eqT c8
        clear c8;replace H:=iteE H;rcases H with⟨c9,H⟩|⟨c9,H⟩
        ·have c9b0:=gtT c9
         have c9b1:decide (0<x3_1.length)=true:=dT (by omega);clear c9;obtain⟨ji10,hji10⟩:∃j_:Int,(wrap64 ((x3_1.length:Int)-1))=j_:=⟨_,rfl⟩;(first|rw[hji10]at H|simp only[hji10]at H);have hji10w:(IntKind.i64.wrap ((x3_1.length:Int)-1))=ji10:=(i64_w _).trans hji10;replace H:=iteN H;obtain⟨c11,H⟩:=H;have c11b0:=eq_true c11;have c11b1:=dT c11;clear c11;replace H:=iteN H;obtain⟨c12,H⟩:=H;have c12b0:=eq_true c12;have c12b1:=dT c12;clear c12;obtain⟨y494,Ny494⟩:=toY (x3_1.take ((ji10):Int).toNat);(first|with_reducible replace H:=bindZ Ny494 H|rw[←Ny494.out]at H|skip);have H':=A_ H;clear H;obtain⟨Ao13,co13,eo13⟩:=Kd.R_slice HO_3.out;subst eo13;have q14:((ji10):Int)≤((x3_1.length:Int):Int):=ofD;obtain⟨i014,hi014,_,hsz14,_⟩:=info_parts info9;have hcut14:=cut_to (P:=Tryz.prog) 29 9 .i64 Tryz.underlying29 hi014 Ao13 x3_1.length co13 (ji10) ofD q14 (Kd.R_reads' HO_3.out).2.1;have hr14:=Kd.R_take (m:=((ji10):Int).toNat) HO_3.out (by omega);have hy14:y494.length=((ji10):Int).toNat:=(by rw[Ny494.out,lT_];omega);rw[←Ny494.out]at hr14;rw[←hy14]at hr14 hcut14;clear hy14 hi014 hsz14 HO_3;have HO496:=A_ hr14;clear hr14;replace q14:=eq_true q14;go_wp2
         go_roundg kj4
         case measure=>have:=HK1.out;have:=HJ4.out;omega
         case rel=>exact⟨(y494),(wrap64 (x8_1+1)),zz0,H',⟨(zz16 HK1 HJ4)⟩,⟨(zz7 HO496)⟩,⟨(zz6 HB)⟩⟩
        ·have c9b0:=gtF c9
         have c9b1:decide (0<x3_1.length)=false:=dF (by omega);clear c9;have H':=A_ H;clear H;obtain⟨Ao15,co15,eo15⟩:=Kd.R_slice HO_3.out;subst eo15;go_wp2
         go_roundg kj4
         case measure=>have:=HK1.out;have:=HJ4.out;omega
         case rel=>exact⟨(x3_1),(wrap64 (x8_1+1)),zz0,H',⟨(zz16 HK1 HJ4)⟩,⟨(zz7 HO_3)⟩,⟨(zz6 HB)⟩⟩
       ·obtain⟨c8b0,c8b1⟩:=eqF c8
        replace H:=iteN H;obtain⟨c16,H⟩:=H;have LMc16:=A_ c16;clear c16;obtain⟨y497,Ny497⟩:=toY (x3_1++[(rdOf bE_ l0 x8_1)]);(first|with_reducible replace H:=bindZ Ny497 H|rw[←Ny497.out]at H|skip);have H':=A_ H;clear H;go_wp2_with (first|((with_reducible refine gate_builtin (b:=.append) (xs:=#[.tmp 26,.tmp 28]) rfl ?_);at_builtin;refine Kd.R_append Kd.string (w0:=w) w.heap.size rfl (.tmp 26) (.tmp 28) 29 9 (.string ⟨#[]⟩) 16 rfl Tryz.underlying29 info9 rfl (by decide) (by omega) u3 x3_1 (rdOf bE_ l0 x8_1) [.string (rdOf bE_ l0 x8_1)] (fun _=>True) (fun _=>False) rfl rfl ?aP (fun _ hk=>hk.elim) ?aF ?aO ?aB ?aS ?aL ?_;(case aP=>exact rfl);(case aB=>exact(zz6 HB));(case aF=>exact(fun _ _=>trivial));(case aO=>exact(zz7 HO_3));(case aS=>exact(below_size (zz6 HB)));(case aL=>exact(zz4 LMc16));intro v498 w17 ho hb hg hat;rw[←Ny497.out]at ho;replace HB:=A_ (hb);have HO499:=A_ (ho);clear HO_3;clear ho hb hg hat))
        go_roundg kj4
        case measure=>have:=HK1.out;have:=HJ4.out;omega
        case rel=>exact⟨(y497),(wrap64 (x8_1+1)),zz0,H',⟨(zz16 HK1 HJ4)⟩,⟨(zz7 HO499)⟩,⟨(zz6 HB)⟩⟩
   ·obtain rfl:=sI H
    go_wp2;go_ret;exact⟨_,zz9,(zz7 HO_3),(zz6 HB)⟩

def spec_l6In.f (a0:Int)(a1:Int)(a2:Int):Option (Bool):=if a0≥a1 then(some (decide (a0≤a2)))else(some false)
theorem spec_l6In.calls (a0:Int)(a1:Int)(a2:Int)(r:Bool)(w:World)(h:spec_l6In.f a0 a1 a2=some r):
  Calls Tryz.prog 65 #[.int .i64 a0,.int .i64 a1,.int .i64 a2] w fun e w'=>e=.returned (.bool r)∧Drawn0 w w':=by
 unfold spec_l6In.f at h;have H:=h;clear h;replace H:=iteEe H;rcases H with⟨c4b0,H⟩|⟨c4b0,H⟩
 ·obtain rfl:=sI H
  go_enter Tryz.func65,Tryz.ntmps65;go_wp2
  go_ret;exact⟨zz0,zz1⟩
 ·obtain rfl:=sI H
  go_enter Tryz.func65,Tryz.ntmps65;go_wp2
  go_ret;exact⟨zz0,zz1⟩
def spec_l1Plain.f (a0:Int):Option (Bool):=if a0≥97 then(if a0≤122 then(some true)else(if a0≥48 then(if a0≤57 then(some true)else(if a0=46 then(some true)else(some (a0==45))))else(if a0=46 then(some true)else(some (a0==45)))))else(if a0≥48 then(if a0≤57 then(some true)else(if a0=46 then(some true)else(some (a0==45))))else(if a0=46 then(some true)else(some (a0==45))))
theorem spec_l1Plain.calls (a0:Int)(r:Bool)(w:World)(h:spec_l1Plain.f a0=some r):
  Calls Tryz.prog 149 #[.int .u8 a0] w fun e w'=>e=.returned (.bool r)∧Drawn0 w w':=by
 unfold spec_l1Plain.f at h;have H:=h;clear h;replace H:=iteEe H;rcases H with⟨c2b0,H⟩|⟨c2b0,H⟩
 ·replace H:=iteEd H
  rcases H with⟨c3b0,H⟩|⟨c3b0,H⟩
  ·obtain rfl:=sI H
   go_enter Tryz.func149,Tryz.ntmps149;go_wp2
   go_ret;exact⟨zz0,zz1⟩
  ·replace H:=iteEe H
   rcases H with⟨c4b0,H⟩|⟨c4b0,H⟩
   ·replace H:=iteEd H
    rcases H with⟨c5b0,H⟩|⟨c5b0,H⟩
    ·obtain rfl:=sI H
     go_enter Tryz.func149,Tryz.ntmps149;go_wp2
     go_ret;exact⟨zz0,zz1⟩
    ·replace H:=iteEq H
     rcases H with⟨c6b0,c6b1,H⟩|⟨c6b0,c6b1,c6,H⟩
     ·obtain rfl:=sI H
      go_enter Tryz.func149,Tryz.ntmps149;go_wp2
      go_ret;exact⟨zz0,zz1⟩
     ·obtain rfl:=sI H
      go_enter Tryz.func149,Tryz.ntmps149;go_wp2
      go_ret;exact⟨zz0,zz1⟩
   ·replace H:=iteEq H
    rcases H with⟨c7b0,c7b1,H⟩|⟨c7b0,c7b1,c7,H⟩
    ·obtain rfl:=sI H
     go_enter Tryz.func149,Tryz.ntmps149;go_wp2
     go_ret;exact⟨zz0,zz1⟩
    ·obtain rfl:=sI H
     go_enter Tryz.func149,Tryz.ntmps149;go_wp2
     go_ret;exact⟨zz0,zz1⟩
 ·replace H:=iteEe H
  rcases H with⟨c8b0,H⟩|⟨c8b0,H⟩
  ·replace H:=iteEd H
   rcases H with⟨c9b0,H⟩|⟨c9b0,H⟩
   ·obtain rfl:=sI H
    go_enter Tryz.func149,Tryz.ntmps149;go_wp2
    go_ret;exact⟨zz0,zz1⟩
   ·replace H:=iteEq H
    rcases H with⟨c10b0,c10b1,H⟩|⟨c10b0,c10b1,c10,H⟩
    ·obtain rfl:=sI H
     go_enter Tryz.func149,Tryz.ntmps149;go_wp2
     go_ret;exact⟨zz0,zz1⟩
    ·obtain rfl:=sI H
     go_enter Tryz.func149,Tryz.ntmps149;go_wp2
     go_ret;exact⟨zz0,zz1⟩
  ·replace H:=iteEq H
   rcases H with⟨c11b0,c11b1,H⟩|⟨c11b0,c11b1,c11,H⟩
   ·obtain rfl:=sI H
    go_enter Tryz.func149,Tryz.ntmps149;go_wp2
    go_ret;exact⟨zz0,zz1⟩
   ·obtain rfl:=sI H
    go_enter Tryz.func149,Tryz.ntmps149;go_wp2
    go_ret;exact⟨zz0,zz1⟩
def spec_l1Sign.f (a0:Int):Option (BA):=if 0≤(wrap64 (Int.tdiv a0 16))then(if(wrap64 (Int.tdiv a0 16))≤(wrap64 ((wrap64 (Int.tdiv a0 16))+1))then(if(wrap64 ((wrap64 (Int.tdiv a0 16))+1))≤16 then(if 1+((⟨#[48,49,50,51,52,53,54,55,56,57,65,66,67,68,69,70]⟩:BA).extract ((wrap64 (Int.tdiv a0 16)):Int).toNat ((wrap64 ((wrap64 (Int.tdiv a0 16))+1)):Int).toNat).size≤9223372036854775807 then(if 0≤(Int.tmod a0 16)then(if(Int.tmod a0 16)≤(wrap64 ((Int.tmod a0 16)+1))then(if(wrap64 ((Int.tmod a0 16)+1))≤16 then(if 1+(((⟨#[48,49,50,51,52,53,54,55,56,57,65,66,67,68,69,70]⟩:BA).extract ((wrap64 (Int.tdiv a0 16)):Int).toNat ((wrap64 ((wrap64 (Int.tdiv a0 16))+1)):Int).toNat).size)+((⟨#[48,49,50,51,52,53,54,55,56,57,65,66,67,68,69,70]⟩:BA).extract ((Int.tmod a0 16):Int).toNat ((wrap64 ((Int.tmod a0 16)+1)):Int).toNat).size≤9223372036854775807 then(some (((⟨#[37]⟩:BA)++((⟨#[48,49,50,51,52,53,54,55,56,57,65,66,67,68,69,70]⟩:BA).extract ((wrap64 (Int.tdiv a0 16)):Int).toNat ((wrap64 ((wrap64 (Int.tdiv a0 16))+1)):Int).toNat))++((⟨#[48,49,50,51,52,53,54,55,56,57,65,66,67,68,69,70]⟩:BA).extract ((Int.tmod a0 16):Int).toNat ((wrap64 ((Int.tmod a0 16)+1)):Int).toNat)))else(none))else(none))else(none))else(none))else(none))else(none))else(none))else(none)
theorem spec_l1Sign.calls (a0:Int)(r:BA)(w:World)(h:spec_l1Sign.f a0=some r):
  Calls Tryz.prog 150 #[.int .i64 a0] w fun e w'=>e=.returned (.string r)∧Drawn0 w w':=by
 unfold spec_l1Sign.f at h;have H:=h;clear h;obtain⟨ji2,hji2⟩:∃j_:Int,(wrap64 (Int.tdiv a0 16))=j_:=⟨_,rfl⟩;(first|rw[hji2]at H|simp only[hji2]at H);have hji2w:(IntKind.i64.wrap (Int.tdiv a0 16))=ji2:=(i64_w _).trans hji2;replace H:=iteE H;rcases H with⟨c3,H⟩|⟨c3,H⟩
 ·have c3b0:=eq_true c3
  have c3b1:=dT c3;clear c3;replace H:=iteN H;obtain⟨c4,H⟩:=H;have c4b0:=eq_true c4;have c4b1:=dT c4;replace H:=iteN H;obtain⟨c5,H⟩:=H;have c5b0:=eq_true c5;have c5b1:=dT c5;replace H:=iteN H;obtain⟨c6,H⟩:=H;have c6b0:=eq_true c6;have c6b1:=dT c6;try have c6b2:(9223372036854775807<1+((⟨#[48,49,50,51,52,53,54,55,56,57,65,66,67,68,69,70]⟩:BA).extract ((ji2):Int).toNat ((wrap64 ((ji2)+1)):Int).toNat).size)=False:=eq_false (nL_.2 c6);obtain⟨ji7,hji7⟩:∃j_:Int,(Int.tmod a0 16)=j_:=⟨_,rfl⟩;(first|rw[hji7]at H|simp only[hji7]at H);replace H:=iteN H;obtain⟨c8,H⟩:=H;have c8b0:=eq_true c8;have c8b1:=dT c8;clear c8;replace H:=iteN H;obtain⟨c9,H⟩:=H;have c9b0:=eq_true c9;have c9b1:=dT c9;replace H:=iteN H;obtain⟨c10,H⟩:=H;have c10b0:=eq_true c10;have c10b1:=dT c10;replace H:=iteN H;obtain⟨c11,H⟩:=H;have c11b0:=eq_true c11;have c11b1:=dT c11;try have c11b2:(9223372036854775807<1+(((⟨#[48,49,50,51,52,53,54,55,56,57,65,66,67,68,69,70]⟩:BA).extract ((ji2):Int).toNat ((wrap64 ((ji2)+1)):Int).toNat).size)+((⟨#[48,49,50,51,52,53,54,55,56,57,65,66,67,68,69,70]⟩:BA).extract ((ji7):Int).toNat ((wrap64 ((ji7)+1)):Int).toNat).size)=False:=eq_false (nL_.2 c11);obtain rfl:=sI H;go_enter Tryz.func150,Tryz.ntmps150;go_wp2
  repeat(go_quiet (fail);try go_wp2)
  go_ret;exact⟨(by first|rfl|(simp only[i64_w,i32_w];done)|(simp only[aid_isEmpty,aid_isEmpty2];done)|(simp;done)|(simp only[←hji2,←hji7] <;> (first|rfl|simp))|(simp[*];done)),zz1⟩
 ·exact absurd H (by simp)
def spec_l11Door.f (a0:BA):Option (BA):=if 2+a0.size≤9223372036854775807 then(if 2+a0.size+7≤9223372036854775807 then(some (((⟨#[47,47]⟩:BA)++a0)++(⟨#[47,110,111,116,105,99,101]⟩:BA)))else(none))else(none)
theorem spec_l11Door.calls (a0:BA)(r:BA)(w:World)(h:spec_l11Door.f a0=some r):
  Calls Tryz.prog 36 #[.string a0] w fun e w'=>e=.returned (.string r)∧Drawn0 w w':=by
 unfold spec_l11Door.f at h;have H:=h;clear h;replace H:=iteE H;rcases H with⟨c2,H⟩|⟨c2,H⟩
 ·have c2b0:=eq_true c2
  have c2b1:=dT c2;try have c2b2:(9223372036854775807<2+a0.size)=False:=eq_false (nL_.2 c2);replace H:=iteN H;obtain⟨c3,H⟩:=H;have c3b0:=eq_true c3;have c3b1:=dT c3;try have c3b2:(9223372036854775807<2+a0.size+7)=False:=eq_false (nL_.2 c3);obtain rfl:=sI H;go_enter Tryz.func36,Tryz.ntmps36;go_wp2;go_ret;exact⟨zz0,zz1⟩
 ·exact absurd H (by simp)
end Go.Proofs.YtloijngehifbmaaGreatDoor.P
end
section
namespace Go.Proofs.YtloijngehifbmaaGreatDoor.P
open Go.RowKit Go.Proofs.YtloijngehifbmaaGreatDoorW PrintWords PrintLast PrintMore
attribute [local go_sem] max2_int min2_int max_two min_two max_three min_three max_four min_four
def spec_l11Barred.f (a0:BA):Option (List BA×(List (S93))×Int):=some ((([a0]:List BA)),(([(⟨false,(⟨#[47]⟩:BA)⟩:S93)]:List (S93))),0)
set_option maxHeartbeats 8000000 in
set_option maxRecDepth 100000 in
theorem spec_l11Barred.calls (a0:BA)(r1:List BA)(r2:List (S93))(r3:Int)(w:World)(h:spec_l11Barred.f a0=some (r1,r2,r3)):
  Calls Tryz.prog 76 #[.string a0] w fun e w'=>∃v0_ v1_:Value,e=.returned (.agg #[v0_,v1_,.int .i64 r3])∧Kd.R Kd.string 9 w' w.heap.size (fun _=>True) v0_ r1∧Kd.R k93 93 w' w.heap.size (fun _=>True) v1_ r2∧Below w.heap.size w w':=by
 have hu32:=Tryz.underlying32;have hu93:=Tryz.underlying93;have HB:=A_ (Below.refl w.heap.size w);have H:(some ((([a0]:List BA)),(([(⟨false,(⟨#[47]⟩:BA)⟩:S93)]:List (S93))),0))=some (r1,r2,r3):=h;clear h;obtain⟨y292,hy292⟩:∃y_:List BA,y_=(([a0]:List BA)):=⟨_,rfl⟩;replace H:(some (y292,(([(⟨false,(⟨#[47]⟩:BA)⟩:S93)]:List (S93))),0))=some (r1,r2,r3):=by first|(rw[hy292];with_reducible exact H)|(have H2_:=(oB_ _ _).symm.trans H;rw[hy292];with_reducible exact H2_)|(have H2_:=(oB_ _ _).symm.trans H;with_reducible exact H2_)|with_reducible exact H|(rw[hy292];exact H)|exact H
 have Ny292:=A_ hy292;clear hy292;obtain⟨y295,hy295⟩:∃y_:List (S93),y_=(([(⟨false,(⟨#[47]⟩:BA)⟩:S93)]:List (S93))):=⟨_,rfl⟩;replace H:(some (y292,y295,0))=some (r1,r2,r3):=by first|(rw[hy295];with_reducible exact H)|(have H2_:=(oB_ _ _).symm.trans H;rw[hy295];with_reducible exact H2_)|(have H2_:=(oB_ _ _).symm.trans H;with_reducible exact H2_)|with_reducible exact H|(rw[hy295];exact H)|exact H
 have Ny295:=A_ hy295;clear hy295;simp only[oI_,pI_]at H;obtain⟨rfl,rfl,rfl⟩:=H
 go_enter Tryz.func76,Tryz.ntmps76
 go_wp2_with (first|((with_reducible refine gate_dst (N:=2) rfl ?_);refine box_event ?hg (N:=2) ?hd (cs:=#[.slice none 0 0,.slice none 0 0,.int .i64 0]) (t:=32) ?hr ?_;(case hd=>rfl);(case hg=>rfl);(case hr=>first|(go_simp;done)|(go_simp;rfl));intro gb291 hg w2 hbox hb;have n0_:=A_ (below_step (by repeat(first|(with_reducible first|exact HB.out|apply below_alloc|apply pw_below_drewN|apply below_drew1)|exact HB.out)) hb);have n1_:=A_ (hbox);have n2_:=A_ ((by rw[hg];exact(below_size (by repeat(first|(with_reducible first|exact HB.out|apply below_alloc|apply pw_below_drewN|apply below_drew1)|exact HB.out))):w.heap.size≤gb291));have n3_:=A_ ((by rw[hg];exact(below_size (by repeat(first|(with_reducible first|exact HB.out|apply below_alloc|apply pw_below_drewN|apply below_drew1)|exact HB.out))):w.heap.size≤gb291));clear HB;have HB:=n0_;have BK291:=n1_;have GW291:=n2_;have GE291:=n3_;clear n0_ n1_ n2_ n3_;clear hb hbox hg)|((with_reducible refine gate_dst (N:=4) rfl ?_);refine Kd.R_lit Kd.string _ 9 ?hg (N:=4) ?hd (xs:=([a0]:List BA)) (inner:=[.string a0]) (ok:=fun _=>True) (okp:=fun _=>True) ?hr ?hp (fun _ hk=>hk) trivial (Below.refl _ _) (lL_ _) (by simp) ?_;(case hd=>rfl);(case hg=>rfl);(case hr=>first|(go_simp;done)|(go_simp;rfl));(case hp=>exact(Reps.one (show Kd.M Kd.string _ _ _ a0 [.string a0]from rfl) (Reps.none _ _)));intro v293 w3 ho4 hb hg_ hnew_;clear hg_ hnew_;(first|rw[←Ny292.out]at ho4|(simp only[Int.reduceToNat]at ho4;rw[←Ny292.out]at ho4));have n0_:=A_ (Kd.R_lower ho4 (below_size (by repeat(first|(with_reducible first|exact HB.out|apply below_alloc|apply pw_below_drewN|apply below_drew1|refine below_set ?_ GE291.out)|exact HB.out))));have n1_:=A_ (blk_below (g:=gb291) (o:=.cells #[.slice none 0 0,.slice none 0 0,.int .i64 0] 32 (0,0)) (by(with_reducible repeat(first|refine blk_drewN ?_ _|refine blk_drew ?_|refine blk_alloc ?_ _));exact BK291.out) hb);have n2_:=A_ (below_step (by repeat(first|(with_reducible first|exact HB.out|apply below_alloc|apply pw_below_drewN|apply below_drew1|refine below_set ?_ GE291.out)|exact HB.out)) hb);clear BK291;clear HB;have HO294:=n0_;have BK291:=n1_;have HB:=n2_;clear n0_ n1_ n2_;clear hb ho4)|((with_reducible refine gate_dst (N:=6) rfl ?_);refine Kd.R_lit k93 _ 93 ?hg (N:=6) ?hd (xs:=([(⟨false,(⟨#[47]⟩:BA)⟩:S93)]:List (S93))) (inner:=[.bool false,.string (⟨#[47]⟩:BA)]) (ok:=fun _=>True) (okp:=fun _=>True) ?hr ?hp (fun _ hk=>hk) trivial (Below.refl _ _) (lL_ _) (by simp) ?_;(case hd=>rfl);(case hg=>rfl);(case hr=>first|(go_simp;done)|(go_simp;rfl));(case hp=>exact(Reps.c2 (show Kd.M k93 _ _ _ (⟨false,(⟨#[47]⟩:BA)⟩:S93) [.bool false,.string (⟨#[47]⟩:BA)]from(k93_mkM _ _ _ (⟨false,(⟨#[47]⟩:BA)⟩:S93) )) (Reps.none _ _)));intro v296 w5 ho6 hb hg_ hnew_;clear hg_ hnew_;(first|rw[←Ny295.out]at ho6|(simp only[Int.reduceToNat]at ho6;rw[←Ny295.out]at ho6));have n0_:=A_ (Kd.R_below (by(with_reducible repeat(first|apply Kd.R_alloc|apply Kd.R_drewN|apply Kd.R_drew));exact HO294.out) hb);have n1_:=A_ (Kd.R_lower ho6 (below_size (by repeat(first|(with_reducible first|exact HB.out|apply below_alloc|apply pw_below_drewN|apply below_drew1|refine below_set ?_ GE291.out)|exact HB.out))));have n2_:=A_ (blk_below (g:=gb291) (o:=.cells #[.slice none 0 0,.slice none 0 0,.int .i64 0] 32 (0,0)) (by(with_reducible repeat(first|refine blk_drewN ?_ _|refine blk_drew ?_|refine blk_alloc ?_ _));exact BK291.out) hb);have n3_:=A_ (below_step (by repeat(first|(with_reducible first|exact HB.out|apply below_alloc|apply pw_below_drewN|apply below_drew1|refine below_set ?_ GE291.out)|exact HB.out)) hb);clear HO294;clear BK291;clear HB;have HO294:=n0_;have HO297:=n1_;have BK291:=n2_;have HB:=n3_;clear n0_ n1_ n2_ n3_;clear hb ho6;obtain⟨Ao7,co7,eo7⟩:=Kd.R_slice HO297.out;subst eo7;obtain⟨Ao8,co8,eo8⟩:=Kd.R_slice HO294.out;subst eo8;have hcz9_0:w5.cell? ⟨gb291,0,none⟩=some (.slice none 0 0):=(blk_cell BK291.out 0).trans rfl;have hcz9_1:w5.cell? ⟨gb291,1,none⟩=some (.slice none 0 0):=(blk_cell BK291.out 1).trans rfl;have hcz9_2:w5.cell? ⟨gb291,2,none⟩=some (.int .i64 0):=(blk_cell BK291.out 2).trans rfl;have hfz9_0:=blk_frozen BK291.out 0;have hfz9_1:=blk_frozen BK291.out 1;have hfz9_2:=blk_frozen BK291.out 2))
 refine bodyPost_ret (results_cell_row rfl _ _ gb291 32 #[.slice Ao8 y292.length co8,.slice Ao7 y295.length co7,.int .i64 0] (0,0) _ rfl (by(with_reducible repeat(first|refine blk_drewN ?_ _|refine blk_drew ?_|refine blk_alloc ?_ _));refine blk_put (cs:=#[.slice Ao8 y292.length co8,.slice Ao7 y295.length co7,.int .i64 0]) ?_ 2 _ rfl;(with_reducible repeat(first|refine blk_drewN ?_ _|refine blk_drew ?_|refine blk_alloc ?_ _));refine blk_put (cs:=#[.slice Ao8 y292.length co8,.slice none 0 0,.int .i64 0]) ?_ 1 _ rfl;(with_reducible repeat(first|refine blk_drewN ?_ _|refine blk_drew ?_|refine blk_alloc ?_ _));refine blk_put (cs:=#[.slice none 0 0,.slice none 0 0,.int .i64 0]) ?_ 0 _ rfl;(with_reducible repeat(first|refine blk_drewN ?_ _|refine blk_drew ?_|refine blk_alloc ?_ _));exact BK291.out) Tryz.underlying32 rfl (by kernel_rfl)) rfl ?_;exact⟨_,_,by first|rfl|(simp[errW_none,errW_some] <;> rfl)|(simp[*,errW_none,errW_some] <;> rfl),by(with_reducible repeat(first|apply Kd.R_alloc|apply Kd.R_drewN|apply Kd.R_drew));exact Kd.R_mono (Kd.R_far (p:=⟨gb291,2,none⟩) (Kd.R_far (p:=⟨gb291,1,none⟩) (Kd.R_far (p:=⟨gb291,0,none⟩) (Kd.R_types HO294.out BK291.out (by decide)) (fun _ hk=>hk.2) (.slice Ao8 y292.length co8)) (fun _ hk=>hk.2) (.slice Ao7 y295.length co7)) (fun _ hk=>hk.2) (.int .i64 0)) (fun _ hk=>trivial),by(with_reducible repeat(first|apply Kd.R_alloc|apply Kd.R_drewN|apply Kd.R_drew));exact Kd.R_mono (Kd.R_far (p:=⟨gb291,2,none⟩) (Kd.R_far (p:=⟨gb291,1,none⟩) (Kd.R_far (p:=⟨gb291,0,none⟩) (Kd.R_types HO297.out BK291.out (by decide)) (fun _ hk=>hk.2) (.slice Ao8 y292.length co8)) (fun _ hk=>hk.2) (.slice Ao7 y295.length co7)) (fun _ hk=>hk.2) (.int .i64 0)) (fun _ hk=>trivial),by repeat(first|(with_reducible first|exact HB.out|apply below_alloc|apply pw_below_drewN|apply below_drew1|refine below_set ?_ GE291.out)|exact HB.out)⟩
end Go.Proofs.YtloijngehifbmaaGreatDoor.P
end
section
namespace Go.Proofs.YtloijngehifbmaaGreatDoor.P
open Go.RowKit Go.Proofs.YtloijngehifbmaaGreatDoorW PrintWords PrintLast PrintMore
attribute [local go_sem] max2_int min2_int max_two min_two max_three min_three max_four min_four
set_option maxHeartbeats 8000000
set_option maxRecDepth 100000
def stringslite_HasSuffix.f (a0:BA)(a1:BA):Option (Bool):=if(a0.size:Int)≥(a1.size:Int)then(if 0≤(wrap64 ((a0.size:Int)-(a1.size:Int)))then(if(wrap64 ((a0.size:Int)-(a1.size:Int)))≤(a0.size:Int)then(some ((a0.extract ((wrap64 ((a0.size:Int)-(a1.size:Int))):Int).toNat a0.size).toList==a1.toList))else(none))else(none))else(some false)
theorem stringslite_HasSuffix.calls (a0:BA)(a1:BA)(r:Bool)(w:World)(h:stringslite_HasSuffix.f a0 a1=some r):
  Calls Tryz.prog 147 #[.string a0,.string a1] w fun e w'=>e=.returned (.bool r)∧Drawn0 w w':=by
 unfold stringslite_HasSuffix.f at h;have H:=h;clear h;replace H:=iteE H;rcases H with⟨c3,H⟩|⟨c3,H⟩
 ·have c3b0:=geT c3
  have c3b1:decide (a1.size≤a0.size)=true:=dT (Int.ofNat_le.mp c3);clear c3;obtain⟨ji4,hji4⟩:∃j_:Int,(wrap64 ((a0.size:Int)-(a1.size:Int)))=j_:=⟨_,rfl⟩;(first|rw[hji4]at H|simp only[hji4]at H);have hji4w:(IntKind.i64.wrap ((a0.size:Int)-(a1.size:Int)))=ji4:=(i64_w _).trans hji4;replace H:=iteN H;obtain⟨c5,H⟩:=H;have c5b0:=eq_true c5;have c5b1:=dT c5;clear c5;replace H:=iteN H;obtain⟨c6,H⟩:=H;have c6b0:=eq_true c6;have c6b1:=dT c6;clear c6;obtain rfl:=sI H;go_enter Tryz.func147,Tryz.ntmps147;go_wp2;go_ret;exact⟨(by first|rfl|(simp only[i64_w,i32_w];done)|(simp only[aid_isEmpty,aid_isEmpty2];done)|(simp;done)|((simp only[←hji4] <;> (first|rfl|simp));done)|(simp[*];done)),zz1⟩
 ·have c3b0:=geF c3
  have c3b1:decide (a1.size≤a0.size)=false:=dF (fun h=>c3 (Int.ofNat_le.mpr h));clear c3;obtain rfl:=sI H;go_enter Tryz.func147,Tryz.ntmps147;go_wp2;go_ret;exact⟨zz0,zz1⟩
def stringslite_TrimSuffix.f (a0:BA)(a1:BA):Option (BA):=(stringslite_HasSuffix.f a0 a1).bind fun t390=>(if t390=true then(if 0≤(wrap64 ((a0.size:Int)-(a1.size:Int)))then(if(wrap64 ((a0.size:Int)-(a1.size:Int)))≤(a0.size:Int)then(some (a0.extract 0 ((wrap64 ((a0.size:Int)-(a1.size:Int))):Int).toNat))else(none))else(none))else(some a0))
theorem stringslite_TrimSuffix.calls (a0:BA)(a1:BA)(r:BA)(w:World)(h:stringslite_TrimSuffix.f a0 a1=some r):
  Calls Tryz.prog 145 #[.string a0,.string a1] w fun e w'=>e=.returned (.string r)∧Drawn0 w w':=by
 unfold stringslite_TrimSuffix.f at h;have H:=h;clear h;replace H:=bindA H;obtain⟨t390,A3,H⟩:=H;have HF4:=A_ H;clear H;go_enter Tryz.func145,Tryz.ntmps145;go_upto_if 7 with(first|(refine gR 147 (some 7) Tryz.func147 (stringslite_HasSuffix.calls a0 a1 t390 _ A3.out) ?_;rintro w' ⟨nd,rfl⟩))
 obtain⟨H⟩:=HF4;replace H:=iteB H;rcases H with⟨rfl,H⟩|⟨rfl,H⟩
 ·obtain⟨ji6,hji6⟩:∃j_:Int,(wrap64 ((a0.size:Int)-(a1.size:Int)))=j_:=⟨_,rfl⟩
  (first|rw[hji6]at H|simp only[hji6]at H)
  have hji6w:(IntKind.i64.wrap ((a0.size:Int)-(a1.size:Int)))=ji6:=(i64_w _).trans hji6;replace H:=iteN H;obtain⟨c7,H⟩:=H;have c7b0:=eq_true c7;have c7b1:=dT c7;clear c7;replace H:=iteN H;obtain⟨c8,H⟩:=H;have c8b0:=eq_true c8;have c8b1:=dT c8;clear c8;obtain rfl:=sI H;go_wp2;go_ret;exact⟨zz83,zz1⟩
 ·obtain rfl:=sI H
  go_wp2;go_ret;exact⟨zz0,zz1⟩
def strings_TrimSuffix.f (a0:BA)(a1:BA):Option (BA):=(stringslite_TrimSuffix.f a0 a1).bind fun t391=>(some t391)
theorem strings_TrimSuffix.calls (a0:BA)(a1:BA)(r:BA)(w:World)(h:strings_TrimSuffix.f a0 a1=some r):
  Calls Tryz.prog 115 #[.string a0,.string a1] w fun e w'=>e=.returned (.string r)∧Drawn0 w w':=by
 unfold strings_TrimSuffix.f at h;have H:=h;clear h;replace H:=bindA H;obtain⟨t391,A3,H⟩:=H;obtain rfl:=sI H;go_enter Tryz.func115,Tryz.ntmps115;go_wp2_with (first|(refine gR 145 (some 7) Tryz.func145 (stringslite_TrimSuffix.calls a0 a1 t391 _ A3.out) ?_;rintro w' ⟨nd,rfl⟩));go_ret;exact⟨zz0,zz1⟩
def impl_standsForItself.f (a0:Int):Option (Bool):=if a0≥97 then(if a0≤122 then(some true)else(if a0≥48 then(if a0≤57 then(some true)else(if a0=46 then(some true)else(some (a0==45))))else(if a0=46 then(some true)else(some (a0==45)))))else(if a0≥48 then(if a0≤57 then(some true)else(if a0=46 then(some true)else(some (a0==45))))else(if a0=46 then(some true)else(some (a0==45))))
theorem impl_standsForItself.calls (a0:Int)(r:Bool)(w:World)(h:impl_standsForItself.f a0=some r):
  Calls Tryz.prog 146 #[.int .u8 a0] w fun e w'=>e=.returned (.bool r)∧Drawn0 w w':=by
 unfold impl_standsForItself.f at h;have H:=h;clear h;replace H:=iteEe H;rcases H with⟨c2b0,H⟩|⟨c2b0,H⟩
 ·replace H:=iteEd H
  rcases H with⟨c3b0,H⟩|⟨c3b0,H⟩
  ·obtain rfl:=sI H
   go_enter Tryz.func146,Tryz.ntmps146;go_wp2
   go_ret;exact⟨zz0,zz1⟩
  ·replace H:=iteEe H
   rcases H with⟨c4b0,H⟩|⟨c4b0,H⟩
   ·replace H:=iteEd H
    rcases H with⟨c5b0,H⟩|⟨c5b0,H⟩
    ·obtain rfl:=sI H
     go_enter Tryz.func146,Tryz.ntmps146;go_wp2
     go_ret;exact⟨zz0,zz1⟩
    ·replace H:=iteEq H
     rcases H with⟨c6b0,c6b1,H⟩|⟨c6b0,c6b1,c6,H⟩
     ·obtain rfl:=sI H
      go_enter Tryz.func146,Tryz.ntmps146;go_wp2
      go_ret;exact⟨zz0,zz1⟩
     ·obtain rfl:=sI H
      go_enter Tryz.func146,Tryz.ntmps146;go_wp2
      go_ret;exact⟨zz0,zz1⟩
   ·replace H:=iteEq H
    rcases H with⟨c7b0,c7b1,H⟩|⟨c7b0,c7b1,c7,H⟩
    ·obtain rfl:=sI H
     go_enter Tryz.func146,Tryz.ntmps146;go_wp2
     go_ret;exact⟨zz0,zz1⟩
    ·obtain rfl:=sI H
     go_enter Tryz.func146,Tryz.ntmps146;go_wp2
     go_ret;exact⟨zz0,zz1⟩
 ·replace H:=iteEe H
  rcases H with⟨c8b0,H⟩|⟨c8b0,H⟩
  ·replace H:=iteEd H
   rcases H with⟨c9b0,H⟩|⟨c9b0,H⟩
   ·obtain rfl:=sI H
    go_enter Tryz.func146,Tryz.ntmps146;go_wp2
    go_ret;exact⟨zz0,zz1⟩
   ·replace H:=iteEq H
    rcases H with⟨c10b0,c10b1,H⟩|⟨c10b0,c10b1,c10,H⟩
    ·obtain rfl:=sI H
     go_enter Tryz.func146,Tryz.ntmps146;go_wp2
     go_ret;exact⟨zz0,zz1⟩
    ·obtain rfl:=sI H
     go_enter Tryz.func146,Tryz.ntmps146;go_wp2
     go_ret;exact⟨zz0,zz1⟩
  ·replace H:=iteEq H
   rcases H with⟨c11b0,c11b1,H⟩|⟨c11b0,c11b1,c11,H⟩
   ·obtain rfl:=sI H
    go_enter Tryz.func146,Tryz.ntmps146;go_wp2
    go_ret;exact⟨zz0,zz1⟩
   ·obtain rfl:=sI H
    go_enter Tryz.func146,Tryz.ntmps146;go_wp2
    go_ret;exact⟨zz0,zz1⟩
def impl_isPatternByte.f (a0:Int):Option (Bool):=if a0=47 then(some true)else(if a0=42 then(some true)else(if a0=63 then(some true)else(if a0=37 then(some true)else((impl_standsForItself.f a0).bind fun t392=>(if t392=true then(some true)else(if a0≥65 then(some (decide (a0≤70)))else(some false)))))))
theorem impl_isPatternByte.calls (a0:Int)(r:Bool)(w:World)(h:impl_isPatternByte.f a0=some r):
  Calls Tryz.prog 116 #[.int .u8 a0] w fun e w'=>e=.returned (.bool r)∧Drawn0 w w':=by
 unfold impl_isPatternByte.f at h;have H:=h;clear h;replace H:=iteEq H;rcases H with⟨c2b0,c2b1,H⟩|⟨c2b0,c2b1,c2,H⟩
 ·obtain rfl:=sI H
  go_enter Tryz.func116,Tryz.ntmps116;go_wp2
  go_ret;exact⟨zz0,zz1⟩
 ·replace H:=iteEq H
  rcases H with⟨c3b0,c3b1,H⟩|⟨c3b0,c3b1,c3,H⟩
  ·obtain rfl:=sI H
   go_enter Tryz.func116,Tryz.ntmps116;go_wp2
   go_ret;exact⟨zz0,zz1⟩
  ·replace H:=iteEq H
   rcases H with⟨c4b0,c4b1,H⟩|⟨c4b0,c4b1,c4,H⟩
   ·obtain rfl:=sI H
    go_enter Tryz.func116,Tryz.ntmps116;go_wp2
    go_ret;exact⟨zz0,zz1⟩
   ·replace H:=iteEq H
    rcases H with⟨c5b0,c5b1,H⟩|⟨c5b0,c5b1,c5,H⟩
    ·obtain rfl:=sI H
     go_enter Tryz.func116,Tryz.ntmps116;go_wp2
     go_ret;exact⟨zz0,zz1⟩
    ·replace H:=bindA H
     obtain⟨t392,A6,H⟩:=H;have HF7:=A_ H;clear H;go_enter Tryz.func116,Tryz.ntmps116;go_wp2_with (first|(refine gR 146 (some 10) Tryz.func146 (impl_standsForItself.calls a0 t392 _ A6.out) ?_;rintro w' ⟨nd,rfl⟩)|((with_reducible refine atG ?_ ?_ fun K_ hK_=>?_);rfl;exact undecG)|((with_reducible refine atI ?_ fun K_ hK_=>?_);exact undecI));refine unG hK_ ?_;clear hK_ K_;obtain⟨H⟩:=HF7;replace H:=iteB H;rcases H with⟨rfl,H⟩|⟨rfl,H⟩
     ·(first|refine iteT ?_|refine iteF ?_|skip)
      obtain rfl:=sI H;(try((with_reducible refine upS ?_);go_simp));go_wp2;go_ret;exact⟨zz0,zz1⟩
     ·(first|refine iteT ?_|refine iteF ?_|skip)
      replace H:=iteEe H;rcases H with⟨c9b0,H⟩|⟨c9b0,H⟩
      ·obtain rfl:=sI H
       go_wp2;go_ret;exact⟨zz0,zz1⟩
      ·obtain rfl:=sI H
       go_wp2;go_ret;exact⟨zz0,zz1⟩
def stringslite_CutSuffix.f (a0:BA)(a1:BA):Option (BA×Bool):=(stringslite_HasSuffix.f a0 a1).bind fun t395=>(if t395=true then(if 0≤(wrap64 ((a0.size:Int)-(a1.size:Int)))then(if(wrap64 ((a0.size:Int)-(a1.size:Int)))≤(a0.size:Int)then(some (a0.extract 0 ((wrap64 ((a0.size:Int)-(a1.size:Int))):Int).toNat,true))else(none))else(none))else(some (a0,false)))
theorem stringslite_CutSuffix.calls (a0:BA)(a1:BA)(r1:BA)(r2:Bool)(w:World)(h:stringslite_CutSuffix.f a0 a1=some (r1,r2)):
  Calls Tryz.prog 117 #[.string a0,.string a1] w fun e w'=>e=.returned (.tuple #[.string r1,.bool r2])∧Drawn0 w w':=by
 unfold stringslite_CutSuffix.f at h;have H:=h;clear h;replace H:=bindA H;obtain⟨t395,A3,H⟩:=H;have HF4:=A_ H;clear H;go_enter Tryz.func117,Tryz.ntmps117;go_upto_if 9 with(first|(refine gR 147 (some 8) Tryz.func147 (stringslite_HasSuffix.calls a0 a1 t395 _ A3.out) ?_;rintro w' ⟨nd,rfl⟩))
 obtain⟨H⟩:=HF4;replace H:=iteB H;rcases H with⟨rfl,H⟩|⟨rfl,H⟩
 ·obtain⟨ji6,hji6⟩:∃j_:Int,(wrap64 ((a0.size:Int)-(a1.size:Int)))=j_:=⟨_,rfl⟩
  (first|rw[hji6]at H|simp only[hji6]at H)
  have hji6w:(IntKind.i64.wrap ((a0.size:Int)-(a1.size:Int)))=ji6:=(i64_w _).trans hji6;replace H:=iteN H;obtain⟨c7,H⟩:=H;have c7b0:=eq_true c7;have c7b1:=dT c7;clear c7;replace H:=iteN H;obtain⟨c8,H⟩:=H;have c8b0:=eq_true c8;have c8b1:=dT c8;clear c8;simp only[oI_,pI_]at H;obtain⟨rfl,rfl⟩:=H;go_wp2
  go_ret2
  exact⟨zz83,zz1⟩
 ·simp only[oI_,pI_]at H
  obtain⟨rfl,rfl⟩:=H;go_wp2
  go_ret2
  exact⟨zz0,zz1⟩
def strings_CutSuffix.f (a0:BA)(a1:BA):Option (BA×Bool):=(stringslite_CutSuffix.f a0 a1).bind fun bt396=>(some (bt396.1,bt396.2))
theorem strings_CutSuffix.calls (a0:BA)(a1:BA)(r1:BA)(r2:Bool)(w:World)(h:strings_CutSuffix.f a0 a1=some (r1,r2)):
  Calls Tryz.prog 89 #[.string a0,.string a1] w fun e w'=>e=.returned (.tuple #[.string r1,.bool r2])∧Drawn0 w w':=by
 unfold strings_CutSuffix.f at h;have H:=h;clear h;replace H:=bindA H;obtain⟨⟨t396,t397⟩,A3,H⟩:=H;try dsimp only at H;simp only[oI_,pI_]at H;obtain⟨rfl,rfl⟩:=H;go_enter Tryz.func89,Tryz.ntmps89;go_wp2_with (first|(refine gR 117 (some 8) Tryz.func117 (stringslite_CutSuffix.calls a0 a1 t396 t397 _ A3.out) ?_;rintro w' ⟨nd,rfl⟩))
 go_ret2
 exact⟨zz0,zz1⟩
end Go.Proofs.YtloijngehifbmaaGreatDoor.P
end
