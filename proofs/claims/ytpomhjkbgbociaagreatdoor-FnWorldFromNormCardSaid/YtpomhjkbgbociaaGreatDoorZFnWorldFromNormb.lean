/- Part 2 of the proof of FnWorldFromNorm: the plain functions of what it reaches, that Go comes to just their answers, what they answer, and the words that the walks use; conditions: each theorem's own. -/
import Derived.Test.YtpomhjkbgbociaaGreatDoorZFnWorldFromNorma
import Derived.Laws.StructEq
import Derived.RowKit
import Derived.Test.YtpomhjkbgbociaaGreatDoorProg
import Derived.Below
import Derived.Deep.Draws
import Derived.Deep.AppendLies
import Derived.Maps.AppendAt
import Derived.OwnWalk
import Derived.Laws.BytesArg
import Derived.Laws.MakeOwn
import Derived.Laws.OwnMore
import Derived.Deep.OwnRows
import Derived.Tactics
import Derived.Lib.ConvBytes
import Derived.Laws.Slices
import Derived.WalkKit
import Derived.KernelRfl
import Derived.RowKit3
import Derived.Deep.LoopGhost
import Derived.Deep.QuietTactic
import Derived.BigQuiet
import Derived.WideLaws
import Derived.Deep.DeepCutAuto
import Derived.Deep.CutBlock
import Derived.Deep.RegionHeld3
import Derived.Laws.Rows
import Derived.Lib.AppendStr
import Derived.ArgAppend
import Derived.Laws.IdiomCopy
import Derived.OrdersHeld
import Derived.Laws.BitsLemmas
import Derived.Shelf.Strings.Builder1
import Derived.Shelf.Strings.Builder2
import Derived.Shelf.Strings.OnBuilder
import Derived.Shelf.Small.Utf8
import Derived.Shelf.Small.Strs
import Derived.Shelf.Small.Wraps
import Derived.Shelf.Strings.BuilderF
import Derived.Shelf.Strings.BuilderK
import Derived.Shelf.Strings.Search1
import Derived.Shelf.Strings.Search2
import Derived.Shelf.Strings.Search3
import Derived.Shelf.Strings.Cut
import Derived.Shelf.Strings.Count
import Derived.Shelf.LaysM
import Derived.Shelf.Strings.Shaped
import Derived.Shelf.Strings.Prefix
import Derived.Shelf.Strings.Runes
import Derived.Shelf.Strings.IndexAny
import Derived.Shelf.Strings.AsciiSet
import Derived.Shelf.Strings.IndexAnyAll
import Derived.Shelf.Unicode.DecodeSlow
import Derived.Shelf.Slices.Turned
import Derived.Ground.Names2Prog
import Derived.Shelf.Slices.Clone

section
namespace Go.Proofs.YtpomhjkbgbociaaGreatDoorW.PrintWords
open Go.RowKit
section
variable {P:Program} {d:Nat} {xs ys:Array Value} {f:Field} {fs:List Field} {a b:Value} {r s:Bool} {w:World}
end
end Go.Proofs.YtpomhjkbgbociaaGreatDoorW.PrintWords
end
section
namespace Go.Proofs.YtpomhjkbgbociaaGreatDoor.P
theorem aid_isEmpty (l:List UInt8):(l != ([]:List UInt8)) = !l.isEmpty:=by cases l <;> rfl
theorem aid_isEmpty2 (l:List UInt8):(l == ([]:List UInt8))=l.isEmpty:=by cases l <;> rfl
end Go.Proofs.YtpomhjkbgbociaaGreatDoor.P
end
section
namespace Go.Proofs.YtpomhjkbgbociaaGreatDoor.P
open Go.RowKit Go.Proofs.YtpomhjkbgbociaaGreatDoorW.PrintWords
structure Undec (c:Prop):Prop where mk :: (out:True)
theorem Undec.y_ {c:Prop} (_:c):Undec c:=⟨trivial⟩
theorem Undec.n_ {c:Prop} (_:¬ c):Undec c:=⟨trivial⟩
theorem undecG {b:Bool} (h:Undec (b=true):=by (fail_if_success exact Undec.y_ rfl);(fail_if_success exact Undec.n_ (by decide));exact Undec.mk trivial):Undec (b=true):=h
theorem undecI {c:Prop} (h:Undec c:=by (fail_if_success exact Undec.y_ (by first|(with_reducible assumption)|((try simp only [decide_eq_true_eq,decide_eq_false_iff_not] at *);omega)|decide));(fail_if_success exact Undec.n_ (by first|(with_reducible assumption)|((try simp only [decide_eq_true_eq,decide_eq_false_iff_not] at *);omega)|decide));exact Undec.mk trivial):Undec c:=h
def MetP (J:Prop):Prop:=J
theorem atG {P:Program} {ops:Array Oper} {Q:Exit→Act→World→Prop} {a:Act} {w:World} {rest:List Oper} {d:Option Tmp} {op:Op} {ty:TypeId} {pos:String} {af:Array Edge} {j:Nat} {g b:Bool}
  (_hy:yielded ops a.tmps j=some b) (_nl:Undec (b=true)) (h:∀ K:Prop,Aside0 (K=wpList P ops Q (⟨d,op,ty,pos,af,some (j,g)⟩ :: rest) a w)→MetP K) :
  wpList P ops Q (⟨d,op,ty,pos,af,some (j,g)⟩ :: rest) a w:=h _ ⟨rfl⟩
theorem atI {c A B:Prop} [Decidable c] (_nl:Undec c) (h:∀ K:Prop,Aside0 (K=if c then A else B)→MetP K):if c then A else B:=h _ ⟨rfl⟩
theorem unG {A K:Prop} (hK:Aside0 (K=A)) (h:A):MetP K:=by rw [hK.out];exact h
theorem iteT {c A B:Prop} [Decidable c] (h:A) (hc:c:=by first|rfl|(with_reducible assumption)|omega|decide|exact List.length_eq_zero_iff.mp (by omega)|(intro h_;simp only [h_,List.length_nil] at *;omega)):if c then A else B:=by rw [if_pos hc];exact h
theorem iteF {c A B:Prop} [Decidable c] (h:B) (hc:¬ c:=by first|(with_reducible assumption)|decide|omega|exact fun h_=>h_ (List.length_eq_zero_iff.mp (by omega))|(intro h_;simp only [h_,List.length_nil] at *;omega)):if c then A else B:=by rw [if_neg hc];exact h
theorem upS {P:Program} {o:Oper} {a:Act} {next:Act→World→Prop} {Q:Exit→Act→World→Prop} {r:Result Next} (h:Oper.upon P o a next Q r):Oper.upon P o a next Q r:=h
end Go.Proofs.YtpomhjkbgbociaaGreatDoor.P
end
section
namespace Go.Proofs.YtpomhjkbgbociaaGreatDoor.P
open Go.RowKit Go.Proofs.YtpomhjkbgbociaaGreatDoorW.PrintWords Go.Proofs.YtpomhjkbgbociaaGreatDoorW.PrintLast Go.Proofs.YtpomhjkbgbociaaGreatDoorW.PrintMore
attribute [local go_sem] max2_int min2_int max_two min_two max_three min_three max_four min_four
set_option linter.unusedVariables false
set_option linter.unusedSimpArgs false
def errW:Option Int→Value
 | none=>.nilIface
 | some c=>.iface 0 (.int .i64 c)
theorem errW_none:errW none=.nilIface:=rfl
theorem errW_some (c:Int):errW (some c)=.iface 0 (.int .i64 c):=rfl
theorem info5:(Tryz.prog.info? 5).map (fun i=>(i.zero,i.size,i.bytes))=some (some (.int .u8 0),1,1):=by kernel_rfl
theorem info9:(Tryz.prog.info? 9).map (fun i=>(i.zero,i.size,i.bytes))=some (some (.string ⟨#[]⟩),1,16):=by kernel_rfl
theorem info30:(Tryz.prog.info? 30).map (fun i=>(i.zero,i.size,i.bytes))=some (some (.agg #[(.string ⟨#[]⟩),(.string ⟨#[]⟩),(.string ⟨#[]⟩),(.int .i64 0)]),4,56):=by kernel_rfl
theorem info106:(Tryz.prog.info? 106).map (fun i=>(i.zero,i.size,i.bytes))=some (some (.agg #[(.slice none 0 0),(.slice none 0 0),(.int .i64 0)]),3,56):=by kernel_rfl
theorem info108:(Tryz.prog.info? 108).map (fun i=>(i.zero,i.size,i.bytes))=some (some (.agg #[(.bool false),(.string ⟨#[]⟩)]),2,24):=by kernel_rfl
structure S30 where
 f0:ByteArray
 f1:ByteArray
 f2:ByteArray
 f3:Int
def z30:S30:=⟨(⟨#[]⟩:ByteArray),(⟨#[]⟩:ByteArray),(⟨#[]⟩:ByteArray),(0:Int)⟩
def k30:Kd S30:=Kd.iso (Kd.pair Kd.string (Kd.pair Kd.string (Kd.pair Kd.string (Kd.int .i64)))) (fun x:S30=>(x.f0,x.f1,x.f2,x.f3))
theorem k30_open {w:World} {x:S30} {cs:List Value} (h:k30.K w x cs):cs=[.string x.f0,.string x.f1,.string x.f2,.int .i64 x.f3]:=by
 obtain ⟨_,_,rfl,rfl,⟨_,_,rfl,rfl,⟨_,_,rfl,rfl,rfl⟩⟩⟩:=h
 exact rfl
theorem k30_openM {w:World} {base:Nat} {ok:Nat→Prop} {x:S30} {cs:List Value} (h:k30.M w base ok x cs):cs=[.string x.f0,.string x.f1,.string x.f2,.int .i64 x.f3]:=by
 obtain ⟨_,_,rfl,rfl,⟨_,_,rfl,rfl,⟨_,_,rfl,rfl,rfl⟩⟩⟩:=h
 exact rfl
theorem k30_mkM (w:World) (base:Nat) (ok:Nat→Prop) (x:S30)  : k30.M w base ok x [.string x.f0,.string x.f1,.string x.f2,.int .i64 x.f3]:=⟨[.string x.f0],[.string x.f1,.string x.f2,.int .i64 x.f3],rfl,rfl,⟨[.string x.f1],[.string x.f2,.int .i64 x.f3],rfl,rfl,⟨[.string x.f2],[.int .i64 x.f3],rfl,rfl,rfl⟩⟩⟩
def rd_T30 (xs:List S30) (i:Int):S30:=xs.getD i.toNat z30
theorem at_T30 {w:World} {A:Option Addr} {n:Nat} {xs:List S30} (h:Kd.C k30 w A n xs) (i:Int) (h0:0≤i) (h1:i < n):∃ ad , A=some ad∧w.cell? (ad.add (i.toNat * 4))=some (.string (rd_T30 xs i).f0)∧w.cell? ⟨(ad.add (i.toNat * 4)).block,(ad.add (i.toNat * 4)).off+1,none⟩=some (.string (rd_T30 xs i).f1)∧w.cell? ⟨(ad.add (i.toNat * 4)).block,(ad.add (i.toNat * 4)).off+2,none⟩=some (.string (rd_T30 xs i).f2)∧w.cell? ⟨(ad.add (i.toNat * 4)).block,(ad.add (i.toNat * 4)).off+3,none⟩=some (.int .i64 (rd_T30 xs i).f3):=by
 obtain ⟨ad,c,e,_,hK,hc0⟩:=Kd.C_get h z30 i h0 h1
 have hc:∀ j u,c[j]?=some u→w.cell? (ad.add (i.toNat * 4+j))=some u:=hc0
 obtain rfl:=k30_open hK
 exact ⟨ad,e,hc 0 _ rfl,by rw [← add_field _ _ 1 (by omega)];exact hc 1 _ rfl,by rw [← add_field _ _ 2 (by omega)];exact hc 2 _ rfl,by rw [← add_field _ _ 3 (by omega)];exact hc 3 _ rfl⟩
structure S108 where
 f0:Bool
 f1:ByteArray
def z108:S108:=⟨false,(⟨#[]⟩:ByteArray)⟩
def k108:Kd S108:=Kd.iso (Kd.pair Kd.bool Kd.string) (fun x:S108=>(x.f0,x.f1))
theorem k108_open {w:World} {x:S108} {cs:List Value} (h:k108.K w x cs):cs=[.bool x.f0,.string x.f1]:=by
 obtain ⟨_,_,rfl,rfl,rfl⟩:=h
 exact rfl
theorem k108_mkM (w:World) (base:Nat) (ok:Nat→Prop) (x:S108)  : k108.M w base ok x [.bool x.f0,.string x.f1]:=⟨[.bool x.f0],[.string x.f1],rfl,rfl,rfl⟩
def rd_T108 (xs:List S108) (i:Int):S108:=xs.getD i.toNat z108
theorem at_T108 {w:World} {A:Option Addr} {n:Nat} {xs:List S108} (h:Kd.C k108 w A n xs) (i:Int) (h0:0≤i) (h1:i < n):∃ ad , A=some ad∧w.cell? (ad.add (i.toNat * 2))=some (.bool (rd_T108 xs i).f0)∧w.cell? ⟨(ad.add (i.toNat * 2)).block,(ad.add (i.toNat * 2)).off+1,none⟩=some (.string (rd_T108 xs i).f1):=by
 obtain ⟨ad,c,e,_,hK,hc0⟩:=Kd.C_get h z108 i h0 h1
 have hc:∀ j u,c[j]?=some u→w.cell? (ad.add (i.toNat * 2+j))=some u:=hc0
 obtain rfl:=k108_open hK
 exact ⟨ad,e,hc 0 _ rfl,by rw [← add_field _ _ 1 (by omega)];exact hc 1 _ rfl⟩
structure S106 where
 f0:(List ByteArray)
 f1:(List S108)
 f2:Int
def z106:S106:=⟨([]:List ByteArray),([]:List S108),(0:Int)⟩
def k106:Kd S106:=Kd.iso (Kd.pair (Kd.slice 9 Kd.string) (Kd.pair (Kd.slice 108 k108) (Kd.int .i64))) (fun x:S106=>(x.f0,x.f1,x.f2))
theorem k106_open {w:World} {x:S106} {cs:List Value} (h:k106.K w x cs):∃ A0 c0 A1 c1,cs=[.slice A0 x.f0.length c0,.slice A1 x.f1.length c1,.int .i64 x.f2]∧x.f0.length≤c0∧Kd.string.C w A0 x.f0.length x.f0∧x.f1.length≤c1∧k108.C w A1 x.f1.length x.f1:=by
 obtain ⟨_,_,rfl,⟨A0,c0,rfl,l0,g0⟩,⟨_,_,rfl,⟨A1,c1,rfl,l1,g1⟩,rfl⟩⟩:=h
 exact ⟨A0,c0,A1,c1,rfl,l0,g0,l1,g1⟩
theorem k106_mkM (w:World) (base:Nat) (ok:Nat→Prop) (x:S106) {v0:Value} (g0:Kd.string.R 9 w base ok v0 x.f0) {v1:Value} (g1:k108.R 108 w base ok v1 x.f1):k106.M w base ok x [v0,v1,.int .i64 x.f2]:=⟨[v0],[v1,.int .i64 x.f2],rfl,⟨v0,rfl,g0⟩,⟨[v1],[.int .i64 x.f2],rfl,⟨v1,rfl,g1⟩,rfl⟩⟩
def rd_T106 (xs:List S106) (i:Int):S106:=xs.getD i.toNat z106
theorem at_T106 {w:World} {A:Option Addr} {n:Nat} {xs:List S106} (h:Kd.C k106 w A n xs) (i:Int) (h0:0≤i) (h1:i < n):∃ ad A0 c0 A1 c1,A=some ad∧w.cell? (ad.add (i.toNat * 3))=some (.slice A0 (rd_T106 xs i).f0.length c0)∧w.cell? ⟨(ad.add (i.toNat * 3)).block,(ad.add (i.toNat * 3)).off+1,none⟩=some (.slice A1 (rd_T106 xs i).f1.length c1)∧w.cell? ⟨(ad.add (i.toNat * 3)).block,(ad.add (i.toNat * 3)).off+2,none⟩=some (.int .i64 (rd_T106 xs i).f2)∧(rd_T106 xs i).f0.length≤c0∧Kd.string.C w A0 (rd_T106 xs i).f0.length (rd_T106 xs i).f0∧(rd_T106 xs i).f1.length≤c1∧k108.C w A1 (rd_T106 xs i).f1.length (rd_T106 xs i).f1:=by
 obtain ⟨ad,c,e,_,hK,hc0⟩:=Kd.C_get h z106 i h0 h1
 have hc:∀ j u,c[j]?=some u→w.cell? (ad.add (i.toNat * 3+j))=some u:=hc0
 obtain ⟨A0,c0,A1,c1,rfl,l0,g0,l1,g1⟩:=k106_open hK
 exact ⟨ad,A0,c0,A1,c1,e,hc 0 _ rfl,by rw [← add_field _ _ 1 (by omega)];exact hc 1 _ rfl,by rw [← add_field _ _ 2 (by omega)];exact hc 2 _ rfl,l0,g0,l1,g1⟩
end Go.Proofs.YtpomhjkbgbociaaGreatDoor.P
end
section
namespace Go.Proofs.YtpomhjkbgbociaaGreatDoor.P
open Go.RowKit Go.Proofs.YtpomhjkbgbociaaGreatDoorW.PrintWords Go.Proofs.YtpomhjkbgbociaaGreatDoorW.PrintLast Go.Proofs.YtpomhjkbgbociaaGreatDoorW.PrintMore
theorem viaP {B:Prop} (b:B:=by simp only [putAll,Act.put,List.setIfInBounds_toArray,List.set_cons_zero,List.set_cons_succ]):B:=b
theorem ofD {p:Prop} [Decidable p] (h:decide p=true:=by first|(with_reducible assumption)|assumption):p:=of_decide_eq_true h
theorem bindA {α β:Type} {x:Option α} {f:α→Option β} {r:β} (h:x.bind f=some r):∃ a,Aside0 (x=some a)∧f a=some r:=by
 obtain ⟨a,h1,h2⟩:=Option.bind_eq_some_iff.mp h
 exact ⟨a,⟨h1⟩,h2⟩
theorem bindY {α β:Type} {y:α} {f:α→Option β} {r:β} (h:(some y).bind f=some r):∃ z,Aside0 (z=y)∧f z=some r:=⟨y,⟨rfl⟩,h⟩
theorem bindZ {α β:Type} {y z:α} (hz:Aside0 (z=y)) {f:α→Option β} {r:β} (h:(some y).bind f=some r):f z=some r:=hz.out ▸ h
theorem toY {α:Type} (y:α):∃ z,Aside0 (z=y):=⟨y,⟨rfl⟩⟩
theorem cbl {w W:World} {a:Addr} {v:Value} (hb:Aside0 (Below w.heap.size w W)) (h:w.cell? a=some v):W.cell? a=some v:=(hb.out.cell (World.block_lt_of_cell? w _ h)).trans h
theorem geB {w W:World} {g:Nat} (hg:g=W.heap.size) (h:Below w.heap.size w W):Aside0 (w.heap.size≤g):=⟨by rw [hg];exact below_size h⟩
theorem rt {α:Type} {d:Kd α} {e:Nat} {w:World} {base:Nat} {ok:Nat→Prop} {v:Value} {xs:List α} {g t:Nat} {cells:Array Value} (a:Aside0 (d.R e w base ok v xs)) (b:Aside0 (w.heap[g]?=some (.cells cells t (0,0)))) (ht:∀ q,q ∈ e :: d.E→q≠t:=by decide):Aside0 (d.R e w base (fun k=>ok k∧k≠g) v xs):=⟨Kd.R_types a.out b.out ht⟩
section
variable {P:Program} {ops:Array Oper} {rest:List Oper} {o:Oper} {a:Act} {Q:Exit→Act→World→Prop} {md:Region.Mode} {S:World→Prop} {ds:List Nat} {W:World}
theorem boxE (N:Tmp) (cs:Array Value) (t:TypeId)
  (h:∀ g,g=W.heap.size→∀ w1,w1.heap[g]?=some (.cells cs t (0,0))→Below W.heap.size W w1→wpList P ops Q rest (a.put o.dst (.pointer (some ⟨g,0,none⟩))) w1)
  (hd:o.dst=some N:=by rfl) (hgd:o.guard=none:=by rfl)
  (hrun:(execOp a.eval o).run P W=.ok (.value (.pointer (some ⟨W.heap.size,0,none⟩))) (W.alloc (.cells cs t (0,0))):=by first|(go_simp;done)|(go_simp;rfl)):wpList P ops Q (o :: rest) a W:=box_event hgd hd hrun h
theorem gsL (N:Option Tmp) {f:FuncId} {fn:Func} {as_:Array Operand} {ts:Array TypeId} (hf:P.funcs[f]?=some fn) (args:Array Value)
  (h:Calls P f args W fun e w'=>∃ v,e=.returned v∧wpList P ops Q rest (a.put N v) w')
  (hd:o.dst=N:=by rfl) (hg:o.guard=none:=by rfl) (hname:(fn.name == "runtime.NumGoroutine")=false:=by kernel_rfl) (hb:fn.body.isSome=true:=by rfl)
  (hop:o.op=.call { callee:=.value (.func f),args:=as_,argTypes:=ts }:=by rfl)
  (hargs:as_.map a.eval=args:=by (try simp only [List.map_toArray,List.map_cons,List.map_nil]);first|done|rfl|(simp only [List.length_drop,List.length_take];rfl)):wpList P ops Q (o :: rest) a W:=goesL_ N hd hg hf hname hb args hop hargs h
theorem boxF (N:Tmp) (cs:Array Value) (t:TypeId)
  (h:∀ g,g=W.heap.size→∀ w1,Aside0 (w1.heap[g]?=some (.cells cs t (0,0)))→Below W.heap.size W w1→wpList P ops Q rest (a.put o.dst (.pointer (some ⟨g,0,none⟩))) w1)
  (hd:o.dst=some N:=by rfl) (hgd:o.guard=none:=by rfl)
  (hrun:(execOp a.eval o).run P W=.ok (.value (.pointer (some ⟨W.heap.size,0,none⟩))) (W.alloc (.cells cs t (0,0))):=by first|(go_simp;done)|(go_simp;rfl)):wpList P ops Q (o :: rest) a W:=box_event hgd hd hrun fun g hg w1 hb=>h g hg w1 ⟨hb⟩
theorem gR (f:FuncId) (N:Option Tmp) {fn:Func} {as_:Array Operand} {ts:Array TypeId} {args:Array Value} {v:Value} {R:World→Prop} (hf:P.funcs[f]?=some fn) (hc:Calls P f args W fun e w'=>e=.returned v∧R w')
  (h:∀ w',R w'→wpList P ops Q rest (a.put N v) w')
  (hd:o.dst=N:=by rfl) (hop:o.op=.call { callee:=.value (.func f),args:=as_,argTypes:=ts }:=by rfl) (hg:o.guard=none:=by rfl) (hname:(fn.name == "runtime.NumGoroutine")=false:=by kernel_rfl) (hb:fn.body.isSome=true:=by rfl)
  (hargs:as_.map a.eval=args:=by (try simp only [List.map_toArray,List.map_cons,List.map_nil]);first|done|rfl|(simp only [List.length_drop,List.length_take];rfl)):wpList P ops Q (o :: rest) a W:=
 goesL_ N hd hg hf hname hb args hop hargs (hc.mono fun _ w' z=>⟨v,z.1,h w' z.2⟩)
theorem gV (f:FuncId) (N:Option Tmp) {fn:Func} {as_:Array Operand} {ts:Array TypeId} {args:Array Value} {β:Type} {V:β→Value} {R:β→World→Prop} (hf:P.funcs[f]?=some fn) (hc:Calls P f args W fun e w'=>∃ v,e=.returned (V v)∧R v w')
  (h:∀ v w',R v w'→wpList P ops Q rest (a.put N (V v)) w')
  (hd:o.dst=N:=by rfl) (hop:o.op=.call { callee:=.value (.func f),args:=as_,argTypes:=ts }:=by rfl) (hg:o.guard=none:=by rfl) (hname:(fn.name == "runtime.NumGoroutine")=false:=by kernel_rfl) (hb:fn.body.isSome=true:=by rfl)
  (hargs:as_.map a.eval=args:=by (try simp only [List.map_toArray,List.map_cons,List.map_nil]);first|done|rfl|(simp only [List.length_drop,List.length_take];rfl)):wpList P ops Q (o :: rest) a W:=
 goesL_ N hd hg hf hname hb args hop hargs (hc.mono fun _ w' z=>by obtain ⟨v,z1,z2⟩:=z;exact ⟨V v,z1,h v w' z2⟩)
theorem oneZ (i:Nat) (N:Option Tmp) {oi:Oper} {fuel:Nat} {l:Array Bool} (l':Array Bool)
  (h:∀ K:Act→World→Prop,Shut (∀ a' w',S w'→(S w'→wpAnyLast P md ops Q S ds fuel l' a' w')→K a' w')→if Region.wanted oi (yielded ops a.tmps)=true then Oper.wp P oi a W K Q else K (a.put N undef) W)
  (hi:ops[i]?=some oi:=by rfl) (hN:oi.dst=N:=by rfl) (hc:readyB md ops l l' i=true:=by exact one_of HT_.out (by kernel_rfl)) (hd:i ∉ ds:=by decide):wpAnyLast P md ops Q S ds (fuel+1) l a W:=one_ l' hi hN hc hd h
theorem twoZ (i j:Nat) (Ni Nj:Option Tmp) {oi oj:Oper} {fuel:Nat} {l:Array Bool} (li lj:Array Bool)
  (h1:∀ K:Act→World→Prop,Shut (∀ a' w',S w'→(S w'→wpAnyLast P md ops Q S ds fuel li a' w')→K a' w')→if Region.wanted oi (yielded ops a.tmps)=true then Oper.wp P oi a W K Q else K (a.put Ni undef) W)
  (h2:∀ K:Act→World→Prop,Shut (∀ a' w',S w'→(S w'→wpAnyLast P md ops Q S ds fuel lj a' w')→K a' w')→if Region.wanted oj (yielded ops a.tmps)=true then Oper.wp P oj a W K Q else K (a.put Nj undef) W)
  (hi:ops[i]?=some oi:=by rfl) (hj:ops[j]?=some oj:=by rfl) (hNi:oi.dst=Ni:=by rfl) (hNj:oj.dst=Nj:=by rfl)
  (hc:(Region.ready md ops l == [i,j] && l.setIfInBounds i true == li && l.setIfInBounds j true == lj)=true:=by exact two_of HT_.out (by kernel_rfl)) (hdi:i ∉ ds:=by decide) (hdj:j ∉ ds:=by decide):wpAnyLast P md ops Q S ds (fuel+1) l a W:=two_ li lj hi hj hNi hNj hc hdi hdj h1 h2
theorem nZ (N:Tmp) {fuel:Nat} {l:Array Bool} {b a':Act} {v:Value} (h:wpAnyLast P md ops Q S ds fuel l a' W) (hb:a=b.put (some N) v:=by rfl) (ha:b.put (some N) v=a':=by (simp only [Act.put,List.setIfInBounds_toArray,List.set_cons_zero,List.set_cons_succ,i64_w,i32_w];rfl)):wpAnyLast P md ops Q S ds fuel l a W:=norm_ (hb.trans ha) h
theorem pureZ (i:Nat) (N:Option Tmp) {v:Value} {fuel:Nat} {l:Array Bool} (l':Array Bool) {a':Act}
  (h:wpAnyLast P md ops Q S ds fuel l' a' W) (hi:ops[i]?=some o:=by rfl) (hN:o.dst=N:=by rfl) (hc:anyB md ops l l' i=true:=by exact any_of HT_.out (by kernel_rfl))
  (hQ:∀ c a w,Q (.panic c) (a.put o.dst v) w→Q (.panic c) a w:=by exact fun _ _ _ h=>h)
  (hy:Yields P ops o v a:=by exact Or.inl ⟨by rfl,by intro w';go_simp;with_reducible rfl⟩)
  (ha:a.put N v=a':=by (simp only [Act.put,List.setIfInBounds_toArray,List.set_cons_zero,List.set_cons_succ,i64_w,i32_w];rfl)):wpAnyLast P md ops Q S ds (fuel+1) l a W:=pure_ l' hi hN hc hQ hy ha h
theorem pureY (i:Nat) (N:Option Tmp) {v:Value} {fuel:Nat} {l:Array Bool} (l':Array Bool) {a':Act}
  (h:wpAnyLast P md ops Q S ds fuel l' a' W) (hi:ops[i]?=some o:=by rfl) (hN:o.dst=N:=by rfl) (hc:anyB md ops l l' i=true:=by kernel_rfl)
  (hQ:∀ c a w,Q (.panic c) (a.put o.dst v) w→Q (.panic c) a w:=by exact fun _ _ _ h=>h)
  (hy:Yields P ops o v a:=by exact Or.inl ⟨by rfl,by intro w';go_simp;with_reducible rfl⟩)
  (ha:a.put N v=a':=by (simp only [Act.put,List.setIfInBounds_toArray,List.set_cons_zero,List.set_cons_succ,i64_w,i32_w];rfl)):wpAnyLast P md ops Q S ds (fuel+1) l a W:=pure_ l' hi hN hc hQ hy ha h
theorem takeZ3 (i:Nat) (N:Option Tmp) {v:Value} {fuel:Nat} {l:Array Bool} (l':Array Bool) (hS:S W) {a':Act}
  (h:wpAnyLast P md ops Q S ds fuel l' a' W) (hi:ops[i]?=some o:=by rfl) (hN:o.dst=N:=by rfl) (hc:takeB md ops ds l l' i=true:=by exact take_ofW HT_.out HW_.out (by kernel_rfl))
  (hQ:∀ c a w,Q (.panic c) (a.put o.dst v) w→Q (.panic c) a w:=by exact fun _ _ _ h=>h)
  (hy:YieldsIf P ops S o v a:=by exact Or.inl ⟨by rfl,by rintro w' ⟨s0,s1,s2⟩;go_simp;with_reducible rfl⟩)
  (ha:a.put N v=a':=by (simp only [Act.put,List.setIfInBounds_toArray,List.set_cons_zero,List.set_cons_succ,i64_w,i32_w];rfl)):wpAnyLast P md ops Q S ds (fuel+1) l a W:=take_ l' hi hN hc hQ hy hS ha h
theorem takeY3 (i:Nat) (N:Option Tmp) {v:Value} {fuel:Nat} {l:Array Bool} (l':Array Bool) (hS:S W) {a':Act}
  (h:wpAnyLast P md ops Q S ds fuel l' a' W) (hi:ops[i]?=some o:=by rfl) (hN:o.dst=N:=by rfl) (hc:takeB md ops ds l l' i=true:=by kernel_rfl)
  (hQ:∀ c a w,Q (.panic c) (a.put o.dst v) w→Q (.panic c) a w:=by exact fun _ _ _ h=>h)
  (hy:YieldsIf P ops S o v a:=by exact Or.inl ⟨by rfl,by rintro w' ⟨s0,s1,s2⟩;go_simp;with_reducible rfl⟩)
  (ha:a.put N v=a':=by (simp only [Act.put,List.setIfInBounds_toArray,List.set_cons_zero,List.set_cons_succ,i64_w,i32_w];rfl)):wpAnyLast P md ops Q S ds (fuel+1) l a W:=take_ l' hi hN hc hQ hy hS ha h
theorem takeZ4 (i:Nat) (N:Option Tmp) {v:Value} {fuel:Nat} {l:Array Bool} (l':Array Bool) (hS:S W) {a':Act}
  (h:wpAnyLast P md ops Q S ds fuel l' a' W) (hi:ops[i]?=some o:=by rfl) (hN:o.dst=N:=by rfl) (hc:takeB md ops ds l l' i=true:=by exact take_ofW HT_.out HW_.out (by kernel_rfl))
  (hQ:∀ c a w,Q (.panic c) (a.put o.dst v) w→Q (.panic c) a w:=by exact fun _ _ _ h=>h)
  (hy:YieldsIf P ops S o v a:=by exact Or.inl ⟨by rfl,by rintro w' ⟨s0,s1,s2,s3⟩;go_simp;with_reducible rfl⟩)
  (ha:a.put N v=a':=by (simp only [Act.put,List.setIfInBounds_toArray,List.set_cons_zero,List.set_cons_succ,i64_w,i32_w];rfl)):wpAnyLast P md ops Q S ds (fuel+1) l a W:=take_ l' hi hN hc hQ hy hS ha h
theorem takeY4 (i:Nat) (N:Option Tmp) {v:Value} {fuel:Nat} {l:Array Bool} (l':Array Bool) (hS:S W) {a':Act}
  (h:wpAnyLast P md ops Q S ds fuel l' a' W) (hi:ops[i]?=some o:=by rfl) (hN:o.dst=N:=by rfl) (hc:takeB md ops ds l l' i=true:=by kernel_rfl)
  (hQ:∀ c a w,Q (.panic c) (a.put o.dst v) w→Q (.panic c) a w:=by exact fun _ _ _ h=>h)
  (hy:YieldsIf P ops S o v a:=by exact Or.inl ⟨by rfl,by rintro w' ⟨s0,s1,s2,s3⟩;go_simp;with_reducible rfl⟩)
  (ha:a.put N v=a':=by (simp only [Act.put,List.setIfInBounds_toArray,List.set_cons_zero,List.set_cons_succ,i64_w,i32_w];rfl)):wpAnyLast P md ops Q S ds (fuel+1) l a W:=take_ l' hi hN hc hQ hy hS ha h
theorem takeZ5 (i:Nat) (N:Option Tmp) {v:Value} {fuel:Nat} {l:Array Bool} (l':Array Bool) (hS:S W) {a':Act}
  (h:wpAnyLast P md ops Q S ds fuel l' a' W) (hi:ops[i]?=some o:=by rfl) (hN:o.dst=N:=by rfl) (hc:takeB md ops ds l l' i=true:=by exact take_ofW HT_.out HW_.out (by kernel_rfl))
  (hQ:∀ c a w,Q (.panic c) (a.put o.dst v) w→Q (.panic c) a w:=by exact fun _ _ _ h=>h)
  (hy:YieldsIf P ops S o v a:=by exact Or.inl ⟨by rfl,by rintro w' ⟨s0,s1,s2,s3,s4⟩;go_simp;with_reducible rfl⟩)
  (ha:a.put N v=a':=by (simp only [Act.put,List.setIfInBounds_toArray,List.set_cons_zero,List.set_cons_succ,i64_w,i32_w];rfl)):wpAnyLast P md ops Q S ds (fuel+1) l a W:=take_ l' hi hN hc hQ hy hS ha h
end
theorem cf3 {w:World} {g:Nat} {t:TypeId} {x0 x1 x2:Value} (h:Aside0 (w.heap[g]?=some (.cells #[x0,x1,x2] t (0,0)))):w.cell? ⟨g,0,none⟩=some x0∧w.cell? ⟨g,1,none⟩=some x1∧w.cell? ⟨g,2,none⟩=some x2∧w.frozen? ⟨g,0,none⟩=false∧w.frozen? ⟨g,1,none⟩=false∧w.frozen? ⟨g,2,none⟩=false:=⟨(blk_cell h.out 0).trans rfl,(blk_cell h.out 1).trans rfl,(blk_cell h.out 2).trans rfl,blk_frozen h.out 0,blk_frozen h.out 1,blk_frozen h.out 2⟩
theorem cf4 {w:World} {g:Nat} {t:TypeId} {x0 x1 x2 x3:Value} (h:Aside0 (w.heap[g]?=some (.cells #[x0,x1,x2,x3] t (0,0)))):w.cell? ⟨g,0,none⟩=some x0∧w.cell? ⟨g,1,none⟩=some x1∧w.cell? ⟨g,2,none⟩=some x2∧w.cell? ⟨g,3,none⟩=some x3∧w.frozen? ⟨g,0,none⟩=false∧w.frozen? ⟨g,1,none⟩=false∧w.frozen? ⟨g,2,none⟩=false∧w.frozen? ⟨g,3,none⟩=false:=⟨(blk_cell h.out 0).trans rfl,(blk_cell h.out 1).trans rfl,(blk_cell h.out 2).trans rfl,(blk_cell h.out 3).trans rfl,blk_frozen h.out 0,blk_frozen h.out 1,blk_frozen h.out 2,blk_frozen h.out 3⟩
abbrev yT:Bool:=true
abbrev yF:Bool:=false
theorem rpI {B:Prop} (h:B:=by repeat (first|exact Reps.none _ _|refine Reps.one (show Kd.M _ _ _ _ _ _ from rfl) ?_)):B:=h
theorem A_ {p:Prop} (h:p):Aside0 p:=⟨h⟩
abbrev bS:=@below_step
abbrev bB:=@blk_below
abbrev rB:=@Kd.R_below
abbrev gC:=@gate_callee
abbrev gD:=@gate_dst
abbrev sI:=@Option.some.inj
abbrev pR:=@bodyPost_ret
abbrev dT:=@decide_eq_true
abbrev dF:=@decide_eq_false
section
variable {α:Type} {r:α} {x y:Option α} {c:Prop} {i:Decidable c}
theorem iteN (h:(if c then x else none)=some r):c∧x=some r:=by
 by_cases hc:c
 ·rw [if_pos hc] at h;exact ⟨hc,h⟩
 ·rw [if_neg hc] at h;cases h
theorem iteM (h:(if c then none else y)=some r):¬ c∧y=some r:=by
 by_cases hc:c
 ·rw [if_pos hc] at h;cases h
 ·rw [if_neg hc] at h;exact ⟨hc,h⟩
theorem iteE (h:(if c then x else y)=some r):(c∧x=some r)∨(¬ c∧y=some r):=by
 by_cases hc:c
 ·rw [if_pos hc] at h;exact .inl ⟨hc,h⟩
 ·rw [if_neg hc] at h;exact .inr ⟨hc,h⟩
theorem iteB {b:Bool} (h:(if b=true then x else y)=some r):(b=true∧x=some r)∨(b=false∧y=some r):=by cases b <;> simpa using h
theorem iteNd (h:(if c then x else none)=some r):decide c=true∧x=some r:=⟨decide_eq_true (iteN h).1,(iteN h).2⟩
theorem iteEd (h:(if c then x else y)=some r):(decide c=true∧x=some r)∨(decide c=false∧y=some r):=(iteE h).imp (fun z=>⟨decide_eq_true z.1,z.2⟩) (fun z=>⟨decide_eq_false z.1,z.2⟩)
end
section
variable {α:Type} {r:α} {x y:Option α} {a b:Int}
theorem gtT (h:a > b):decide (b < a)=true:=decide_eq_true h
theorem gtF (h:¬ a > b):decide (b < a)=false:=decide_eq_false h
theorem geT (h:a ≥ b):decide (b≤a)=true:=decide_eq_true h
theorem geF (h:¬ a ≥ b):decide (b≤a)=false:=decide_eq_false h
theorem iteEg {i:Decidable (a > b)} (h:(if a > b then x else y)=some r):(@decide (b < a) (Int.decLt b a)=true∧x=some r)∨(@decide (b < a) (Int.decLt b a)=false∧y=some r):=(iteE h).imp (fun z=>⟨gtT z.1,z.2⟩) (fun z=>⟨gtF z.1,z.2⟩)
theorem iteEe {i:Decidable (a ≥ b)} (h:(if a ≥ b then x else y)=some r):(@decide (b≤a) (Int.decLe b a)=true∧x=some r)∨(@decide (b≤a) (Int.decLe b a)=false∧y=some r):=(iteE h).imp (fun z=>⟨geT z.1,z.2⟩) (fun z=>⟨geF z.1,z.2⟩)
end
section
variable {α β:Type} [BEq β] [LawfulBEq β] {r:α} {x y:Option α} {a b:β}
theorem eqT (h:a=b):(a == b)=true∧(a != b)=false:=⟨beq_iff_eq.mpr h,bne_eq_false_iff_eq.mpr h⟩
theorem eqF (h:¬ a=b):(a == b)=false∧(a != b)=true:=⟨beq_eq_false_iff_ne.mpr h,bne_iff_ne.mpr h⟩
theorem iteEq {i:Decidable (a=b)} (h:(if a=b then x else y)=some r):((a == b)=true∧(a != b)=false∧x=some r)∨((a == b)=false∧(a != b)=true∧¬ a=b∧y=some r):=
 (iteE h).imp (fun z=>⟨(eqT z.1).1,(eqT z.1).2,z.2⟩) (fun z=>⟨(eqF z.1).1,(eqF z.1).2,z.1,z.2⟩)
end
theorem atB {P Q R:Prop} [Decidable P] [Decidable Q] (f:P→Q→R) (p:decide P=true:=by first|(with_reducible assumption)|assumption) (q:decide Q=true:=by first|(with_reducible assumption)|assumption):R∧(P=True)∧(Q=True):=
 ⟨f (of_decide_eq_true p) (of_decide_eq_true q),eq_true (of_decide_eq_true p),eq_true (of_decide_eq_true q)⟩
section
variable {P:Program} {f:FuncId} {args:Array Value} {w:World} {S:Value→World→Prop}
theorem mR {v:Value} {Q:World→Prop} (h:Calls P f args w fun e w'=>e=.returned v∧Q w') (k:∀ w',Q w'→S v w'):Calls P f args w fun e w'=>∃ u,e=.returned u∧S u w':=h.mono (fun _ w' z=>⟨v,z.1,k w' z.2⟩)
end
section
variable {w W:World} {a b c d:Addr} {s t u v:Value} (hb:Aside0 (Below w.heap.size w W)) (h1:w.cell? a=some s) (h2:w.cell? b=some t) (h3:w.cell? c=some u) (h4:w.cell? d=some v)
include hb h1 h2
theorem cb2:W.cell? a=some s∧W.cell? b=some t:=⟨cbl hb h1,cbl hb h2⟩
include h3
theorem cb3:W.cell? a=some s∧W.cell? b=some t∧W.cell? c=some u:=⟨cbl hb h1,cbl hb h2,cbl hb h3⟩
include h4
theorem cb4:W.cell? a=some s∧W.cell? b=some t∧W.cell? c=some u∧W.cell? d=some v:=⟨cbl hb h1,cbl hb h2,cbl hb h3,cbl hb h4⟩
end
theorem zz0 {B:Prop} (f:B:=by first|rfl|(simp only [i64_w,i32_w];done)|(simp only [aid_isEmpty,aid_isEmpty2];done)|(simp;done)|(simp [*];done)):B:=f
theorem zz1 {B:Prop} (f:B:=by repeat (first|exact Drawn0.refl _|apply Drawn0.step)):B:=f
theorem zz3 {B A0:Prop} (a0:Aside0 A0) (f:A0→B:=by intro g0_;have:=g0_;omega):B:=f a0.out
theorem zz4 {B:Prop} (f:B:=by first|exact Kd.R_nil _ _ _ _ _|exact Kd.N_nil _ _ _ _ _|exact Kd.V_nil _ _ _ _ _|exact Kd.Q_nil _ _ _ _ _|exact Kd.S_nil _ _ _ _ _):B:=f
theorem zz5 {B A0:Prop} (a0:Aside0 A0) (f:A0→B:=by intro g0_;repeat (first|(with_reducible first|exact g0_|apply below_alloc|apply pw_below_drewN|apply below_drew1)|exact g0_)):B:=f a0.out
theorem zz7 {B A0:Prop} (a0:Aside0 A0) (f:A0→B:=by intro g0_;have:=g0_;first|omega|exact Nat.le_refl _):B:=f a0.out
theorem zz8 {B A0:Prop} (a0:Aside0 A0) (f:A0→B:=by intro g0_;first|(with_reducible exact g0_)|((with_reducible repeat (first|apply Kd.R_alloc|apply Kd.R_drewN|apply Kd.R_drew));exact g0_)):B:=f a0.out
theorem zz10 {B A0 A1:Prop} (a0:Aside0 A0) (a1:Aside0 A1) (f:A0→A1→B:=by intro g0_ g1_;have:=g0_;have:=g1_;omega):B:=f a0.out a1.out
theorem zz12 {B:Prop} (f:B:=by first|rfl|(simp [errW_none,errW_some] <;> rfl)|(simp [*,errW_none,errW_some] <;> rfl)):B:=f
theorem zz15 {B A0:Prop} (a0:Aside0 A0) (f:A0→B:=by intro g0_;first|(with_reducible exact g0_)|((with_reducible repeat (first|apply blk_drewN|apply blk_drew|apply blk_alloc));exact g0_)):B:=f a0.out
theorem zz16 {B A0 A1:Prop} (a0:Aside0 A0) (a1:Aside0 A1) (f:A0→A1→B:=by intro g0_ g1_;repeat (first|(with_reducible first|exact g0_|apply below_alloc|apply pw_below_drewN|apply below_drew1|refine below_set ?_ g1_)|exact g0_)):B:=f a0.out a1.out
theorem zz17 {B:Prop} (f:B:=by first|omega|exact Nat.le_refl _):B:=f
theorem zz18 {B A0:Prop} (a0:Aside0 A0) (f:A0→B:=by intro g0_;repeat (first|(with_reducible first|exact g0_|apply IsS68.alloc|apply IsS68.drewN|apply IsS68.drew|apply IsS68.set_1)|exact g0_)):B:=f a0.out
theorem zz19 {B A0:Prop} (a0:Aside0 A0) (f:A0→B:=by intro g0_;repeat (first|(with_reducible first|exact g0_|apply KeepBut.set_|apply keep_drewN|apply keep_drew|apply keep_alloc)|exact g0_)):B:=f a0.out
theorem zz20 {B A0 A1:Prop} (a0:Aside0 A0) (a1:Aside0 A1) (f:A0→A1→B:=by intro g0_ g1_;repeat (first|(with_reducible first|exact g0_|apply below_alloc|apply pw_below_drewN|apply below_drew1|refine below_set ?_ (IsS68.ge g1_))|exact g0_)):B:=f a0.out a1.out
theorem zz22 {B:Prop} (f:B:=by first|rfl|(simp [errW_none,errW_some] <;> rfl)|(simp only [← hji9];first|rfl|(simp [errW_none,errW_some] <;> rfl))|(simp [*,errW_none,errW_some] <;> rfl)):B:=f
theorem zz26 {B:Prop} (f:B:=by first|(go_simp;done)|(go_simp;rfl)):B:=f
theorem zz27 {B:Prop} (f:B:=by (try simp only [List.map_toArray,List.map_cons,List.map_nil]);first|done|rfl|(simp only [List.length_drop,List.length_take];rfl)):B:=f
theorem zz32 {B A0:Prop} (a0:Aside0 A0) (f:A0→B:=by intro g0_;first|((repeat (first|(with_reducible first|exact g0_|refine blk_drewN ?_ _|refine blk_drew ?_|refine blk_alloc ?_ _|apply blk_put)|exact g0_));all_goals rfl;done)|(apply blk_put (i:=3);apply blk_put (i:=2);apply blk_put (i:=1);apply blk_put (i:=0);exact g0_;all_goals rfl)):B:=f a0.out
theorem zz33 {B A0:Prop} (a0:Aside0 A0) (f:A0→B:=by intro g0_;repeat (first|exact (Kd.R_reads' g0_).2.2|(with_reducible refine Kd.C_alloc ?_ _)|(with_reducible refine Kd.C_drewN ?_ _)|(with_reducible refine Kd.C_drew ?_))):B:=f a0.out
theorem zz35 {B A0:Prop} (a0:Aside0 A0) (f:A0→B:=by intro g0_;(with_reducible repeat (first|apply Kd.S_alloc|apply Kd.S_drewN|apply Kd.S_drew));exact g0_):B:=f a0.out
theorem zz37 {B A0 A1:Prop} (a0:Aside0 A0) (a1:Aside0 A1) (f:A0→A1→B:=by intro g0_ g1_;repeat (first|(with_reducible first|exact g0_|apply IsS68.alloc|apply IsS68.drewN|apply IsS68.drew|apply IsS68.set_1|refine IsS68.far ?_ g1_ _)|exact g0_)):B:=f a0.out a1.out
theorem zz38 {B A0 A1 A2:Prop} (a0:Aside0 A0) (a1:Aside0 A1) (a2:Aside0 A2) (f:A0→A1→A2→B:=by intro g0_ g1_ g2_;repeat (first|(with_reducible first|exact g0_|apply below_alloc|apply pw_below_drewN|apply below_drew1|refine below_set ?_ (IsS68.ge g1_)|refine below_set ?_ g2_)|exact g0_)):B:=f a0.out a1.out a2.out
theorem zz40 {B A0 A1:Prop} (a0:Aside0 A0) (a1:Aside0 A1) (f:A0→A1→B:=by intro g0_ g1_;(with_reducible repeat (first|apply Kd.R_alloc|apply Kd.R_drewN|apply Kd.R_drew));exact (Kd.R_mono (Kd.R_far (p:=⟨gb242,2,none⟩) (Kd.R_far (p:=⟨gb242,1,none⟩) (Kd.R_far (p:=⟨gb242,0,none⟩) (Kd.R_types g0_ g1_ (by decide)) (fun _ hk=>hk.2) (.slice Ao23 y231.length co23)) (fun _ hk=>hk.2) (.slice Ao22 t234.length co22)) (fun _ hk=>hk.2) (.int .i64 (wrap64 (t238 * t240)))) (fun _ h_=>h_.1))):B:=f a0.out a1.out
theorem zz41 {B A0:Prop} (a0:Aside0 A0) (f:A0→B:=by intro g0_;first|((repeat (first|(with_reducible first|exact g0_|refine blk_drewN ?_ _|refine blk_drew ?_|refine blk_alloc ?_ _|apply blk_put)|exact g0_));all_goals rfl;done)|(apply blk_put (i:=2);apply blk_put (i:=1);apply blk_put (i:=0);exact g0_;all_goals rfl)):B:=f a0.out
theorem zz42 {B A0 A1:Prop} (a0:Aside0 A0) (a1:Aside0 A1) (f:A0→A1→B:=by intro g0_ g1_;repeat (first|(with_reducible first|exact g0_|apply KeepBut.set_|apply keep_drewN|apply keep_drew|apply keep_alloc|refine keep_far ?_ g1_ _)|exact g0_)):B:=f a0.out a1.out
theorem zz43 {B A0:Prop} (a0:Aside0 A0) (f:A0→B:=by intro g0_;(with_reducible repeat (first|apply Kd.R_alloc|apply Kd.R_drewN|apply Kd.R_drew));exact Kd.R_mono g0_ (fun _ hk=>⟨hk.1.2,hk.2⟩)):B:=f a0.out
theorem zz47 {B A0:Prop} (a0:Aside0 A0) (f:A0→B:=by intro g0_;apply Kd.R_mono;(focus ((repeat (first|(with_reducible first|exact g0_|apply Kd.R_alloc|apply Kd.R_drewN|apply Kd.R_drew|apply Kd.R_far)|exact g0_));all_goals (intro _ hk_;first|exact hk_.2|exact hk_.1.2|exact hk_.1.1.2|exact hk_.1.1.1.2|exact hk_.1.1.1.1.2|exact hk_.1.1.1.1.1.2|exact hk_.1.1.1.1.1.1.2)));intro _ hk_;first|exact trivial|(repeat' (with_reducible apply And.intro)) <;> first|exact hk_|exact hk_.2|exact hk_.1.2|exact hk_.1.1.2|exact hk_.1.1.1.2|exact hk_.1.1.1.1.2|exact hk_.1.1.1.1.1.2|exact hk_.1.1.1.1.1.1.2|exact hk_.1|exact hk_.1.1|exact hk_.1.1.1|exact hk_.1.1.1.1|exact hk_.1.1.1.1.1|exact hk_.1.1.1.1.1.1|exact hk_.2.2|exact hk_.1.2.2|exact hk_.1.1.2.2|exact hk_.1.1.1.2.2|exact hk_.1.1.1.1.2.2|exact hk_.1.1.1.1.1.2.2|exact hk_.1.1.1.1.1.1.2.2|exact hk_.2.2.2|exact hk_.1.2.2.2|exact hk_.1.1.2.2.2|exact hk_.1.1.1.2.2.2|exact hk_.1.1.1.1.2.2.2|exact hk_.1.1.1.1.1.2.2.2|exact hk_.1.1.1.1.1.1.2.2.2|exact hk_.2.2.2.2|exact hk_.1.2.2.2.2|exact hk_.1.1.2.2.2.2|exact hk_.1.1.1.2.2.2.2|exact hk_.1.1.1.1.2.2.2.2|exact hk_.1.1.1.1.1.2.2.2.2|exact hk_.1.1.1.1.1.1.2.2.2.2|exact hk_.2.2.2.2.2|exact hk_.1.2.2.2.2.2|exact hk_.1.1.2.2.2.2.2|exact hk_.1.1.1.2.2.2.2.2|exact hk_.1.1.1.1.2.2.2.2.2|exact hk_.1.1.1.1.1.2.2.2.2.2|exact hk_.1.1.1.1.1.1.2.2.2.2.2|exact hk_.2.1|exact hk_.1.2.1|exact hk_.1.1.2.1|exact hk_.1.1.1.2.1|exact hk_.1.1.1.1.2.1|exact hk_.1.1.1.1.1.2.1|exact hk_.2.2.1|exact hk_.1.2.2.1|exact hk_.1.1.2.2.1|exact hk_.1.1.1.2.2.1|exact hk_.1.1.1.1.2.2.1|exact hk_.1.1.1.1.1.2.2.1|exact hk_.2.2.2.1|exact hk_.1.2.2.2.1|exact hk_.1.1.2.2.2.1|exact hk_.1.1.1.2.2.2.1|exact hk_.1.1.1.1.2.2.2.1|exact hk_.1.1.1.1.1.2.2.2.1|exact hk_.2.2.2.2.1|exact hk_.1.2.2.2.2.1|exact hk_.1.1.2.2.2.2.1|exact hk_.1.1.1.2.2.2.2.1|exact hk_.1.1.1.1.2.2.2.2.1|exact hk_.1.1.1.1.1.2.2.2.2.1|exact hk_.2.2.2.2.2.1|exact hk_.1.2.2.2.2.2.1|exact hk_.1.1.2.2.2.2.2.1|exact hk_.1.1.1.2.2.2.2.2.1|exact hk_.1.1.1.1.2.2.2.2.2.1|exact hk_.1.1.1.1.1.2.2.2.2.2.1):B:=f a0.out
theorem zz49 {B A0:Prop} (a0:Aside0 A0) (f:A0→B:=by intro g0_;(with_reducible repeat (first|apply Kd.S_alloc|apply Kd.S_drewN|apply Kd.S_drew));exact Kd.S_mono g0_ (fun k_ hk=>⟨⟨hk.1,⟨hk.2.2.1,hk.2.2.2.2⟩⟩,fun e_=>e_.elim (fun h_=>hk.2.2.2.1 h_) (fun h_=>hk.2.1 h_)⟩)):B:=f a0.out
theorem zz50 {B A0:Prop} (a0:Aside0 A0) (f:A0→B:=by intro g0_;(with_reducible repeat (first|apply Kd.S_alloc|apply Kd.S_drewN|apply Kd.S_drew));exact Kd.S_mono g0_ (fun _ hk=>trivial)):B:=f a0.out
theorem zz51 {B A0:Prop} (a0:Aside0 A0) (f:A0→B:=by intro g0_;(with_reducible repeat (first|apply Kd.S_alloc|apply Kd.S_drewN|apply Kd.S_drew));exact Kd.S_mono g0_ (fun k_ hk=>⟨⟨hk.1.1.1.2,hk.2⟩,fun e_=>e_.elim (fun h_=>hk.1.1.2 h_) (fun h_=>hk.1.2 h_)⟩)):B:=f a0.out
theorem zz52 {B A0:Prop} (a0:Aside0 A0) (f:A0→B:=by intro g0_;(with_reducible repeat (first|apply Kd.S_alloc|apply Kd.S_drewN|apply Kd.S_drew));exact Kd.S_mono g0_ (fun k_ hk=>⟨trivial,fun e_=>hk.2 e_⟩)):B:=f a0.out
theorem zz64 {B A0 A1 A2:Prop} (a0:Aside0 A0) (a1:Aside0 A1) (a2:Aside0 A2) (f:A0→A1→A2→B:=by intro g0_ g1_ g2_;have:=g0_;have:=g1_;have:=g2_;omega):B:=f a0.out a1.out a2.out
theorem zz65 {B A0:Prop} (a0:Aside0 A0) (f:A0→B:=by intro g0_;repeat (first|(with_reducible first|exact g0_|apply Kept.alloc|apply Kept.drewN|apply Kept.drew)|exact g0_)):B:=f a0.out
theorem zz70 {B A0:Prop} (a0:Aside0 A0) (f:A0→B:=by intro g0_;repeat (first|exact g0_|(with_reducible refine Kd.C_alloc ?_ _)|(with_reducible refine Kd.C_drewN ?_ _)|(with_reducible refine Kd.C_drew ?_))):B:=f a0.out
theorem zz73 {B A0 A1 A2:Prop} (a0:Aside0 A0) (a1:Aside0 A1) (a2:Aside0 A2) (f:A0→A1→A2→B:=by intro g0_ g1_ g2_;repeat (first|(with_reducible first|exact g0_|apply below_alloc|apply pw_below_drewN|apply below_drew1|refine below_set ?_ g1_|refine below_set ?_ g2_)|exact g0_)):B:=f a0.out a1.out a2.out
theorem zz94 {B A0:Prop} (a0:Aside0 A0) (f:A0→B:=by intro g0_;(with_reducible repeat (first|apply Kd.R_alloc|apply Kd.R_drewN|apply Kd.R_drew));exact Kd.R_mono g0_ (fun _ hk=>hk.2)):B:=f a0.out
theorem zz96 {B A0:Prop} (a0:Aside0 A0) (f:A0→B:=by intro g0_;(with_reducible repeat (first|apply Kd.R_alloc|apply Kd.R_drewN|apply Kd.R_drew));exact Kd.R_mono g0_ (fun _ hk=>⟨trivial,hk⟩)):B:=f a0.out
theorem zz97 {B A0:Prop} (a0:Aside0 A0) (f:A0→B:=by intro g0_;(with_reducible repeat (first|apply Kd.R_alloc|apply Kd.R_drewN|apply Kd.R_drew));exact Kd.R_mono g0_ (fun _ hk=>trivial)):B:=f a0.out
theorem zz98 {B A0 A1:Prop} (a0:Aside0 A0) (a1:Aside0 A1) (f:A0→A1→B:=by intro g0_ g1_;repeat (first|exact (Kd.C_below g0_ g1_)|(with_reducible refine Kd.C_alloc ?_ _)|(with_reducible refine Kd.C_drewN ?_ _)|(with_reducible refine Kd.C_drew ?_))):B:=f a0.out a1.out
theorem zz134 {B A0:Prop} (a0:Aside0 A0) (f:A0→B:=by intro g0_;first|((repeat (first|(with_reducible first|exact g0_|refine blk_drewN ?_ _|refine blk_drew ?_|refine blk_alloc ?_ _|apply blk_put)|exact g0_));all_goals rfl;done)|(apply blk_put (i:=1);exact g0_;all_goals rfl)):B:=f a0.out
theorem zz135 {B A0 A1:Prop} (a0:Aside0 A0) (a1:Aside0 A1) (f:A0→A1→B:=by intro g0_ g1_;(with_reducible repeat (first|apply Kd.R_alloc|apply Kd.R_drewN|apply Kd.R_drew));exact (Kd.R_mono (Kd.R_far (p:=⟨gb148,2,none⟩) (Kd.R_types g0_ g1_ (by decide)) (fun _ hk=>hk.2) (.bool true)) (fun _ h_=>h_.1))):B:=f a0.out a1.out
theorem zz136 {B A0:Prop} (a0:Aside0 A0) (f:A0→B:=by intro g0_;first|((repeat (first|(with_reducible first|exact g0_|refine blk_drewN ?_ _|refine blk_drew ?_|refine blk_alloc ?_ _|apply blk_put)|exact g0_));all_goals rfl;done)|(apply blk_put (i:=2);exact g0_;all_goals rfl)):B:=f a0.out
theorem zz137 {B A0 A1:Prop} (a0:Aside0 A0) (a1:Aside0 A1) (f:A0→A1→B:=by intro g0_ g1_;(with_reducible repeat (first|apply Kd.R_alloc|apply Kd.R_drewN|apply Kd.R_drew));exact (Kd.R_mono (Kd.R_far (p:=⟨gb148,3,none⟩) (Kd.R_types g0_ g1_ (by decide)) (fun _ hk=>hk.2) (.string t164)) (fun _ h_=>h_.1))):B:=f a0.out a1.out
theorem zz143 {B A0 A1:Prop} (a0:Aside0 A0) (a1:Aside0 A1) (f:A0→A1→B:=by intro g0_ g1_;first|(rw [add_block];exact Kd.own_blk (IsS68.own_ne g0_ g1_ (by decide)))|(show (Addr.add _ _).block≠_;rw [add_block];exact Kd.own_blk (IsS68.own_ne g0_ g1_ (by decide)))|exact Kd.own_blk (IsS68.own_ne g0_ g1_ (by decide))):B:=f a0.out a1.out
theorem zz144 {B:Prop} (f:B:=by first|(simp only [putAll,Act.put,List.setIfInBounds_toArray,List.set_cons_zero,List.set_cons_succ];done)|(simp only [putAll,Act.put,List.setIfInBounds_toArray,List.set_cons_zero,List.set_cons_succ];rfl)):B:=f
theorem zz145 {B A0:Prop} (a0:Aside0 A0) (f:A0→B:=by intro g0_;(with_reducible repeat (first|apply Kd.S_alloc|apply Kd.S_drewN|apply Kd.S_drew));exact Kd.S_mono g0_ (fun _ hk=>hk.2)):B:=f a0.out
theorem zz147 {B A0:Prop} (a0:Aside0 A0) (f:A0→B:=by intro g0_;repeat (first|exact (Kd.S_reads' g0_).2.2|(with_reducible refine Kd.C_alloc ?_ _)|(with_reducible refine Kd.C_drewN ?_ _)|(with_reducible refine Kd.C_drew ?_))):B:=f a0.out
theorem zz148 {B A0 A1:Prop} (a0:Aside0 A0) (a1:Aside0 A1) (f:A0→A1→B:=by intro g0_ g1_;first|exact Kd.own_blk (Kd.R_ne g0_ g1_ (by decide))|(rw [add_block];exact Kd.own_blk (Kd.R_ne g0_ g1_ (by decide)))|(show (Addr.add _ _).block≠_;rw [add_block];exact Kd.own_blk (Kd.R_ne g0_ g1_ (by decide)))|(dsimp only;exact Kd.own_blk (Kd.R_ne g0_ g1_ (by decide)))):B:=f a0.out a1.out
theorem zz150 {B A0 A1:Prop} (a0:Aside0 A0) (a1:Aside0 A1) (f:A0→A1→B:=by intro g0_ g1_;(with_reducible repeat (first|apply Kd.R_alloc|apply Kd.R_drewN|apply Kd.R_drew));exact (Kd.R_mono (Kd.R_far (p:=⟨gb350,3,none⟩) (Kd.R_far (p:=⟨gb350,2,none⟩) (Kd.R_far (p:=⟨gb350,1,none⟩) (Kd.R_far (p:=⟨gb350,0,none⟩) (Kd.R_types g0_ g1_ (by decide)) (fun _ hk=>hk.2) (.string (((⟨#[47,47]⟩:ByteArray)++(rdOf ByteArray.empty t333 x5_1))++(⟨#[47,110,111,116,105,99,101]⟩:ByteArray)))) (fun _ hk=>hk.2) (.string t343)) (fun _ hk=>hk.2) (.string (⟨#[]⟩:ByteArray))) (fun _ hk=>hk.2) (.int .i64 (rd y344 t347))) (fun _ h_=>h_.1))):B:=f a0.out a1.out
theorem zz153 {B A0 A1:Prop} (a0:Aside0 A0) (a1:Aside0 A1) (f:A0→A1→B:=by intro g0_ g1_;(with_reducible repeat (first|apply Kd.R_alloc|apply Kd.R_drewN|apply Kd.R_drew));exact (Kd.R_mono (Kd.R_far (p:=⟨gb350,1,none⟩) (Kd.R_types g0_ g1_ (by decide)) (fun _ hk=>hk.2) (.string (⟨#[]⟩:ByteArray))) (fun _ h_=>h_.1))):B:=f a0.out a1.out
theorem zz170 {B A0:Prop} (a0:Aside0 A0) (f:A0→B:=by intro g0_;(with_reducible repeat (first|apply Kd.R_alloc|apply Kd.R_drewN|apply Kd.R_drew));exact (Kd.R_mono (Kd.R_far (p:=⟨gb373,2,none⟩) (Kd.R_mono g0_ (fun k_ hk=>(⟨hk,hk.2⟩:_∧k_≠gb373))) (fun _ hk=>hk.2) (.string t376)) (fun _ h_=>h_.1))):B:=f a0.out
theorem zz176 {B A0 A1:Prop} (a0:Aside0 A0) (a1:Aside0 A1) (f:A0→A1→B:=by intro g0_ g1_;(repeat (first|(with_reducible first|exact g0_|refine blk_drewN ?_ _|refine blk_drew ?_|refine blk_alloc ?_ _|apply blk_put|apply blk_far)|exact g0_));all_goals first|rfl|exact g1_):B:=f a0.out a1.out
theorem zz179 {B A0 A1 A2:Prop} (a0:Aside0 A0) (a1:Aside0 A1) (a2:Aside0 A2) (f:A0→A1→A2→B:=by intro g0_ g1_ g2_;repeat (first|(with_reducible first|exact g0_|apply IsS68.alloc|apply IsS68.drewN|apply IsS68.drew|apply IsS68.set_1|refine IsS68.far ?_ g1_ _|refine IsS68.far ?_ g2_ _)|exact g0_)):B:=f a0.out a1.out a2.out
theorem zz181 {B A0 A1 A2:Prop} (a0:Aside0 A0) (a1:Aside0 A1) (a2:Aside0 A2) (f:A0→A1→A2→B:=by intro g0_ g1_ g2_;repeat (first|(with_reducible first|exact g0_|apply KeepBut.set_|apply keep_drewN|apply keep_drew|apply keep_alloc|refine keep_far ?_ g1_ _|refine keep_far ?_ g2_ _)|exact g0_)):B:=f a0.out a1.out a2.out
theorem zz183 {B A0 A1 A2 A3:Prop} (a0:Aside0 A0) (a1:Aside0 A1) (a2:Aside0 A2) (a3:Aside0 A3) (f:A0→A1→A2→A3→B:=by intro g0_ g1_ g2_ g3_;repeat (first|(with_reducible first|exact g0_|apply below_alloc|apply pw_below_drewN|apply below_drew1|refine below_set ?_ (IsS68.ge g1_)|refine below_set ?_ g2_|refine below_set ?_ g3_)|exact g0_)):B:=f a0.out a1.out a2.out a3.out
theorem zz200 {B A0:Prop} (a0:Aside0 A0) (f:A0→B:=by intro g0_;(with_reducible repeat (first|apply Kd.R_alloc|apply Kd.R_drewN|apply Kd.R_drew));exact Kd.R_mono g0_ (fun _ hk=>⟨hk.2,hk.1⟩)):B:=f a0.out
theorem zz201 {B A0 A1 A2 A3:Prop} (a0:Aside0 A0) (a1:Aside0 A1) (a2:Aside0 A2) (a3:Aside0 A3) (f:A0→A1→A2→A3→B:=by intro g0_ g1_ g2_ g3_;repeat (first|(with_reducible first|exact g0_|apply below_alloc|apply pw_below_drewN|apply below_drew1|refine below_set ?_ g1_|refine below_set ?_ g2_|refine below_set ?_ g3_)|exact g0_)):B:=f a0.out a1.out a2.out a3.out
theorem zz202 {B:Prop} (f:B:=by simp [intOf];omega):B:=f
theorem zz208 {B:Prop} (f:B:=by first|rfl|(simp [errW_none,errW_some] <;> rfl)|(simp only [← hji4,← hji9];first|rfl|(simp [errW_none,errW_some] <;> rfl))|(simp [*,errW_none,errW_some] <;> rfl)):B:=f
theorem zz221 {B A0:Prop} (a0:Aside0 A0) (f:A0→B:=by intro g0_;first|(with_reducible exact g0_)|((with_reducible repeat (first|apply Kd.V_alloc|apply Kd.V_drewN|apply Kd.V_drew));exact g0_)):B:=f a0.out
theorem zz222 {B A0:Prop} (a0:Aside0 A0) (f:A0→B:=by intro g0_;repeat (first|exact (Kd.V_reads' g0_).2.2|(with_reducible refine Kd.C_alloc ?_ _)|(with_reducible refine Kd.C_drewN ?_ _)|(with_reducible refine Kd.C_drew ?_))):B:=f a0.out
theorem zz231 {B A0:Prop} (a0:Aside0 A0) (f:A0→B:=by intro g0_;(with_reducible repeat (first|apply Kd.R_alloc|apply Kd.R_drewN|apply Kd.R_drew));exact Kd.R_mono g0_ (fun _ hk=>hk.1)):B:=f a0.out
theorem zz235 {B A0:Prop} (a0:Aside0 A0) (f:A0→B:=by intro g0_;(with_reducible repeat (first|apply Kd.R_alloc|apply Kd.R_drewN|apply Kd.R_drew));exact Kd.R_mono g0_ (fun _ hk=>⟨hk.1.1,hk.2⟩)):B:=f a0.out
theorem zz238 {B A0:Prop} (a0:Aside0 A0) (f:A0→B:=by intro g0_;(with_reducible repeat (first|apply Kd.R_alloc|apply Kd.R_drewN|apply Kd.R_drew));exact Kd.R_mono g0_ (fun _ hk=>⟨hk.1.1.1,⟨hk.2,hk.1.2⟩⟩)):B:=f a0.out
theorem zz239 {B A0:Prop} (a0:Aside0 A0) (f:A0→B:=by intro g0_;(with_reducible repeat (first|apply Kd.R_alloc|apply Kd.R_drewN|apply Kd.R_drew));exact Kd.R_mono g0_ (fun _ hk=>⟨hk.1.1,⟨hk.2,hk.1.2⟩⟩)):B:=f a0.out
theorem zz243 {B A0:Prop} (a0:Aside0 A0) (f:A0→B:=by intro g0_;(with_reducible repeat (first|apply Kd.R_alloc|apply Kd.R_drewN|apply Kd.R_drew));exact Kd.R_mono g0_ (fun _ hk=>⟨hk.1,hk.2.1⟩)):B:=f a0.out
theorem zz254 {B A0 A1:Prop} (a0:Aside0 A0) (a1:Aside0 A1) (f:A0→A1→B:=by intro g0_ g1_;(with_reducible repeat (first|apply Kd.R_alloc|apply Kd.R_drewN|apply Kd.R_drew));exact (Kd.R_mono (Kd.R_far (p:=⟨gb650,3,none⟩) (Kd.R_far (p:=⟨gb650,2,none⟩) (Kd.R_far (p:=⟨gb650,1,none⟩) (Kd.R_far (p:=⟨gb650,0,none⟩) (Kd.R_types g0_ g1_ (by decide)) (fun _ hk=>hk.2) (.string a0)) (fun _ hk=>hk.2) (.slice Ao31 t647.length co31)) (fun _ hk=>hk.2) (.bool t632)) (fun _ hk=>hk.2) (.string t633)) (fun _ h_=>h_.1))):B:=f a0.out a1.out
theorem zz256 {B:Prop} (f:B:=by (try simp only [List.map_toArray,List.map_cons,List.map_nil]);first|done|rfl|(simp only [List.length_drop,List.length_take];rfl)|(simp <;> repeat' (first|rfl|constructor))):B:=f
theorem zz262 {B:Prop} (f:B:=by rw [← hq_];exact (zz15 BK749)):B:=f
theorem zz263 {B:Prop} (f:B:=by rw [← hq_];exact (zz15 BK750)):B:=f
theorem zz264 {B:Prop} (f:B:=by rw [← hq_];exact (zz73 HB GE749 GE750)):B:=f
theorem zz288 {B:Prop} (f:B:=by show B+4≠B+2;omega):B:=f
theorem zz312 {B A0:Prop} (a0:Aside0 A0) (f:A0→B:=by intro g0_;(with_reducible repeat (first|apply Kd.V_alloc|apply Kd.V_drewN|apply Kd.V_drew));exact Kd.V_mono g0_ (fun _ hk=>⟨hk.1,⟨hk.2.2.1,hk.2.2.2.1⟩⟩)):B:=f a0.out
theorem zz313 {B A0:Prop} (a0:Aside0 A0) (f:A0→B:=by intro g0_;(with_reducible repeat (first|apply Kd.V_alloc|apply Kd.V_drewN|apply Kd.V_drew));exact Kd.V_mono g0_ (fun _ hk=>⟨hk.1.1,⟨hk.1.2,hk.2⟩⟩)):B:=f a0.out
theorem zz316 {B A0:Prop} (a0:Aside0 A0) (f:A0→B:=by intro g0_;(with_reducible repeat (first|apply Kd.V_alloc|apply Kd.V_drewN|apply Kd.V_drew));exact Kd.V_mono g0_ (fun _ hk=>⟨hk.1.1,⟨(by simp [Value.ownBlock]),⟨hk.2,⟨hk.1.2.1,hk.1.2.2⟩⟩⟩⟩)):B:=f a0.out
theorem zz320 {B A0:Prop} (a0:Aside0 A0) (f:A0→B:=by intro g0_;(with_reducible repeat (first|apply Kd.V_alloc|apply Kd.V_drewN|apply Kd.V_drew));exact Kd.V_mono (Kd.V_far (p:=⟨gb823,3,none⟩) (Kd.V_far (p:=⟨gb823,2,none⟩) (Kd.V_far (p:=⟨gb823,1,none⟩) (Kd.V_far (p:=⟨gb823,0,none⟩) (Kd.V_mono g0_ (fun k_ hk=>(⟨hk,hk.2⟩:_∧k_≠gb823))) (fun _ hk=>hk.2) (.string t816)) (fun _ hk=>hk.2) (.slice Ao50 t817.length co50)) (fun _ hk=>hk.2) (.bool t820)) (fun _ hk=>hk.2) (.string t821)) (fun _ hk=>⟨hk.1.1.1.1,⟨hk.1.1.1.2.1,⟨hk.1.1.1.2.2.1,⟨hk.1.1.2,⟨hk.1.1.1.2.2.2.1,⟨hk.1.1.1.2.2.2.2,hk.1.2⟩⟩⟩⟩⟩⟩)):B:=f a0.out
theorem zz328 {B A0:Prop} (a0:Aside0 A0) (f:A0→B:=by intro g0_;(with_reducible repeat (first|apply Kd.V_alloc|apply Kd.V_drewN|apply Kd.V_drew));exact Kd.V_mono g0_ (fun _ hk=>⟨hk.1,⟨hk.2.1,⟨hk.2.2.1,⟨hk.2.2.2.2.1,hk.2.2.2.2.2.1⟩⟩⟩⟩)):B:=f a0.out
theorem zz329 {B A0:Prop} (a0:Aside0 A0) (f:A0→B:=by intro g0_;(with_reducible repeat (first|apply Kd.R_alloc|apply Kd.R_drewN|apply Kd.R_drew));exact Kd.R_mono g0_ (fun _ hk=>⟨⟨hk.1,hk.2.2⟩,hk.2.1⟩)):B:=f a0.out
theorem zz330 {B A0:Prop} (a0:Aside0 A0) (f:A0→B:=by intro g0_;(with_reducible repeat (first|apply Kd.V_alloc|apply Kd.V_drewN|apply Kd.V_drew));exact Kd.V_mono g0_ (fun _ hk=>⟨⟨hk.1,⟨hk.2.2.1,⟨hk.2.2.2.1,⟨hk.2.2.2.2.1,⟨hk.2.2.2.2.2.1,hk.2.2.2.2.2.2⟩⟩⟩⟩⟩,hk.2.1⟩)):B:=f a0.out
theorem zz331 {B A0:Prop} (a0:Aside0 A0) (f:A0→B:=by intro g0_;(with_reducible repeat (first|apply Kd.V_alloc|apply Kd.V_drewN|apply Kd.V_drew));exact Kd.V_mono g0_ (fun _ hk=>⟨hk.1.1,⟨hk.2,⟨hk.1.2.1,⟨hk.1.2.2.2.1,hk.1.2.2.2.2.1⟩⟩⟩⟩)):B:=f a0.out
end Go.Proofs.YtpomhjkbgbociaaGreatDoor.P
end
section
namespace Go.Proofs
open Go.Shelf
def Tryz.lays156_ren:Go.Shelf.Ren:=⟨fun|156=>92|165=>113|166=>114|169=>115|240=>128|241=>129|276=>136|277=>137|n=>n,fun|31=>35|9=>9|3=>3|4=>4|0=>0|20=>20|72=>121|76=>125|70=>119|37=>22|75=>124|127=>135|164=>140|5=>5|80=>127|n=>n,fun|n=>n⟩
theorem Tryz.lays156:Go.Proofs.Lays.n156 Tryz.prog Tryz.lays156_ren:={
 mixed:=by kernel_rfl
 f156:=Tryz.func92.trans (congrArg some (by kernel_rfl))
 f165:=Tryz.func113.trans (congrArg some (by kernel_rfl))
 f166:=Tryz.func114.trans (congrArg some (by kernel_rfl))
 f169:=Tryz.func115.trans (congrArg some (by kernel_rfl))
 f240:=Tryz.func128.trans (congrArg some (by kernel_rfl))
 f241:=Tryz.func129.trans (congrArg some (by kernel_rfl))
 f276:=Tryz.func136.trans (congrArg some (by kernel_rfl))
 f277:=Tryz.func137.trans (congrArg some (by kernel_rfl))
 t0:=Tryz.underlying0
 a0:=Tryz.isAgg0
 z0:=Tryz.sizeOf0
 v0:=Tryz.zeroValue0
 t3:=Tryz.underlying3
 a3:=Tryz.isAgg3
 z3:=Tryz.sizeOf3
 v3:=Tryz.zeroValue3
 t4:=Tryz.underlying4
 a4:=Tryz.isAgg4
 z4:=Tryz.sizeOf4
 v4:=Tryz.zeroValue4
 t9:=Tryz.underlying9
 a9:=Tryz.isAgg9
 z9:=Tryz.sizeOf9
 v9:=Tryz.zeroValue9
 t20:=Tryz.underlying20
 a20:=Tryz.isAgg20
 z20:=Tryz.sizeOf20
 v20:=Tryz.zeroValue20
 t31:=Tryz.underlying35
 a31:=Tryz.isAgg35
 z31:=Tryz.sizeOf35
 v31:=Tryz.zeroValue35
 t37:=Tryz.underlying22
 a37:=Tryz.isAgg22
 z37:=Tryz.sizeOf22
 v37:=Tryz.zeroValue22
 t70:=Tryz.underlying119
 a70:=Tryz.isAgg119
 z70:=Tryz.sizeOf119
 v70:=Tryz.zeroValue119
 t72:=Tryz.underlying121
 a72:=Tryz.isAgg121
 z72:=Tryz.sizeOf121
 v72:=Tryz.zeroValue121
 t75:=Tryz.underlying124
 a75:=Tryz.isAgg124
 z75:=Tryz.sizeOf124
 v75:=Tryz.zeroValue124
 t76:=Tryz.underlying125
 a76:=Tryz.isAgg125
 z76:=Tryz.sizeOf125
 v76:=Tryz.zeroValue125
 t127:=Tryz.underlying135
 a127:=Tryz.isAgg135
 z127:=Tryz.sizeOf135
 v127:=Tryz.zeroValue135
 t164:=Tryz.underlying140
 a164:=Tryz.isAgg140
 z164:=Tryz.sizeOf140
 v164:=Tryz.zeroValue140 }
theorem Tryz.Builder_Extra_156:Builder.Extra Tryz.prog Tryz.lays156_ren:={
 sizeBuilder:=by kernel_rfl
 liesBuilder:=by kernel_rfl
 t5:=Tryz.underlying5
 a5:=Tryz.isAgg5
 z5:=Tryz.sizeOf5
 v5:=Tryz.zeroValue5
 infoByte:=by kernel_rfl
 cellsByte:=by kernel_rfl
 sizeByte:=by kernel_rfl
 neB5:=by decide }
open Go.RowKit in
theorem Tryz.strings_Join_none (a:Option Addr) (c:Nat) (sep:ByteArray) (w:World) :
  Calls Tryz.prog 92 #[.slice a 0 c,.string sep] w fun e w'=>e=.returned (.string ⟨#[]⟩)∧w'=w:=Any.strings_Join_none Tryz.lays156 Tryz.Builder_Extra_156 a c sep w
open Go.RowKit in
theorem Tryz.strings_Join (bk o c:Nat) (xs:List ByteArray) (sep:ByteArray) (w:World) (hcells:∀ (j:Nat) x,xs[j]?=some x→w.cell? ⟨bk,o+j,none⟩=some (.string x)) (hbk:bk < w.heap.size) (hN:xs.length≤140737488355328) (hcap:xs.length≤c) (hlen:(Lib.join (xs.map (·.data.toList)) sep.data.toList).length≤140737488355328) :
  Calls Tryz.prog 92 #[.slice (some ⟨bk,o,none⟩) xs.length c,.string sep] w fun e w'=>e=.returned (.string ⟨(Lib.join (xs.map (·.data.toList)) sep.data.toList).toArray⟩)∧Below w.heap.size w w':=Any.strings_Join Tryz.lays156 Tryz.Builder_Extra_156 bk o c xs sep w hcells hbk hN hcap hlen
def Tryz.lays119_ren:Go.Shelf.Ren:=⟨fun|119=>109|n=>n,fun|21=>21|4=>4|n=>n,fun|n=>n⟩
theorem Tryz.lays119:Go.Proofs.Lays.n119 Tryz.prog Tryz.lays119_ren:={
 mixed:=by kernel_rfl
 f119:=Tryz.func109.trans (congrArg some (by kernel_rfl))
 t4:=Tryz.underlying4
 a4:=Tryz.isAgg4
 z4:=Tryz.sizeOf4
 v4:=Tryz.zeroValue4
 t21:=Tryz.underlying21
 a21:=Tryz.isAgg21
 z21:=Tryz.sizeOf21
 v21:=Tryz.zeroValue21 }
theorem Tryz.utf8_ValidRune (r:Int) (w:World) :
  Calls Tryz.prog 109 #[.int .i32 r] w fun e w'=>e=.returned (.bool (Lib.validRune r))∧w'=w:=Any.utf8_ValidRune Tryz.lays119 r w
def Tryz.lays137_ren:Go.Shelf.Ren:=⟨fun|137=>108|217=>104|266=>122|n=>n,fun|9=>9|5=>5|3=>3|n=>n,fun|n=>n⟩
theorem Tryz.lays137:Go.Proofs.Lays.n137 Tryz.prog Tryz.lays137_ren:={
 mixed:=by kernel_rfl
 f137:=Tryz.func108.trans (congrArg some (by kernel_rfl))
 f217:=Tryz.func104.trans (congrArg some (by kernel_rfl))
 f266:=Tryz.func122.trans (congrArg some (by kernel_rfl))
 t3:=Tryz.underlying3
 a3:=Tryz.isAgg3
 z3:=Tryz.sizeOf3
 v3:=Tryz.zeroValue3
 t5:=Tryz.underlying5
 a5:=Tryz.isAgg5
 z5:=Tryz.sizeOf5
 v5:=Tryz.zeroValue5
 t9:=Tryz.underlying9
 a9:=Tryz.isAgg9
 z9:=Tryz.sizeOf9
 v9:=Tryz.zeroValue9 }
open Go.RowKit in
theorem Tryz.strings_IndexByte (s:ByteArray) (c:Int) (w:World) :
  Calls Tryz.prog 108 #[.string s,.int .u8 c] w fun e w'=>e=.returned (.int .i64 (Lib.indexByte s.data.toList c.toNat.toUInt8))∧w'=w:=Any.strings_IndexByte Tryz.lays137 s c w
def Tryz.lays210_ren:Go.Shelf.Ren:=⟨fun|210=>79|206=>91|n=>n,fun|9=>9|4=>4|3=>3|n=>n,fun|n=>n⟩
theorem Tryz.lays210:Go.Proofs.Lays.n210 Tryz.prog Tryz.lays210_ren:={
 mixed:=by kernel_rfl
 f206:=Tryz.func91.trans (congrArg some (by kernel_rfl))
 f210:=Tryz.func79.trans (congrArg some (by kernel_rfl))
 t3:=Tryz.underlying3
 a3:=Tryz.isAgg3
 z3:=Tryz.sizeOf3
 v3:=Tryz.zeroValue3
 t4:=Tryz.underlying4
 a4:=Tryz.isAgg4
 z4:=Tryz.sizeOf4
 v4:=Tryz.zeroValue4
 t9:=Tryz.underlying9
 a9:=Tryz.isAgg9
 z9:=Tryz.sizeOf9
 v9:=Tryz.zeroValue9 }
open Go.RowKit in
theorem Tryz.stringslite_CutPrefix (s p:ByteArray) (w:World) :
  Calls Tryz.prog 79 #[.string s,.string p] w fun e w'=>e=.returned (.tuple #[.string ⟨(Lib.trimPrefix s.data.toList p.data.toList).toArray⟩,.bool (Lib.hasPrefix s.data.toList p.data.toList)])∧w'=w:=Any.stringslite_CutPrefix Tryz.lays210 s p w
def Tryz.lays103_ren:Go.Shelf.Ren:=⟨fun|103=>53|210=>79|206=>91|n=>n,fun|9=>9|4=>4|24=>63|3=>3|n=>n,fun|n=>n⟩
theorem Tryz.lays103:Go.Proofs.Lays.n103 Tryz.prog Tryz.lays103_ren:={
 mixed:=by kernel_rfl
 f103:=Tryz.func53.trans (congrArg some (by kernel_rfl))
 f206:=Tryz.func91.trans (congrArg some (by kernel_rfl))
 f210:=Tryz.func79.trans (congrArg some (by kernel_rfl))
 t3:=Tryz.underlying3
 a3:=Tryz.isAgg3
 z3:=Tryz.sizeOf3
 v3:=Tryz.zeroValue3
 t4:=Tryz.underlying4
 a4:=Tryz.isAgg4
 z4:=Tryz.sizeOf4
 v4:=Tryz.zeroValue4
 t9:=Tryz.underlying9
 a9:=Tryz.isAgg9
 z9:=Tryz.sizeOf9
 v9:=Tryz.zeroValue9
 t24:=Tryz.underlying63
 a24:=Tryz.isAgg63
 z24:=Tryz.sizeOf63
 v24:=Tryz.zeroValue63 }
open Go.RowKit in
theorem Tryz.strings_CutPrefix (s p:ByteArray) (w:World) :
  Calls Tryz.prog 53 #[.string s,.string p] w fun e w'=>e=.returned (.tuple #[.string ⟨(Lib.trimPrefix s.data.toList p.data.toList).toArray⟩,.bool (Lib.hasPrefix s.data.toList p.data.toList)])∧w'=w:=Any.strings_CutPrefix Tryz.lays103 s p w
def Tryz.lays219_ren:Go.Shelf.Ren:=⟨fun|219=>78|217=>104|225=>105|224=>106|267=>107|266=>122|314=>123|n=>n,fun|9=>9|3=>3|4=>4|5=>5|46=>113|146=>130|51=>129|n=>n,fun|1=>0|n=>n⟩
theorem Tryz.lays219:Go.Proofs.Lays.n219 Tryz.prog Tryz.lays219_ren:={
 mixed:=by kernel_rfl
 f217:=Tryz.func104.trans (congrArg some (by kernel_rfl))
 f219:=Tryz.func78.trans (congrArg some (by kernel_rfl))
 f224:=Tryz.func106.trans (congrArg some (by kernel_rfl))
 f225:=Tryz.func105.trans (congrArg some (by kernel_rfl))
 f266:=Tryz.func122.trans (congrArg some (by kernel_rfl))
 f267:=Tryz.func107.trans (congrArg some (by kernel_rfl))
 f314:=Tryz.func123.trans (congrArg some (by kernel_rfl))
 t3:=Tryz.underlying3
 a3:=Tryz.isAgg3
 z3:=Tryz.sizeOf3
 v3:=Tryz.zeroValue3
 t4:=Tryz.underlying4
 a4:=Tryz.isAgg4
 z4:=Tryz.sizeOf4
 v4:=Tryz.zeroValue4
 t5:=Tryz.underlying5
 a5:=Tryz.isAgg5
 z5:=Tryz.sizeOf5
 v5:=Tryz.zeroValue5
 t9:=Tryz.underlying9
 a9:=Tryz.isAgg9
 z9:=Tryz.sizeOf9
 v9:=Tryz.zeroValue9
 t46:=Tryz.underlying113
 a46:=Tryz.isAgg113
 z46:=Tryz.sizeOf113
 v46:=Tryz.zeroValue113
 t51:=Tryz.underlying129
 a51:=Tryz.isAgg129
 z51:=Tryz.sizeOf129
 v51:=Tryz.zeroValue129
 t146:=Tryz.underlying130
 a146:=Tryz.isAgg130
 z146:=Tryz.sizeOf130
 v146:=Tryz.zeroValue130
 g1:=by kernel_rfl }
open Go.RowKit Go.Lib in
theorem Tryz.stringslite_Index_one (s:ByteArray) (c:UInt8) (w:World) :
  Calls Tryz.prog 78 #[.string s,.string ⟨#[c]⟩] w fun e w'=>e=.returned (.int .i64 (Lib.indexByte s.data.toList c))∧w'=w:=Any.stringslite_Index_one Tryz.lays219 s c w
open Go.RowKit Go.Lib in
theorem Tryz.stringslite_Index (s sub:ByteArray) (m:Int) (w:World) (hs:s.size < 4294967281) (hm:w.cell? ⟨0,0,none⟩=some (.int .i64 m)) :
  Calls Tryz.prog 78 #[.string s,.string sub] w fun e w'=>e=.returned (.int .i64 (Lib.index s.data.toList sub.data.toList))∧w'=w:=Any.stringslite_Index Tryz.lays219 s sub m w hs hm
def Tryz.lays143_ren:Go.Shelf.Ren:=⟨fun|143=>127|219=>78|217=>104|225=>105|224=>106|267=>107|266=>122|314=>123|n=>n,fun|9=>9|3=>3|4=>4|5=>5|46=>113|146=>130|51=>129|n=>n,fun|1=>0|n=>n⟩
theorem Tryz.lays143:Go.Proofs.Lays.n143 Tryz.prog Tryz.lays143_ren:={
 mixed:=by kernel_rfl
 f143:=Tryz.func127.trans (congrArg some (by kernel_rfl))
 f217:=Tryz.func104.trans (congrArg some (by kernel_rfl))
 f219:=Tryz.func78.trans (congrArg some (by kernel_rfl))
 f224:=Tryz.func106.trans (congrArg some (by kernel_rfl))
 f225:=Tryz.func105.trans (congrArg some (by kernel_rfl))
 f266:=Tryz.func122.trans (congrArg some (by kernel_rfl))
 f267:=Tryz.func107.trans (congrArg some (by kernel_rfl))
 f314:=Tryz.func123.trans (congrArg some (by kernel_rfl))
 t3:=Tryz.underlying3
 a3:=Tryz.isAgg3
 z3:=Tryz.sizeOf3
 v3:=Tryz.zeroValue3
 t4:=Tryz.underlying4
 a4:=Tryz.isAgg4
 z4:=Tryz.sizeOf4
 v4:=Tryz.zeroValue4
 t5:=Tryz.underlying5
 a5:=Tryz.isAgg5
 z5:=Tryz.sizeOf5
 v5:=Tryz.zeroValue5
 t9:=Tryz.underlying9
 a9:=Tryz.isAgg9
 z9:=Tryz.sizeOf9
 v9:=Tryz.zeroValue9
 t46:=Tryz.underlying113
 a46:=Tryz.isAgg113
 z46:=Tryz.sizeOf113
 v46:=Tryz.zeroValue113
 t51:=Tryz.underlying129
 a51:=Tryz.isAgg129
 z51:=Tryz.sizeOf129
 v51:=Tryz.zeroValue129
 t146:=Tryz.underlying130
 a146:=Tryz.isAgg130
 z146:=Tryz.sizeOf130
 v146:=Tryz.zeroValue130
 g1:=by kernel_rfl }
open Go.RowKit Go.Lib in
theorem Tryz.strings_Index (s sub:ByteArray) (m:Int) (w:World) (hs:s.size < 4294967281) (hm:w.cell? ⟨0,0,none⟩=some (.int .i64 m)) :
  Calls Tryz.prog 127 #[.string s,.string sub] w fun e w'=>e=.returned (.int .i64 (Lib.index s.data.toList sub.data.toList))∧w'=w:=Any.strings_Index Tryz.lays143 s sub m w hs hm
def Tryz.lays220_ren:Go.Shelf.Ren:=⟨fun|220=>52|219=>78|217=>104|225=>105|224=>106|267=>107|266=>122|314=>123|n=>n,fun|9=>9|4=>4|3=>3|5=>5|46=>113|146=>130|51=>129|n=>n,fun|1=>0|n=>n⟩
theorem Tryz.lays220:Go.Proofs.Lays.n220 Tryz.prog Tryz.lays220_ren:={
 mixed:=by kernel_rfl
 f217:=Tryz.func104.trans (congrArg some (by kernel_rfl))
 f219:=Tryz.func78.trans (congrArg some (by kernel_rfl))
 f220:=Tryz.func52.trans (congrArg some (by kernel_rfl))
 f224:=Tryz.func106.trans (congrArg some (by kernel_rfl))
 f225:=Tryz.func105.trans (congrArg some (by kernel_rfl))
 f266:=Tryz.func122.trans (congrArg some (by kernel_rfl))
 f267:=Tryz.func107.trans (congrArg some (by kernel_rfl))
 f314:=Tryz.func123.trans (congrArg some (by kernel_rfl))
 t3:=Tryz.underlying3
 a3:=Tryz.isAgg3
 z3:=Tryz.sizeOf3
 v3:=Tryz.zeroValue3
 t4:=Tryz.underlying4
 a4:=Tryz.isAgg4
 z4:=Tryz.sizeOf4
 v4:=Tryz.zeroValue4
 t5:=Tryz.underlying5
 a5:=Tryz.isAgg5
 z5:=Tryz.sizeOf5
 v5:=Tryz.zeroValue5
 t9:=Tryz.underlying9
 a9:=Tryz.isAgg9
 z9:=Tryz.sizeOf9
 v9:=Tryz.zeroValue9
 t46:=Tryz.underlying113
 a46:=Tryz.isAgg113
 z46:=Tryz.sizeOf113
 v46:=Tryz.zeroValue113
 t51:=Tryz.underlying129
 a51:=Tryz.isAgg129
 z51:=Tryz.sizeOf129
 v51:=Tryz.zeroValue129
 t146:=Tryz.underlying130
 a146:=Tryz.isAgg130
 z146:=Tryz.sizeOf130
 v146:=Tryz.zeroValue130
 g1:=by kernel_rfl }
open Go.RowKit Go.Lib in
theorem Tryz.stringslite_Cut (s sep:ByteArray) (m:Int) (w:World) (hs:s.size < 4294967281) (hm:w.cell? ⟨0,0,none⟩=some (.int .i64 m)) :
  Calls Tryz.prog 52 #[.string s,.string sep] w fun e w'=>e=.returned (.tuple #[.string ⟨(Lib.cut s.data.toList sep.data.toList).1.toArray⟩,.string ⟨(Lib.cut s.data.toList sep.data.toList).2.1.toArray⟩,.bool (Lib.cut s.data.toList sep.data.toList).2.2])∧∃ n,w'=w.drewN n:=Any.stringslite_Cut Tryz.lays220 s sep m w hs hm
def Tryz.lays145_ren:Go.Shelf.Ren:=⟨fun|145=>31|220=>52|219=>78|217=>104|225=>105|224=>106|267=>107|266=>122|314=>123|n=>n,fun|9=>9|4=>4|59=>60|3=>3|5=>5|46=>113|146=>130|51=>129|n=>n,fun|1=>0|n=>n⟩
theorem Tryz.lays145:Go.Proofs.Lays.n145 Tryz.prog Tryz.lays145_ren:={
 mixed:=by kernel_rfl
 f145:=Tryz.func31.trans (congrArg some (by kernel_rfl))
 f217:=Tryz.func104.trans (congrArg some (by kernel_rfl))
 f219:=Tryz.func78.trans (congrArg some (by kernel_rfl))
 f220:=Tryz.func52.trans (congrArg some (by kernel_rfl))
 f224:=Tryz.func106.trans (congrArg some (by kernel_rfl))
 f225:=Tryz.func105.trans (congrArg some (by kernel_rfl))
 f266:=Tryz.func122.trans (congrArg some (by kernel_rfl))
 f267:=Tryz.func107.trans (congrArg some (by kernel_rfl))
 f314:=Tryz.func123.trans (congrArg some (by kernel_rfl))
 t3:=Tryz.underlying3
 a3:=Tryz.isAgg3
 z3:=Tryz.sizeOf3
 v3:=Tryz.zeroValue3
 t4:=Tryz.underlying4
 a4:=Tryz.isAgg4
 z4:=Tryz.sizeOf4
 v4:=Tryz.zeroValue4
 t5:=Tryz.underlying5
 a5:=Tryz.isAgg5
 z5:=Tryz.sizeOf5
 v5:=Tryz.zeroValue5
 t9:=Tryz.underlying9
 a9:=Tryz.isAgg9
 z9:=Tryz.sizeOf9
 v9:=Tryz.zeroValue9
 t46:=Tryz.underlying113
 a46:=Tryz.isAgg113
 z46:=Tryz.sizeOf113
 v46:=Tryz.zeroValue113
 t51:=Tryz.underlying129
 a51:=Tryz.isAgg129
 z51:=Tryz.sizeOf129
 v51:=Tryz.zeroValue129
 t59:=Tryz.underlying60
 a59:=Tryz.isAgg60
 z59:=Tryz.sizeOf60
 v59:=Tryz.zeroValue60
 t146:=Tryz.underlying130
 a146:=Tryz.isAgg130
 z146:=Tryz.sizeOf130
 v146:=Tryz.zeroValue130
 g1:=by kernel_rfl }
open Go.RowKit Go.Lib in
theorem Tryz.strings_Cut (s sep:ByteArray) (m:Int) (w:World) (hs:s.size < 4294967281) (hm:w.cell? ⟨0,0,none⟩=some (.int .i64 m)) :
  Calls Tryz.prog 31 #[.string s,.string sep] w fun e w'=>e=.returned (.tuple #[.string ⟨(Lib.cut s.data.toList sep.data.toList).1.toArray⟩,.string ⟨(Lib.cut s.data.toList sep.data.toList).2.1.toArray⟩,.bool (Lib.cut s.data.toList sep.data.toList).2.2])∧∃ n,w'=w.drewN n:=Any.strings_Cut Tryz.lays145 s sep m w hs hm
def Tryz.lays138_ren:Go.Shelf.Ren:=⟨fun|138=>126|195=>133|218=>135|143=>127|219=>78|217=>104|225=>105|224=>106|267=>107|266=>122|314=>123|n=>n,fun|9=>9|3=>3|4=>4|5=>5|0=>0|46=>113|146=>130|51=>129|n=>n,fun|1=>0|n=>n⟩
theorem Tryz.lays138:Go.Proofs.Lays.n138 Tryz.prog Tryz.lays138_ren:={
 mixed:=by kernel_rfl
 f138:=Tryz.func126.trans (congrArg some (by kernel_rfl))
 f143:=Tryz.func127.trans (congrArg some (by kernel_rfl))
 f195:=Tryz.func133.trans (congrArg some (by kernel_rfl))
 f217:=Tryz.func104.trans (congrArg some (by kernel_rfl))
 f218:=Tryz.func135.trans (congrArg some (by kernel_rfl))
 f219:=Tryz.func78.trans (congrArg some (by kernel_rfl))
 f224:=Tryz.func106.trans (congrArg some (by kernel_rfl))
 f225:=Tryz.func105.trans (congrArg some (by kernel_rfl))
 f266:=Tryz.func122.trans (congrArg some (by kernel_rfl))
 f267:=Tryz.func107.trans (congrArg some (by kernel_rfl))
 f314:=Tryz.func123.trans (congrArg some (by kernel_rfl))
 t0:=Tryz.underlying0
 a0:=Tryz.isAgg0
 z0:=Tryz.sizeOf0
 v0:=Tryz.zeroValue0
 t3:=Tryz.underlying3
 a3:=Tryz.isAgg3
 z3:=Tryz.sizeOf3
 v3:=Tryz.zeroValue3
 t4:=Tryz.underlying4
 a4:=Tryz.isAgg4
 z4:=Tryz.sizeOf4
 v4:=Tryz.zeroValue4
 t5:=Tryz.underlying5
 a5:=Tryz.isAgg5
 z5:=Tryz.sizeOf5
 v5:=Tryz.zeroValue5
 t9:=Tryz.underlying9
 a9:=Tryz.isAgg9
 z9:=Tryz.sizeOf9
 v9:=Tryz.zeroValue9
 t46:=Tryz.underlying113
 a46:=Tryz.isAgg113
 z46:=Tryz.sizeOf113
 v46:=Tryz.zeroValue113
 t51:=Tryz.underlying129
 a51:=Tryz.isAgg129
 z51:=Tryz.sizeOf129
 v51:=Tryz.zeroValue129
 t146:=Tryz.underlying130
 a146:=Tryz.isAgg130
 z146:=Tryz.sizeOf130
 v146:=Tryz.zeroValue130
 g1:=by kernel_rfl }
open Go.RowKit Go.Lib in
theorem Tryz.strings_Count_one (s:ByteArray) (c:UInt8) (w:World) :
  Calls Tryz.prog 126 #[.string s,.string ⟨#[c]⟩] w fun e w'=>e=.returned (.int .i64 (Lib.countByte s.data.toList c))∧w'=w:=Any.strings_Count_one Tryz.lays138 s c w
open Go.RowKit Go.Lib in
theorem Tryz.strings_Count (s sub:ByteArray) (m:Int) (w:World) (hs:s.size < 4294967281) (hm:w.cell? ⟨0,0,none⟩=some (.int .i64 m)) (h2:2≤sub.size) :
  Calls Tryz.prog 126 #[.string s,.string sub] w fun e w'=>e=.returned (.int .i64 (Lib.countB s sub))∧w'=w:=Any.strings_Count Tryz.lays138 s sub m w hs hm h2
def Tryz.lays206_ren:Go.Shelf.Ren:=⟨fun|206=>91|n=>n,fun|9=>9|4=>4|3=>3|n=>n,fun|n=>n⟩
theorem Tryz.lays206:Go.Proofs.Lays.n206 Tryz.prog Tryz.lays206_ren:={
 mixed:=by kernel_rfl
 f206:=Tryz.func91.trans (congrArg some (by kernel_rfl))
 t3:=Tryz.underlying3
 a3:=Tryz.isAgg3
 z3:=Tryz.sizeOf3
 v3:=Tryz.zeroValue3
 t4:=Tryz.underlying4
 a4:=Tryz.isAgg4
 z4:=Tryz.sizeOf4
 v4:=Tryz.zeroValue4
 t9:=Tryz.underlying9
 a9:=Tryz.isAgg9
 z9:=Tryz.sizeOf9
 v9:=Tryz.zeroValue9 }
open Go.RowKit Go.Lib in
theorem Tryz.stringslite_HasPrefix (s p:ByteArray) (w:World) :
  Calls Tryz.prog 91 #[.string s,.string p] w fun e w'=>e=.returned (.bool (Lib.hasPrefix s.data.toList p.data.toList))∧w'=w:=Any.stringslite_HasPrefix Tryz.lays206 s p w
def Tryz.lays99_ren:Go.Shelf.Ren:=⟨fun|99=>61|206=>91|n=>n,fun|9=>9|4=>4|3=>3|n=>n,fun|n=>n⟩
theorem Tryz.lays99:Go.Proofs.Lays.n99 Tryz.prog Tryz.lays99_ren:={
 mixed:=by kernel_rfl
 f99:=Tryz.func61.trans (congrArg some (by kernel_rfl))
 f206:=Tryz.func91.trans (congrArg some (by kernel_rfl))
 t3:=Tryz.underlying3
 a3:=Tryz.isAgg3
 z3:=Tryz.sizeOf3
 v3:=Tryz.zeroValue3
 t4:=Tryz.underlying4
 a4:=Tryz.isAgg4
 z4:=Tryz.sizeOf4
 v4:=Tryz.zeroValue4
 t9:=Tryz.underlying9
 a9:=Tryz.isAgg9
 z9:=Tryz.sizeOf9
 v9:=Tryz.zeroValue9 }
open Go.RowKit Go.Lib in
theorem Tryz.strings_HasPrefix (s p:ByteArray) (w:World) :
  Calls Tryz.prog 61 #[.string s,.string p] w fun e w'=>e=.returned (.bool (Lib.hasPrefix s.data.toList p.data.toList))∧w'=w:=Any.strings_HasPrefix Tryz.lays99 s p w
def Tryz.lays152_ren:Go.Shelf.Ren:=⟨fun|152=>80|137=>108|119=>109|224=>106|225=>105|217=>104|266=>122|n=>n,fun|9=>9|21=>21|3=>3|4=>4|5=>5|0=>0|46=>113|n=>n,fun|n=>n⟩
theorem Tryz.lays152:Go.Proofs.Lays.n152 Tryz.prog Tryz.lays152_ren:={
 mixed:=by kernel_rfl
 f119:=Tryz.func109.trans (congrArg some (by kernel_rfl))
 f137:=Tryz.func108.trans (congrArg some (by kernel_rfl))
 f152:=Tryz.func80.trans (congrArg some (by kernel_rfl))
 f217:=Tryz.func104.trans (congrArg some (by kernel_rfl))
 f224:=Tryz.func106.trans (congrArg some (by kernel_rfl))
 f225:=Tryz.func105.trans (congrArg some (by kernel_rfl))
 f266:=Tryz.func122.trans (congrArg some (by kernel_rfl))
 t0:=Tryz.underlying0
 a0:=Tryz.isAgg0
 z0:=Tryz.sizeOf0
 v0:=Tryz.zeroValue0
 t3:=Tryz.underlying3
 a3:=Tryz.isAgg3
 z3:=Tryz.sizeOf3
 v3:=Tryz.zeroValue3
 t4:=Tryz.underlying4
 a4:=Tryz.isAgg4
 z4:=Tryz.sizeOf4
 v4:=Tryz.zeroValue4
 t5:=Tryz.underlying5
 a5:=Tryz.isAgg5
 z5:=Tryz.sizeOf5
 v5:=Tryz.zeroValue5
 t9:=Tryz.underlying9
 a9:=Tryz.isAgg9
 z9:=Tryz.sizeOf9
 v9:=Tryz.zeroValue9
 t21:=Tryz.underlying21
 a21:=Tryz.isAgg21
 z21:=Tryz.sizeOf21
 v21:=Tryz.zeroValue21
 t46:=Tryz.underlying113
 a46:=Tryz.isAgg113
 z46:=Tryz.sizeOf113
 v46:=Tryz.zeroValue113 }
open Go.RowKit Go.Lib in
theorem Tryz.strings_IndexRune_ascii (s:ByteArray) (r:Int) (w:World) (h0:0≤r) (h1:r < 128) :
  Calls Tryz.prog 80 #[.string s,.int .i32 r] w fun e w'=>e=.returned (.int .i64 (Lib.indexByte s.data.toList r.toNat.toUInt8))∧w'=w:=Any.strings_IndexRune_ascii Tryz.lays152 s r w h0 h1
def Tryz.lays226_ren:Go.Shelf.Ren:=⟨fun|226=>81|n=>n,fun|3=>3|4=>4|n=>n,fun|n=>n⟩
theorem Tryz.lays226:Go.Proofs.Lays.n226 Tryz.prog Tryz.lays226_ren:={
 mixed:=by kernel_rfl
 f226:=Tryz.func81.trans (congrArg some (by kernel_rfl))
 t3:=Tryz.underlying3
 a3:=Tryz.isAgg3
 z3:=Tryz.sizeOf3
 v3:=Tryz.zeroValue3
 t4:=Tryz.underlying4
 a4:=Tryz.isAgg4
 z4:=Tryz.sizeOf4
 v4:=Tryz.zeroValue4 }
open Go.RowKit Go.Lib in
theorem Tryz.strings_shouldUseASCIISet (n:Int) (w:World) :
  Calls Tryz.prog 81 #[.int .i64 n] w fun e w'=>e=.returned (.bool (decide (8 < n)))∧w'=w:=Any.strings_shouldUseASCIISet Tryz.lays226 n w
def Tryz.lays153_ren:Go.Shelf.Ren:=⟨fun|153=>54|152=>80|226=>81|227=>82|228=>83|137=>108|119=>109|224=>106|225=>105|217=>104|266=>122|n=>n,fun|9=>9|3=>3|4=>4|5=>5|21=>21|117=>96|116=>95|0=>0|46=>113|124=>115|n=>n,fun|n=>n⟩
theorem Tryz.lays153:Go.Proofs.Lays.n153 Tryz.prog Tryz.lays153_ren:={
 mixed:=by kernel_rfl
 f119:=Tryz.func109.trans (congrArg some (by kernel_rfl))
 f137:=Tryz.func108.trans (congrArg some (by kernel_rfl))
 f152:=Tryz.func80.trans (congrArg some (by kernel_rfl))
 f153:=Tryz.func54.trans (congrArg some (by kernel_rfl))
 f217:=Tryz.func104.trans (congrArg some (by kernel_rfl))
 f224:=Tryz.func106.trans (congrArg some (by kernel_rfl))
 f225:=Tryz.func105.trans (congrArg some (by kernel_rfl))
 f226:=Tryz.func81.trans (congrArg some (by kernel_rfl))
 f227:=Tryz.func82.trans (congrArg some (by kernel_rfl))
 f228:=Tryz.func83.trans (congrArg some (by kernel_rfl))
 f266:=Tryz.func122.trans (congrArg some (by kernel_rfl))
 t0:=Tryz.underlying0
 a0:=Tryz.isAgg0
 z0:=Tryz.sizeOf0
 v0:=Tryz.zeroValue0
 t3:=Tryz.underlying3
 a3:=Tryz.isAgg3
 z3:=Tryz.sizeOf3
 v3:=Tryz.zeroValue3
 t4:=Tryz.underlying4
 a4:=Tryz.isAgg4
 z4:=Tryz.sizeOf4
 v4:=Tryz.zeroValue4
 t5:=Tryz.underlying5
 a5:=Tryz.isAgg5
 z5:=Tryz.sizeOf5
 v5:=Tryz.zeroValue5
 t9:=Tryz.underlying9
 a9:=Tryz.isAgg9
 z9:=Tryz.sizeOf9
 v9:=Tryz.zeroValue9
 t21:=Tryz.underlying21
 a21:=Tryz.isAgg21
 z21:=Tryz.sizeOf21
 v21:=Tryz.zeroValue21
 t46:=Tryz.underlying113
 a46:=Tryz.isAgg113
 z46:=Tryz.sizeOf113
 v46:=Tryz.zeroValue113
 t116:=Tryz.underlying95
 a116:=Tryz.isAgg95
 z116:=Tryz.sizeOf95
 t117:=Tryz.underlying96
 a117:=Tryz.isAgg96
 z117:=Tryz.sizeOf96
 v117:=Tryz.zeroValue96
 t124:=Tryz.underlying115
 a124:=Tryz.isAgg115
 z124:=Tryz.sizeOf115
 v124:=Tryz.zeroValue115 }
open Go.RowKit Go.Lib in
theorem Tryz.strings_IndexAny_long (hv116:∀ w,(zeroValue 95).run Tryz.prog w=.ok (.agg (Array.replicate 256 (.bool false))) w) (s chars:ByteArray) (w:World) (h2:2≤chars.size) (h8:8 < s.size) (hs:s.size < 4294967281) (hcs:chars.size < 4294967281) (hascii:∀ (j:Nat) b,chars.data.toList[j]?=some b→b.toNat < 128) :
  Calls Tryz.prog 54 #[.string s,.string chars] w fun e w'=>e=.returned (.int .i64 (Lib.indexAny s.data.toList chars.data.toList))∧w'=((w.alloc (.cells (Lib.setCells chars.data.toList) 95)).alloc (.cells (Lib.setCells chars.data.toList) 95)):=Any.strings_IndexAny_long Tryz.lays153 hv116 (by kernel_rfl) s chars w h2 h8 hs hcs hascii
open Go.RowKit Go.Lib in
theorem Tryz.strings_IndexAny (hv116:∀ w,(zeroValue 95).run Tryz.prog w=.ok (.agg (Array.replicate 256 (.bool false))) w) (s chars:ByteArray) (w:World) (hs:s.size < 4294967281) (hcs:chars.size < 4294967281) (has:∀ (j:Nat) b,s.data.toList[j]?=some b→b.toNat < 128) (hac:∀ (j:Nat) b,chars.data.toList[j]?=some b→b.toNat < 128) :
  Calls Tryz.prog 54 #[.string s,.string chars] w fun e w'=>e=.returned (.int .i64 (Lib.indexAny s.data.toList chars.data.toList))∧Below w.heap.size w w':=Any.strings_IndexAny Tryz.lays153 hv116 (by kernel_rfl) s chars w hs hcs has hac
def Tryz.laysNm216_ren:Go.Shelf.Ren:=⟨fun|16=>62|n=>n,fun|24=>35|9=>9|4=>4|n=>n,fun|n=>n⟩
theorem Tryz.laysNm216:Go.Proofs.Lays2.n16 Tryz.prog Tryz.laysNm216_ren:={
 mixed:=by kernel_rfl
 f16:=Tryz.func62.trans (congrArg some (by kernel_rfl))
 t4:=Tryz.underlying4
 a4:=Tryz.isAgg4
 z4:=Tryz.sizeOf4
 v4:=Tryz.zeroValue4
 t9:=Tryz.underlying9
 a9:=Tryz.isAgg9
 z9:=Tryz.sizeOf9
 v9:=Tryz.zeroValue9
 t24:=Tryz.underlying35
 a24:=Tryz.isAgg35
 z24:=Tryz.sizeOf35
 v24:=Tryz.zeroValue35
 i9:=by kernel_rfl }
open Go.RowKit Go.Lib in
theorem Tryz.slices_Clone_string (b off n c:Nat) (zs:List ByteArray) (w:World) (hz:n≤zs.length) (hbig:n * 16≤140737488355328) (hc:∀ j,j < zs.length→w.cell? ⟨b,off+j,none⟩=some (.string (zs.getD j ByteArray.empty))) :
  Calls Tryz.prog 62 #[.slice (some ⟨b,off,none⟩) n c] w fun e w'=>∃ v',e=.returned v'∧w'.ownsRow w.heap.size 9 1 v' n ((zs.take n).map (Value.string))∧v'≠.slice none 0 0∧Below w.heap.size w w':=Any.slices_Clone_string Tryz.laysNm216 b off n c zs w hz hbig hc
open Go.RowKit Go.Lib in
theorem Tryz.slices_Clone_string_nil (n c:Nat) (w:World) :
  Calls Tryz.prog 62 #[.slice none n c] w fun e w'=>e=.returned (.slice none 0 0)∧w'=w:=Any.slices_Clone_string_nil Tryz.laysNm216 n c w
open Go.RowKit Go.Lib in
theorem Tryz.slices_Clone_string_zero (a:Addr) (c:Nat) (w:World) :
  Calls Tryz.prog 62 #[.slice (some a) 0 c] w fun e w'=>∃ v',e=.returned v'∧w'.ownsRow w.heap.size 9 1 v' 0 []∧v'≠.slice none 0 0∧Below w.heap.size w w':=Any.slices_Clone_string_zero Tryz.laysNm216 a c w
end Go.Proofs
end
section
namespace Go.Proofs.YtpomhjkbgbociaaGreatDoor.P
open Go.RowKit Go.Proofs.YtpomhjkbgbociaaGreatDoorW.PrintWords Go.Proofs.YtpomhjkbgbociaaGreatDoorW.PrintLast Go.Proofs.YtpomhjkbgbociaaGreatDoorW.PrintMore
attribute [local go_sem] max2_int min2_int max_two min_two max_three min_three max_four min_four
set_option linter.unusedVariables false
set_option linter.unusedSimpArgs false
set_option maxHeartbeats 8000000
set_option maxRecDepth 100000
def impl_allSmallLetters.l0:Nat→ByteArray→Int→Option (Bool)
 | 0,_,_=>none
 | k+1,x0,x3=>if x3 < (x0.size:Int) then (if 0≤x3 then (if (bt x0 x3) < 97 then (some false) else (if (bt x0 x3) > 122 then (some false) else (impl_allSmallLetters.l0 k x0 (wrap64 (x3+1))))) else (none)) else (some true)
def impl_allSmallLetters.f (k:Nat) (a0:ByteArray):Option (Bool):=impl_allSmallLetters.l0 k a0 0
theorem impl_allSmallLetters.mono_l:∀ k,(∀ y0 y1,LeO (impl_allSmallLetters.l0 k y0 y1) (impl_allSmallLetters.l0 (k+1) y0 y1))
 | 0=>by intros;intro r h;simp [impl_allSmallLetters.l0] at h
 | k+1=>by
  have ih0:=impl_allSmallLetters.mono_l k;intros;unfold impl_allSmallLetters.l0;repeat' first|(with_reducible first|exact ih0 _ _|exact LeO.refl _|exact LeO.none _|refine LeO.ite ?_ ?_|refine LeO.bind ?_ (fun _=>?_))|exact LeO.none _|refine LeO.ite ?_ ?_|refine LeO.bind ?_ (fun _=>?_)
theorem impl_allSmallLetters.mono:∀ a0 k,LeO (impl_allSmallLetters.f k a0) (impl_allSmallLetters.f (k+1) a0):=by
 intro a0 k;have ih0:=impl_allSmallLetters.mono_l k;unfold impl_allSmallLetters.f
 repeat' first|(with_reducible first|exact ih0 _ _|exact LeO.refl _|exact LeO.none _|refine LeO.ite ?_ ?_|refine LeO.bind ?_ (fun _=>?_))|exact LeO.none _|refine LeO.ite ?_ ?_|refine LeO.bind ?_ (fun _=>?_)
theorem impl_allSmallLetters.calls (k:Nat) (a0:ByteArray) (r:Bool) (w:World) (h:impl_allSmallLetters.f k a0=some r) :
  Calls Tryz.prog 87 #[.string a0] w fun e w'=>e=.returned (.bool r)∧Drawn0 w w':=by
 unfold impl_allSmallLetters.f at h
 have H:=h;clear h;have H':=A_ H;clear H;go_enter Tryz.func87,Tryz.ntmps87;go_wp2
 go_loopg [3] k (fun kq v3 w'=>∃ (x3_1:Int),v3=.int .i64 x3_1∧Aside0 (impl_allSmallLetters.l0 kq a0 x3_1=some r)∧Aside0 (kq≤k)∧Drawn0 w w')
 case atStart=>exact ⟨(0),zz0,H',⟨Nat.le_refl _⟩,zz1⟩
 case round=>
  clear H';obtain ⟨x3_1,rfl,HA,HK1,⟨m1,rfl⟩⟩:=hrel;cases gk with
  | zero=>exact absurd HA.out (by simp [impl_allSmallLetters.l0])
  | succ k1=>
   obtain ⟨H⟩:=HA;simp only [impl_allSmallLetters.l0] at H
   replace H:=iteEd H;rcases H with ⟨c2b0,H⟩|⟨c2b0,H⟩
   ·replace H:=iteNd H
    obtain ⟨c3b0,H⟩:=H;replace H:=iteEd H;rcases H with ⟨c5b0,H⟩|⟨c5b0,H⟩
    ·obtain rfl:=sI H
     have p4:0≤(x3_1:Int):=ofD;have q4:x3_1 < (a0.size:Int):=ofD;have hx4:=bt_at a0 x3_1;replace p4:=eq_true p4;replace q4:=eq_true q4;go_wp2
     go_ret
     exact ⟨zz0,zz1⟩
    ·replace H:=iteEg H
     rcases H with ⟨c7b0,H⟩|⟨c7b0,H⟩
     ·obtain rfl:=sI H
      have p4:0≤(x3_1:Int):=ofD;have q4:x3_1 < (a0.size:Int):=ofD;have hx4:=bt_at a0 x3_1;replace p4:=eq_true p4;replace q4:=eq_true q4;have p6:0≤(x3_1:Int):=ofD;have q6:x3_1 < (a0.size:Int):=ofD;have hx6:=bt_at a0 x3_1;replace p6:=eq_true p6;replace q6:=eq_true q6;go_wp2
      go_ret
      exact ⟨zz0,zz1⟩
     ·have H':=A_ H
      clear H;have p4:0≤(x3_1:Int):=ofD;have q4:x3_1 < (a0.size:Int):=ofD;have hx4:=bt_at a0 x3_1;replace p4:=eq_true p4;replace q4:=eq_true q4;have p6:0≤(x3_1:Int):=ofD;have q6:x3_1 < (a0.size:Int):=ofD;have hx6:=bt_at a0 x3_1;replace p6:=eq_true p6;replace q6:=eq_true q6;go_wp2
      go_roundg k1
      case measure=>have:=HK1.out;omega
      case rel=>exact ⟨(wrap64 (x3_1+1)),zz0,H',⟨(zz3 HK1)⟩,zz1⟩
   ·obtain rfl:=sI H
    go_wp2
    go_ret
    exact ⟨zz0,zz1⟩
mutual
def impl_PathClean.l0:Nat→List ByteArray→List ByteArray→Int→Int→Option (List ByteArray)
 | 0,_,_,_,_=>none
 | k+1,x3,x6,x7,x8=>if x8 < x7 then (if 0≤x8 then (if x8 < (x6.length:Int) then (if (rdOf ByteArray.empty x6 x8).toList=([]:List UInt8) then (impl_PathClean.j1 k x3 (rdOf ByteArray.empty x6 x8) x6 x7 x8 (rdOf ByteArray.empty x6 x8) ((rdOf ByteArray.empty x6 x8).toList == ([]:List UInt8))) else (impl_PathClean.j1 k x3 (rdOf ByteArray.empty x6 x8) x6 x7 x8 (rdOf ByteArray.empty x6 x8) ((rdOf ByteArray.empty x6 x8).toList == ([46]:List UInt8)))) else (none)) else (none)) else (some x3)
def impl_PathClean.j1:Nat→List ByteArray→ByteArray→List ByteArray→Int→Int→ByteArray→Bool→Option (List ByteArray)
 | 0,_,_,_,_,_,_,_=>none
 | k+1,x3,x5,x6,x7,x8,x12,x13=>if x13=true then (impl_PathClean.l0 k x3 x6 x7 (wrap64 (x8+1))) else (if x12.toList=([46,46]:List UInt8) then (if (x3.length:Int) > 0 then (if 0≤(wrap64 ((x3.length:Int) - 1)) then (if (wrap64 ((x3.length:Int) - 1))≤(x3.length:Int) then (impl_PathClean.l0 k (x3.take ((wrap64 ((x3.length:Int) - 1)):Int).toNat) x6 x7 (wrap64 (x8+1))) else (none)) else (none)) else (impl_PathClean.l0 k x3 x6 x7 (wrap64 (x8+1)))) else (if x3.length < 8796093022208 then (impl_PathClean.l0 k (x3++[x5]) x6 x7 (wrap64 (x8+1))) else (none)))
end
def impl_PathClean.f (k:Nat) (l0:List ByteArray):Option (List ByteArray):=impl_PathClean.l0 k ([]:List ByteArray) l0 (l0.length:Int) 0
theorem impl_PathClean.mono_l:∀ k,(∀ y0 y1 y2 y3,LeO (impl_PathClean.l0 k y0 y1 y2 y3) (impl_PathClean.l0 (k+1) y0 y1 y2 y3))∧(∀ y0 y1 y2 y3 y4 y5 y6,LeO (impl_PathClean.j1 k y0 y1 y2 y3 y4 y5 y6) (impl_PathClean.j1 (k+1) y0 y1 y2 y3 y4 y5 y6))
 | 0=>by refine ⟨?_,?_⟩ <;> (intros;intro r h;simp [impl_PathClean.l0,impl_PathClean.j1] at h)
 | k+1=>by
  obtain ⟨ih0,ih1⟩:=impl_PathClean.mono_l k;refine ⟨?_,?_⟩ <;> intros <;> (first|unfold impl_PathClean.l0|unfold impl_PathClean.j1) <;>
  repeat' first|(with_reducible first|exact ih0 _ _ _ _|exact ih1 _ _ _ _ _ _ _|exact LeO.refl _|exact LeO.none _|refine LeO.ite ?_ ?_|refine LeO.bind ?_ (fun _=>?_))|exact LeO.none _|refine LeO.ite ?_ ?_|refine LeO.bind ?_ (fun _=>?_)
theorem impl_PathClean.mono:∀ a0 k,LeO (impl_PathClean.f k a0) (impl_PathClean.f (k+1) a0):=by
 intro a0 k;obtain ⟨ih0,ih1⟩:=impl_PathClean.mono_l k;unfold impl_PathClean.f
 repeat' first|(with_reducible first|exact ih0 _ _ _ _|exact ih1 _ _ _ _ _ _ _|exact LeO.refl _|exact LeO.none _|refine LeO.ite ?_ ?_|refine LeO.bind ?_ (fun _=>?_))|exact LeO.none _|refine LeO.ite ?_ ?_|refine LeO.bind ?_ (fun _=>?_)
theorem impl_PathClean.calls (k:Nat) (A0:Option Addr) (c0:Nat) (l0:List ByteArray) (r:List ByteArray) (w:World) (hr0:Kd.C Kd.string w A0 l0.length l0) (hc0:l0.length≤c0) (h:impl_PathClean.f k l0=some r) :
  Calls Tryz.prog 86 #[.slice A0 l0.length c0] w fun e w'=>∃ v0_:Value,e=.returned (v0_)∧Kd.R Kd.string 9 w' w.heap.size (fun _=>True) v0_ r∧Below w.heap.size w w':=by
 have HR0:=A_ hr0;have HC0:=A_ hc0;clear hr0 hc0;have HB:=A_ (Below.refl w.heap.size w);unfold impl_PathClean.f at h
 have H:=h;clear h;have H':=A_ H;clear H;go_enter Tryz.func86,Tryz.ntmps86;go_wp2
 go_step3
 go_wp2
 go_step3
 go_wp2
 go_loopg [3,8] k (fun kq v3 v8 w'=>∃ (x3_1:List ByteArray) (x8_1:Int),v8=.int .i64 x8_1∧Aside0 (impl_PathClean.l0 kq x3_1 l0 (l0.length:Int) x8_1=some r)∧Aside0 (kq≤k)∧Aside0 (Kd.R Kd.string 9 w' w.heap.size (fun _=>True) v3 x3_1)∧Aside0 (Below w.heap.size w w'))
 case atStart=>exact ⟨(([]:List ByteArray)),(0),zz0,H',⟨Nat.le_refl _⟩,⟨zz4⟩,⟨(zz5 HB)⟩⟩
 case round=>
  clear H';obtain ⟨x3_1,x8_1,rfl,HA,HK1,HO_3,HB⟩:=hrel;cases gk with
  | zero=>exact absurd HA.out (by simp [impl_PathClean.l0])
  | succ k1=>
   obtain ⟨H⟩:=HA;simp only [impl_PathClean.l0] at H
   replace H:=iteEd H;rcases H with ⟨c2b0,H⟩|⟨c2b0,H⟩
   ·replace H:=iteNd H
    obtain ⟨c3b0,H⟩:=H;replace H:=iteNd H;obtain ⟨c4b0,H⟩:=H;have HC5:=A_ H;clear H;obtain ⟨⟨ad622,e622,hx622_0⟩,p622,q622⟩:=atB (Kd.at_string HR0.out x8_1);cases e622
    replace hx622_0:=cbl HB hx622_0;go_upto_if 13 with (fail)
    go_cut [13] (fun v13 wc=>∃ (kq:Nat) (x13_4:Bool),v13=.bool x13_4∧Aside0 (impl_PathClean.j1 kq x3_1 (rdOf ByteArray.empty l0 x8_1) l0 (l0.length:Int) x8_1 (rdOf ByteArray.empty l0 x8_1) x13_4=some r)∧Aside0 (kq≤k1)∧Aside0 (Kd.R Kd.string 9 wc w.heap.size (fun _=>True) u3 x3_1)∧Aside0 (Below w.heap.size w wc))
    case first=>
     obtain ⟨H⟩:=HC5;replace H:=iteE H;rcases H with ⟨c6,H⟩|⟨c6,H⟩
     ·have c6b0:((rdOf ByteArray.empty l0 x8_1).toList == ([]:List UInt8))=true:=beq_iff_eq.mpr c6
      have c6i0:(rdOf ByteArray.empty l0 x8_1).toList.isEmpty=true:=(aid_isEmpty2 _).symm.trans c6b0;have c6b1:((rdOf ByteArray.empty l0 x8_1).toList != ([]:List UInt8))=false:=bne_eq_false_iff_eq.mpr c6;clear c6;(first|rw [c6b0]|(simp only [i64_w,i32_w];rw [c6b0])|skip)
      have H':=A_ H;clear H;go_wp2
      all_goals (first|(exfalso;have h_:(rdOf ByteArray.empty l0 x8_1).toList.isEmpty=false:=(by assumption);rw [c6i0] at h_;cases h_;done)|skip)
      go_meet
      case rel=>exact ⟨_,(((rdOf ByteArray.empty l0 x8_1).toList == ([]:List UInt8))),zz0,H',⟨(zz7 HK1)⟩,⟨(zz8 HO_3)⟩,⟨(zz5 HB)⟩⟩
     ·have c6b0:((rdOf ByteArray.empty l0 x8_1).toList == ([]:List UInt8))=false:=beq_eq_false_iff_ne.mpr c6
      have c6i0:(rdOf ByteArray.empty l0 x8_1).toList.isEmpty=false:=(aid_isEmpty2 _).symm.trans c6b0;have c6b1:((rdOf ByteArray.empty l0 x8_1).toList != ([]:List UInt8))=true:=bne_iff_ne.mpr c6;(first|rw [c6b0]|(simp only [i64_w,i32_w];rw [c6b0])|skip)
      have H':=A_ H;clear H;go_wp2
      all_goals (first|(exfalso;have h_:(rdOf ByteArray.empty l0 x8_1).toList.isEmpty=true:=(by assumption);rw [c6i0] at h_;cases h_;done)|skip)
      go_meet
      case rel=>exact ⟨_,(((rdOf ByteArray.empty l0 x8_1).toList == ([46]:List UInt8))),zz0,H',⟨(zz7 HK1)⟩,⟨(zz8 HO_3)⟩,⟨(zz5 HB)⟩⟩
    case rest=>
     clear HC5;obtain ⟨kq,x13_4,rfl,HA,HJ4,HO_3,HB⟩:=hcut;cases kq with
     | zero=>exact absurd HA.out (by simp [impl_PathClean.j1])
     | succ kj4=>
      obtain ⟨H⟩:=HA;simp only [impl_PathClean.j1] at H
      replace H:=iteB H;rcases H with ⟨rfl,H⟩|⟨rfl,H⟩
      ·have H':=A_ H
       clear H;go_wp2
       go_roundg kj4
       case measure=>have:=HK1.out;have:=HJ4.out;omega
       case rel=>exact ⟨(x3_1),(wrap64 (x8_1+1)),zz0,H',⟨(zz10 HK1 HJ4)⟩,⟨(zz8 HO_3)⟩,⟨(zz5 HB)⟩⟩
      ·replace H:=iteE H
       rcases H with ⟨c8,H⟩|⟨c8,H⟩
       ·obtain ⟨c8b0,c8b1⟩:=eqT c8
        clear c8;replace H:=iteE H;rcases H with ⟨c9,H⟩|⟨c9,H⟩
        ·have c9b0:=gtT c9
         have c9b1:decide (0 < x3_1.length)=true:=dT (by omega);clear c9;obtain ⟨ji10,hji10⟩:∃ j_:Int,(wrap64 ((x3_1.length:Int) - 1))=j_:=⟨_,rfl⟩;(first|rw [hji10] at H|simp only [hji10] at H)
         have hji10w:(IntKind.i64.wrap ((x3_1.length:Int) - 1))=ji10:=(i64_w _).trans hji10;replace H:=iteN H;obtain ⟨c11,H⟩:=H;have c11b0:=eq_true c11;have c11b1:=dT c11;clear c11;replace H:=iteN H;obtain ⟨c12,H⟩:=H;have c12b0:=eq_true c12;have c12b1:=dT c12;clear c12;obtain ⟨y623,Ny623⟩:=toY (x3_1.take ((ji10):Int).toNat);(first|with_reducible replace H:=bindZ Ny623 H|rw [← Ny623.out] at H|skip)
         have H':=A_ H;clear H;obtain ⟨Ao13,co13,eo13⟩:=Kd.R_slice HO_3.out;subst eo13;have q14:((ji10):Int)≤((x3_1.length:Int):Int):=ofD;obtain ⟨i014,hi014,_,hsz14,_⟩:=info_parts info9;have hcut14:=cut_to (P:=Tryz.prog) 35 9 .i64 Tryz.underlying35 hi014 Ao13 x3_1.length co13 (ji10) ofD q14 (Kd.R_reads' HO_3.out).2.1;have hr14:=Kd.R_take (m:=((ji10):Int).toNat) HO_3.out (by omega);have hy14:y623.length=((ji10):Int).toNat:=(by rw [Ny623.out,List.length_take];omega);rw [← Ny623.out] at hr14;rw [← hy14] at hr14 hcut14;clear hy14 hi014 hsz14 HO_3;have HO625:=A_ hr14;clear hr14;replace q14:=eq_true q14;go_wp2
         go_roundg kj4
         case measure=>have:=HK1.out;have:=HJ4.out;omega
         case rel=>exact ⟨(y623),(wrap64 (x8_1+1)),zz0,H',⟨(zz10 HK1 HJ4)⟩,⟨(zz8 HO625)⟩,⟨(zz5 HB)⟩⟩
        ·have c9b0:=gtF c9
         have c9b1:decide (0 < x3_1.length)=false:=dF (by omega);clear c9;have H':=A_ H;clear H;obtain ⟨Ao15,co15,eo15⟩:=Kd.R_slice HO_3.out;subst eo15;go_wp2
         go_roundg kj4
         case measure=>have:=HK1.out;have:=HJ4.out;omega
         case rel=>exact ⟨(x3_1),(wrap64 (x8_1+1)),zz0,H',⟨(zz10 HK1 HJ4)⟩,⟨(zz8 HO_3)⟩,⟨(zz5 HB)⟩⟩
       ·obtain ⟨c8b0,c8b1⟩:=eqF c8
        replace H:=iteN H;obtain ⟨c16,H⟩:=H;have LMc16:=A_ c16;clear c16;obtain ⟨y626,Ny626⟩:=toY (x3_1++[(rdOf ByteArray.empty l0 x8_1)]);(first|with_reducible replace H:=bindZ Ny626 H|rw [← Ny626.out] at H|skip)
        have H':=A_ H;clear H;go_wp2_with (first|((with_reducible refine gate_builtin (b:=.append) (xs:=#[.tmp 26,.tmp 28]) rfl ?_);at_builtin;refine Kd.R_append Kd.string (w0:=w) w.heap.size rfl (.tmp 26) (.tmp 28) 35 9 (.string ⟨#[]⟩) 16 rfl Tryz.underlying35 info9 rfl (by decide) (by omega) u3 x3_1 (rdOf ByteArray.empty l0 x8_1) [.string (rdOf ByteArray.empty l0 x8_1)] (fun _=>True) (fun _=>False) rfl rfl ?aP (fun _ hk=>hk.elim) ?aF ?aO ?aB ?aS ?aL ?_;(case aP=>exact rfl);(case aB=>exact (zz5 HB));(case aF=>exact (fun _ _=>trivial));(case aO=>exact (zz8 HO_3));(case aS=>exact (below_size (zz5 HB)));(case aL=>exact (zz3 LMc16));intro v627 w17 ho hb hg hat;rw [← Ny626.out] at ho;replace HB:=A_ (hb);have HO628:=A_ (ho);clear HO_3;clear ho hb hg hat))
        go_roundg kj4
        case measure=>have:=HK1.out;have:=HJ4.out;omega
        case rel=>exact ⟨(y626),(wrap64 (x8_1+1)),zz0,H',⟨(zz10 HK1 HJ4)⟩,⟨(zz8 HO628)⟩,⟨(zz5 HB)⟩⟩
   ·obtain rfl:=sI H
    go_wp2
    go_ret
    exact ⟨_,zz12,(zz8 HO_3),(zz5 HB)⟩
def IsS68 (w0 W:World) (g:Nat) (f0:List Int) (f1:Int):Prop:=∃ A0 c0,W.heap[g]?=some (.cells #[.slice A0 f0.length c0,.int .i64 f1] 68 (0,0))∧w0.heap.size≤g∧Kd.C (Kd.int .u8) w0 A0 f0.length f0
theorem IsS68.grown {w0 W:World} {g:Nat} {f0:List Int} {f1:Int} {W1:World} {row:Option Nat} (h:IsS68 w0 W g f0 f1) (hw:W.grownBy W1 row) (hne:some g≠row):IsS68 w0 W1 g f0 f1:=by
 obtain ⟨A0,c0,hb,hg,hr0⟩:=h;exact ⟨A0,c0,blk_grown hb hw hne,hg,hr0⟩
theorem IsS68.fresh {w0 W:World} {g:Nat} {f0:List Int} {f1:Int} (h:IsS68 w0 W g f0 f1):∀ k,W.heap.size≤k→k≠g:=by
 obtain ⟨A0,c0,hb,hg,hr0⟩:=h;exact Kd.freshB hb
theorem IsS68.kept {w0 W:World} {g:Nat} {f0:List Int} {f1:Int} {W1:World} {S:Nat→Prop} (h:IsS68 w0 W g f0 f1) (hk:Kept W W1 S) (hne:¬ S g):IsS68 w0 W1 g f0 f1:=by
 obtain ⟨A0,c0,hb,hg,hr0⟩:=h;exact ⟨A0,c0,blk_kept hb hk hne,hg,hr0⟩
theorem IsS68.below {w0 W:World} {g:Nat} {f0:List Int} {f1:Int} {W1:World} (h:IsS68 w0 W g f0 f1) (hw:Below W.heap.size W W1):IsS68 w0 W1 g f0 f1:=h.grown (grown_of_below hw none) (by simp)
theorem IsS68.alloc {w0 W:World} {g:Nat} {f0:List Int} {f1:Int} (h:IsS68 w0 W g f0 f1) (o:Obj):IsS68 w0 (W.alloc o) g f0 f1:=h.below (below_alloc (Below.refl _ _) o)
theorem IsS68.drewN {w0 W:World} {g:Nat} {f0:List Int} {f1:Int} (h:IsS68 w0 W g f0 f1) (m:Nat):IsS68 w0 (W.drewN m) g f0 f1:=h
theorem IsS68.drew {w0 W:World} {g:Nat} {f0:List Int} {f1:Int} (h:IsS68 w0 W g f0 f1):IsS68 w0 W.drew g f0 f1:=h
theorem IsS68.at_ {w0 W:World} {g:Nat} {f0:List Int} {f1:Int} {w':World} {m:Nat} (hq:W.drewN m=w') (h:IsS68 w0 W g f0 f1):IsS68 w0 w' g f0 f1:=by subst hq;exact IsS68.drewN h m
theorem IsS68.apart {w0 W:World} {g:Nat} {f0:List Int} {f1:Int} {α:Type} {d:Kd α} {e:Nat} {base:Nat} {ok:Nat→Prop} {v:Value} {xs:List α} (h:IsS68 w0 W g f0 f1) (ho:d.R e W base ok v xs) (ht:∀ q,q ∈ e :: d.E→q≠68):d.R e W base (fun k=>ok k∧k≠g) v xs:=by
 obtain ⟨A0,c0,hb,hg,hr0⟩:=h;exact Kd.R_types ho hb ht
theorem IsS68.own_ne {w0 W:World} {g:Nat} {f0:List Int} {f1:Int} {α:Type} {d:Kd α} {e:Nat} {base:Nat} {ok:Nat→Prop} {v:Value} {xs:List α} (h:IsS68 w0 W g f0 f1) (ho:d.R e W base ok v xs) (ht:e≠68):some g≠v.ownBlock:=by
 obtain ⟨A0,c0,hb,hg,hr0⟩:=h;exact Kd.R_ne ho hb ht
theorem IsS68.apartS {w0 W:World} {g:Nat} {f0:List Int} {f1:Int} {α:Type} {d:Kd α} {e:Nat} {base:Nat} {ok:Nat→Prop} {v:Value} {xs:List α} (h:IsS68 w0 W g f0 f1) (ho:d.S e W base ok v xs) (ht:∀ q,q ∈ e :: d.E→q≠68):d.S e W base (fun k=>ok k∧k≠g) v xs:=by
 obtain ⟨A0,c0,hb,hg,hr0⟩:=h;exact Kd.S_types ho hb ht
theorem IsS68.own_neS {w0 W:World} {g:Nat} {f0:List Int} {f1:Int} {α:Type} {d:Kd α} {e:Nat} {base:Nat} {ok:Nat→Prop} {v:Value} {xs:List α} (h:IsS68 w0 W g f0 f1) (ho:d.S e W base ok v xs) (ht:e≠68):some g≠v.ownBlock:=by
 obtain ⟨A0,c0,hb,hg,hr0⟩:=h;exact Kd.S_ne ho hb ht
theorem IsS68.lt {w0 W:World} {g:Nat} {f0:List Int} {f1:Int} (h:IsS68 w0 W g f0 f1):g < W.heap.size:=by
 obtain ⟨A0,c0,hb,hg,hr0⟩:=h;exact blk_lt hb
theorem IsS68.ge {w0 W:World} {g:Nat} {f0:List Int} {f1:Int} (h:IsS68 w0 W g f0 f1):w0.heap.size≤g:=by
 obtain ⟨A0,c0,hb,hg,hr0⟩:=h;exact hg
theorem IsS68.far {w0 W:World} {g:Nat} {f0:List Int} {f1:Int} {p:Addr} (h:IsS68 w0 W g f0 f1) (hne:g≠p.block) (u:Value):IsS68 w0 (W.setCell p u) g f0 f1:=by
 obtain ⟨A0,c0,hb,hg,hr0⟩:=h;exact ⟨A0,c0,blk_far hb hne u,hg,hr0⟩
theorem cellS68_0 {W:World} {g:Nat} {A0:Option Addr} {c0:Nat} {f0:List Int} {f1:Int} (h:W.heap[g]?=some (.cells #[.slice A0 f0.length c0,.int .i64 f1] 68 (0,0))):W.cell? ⟨g,0,none⟩=some (.slice A0 f0.length c0):=(blk_cell h 0).trans rfl
theorem cellS68_1 {W:World} {g:Nat} {A0:Option Addr} {c0:Nat} {f0:List Int} {f1:Int} (h:W.heap[g]?=some (.cells #[.slice A0 f0.length c0,.int .i64 f1] 68 (0,0))):W.cell? ⟨g,1,none⟩=some (.int .i64 f1):=(blk_cell h 1).trans rfl
theorem IsS68.set_1 {w0 W:World} {g:Nat} {f0:List Int} {f1:Int} (h:IsS68 w0 W g f0 f1) (x:Int):IsS68 w0 (W.setCell ⟨g,1,none⟩ (.int .i64 x)) g f0 x:=by
 obtain ⟨A0,c0,hb,hg,hr0⟩:=h;exact ⟨A0,c0,(by simpa using blk_set hb 1 (.int .i64 x)),hg,hr0⟩
def spec_l6Open.f (l0:List Int):Option (List Int×Int):=if (l0.length:Int) > 2000 then (if 2000≤(l0.length:Int) then (some (l0.take 2000,0)) else (none)) else (some (l0,0))
theorem spec_l6Open.calls (A0:Option Addr) (c0:Nat) (l0:List Int) (r1:List Int) (r2:Int) (w0 w:World) (hB:Below w0.heap.size w0 w) (hr0:Kd.C (Kd.int .u8) w0 A0 l0.length l0) (hc0:l0.length≤c0) (h:spec_l6Open.f l0=some (r1,r2)) :
  Calls Tryz.prog 19 #[.slice A0 l0.length c0] w fun e w'=>∃ g_:Nat,e=.returned (.pointer (some ⟨g_,0,none⟩))∧IsS68 w0 w' g_ r1 r2∧Below w0.heap.size w0 w'∧Below w.heap.size w w':=by
 have hu68:=Tryz.underlying68;have HR0:=A_ hr0;have HC0:=A_ hc0;clear hr0 hc0;have HBW:=A_ (Below.refl w.heap.size w);have HW0:=A_ hB.size;have HB:=A_ hB;clear hB;unfold spec_l6Open.f at h
 have H:=h;clear h;replace H:=iteE H;rcases H with ⟨c2,H⟩|⟨c2,H⟩
 ·have c2b0:=gtT c2
  have c2b1:decide (2000 < l0.length)=true:=dT (by omega);clear c2;replace H:=iteN H;obtain ⟨c3,H⟩:=H;have c3b0:=eq_true c3;have c3b1:=dT c3;clear c3;simp only [Option.some.injEq,Prod.mk.injEq] at H
  obtain ⟨rfl,rfl⟩:=H;obtain ⟨i04,hi04,_,hsz4,_⟩:=info_parts info5;obtain ⟨hcut4,hA4,hC4⟩:=print_take_of (P:=Tryz.prog) (Value.int .u8) 0 22 5 .i64 Tryz.underlying22 hi04 hsz4 A0 c0 l0 2000 (by omega) ofD HC0.out;have HR101:=A_ (Kd.C_of_reads (h1:=fun _=>rfl) (hA4 _ (Kd.reads_of_C HR0.out)));have HC101:=A_ hC4;clear hA4 hC4 hi04 hsz4;go_enter Tryz.func19,Tryz.ntmps19;go_wp2_with (first|(refine boxF 10 #[.slice A0 (l0.take 2000).length c0,.int .i64 0] 68 ?_;intro gb102 hg w5 BK102 hb;replace HB:=A_ (bS (zz5 HB) hb);have GW102:=A_ ((by rw [hg];exact (below_size (zz5 HBW)):w.heap.size≤gb102));have GE102:=A_ ((Nat.le_trans HW0.out (by rw [hg];exact (below_size (zz5 HBW)):w.heap.size≤gb102):w0.heap.size≤gb102));replace HBW:=A_ (bS HBW.out hb);clear hb hg))
  go_ret
  exact ⟨_,rfl,(show IsS68 w0 _ gb102 (l0.take 2000) 0 from ⟨_,_,(zz15 BK102),GE102.out,HR101.out⟩),(zz16 HB GE102),(zz16 HBW GW102)⟩
 ·have c2b0:=gtF c2
  have c2b1:decide (2000 < l0.length)=false:=dF (by omega);clear c2;simp only [Option.some.injEq,Prod.mk.injEq] at H
  obtain ⟨rfl,rfl⟩:=H;go_enter Tryz.func19,Tryz.ntmps19;go_wp2_with (first|(refine boxF 10 #[.slice A0 l0.length c0,.int .i64 0] 68 ?_;intro gb103 hg w6 BK103 hb;replace HB:=A_ (bS (zz5 HB) hb);have GW103:=A_ ((by rw [hg];exact (below_size (zz5 HBW)):w.heap.size≤gb103));have GE103:=A_ ((Nat.le_trans HW0.out (by rw [hg];exact (below_size (zz5 HBW)):w.heap.size≤gb103):w0.heap.size≤gb103));replace HBW:=A_ (bS HBW.out hb);clear hb hg))
  go_ret
  exact ⟨_,rfl,(show IsS68 w0 _ gb103 l0 0 from ⟨_,_,(zz15 BK103),GE103.out,HR0.out⟩),(zz16 HB GE103),(zz16 HBW GW103)⟩
def spec_l6Rd_pick.j0:Nat→Int→Bool→List Int→Int→Option (Int×Int)
 | 0,_,_,_,_=>none
 | k+1,x1,x24,x1000,x1001=>if x24=true then (some (0,x1001)) else (if (wrap64 (x1001 - 1)) < (x1000.length:Int) then (if 0≤(wrap64 (x1001 - 1)) then (if x1=0 then (none) else (some (Int.tmod (wrap64 (rd x1000 (wrap64 (x1001 - 1)))) x1,x1001))) else (none)) else (if (x1000.length:Int)=0 then (none) else (if 0≤(Int.tmod (wrap64 (x1001 - 1)) (x1000.length:Int)) then (if (Int.tmod (wrap64 (x1001 - 1)) (x1000.length:Int)) < (x1000.length:Int) then (if 0≤(Int.tmod (wrap64 ((wrap64 ((wrap64 (x1001 - 1)) * 7))+3)) (x1000.length:Int)) then (if (Int.tmod (wrap64 ((wrap64 ((wrap64 (x1001 - 1)) * 7))+3)) (x1000.length:Int)) < (x1000.length:Int) then (if x1=0 then (none) else (some (Int.tmod (Go.bits .xor .i64 (wrap64 ((wrap64 ((wrap64 ((wrap64 ((wrap64 (rd x1000 (Int.tmod (wrap64 (x1001 - 1)) (x1000.length:Int)))) * 131))+(wrap64 ((wrap64 (rd x1000 (Int.tmod (wrap64 ((wrap64 ((wrap64 (x1001 - 1)) * 7))+3)) (x1000.length:Int)))) * 1117))))+(wrap64 ((wrap64 (x1001 - 1)) * 29))))+(wrap64 ((wrap64 (Int.tdiv (wrap64 (x1001 - 1)) (x1000.length:Int))) * 53)))) (wrap64 (Int.tdiv (wrap64 ((wrap64 ((wrap64 ((wrap64 ((wrap64 (rd x1000 (Int.tmod (wrap64 (x1001 - 1)) (x1000.length:Int)))) * 131))+(wrap64 ((wrap64 (rd x1000 (Int.tmod (wrap64 ((wrap64 ((wrap64 (x1001 - 1)) * 7))+3)) (x1000.length:Int)))) * 1117))))+(wrap64 ((wrap64 (x1001 - 1)) * 29))))+(wrap64 ((wrap64 (Int.tdiv (wrap64 (x1001 - 1)) (x1000.length:Int))) * 53)))) 64))) x1,x1001))) else (none)) else (none)) else (none)) else (none))))
def spec_l6Rd_pick.f (k:Nat) (s0_0:List Int) (s0_1:Int) (a1:Int):Option (Int×Int):=if a1 < 1 then (spec_l6Rd_pick.j0 k a1 true s0_0 (wrap64 (s0_1+1))) else (spec_l6Rd_pick.j0 k a1 ((s0_0.length:Int) == 0) s0_0 (wrap64 (s0_1+1)))
theorem spec_l6Rd_pick.mono_l:∀ k,(∀ y0 y1 y2 y3,LeO (spec_l6Rd_pick.j0 k y0 y1 y2 y3) (spec_l6Rd_pick.j0 (k+1) y0 y1 y2 y3))
 | 0=>by intros;intro r h;simp [spec_l6Rd_pick.j0] at h
 | k+1=>by
  have ih0:=spec_l6Rd_pick.mono_l k;intros;unfold spec_l6Rd_pick.j0;repeat' first|(with_reducible first|exact ih0 _ _ _ _|exact LeO.refl _|exact LeO.none _|refine LeO.ite ?_ ?_|refine LeO.bind ?_ (fun _=>?_))|exact LeO.none _|refine LeO.ite ?_ ?_|refine LeO.bind ?_ (fun _=>?_)
theorem spec_l6Rd_pick.mono:∀ a0 a1 a2 k,LeO (spec_l6Rd_pick.f k a0 a1 a2) (spec_l6Rd_pick.f (k+1) a0 a1 a2):=by
 intro a0 a1 a2 k;have ih0:=spec_l6Rd_pick.mono_l k;unfold spec_l6Rd_pick.f
 repeat' first|(with_reducible first|exact ih0 _ _ _ _|exact LeO.refl _|exact LeO.none _|refine LeO.ite ?_ ?_|refine LeO.bind ?_ (fun _=>?_))|exact LeO.none _|refine LeO.ite ?_ ?_|refine LeO.bind ?_ (fun _=>?_)
theorem spec_l6Rd_pick.calls (k:Nat) (g:Nat) (s0_0:List Int) (s0_1:Int) (a1:Int) (r1:Int) (r2:Int) (w0 w:World) (hI:IsS68 w0 w g s0_0 s0_1) (hB:Below w0.heap.size w0 w) (h:spec_l6Rd_pick.f k s0_0 s0_1 a1=some (r1,r2)) :
  Calls Tryz.prog 22 #[.pointer (some ⟨g,0,none⟩),.int .i64 a1] w fun e w'=>e=.returned (.int .i64 r1)∧IsS68 w0 w' g s0_0 r2∧Below w0.heap.size w0 w'∧KeepBut w w' g none:=by
 have HI0:=A_ hI;have HK:=A_ (KeepBut.refl w g none);have HL:=A_ hB.size;clear hI;have HW0:=A_ hB.size;have HB:=A_ hB;clear hB;unfold spec_l6Rd_pick.f at h
 have H:=h;clear h;have HC3:=A_ H;clear H;obtain ⟨ASz4_0,cSz4_0,HGz4,hgz4,HSz4_0⟩:=HI0.out;have hcz4_0:=cellS68_0 HGz4;have hcz4_1:=cellS68_1 HGz4;have hfz4_1:=blk_frozen HGz4 1;clear HGz4 hgz4;go_enter Tryz.func22,Tryz.ntmps22;go_upto_region 2 with (fail)
 repeat (go_quiet (fail);go_upto_region 2 with (fail))
 go_cut [24] (fun v24 wc=>∃ (kq:Nat) (x24_2:Bool),v24=.bool x24_2∧Aside0 (spec_l6Rd_pick.j0 kq a1 x24_2 s0_0 (wrap64 (s0_1+1))=some (r1,r2))∧Aside0 (kq≤k)∧Aside0 (IsS68 w0 wc g s0_0 (wrap64 (s0_1+1)))∧Aside0 (KeepBut w wc g none)∧Aside0 (Below w0.heap.size w0 wc))
 case first=>
  obtain ⟨H⟩:=HC3;replace H:=iteEd H;rcases H with ⟨c5b0,H⟩|⟨c5b0,H⟩
  ·(first|rw [c5b0]|(simp only [i64_w,i32_w];rw [c5b0])|skip)
   have H':=A_ H;clear H;go_wp2
   repeat (go_quiet (fail);try go_wp2)
   go_meet
   case rel=>exact ⟨_,(true),zz0,H',⟨zz17⟩,⟨(zz18 HI0)⟩,⟨(zz19 HK)⟩,⟨(zz20 HB HI0)⟩⟩
  ·(first|rw [c5b0]|(simp only [i64_w,i32_w];rw [c5b0])|skip)
   have H':=A_ H;clear H;obtain ⟨ASz6_0,cSz6_0,HGz6,hgz6,HSz6_0⟩:=HI0.out;have hcz6_0:=cellS68_0 HGz6;have hcz6_1:=cellS68_1 HGz6;have hfz6_1:=blk_frozen HGz6 1;clear HGz6 hgz6;go_wp2
   repeat (go_quiet (fail);try go_wp2)
   go_meet
   case rel=>exact ⟨_,(((s0_0.length:Int) == 0)),zz0,H',⟨zz17⟩,⟨(zz18 HI0)⟩,⟨(zz19 HK)⟩,⟨(zz20 HB HI0)⟩⟩
 case rest=>
  clear HC3;obtain ⟨kq,x24_2,rfl,HA,HJ2,HI0,HK,HB⟩:=hcut;cases kq with
  | zero=>exact absurd HA.out (by simp [spec_l6Rd_pick.j0])
  | succ kj2=>
   obtain ⟨H⟩:=HA;simp only [spec_l6Rd_pick.j0] at H
   replace H:=iteB H;rcases H with ⟨rfl,H⟩|⟨rfl,H⟩
   ·simp only [Option.some.injEq,Prod.mk.injEq] at H
    obtain ⟨rfl,rfl⟩:=H;go_wp2
    repeat (go_quiet (fail);try go_wp2)
    go_ret
    exact ⟨zz12,(zz18 HI0),(zz20 HB HI0),(zz19 HK)⟩
   ·replace H:=iteE H
    rcases H with ⟨c8,H⟩|⟨c8,H⟩
    ·have c8b0:=dT c8
     clear c8;obtain ⟨ji9,hji9⟩:∃ j_:Int,(wrap64 ((wrap64 (s0_1+1)) - 1))=j_:=⟨_,rfl⟩;(first|rw [hji9] at H|simp only [hji9] at H)
     (try rw [hji9] at c8b0)
     have hji9w:(IntKind.i64.wrap ((wrap64 (s0_1+1)) - 1))=ji9:=(i64_w _).trans hji9;replace H:=iteNd H;obtain ⟨c10b0,H⟩:=H;replace H:=iteM H;obtain ⟨c11,H⟩:=H;obtain ⟨c11b0,c11b1⟩:=eqF c11;simp only [Option.some.injEq,Prod.mk.injEq] at H
     obtain ⟨rfl,rfl⟩:=H;obtain ⟨ASz12_0,cSz12_0,HGz12,hgz12,HSz12_0⟩:=HI0.out;have hcz12_0:=cellS68_0 HGz12;have hcz12_1:=cellS68_1 HGz12;have hfz12_1:=blk_frozen HGz12 1;clear HGz12 hgz12;obtain ⟨⟨ad104,e104,hx104_0⟩,p104,q104⟩:=atB (Kd.at_int HSz12_0 (ji9));cases e104
     replace hx104_0:=pw_cell_below HB.out hx104_0;go_wp2
     repeat (go_quiet (fail);try go_wp2)
     go_ret
     exact ⟨zz22,(zz18 HI0),(zz20 HB HI0),(zz19 HK)⟩
    ·have c8b0:=dF c8
     clear c8;replace H:=iteM H;obtain ⟨c13,H⟩:=H;obtain ⟨c13b0,c13b1⟩:=eqF c13;have c13b2:¬ (s0_0=[]):=fun h_=>c13 (by rw [h_];rfl)
     obtain ⟨ji14,hji14⟩:∃ j_:Int,(Int.tmod (wrap64 ((wrap64 (s0_1+1)) - 1)) (s0_0.length:Int))=j_:=⟨_,rfl⟩;(first|rw [hji14] at H|simp only [hji14] at H)
     replace H:=iteE H;rcases H with ⟨c15,H⟩|⟨c15,H⟩
     ·have c15b0:=dT c15
      clear c15;replace H:=iteNd H;obtain ⟨c16b0,H⟩:=H;obtain ⟨ji17,hji17⟩:∃ j_:Int,(Int.tmod (wrap64 ((wrap64 ((wrap64 ((wrap64 (s0_1+1)) - 1)) * 7))+3)) (s0_0.length:Int))=j_:=⟨_,rfl⟩;(first|rw [hji17] at H|simp only [hji17] at H)
      replace H:=iteNd H;obtain ⟨c18b0,H⟩:=H;replace H:=iteNd H;obtain ⟨c19b0,H⟩:=H;replace H:=iteM H;obtain ⟨c20,H⟩:=H;obtain ⟨c20b0,c20b1⟩:=eqF c20;simp only [Option.some.injEq,Prod.mk.injEq] at H
      obtain ⟨rfl,rfl⟩:=H;obtain ⟨ASz21_0,cSz21_0,HGz21,hgz21,HSz21_0⟩:=HI0.out;have hcz21_0:=cellS68_0 HGz21;have hcz21_1:=cellS68_1 HGz21;have hfz21_1:=blk_frozen HGz21 1;clear HGz21 hgz21;obtain ⟨⟨ad105,e105,hx105_0⟩,p105,q105⟩:=atB (Kd.at_int HSz21_0 (ji14));cases e105
      replace hx105_0:=pw_cell_below HB.out hx105_0;obtain ⟨⟨ad106,e106,hx106_0⟩,p106,q106⟩:=atB (Kd.at_int HSz21_0 (ji17));obtain rfl:ad105=ad106:=(by injection e106);replace hx106_0:=pw_cell_below HB.out hx106_0;go_wp2
      repeat (go_quiet (fail);try go_wp2)
      go_ret
      exact ⟨(by first|rfl|(simp [errW_none,errW_some] <;> rfl)|(simp only [← hji14,← hji17];first|rfl|(simp [errW_none,errW_some] <;> rfl))|(simp [*,errW_none,errW_some] <;> rfl)),(zz18 HI0),(zz20 HB HI0),(zz19 HK)⟩
     ·exact absurd H (by simp)
def spec_l6Rd_of.f (k:Nat) (s0_0:List Int) (s0_1:Int) (l1:List ByteArray):Option (ByteArray×Int):=(spec_l6Rd_pick.f k s0_0 s0_1 (l1.length:Int)).bind fun bt107=>(if 0≤bt107.1 then (if bt107.1 < (l1.length:Int) then (some (rdOf ByteArray.empty l1 bt107.1,bt107.2)) else (none)) else (none))
theorem spec_l6Rd_of.mono:∀ a0 a1 a2 k,LeO (spec_l6Rd_of.f k a0 a1 a2) (spec_l6Rd_of.f (k+1) a0 a1 a2):=by
 intro a0 a1 a2 k;unfold spec_l6Rd_of.f
 repeat' first|(with_reducible first|exact spec_l6Rd_pick.mono _ _ _ _|exact LeO.refl _|exact LeO.none _|refine LeO.ite ?_ ?_|refine LeO.bind ?_ (fun _=>?_))|exact LeO.none _|refine LeO.ite ?_ ?_|refine LeO.bind ?_ (fun _=>?_)
theorem spec_l6Rd_of.calls (k:Nat) (g:Nat) (s0_0:List Int) (s0_1:Int) (A1:Option Addr) (c1:Nat) (l1:List ByteArray) (r1:ByteArray) (r2:Int) (w0 w:World) (hI:IsS68 w0 w g s0_0 s0_1) (hB:Below w0.heap.size w0 w) (hr1:Kd.C Kd.string w A1 l1.length l1) (hc1:l1.length≤c1) (hf1:∀ ad,A1=some ad→0 < l1.length→ad.block≠g) (h:spec_l6Rd_of.f k s0_0 s0_1 l1=some (r1,r2)) :
  Calls Tryz.prog 41 #[.pointer (some ⟨g,0,none⟩),.slice A1 l1.length c1] w fun e w'=>e=.returned (.string r1)∧IsS68 w0 w' g s0_0 r2∧Below w0.heap.size w0 w'∧KeepBut w w' g none:=by
 have HR1:=A_ hr1;have HC1:=A_ hc1;clear hr1 hc1;have HI0:=A_ hI;have HK:=A_ (KeepBut.refl w g none);have HL:=A_ hB.size;clear hI;have HW0:=A_ hB.size;have HB:=A_ hB;clear hB;unfold spec_l6Rd_of.f at h
 have H:=h;clear h;replace H:=bindA H;obtain ⟨⟨t107,t108⟩,A3,H⟩:=H;try dsimp only at H
 replace H:=iteE H;rcases H with ⟨c4,H⟩|⟨c4,H⟩
 ·have c4b0:=dT c4
  clear c4;replace H:=iteNd H;obtain ⟨c5b0,H⟩:=H;simp only [Option.some.injEq,Prod.mk.injEq] at H
  obtain ⟨rfl,rfl⟩:=H;go_enter Tryz.func41,Tryz.ntmps41;go_wp2_with (first|(refine gR 22 (some 9) Tryz.func22 (spec_l6Rd_pick.calls k g s0_0 s0_1 (l1.length:Int) t107 t108 w0 _ ?side1 ?side2 A3.out) ?_;(case side1=>exact (zz18 HI0));(case side2=>exact (zz20 HB HI0));rintro w6 ⟨hi,hb,hk⟩;replace HK:=A_ (KeepBut.trans (zz19 HK) hk (.inl rfl));replace HB:=A_ (hb);replace HI0:=A_ (hi);(try clear hb hk hi);have p109:0≤(t107:Int):=ofD;have q109:t107 < (l1.length:Int):=ofD;obtain ⟨ad109,e109,hx109_0⟩:=Kd.at_string HR1.out t107 p109 q109;cases e109;replace hx109_0:=keep_cell HK.out hx109_0 (by first|(rw [add_block];exact hf1 _ rfl (by omega))|exact hf1 _ rfl (by omega)|exact hf1 ad109 rfl (by omega));replace p109:=eq_true p109;replace q109:=eq_true q109))
  go_ret
  exact ⟨zz12,(zz18 HI0),(zz20 HB HI0),(zz19 HK)⟩
 ·exact absurd H (by simp)
def spec_l6Dec.f:Nat→Int→Option (ByteArray)
 | 0,_=>none
 | k+1,a0=>if a0 < (-9223372036854775807) then (some (⟨#[45,57,50,50,51,51,55,50,48,51,54,56,53,52,55,55,53,56,48,56]⟩:ByteArray)) else (if a0 < 0 then ((spec_l6Dec.f k (wrap64 (-a0))).bind fun t171=>(if 1+t171.size≤9223372036854775807 then (some ((⟨#[45]⟩:ByteArray)++t171)) else (none))) else (if a0 < 10 then (some (strOfNums (([(wrap64 (48+a0)) % 256]:List Int)))) else ((spec_l6Dec.f k (wrap64 (Int.tdiv a0 10))).bind fun t175=>((some (([(wrap64 (48+(Int.tmod a0 10))) % 256]:List Int):List Int)).bind fun y176=>(if t175.size+(strOfNums y176).size≤9223372036854775807 then (some (t175++(strOfNums y176))) else (none))))))
theorem spec_l6Dec.mono_l:∀ k,(∀ y0,LeO (spec_l6Dec.f k y0) (spec_l6Dec.f (k+1) y0))
 | 0=>by intros;intro r h;simp [spec_l6Dec.f] at h
 | k+1=>by
  have ih0:=spec_l6Dec.mono_l k;intros;unfold spec_l6Dec.f;repeat' first|(with_reducible first|exact ih0 _|exact LeO.refl _|exact LeO.none _|refine LeO.ite ?_ ?_|refine LeO.bind ?_ (fun _=>?_))|exact LeO.none _|refine LeO.ite ?_ ?_|refine LeO.bind ?_ (fun _=>?_)
theorem spec_l6Dec.mono:∀ a0 k,LeO (spec_l6Dec.f k a0) (spec_l6Dec.f (k+1) a0):=by
 intro a0 k;have ih0:=spec_l6Dec.mono_l k;exact ih0 a0
def spec_l6Dec.T7:Bool×List (List Nat×List Nat):=(true,[([],[]),([0],[0]),([1],[1]),([],[]),([3],[3]),([4],[4]),([5],[5]),([6],[6]),([7],[7]),([2,8],[2,8]),([9,2,0,1,2,3,4,5,6,7,8,9],[9])])
def spec_l6Dec.B7:List Nat:=[0,1,3,0,8,24,56,120,248,511,1023]
theorem spec_l6Dec.tab7:rtab .any (opsOf Tryz.f42 7)=spec_l6Dec.T7:=by kernel_rfl
theorem spec_l6Dec.bits7:waitsOk spec_l6Dec.T7.2 spec_l6Dec.B7=true:=by kernel_rfl
theorem spec_l6Dec.calls (k:Nat):∀ (a0:Int) (r:ByteArray) (w:World) (h:spec_l6Dec.f k a0=some r),
  Calls Tryz.prog 42 #[.int .i64 a0] w fun e w'=>e=.returned (.string r)∧Below w.heap.size w w':=by
 induction k using Nat.strongRecOn with
 | _ k ih=>
 intro a0 r w h;cases k with
 | zero=>exact absurd h (by simp [spec_l6Dec.f])
 | succ k=>
 simp only [spec_l6Dec.f] at h
 have HB:=A_ (Below.refl w.heap.size w);have H:(if a0 < (-9223372036854775807) then (some (⟨#[45,57,50,50,51,51,55,50,48,51,54,56,53,52,55,55,53,56,48,56]⟩:ByteArray)) else (if a0 < 0 then ((spec_l6Dec.f k (wrap64 (-a0))).bind fun t171=>(if 1+t171.size≤9223372036854775807 then (some ((⟨#[45]⟩:ByteArray)++t171)) else (none))) else (if a0 < 10 then (some (strOfNums (([(wrap64 (48+a0)) % 256]:List Int)))) else ((spec_l6Dec.f k (wrap64 (Int.tdiv a0 10))).bind fun t175=>((some (([(wrap64 (48+(Int.tmod a0 10))) % 256]:List Int):List Int)).bind fun y176=>(if t175.size+(strOfNums y176).size≤9223372036854775807 then (some (t175++(strOfNums y176))) else (none)))))))=some r:=h;clear h;replace H:=iteEd H;rcases H with ⟨c2b0,H⟩|⟨c2b0,H⟩
 ·obtain rfl:=sI H
  go_enter Tryz.func42,Tryz.ntmps42;go_wp2
  go_ret
  exact ⟨zz12,(zz5 HB)⟩
 ·replace H:=iteEd H
  rcases H with ⟨c3b0,H⟩|⟨c3b0,H⟩
  ·replace H:=bindA H
   obtain ⟨t171,A4,H⟩:=H;replace H:=iteN H;obtain ⟨c5,H⟩:=H;have c5b0:=eq_true c5;have c5b1:=dT c5;try have c5b2:(9223372036854775807 < 1+t171.size)=False:=eq_false (Nat.not_lt.2 c5)
   obtain rfl:=sI H;go_enter Tryz.func42,Tryz.ntmps42;go_wp2_with (first|(refine gR 42 (some 9) Tryz.func42 (ih k (by omega) (wrap64 (-a0)) t171 _ A4.out) ?_;rintro w6 hb;replace HB:=A_ (bS (zz5 HB) hb);(try clear hb)))
   go_ret
   exact ⟨zz12,(zz5 HB)⟩
  ·replace H:=iteEd H
   rcases H with ⟨c7b0,H⟩|⟨c7b0,H⟩
   ·obtain ⟨y172,Ny172⟩:=toY (([(wrap64 (48+a0)) % 256]:List Int))
    (first|with_reducible replace H:=bindZ Ny172 H|rw [← Ny172.out] at H|skip)
    obtain rfl:=sI H;go_enter Tryz.func42,Tryz.ntmps42;go_wp2_with (first|((with_reducible refine gD (N:=16) rfl ?_);refine Kd.R_lit (Kd.int .u8) _ 5 ?hg (N:=16) ?hd (xs:=([(wrap64 (48+a0)) % 256]:List Int)) (inner:=[.int .u8 ((wrap64 (48+a0)) % 256)]) (ok:=fun _=>True) (okp:=fun _=>True) ?hr ?hp (fun _ hk=>hk) trivial (Below.refl _ _) (Nat.le_refl _) (by simp) ?_;(case hd=>rfl);(case hg=>rfl);(case hr=>exact zz26);(case hp=>exact (Reps.one (show Kd.M (Kd.int .u8) _ _ _ ((wrap64 (48+a0)) % 256) [.int .u8 ((wrap64 (48+a0)) % 256)] from rfl) (Reps.none _ _)));intro v173 w8 ho9 hb hg_ hnew_;clear hg_ hnew_;(first|rw [← Ny172.out] at ho9|(simp only [Int.reduceToNat] at ho9;rw [← Ny172.out] at ho9));have HO174:=A_ (Kd.R_lower ho9 (below_size (zz5 HB)));replace HB:=A_ (bS (zz5 HB) hb);clear hb ho9;have hcv10:=own_string (P:=Tryz.prog) Tryz.underlying22 Tryz.underlying5 Tryz.underlying9 (Kd.own_of_R HO174.out)))
    go_ret
    exact ⟨zz12,(zz5 HB)⟩
   ·replace H:=bindA H
    obtain ⟨t175,A11,H⟩:=H;obtain ⟨y176,Ny176,H⟩:=bindY H;replace H:=iteE H;rcases H with ⟨c12,H⟩|⟨c12,H⟩
    ·have c12b0:=eq_true c12
     have c12b1:=dT c12;try have c12b2:(9223372036854775807 < t175.size+(strOfNums y176).size)=False:=eq_false (Nat.not_lt.2 c12)
     obtain rfl:=sI H;go_enter Tryz.func42,Tryz.ntmps42;try go_wp2
     replace HB:=A_ (below_drew1 HB.out);refine start_ (n:=11) (S:=fun w'=>True) (ds:=[]) #[yF,yF,yF,yF,yF,yF,yF,yF,yF,yF,yF] (by kernel_rfl) rfl rfl trivial (fun hHeld=>?_);refine with_tabW spec_l6Dec.tab7 spec_l6Dec.bits7 (fun HT_ HW_=>?_);generalize w.drew=w13 at HB hHeld ⊢;refine pureZ 0 (some 18) #[yT,yF,yF,yF,yF,yF,yF,yF,yF,yF,yF] ?_;refine pureZ 1 (some 19) #[yT,yT,yF,yF,yF,yF,yF,yF,yF,yF,yF] ?_;refine pureZ 3 (some 21) #[yT,yT,yF,yT,yF,yF,yF,yF,yF,yF,yF] ?_;refine pureZ 4 (some 22) #[yT,yT,yF,yT,yT,yF,yF,yF,yF,yF,yF] ?_;refine pureZ 5 (some 23) #[yT,yT,yF,yT,yT,yT,yF,yF,yF,yF,yF] ?_;refine pureZ 6 (some 24) #[yT,yT,yF,yT,yT,yT,yT,yF,yF,yF,yF] ?_;refine join_ (σ:=Value) 2 #[yT,yT,yT,yT,yT,yT,yT,yT,yT,yF,yF] (fun s_=>[(20,.string t175),(25,s_),(26,.string (strOfNums y176))]) (fun s_ w'=>(Kd.R (Kd.int .u8) 5 w' w.heap.size (fun _=>True) s_ y176)∧(Below w.heap.size w w')) ?_ ?_;rotate_left
     ·intro hCont
      refine twoZ 2 7 (some 20) (some 25) #[yT,yT,yT,yT,yT,yT,yT,yF,yF,yF,yF] #[yT,yT,yF,yT,yT,yT,yT,yT,yF,yF,yF] (fun K hK=>?_) (fun K hK=>?_)
      ·skip
       refine goes_ Tryz.func42 (by kernel_rfl) rfl #[.int .i64 (wrap64 (Int.tdiv a0 10))] (by rfl) rfl rfl zz27 ?_;with_reducible refine (ih k (by omega) (wrap64 (Int.tdiv a0 10)) t175 _ A11.out).mono ?_
       rintro e w14 ⟨rfl,hb⟩;refine ⟨_,rfl,?_⟩;replace HB:=A_ (bS (zz5 HB) hb);(try clear hb)
       (try clear hb2)
       (try clear hk)
       (try clear hi)
       refine hK.out _ _ trivial (fun hHeld=>?_);clear hK K;refine nZ 20 ?_;refine oneZ 7 (some 25) #[yT,yT,yT,yT,yT,yT,yT,yT,yF,yF,yF] (fun K hK=>?_);refine Kd.R_lit_step (Kd.int .u8) _ 5 ?hg (N:=25) ?hd (xs:=([(wrap64 (48+(Int.tmod a0 10))) % 256]:List Int)) (inner:=[.int .u8 ((wrap64 (48+(Int.tmod a0 10))) % 256)]) (ok:=fun _=>True) (okp:=fun _=>True) ?hr ?hp (fun _ hk=>hk) trivial (Below.refl _ _) (Nat.le_refl _) (by simp) ?_;(case hd=>rfl);(case hg=>rfl);(case hr=>exact zz26);(case hp=>exact (Reps.one (show Kd.M (Kd.int .u8) _ _ _ ((wrap64 (48+(Int.tmod a0 10))) % 256) [.int .u8 ((wrap64 (48+(Int.tmod a0 10))) % 256)] from rfl) (Reps.none _ _)));intro v177 w15 ho16 hb hg_ hnew_;clear hg_ hnew_;(first|rw [← Ny176.out] at ho16|(simp only [Int.reduceToNat] at ho16;rw [← Ny176.out] at ho16))
       have HO178:=A_ (Kd.R_lower ho16 (below_size (zz5 HB)));replace HB:=A_ (bS (zz5 HB) hb);clear hb ho16;refine hK.out _ _ trivial (fun hHeld=>?_);clear hK K;refine nZ 25 ?_;refine oneZ 8 (some 26) #[yT,yT,yT,yT,yT,yT,yT,yT,yT,yF,yF] (fun K hK=>?_);have hcv17:=own_string (P:=Tryz.prog) Tryz.underlying22 Tryz.underlying5 Tryz.underlying9 (Kd.own_of_R HO178.out);refine value_ (w1:=?_) (v:=?_) (by rfl) rfl ?_ ?_;rotate_left 2
       ·go_simp
        constructor
        ·rfl
        ·rfl
       clear hcv17;refine hK.out _ _ trivial (fun hHeld=>?_);clear hK K;refine nZ 26 ?_;exact norm_ viaP (hCont (v177) _ ⟨(zz8 HO178),(zz5 HB)⟩)
      ·skip
       refine Kd.R_lit_step (Kd.int .u8) _ 5 ?hg (N:=25) ?hd (xs:=([(wrap64 (48+(Int.tmod a0 10))) % 256]:List Int)) (inner:=[.int .u8 ((wrap64 (48+(Int.tmod a0 10))) % 256)]) (ok:=fun _=>True) (okp:=fun _=>True) ?hr ?hp (fun _ hk=>hk) trivial (Below.refl _ _) (Nat.le_refl _) (by simp) ?_;(case hd=>rfl);(case hg=>rfl);(case hr=>exact zz26);(case hp=>exact (Reps.one (show Kd.M (Kd.int .u8) _ _ _ ((wrap64 (48+(Int.tmod a0 10))) % 256) [.int .u8 ((wrap64 (48+(Int.tmod a0 10))) % 256)] from rfl) (Reps.none _ _)));intro v177 w14 ho15 hb hg_ hnew_;clear hg_ hnew_;(first|rw [← Ny176.out] at ho15|(simp only [Int.reduceToNat] at ho15;rw [← Ny176.out] at ho15))
       have HO178:=A_ (Kd.R_lower ho15 (below_size (zz5 HB)));replace HB:=A_ (bS (zz5 HB) hb);clear hb ho15;refine hK.out _ _ trivial (fun hHeld=>?_);clear hK K;refine nZ 25 ?_;refine twoZ 2 8 (some 20) (some 26) #[yT,yT,yT,yT,yT,yT,yT,yT,yF,yF,yF] #[yT,yT,yF,yT,yT,yT,yT,yT,yT,yF,yF] (fun K hK=>?_) (fun K hK=>?_)
       ·skip
        refine goes_ Tryz.func42 (by kernel_rfl) rfl #[.int .i64 (wrap64 (Int.tdiv a0 10))] (by rfl) rfl rfl zz27 ?_;with_reducible refine (ih k (by omega) (wrap64 (Int.tdiv a0 10)) t175 _ A11.out).mono ?_
        rintro e w16 ⟨rfl,hb⟩;refine ⟨_,rfl,?_⟩;replace HO178:=A_ (rB (zz8 HO178) hb);replace HB:=A_ (bS (zz5 HB) hb);(try clear hb)
        (try clear hb2)
        (try clear hk)
        (try clear hi)
        refine hK.out _ _ trivial (fun hHeld=>?_);clear hK K;refine nZ 20 ?_;refine oneZ 8 (some 26) #[yT,yT,yT,yT,yT,yT,yT,yT,yT,yF,yF] (fun K hK=>?_);have hcv17:=own_string (P:=Tryz.prog) Tryz.underlying22 Tryz.underlying5 Tryz.underlying9 (Kd.own_of_R HO178.out);refine value_ (w1:=?_) (v:=?_) (by rfl) rfl ?_ ?_;rotate_left 2
        ·go_simp
         constructor
         ·rfl
         ·rfl
        clear hcv17;refine hK.out _ _ trivial (fun hHeld=>?_);clear hK K;refine nZ 26 ?_;exact norm_ viaP (hCont (v177) _ ⟨(zz8 HO178),(zz5 HB)⟩)
       ·skip
        have hcv16:=own_string (P:=Tryz.prog) Tryz.underlying22 Tryz.underlying5 Tryz.underlying9 (Kd.own_of_R HO178.out);refine value_ (w1:=?_) (v:=?_) (by rfl) rfl ?_ ?_;rotate_left 2
        ·go_simp
         constructor
         ·rfl
         ·rfl
        clear hcv16;refine hK.out _ _ trivial (fun hHeld=>?_);clear hK K;refine nZ 26 ?_;refine oneZ 2 (some 20) #[yT,yT,yT,yT,yT,yT,yT,yT,yT,yF,yF] (fun K hK=>?_);refine goes_ Tryz.func42 (by kernel_rfl) rfl #[.int .i64 (wrap64 (Int.tdiv a0 10))] (by rfl) rfl rfl zz27 ?_;with_reducible refine (ih k (by omega) (wrap64 (Int.tdiv a0 10)) t175 _ A11.out).mono ?_
        rintro e w17 ⟨rfl,hb⟩;refine ⟨_,rfl,?_⟩;replace HO178:=A_ (rB (zz8 HO178) hb);replace HB:=A_ (bS (zz5 HB) hb);(try clear hb)
        (try clear hb2)
        (try clear hk)
        (try clear hi)
        refine hK.out _ _ trivial (fun hHeld=>?_);clear hK K;refine nZ 20 ?_;exact norm_ viaP (hCont (v177) _ ⟨(zz8 HO178),(zz5 HB)⟩)
     rintro v177 w18 ⟨h0_,h1_⟩;have n0_:=A_ h0_;have n1_:=A_ h1_;(try dsimp only at n0_ n1_)
     clear HB;clear h0_ h1_;have HO178:=n0_;have HB:=n1_;clear n0_ n1_;have hHeld:=trivial;refine norm_ (a':=?_) ?_ ?_;rotate_left
     ·simp only [putAll,Act.put,List.setIfInBounds_toArray,List.set_cons_zero,List.set_cons_succ]
      rfl
     refine pureZ 9 (some 27) #[yT,yT,yT,yT,yT,yT,yT,yT,yT,yT,yF] ?_;refine pureZ 10 (some 2) #[yT,yT,yT,yT,yT,yT,yT,yT,yT,yT,yT] ?_;refine done_ (done_of HT_.out (by kernel_rfl)) ?_;try go_wp2
     go_ret
     exact ⟨zz12,(zz5 HB)⟩
    ·exact absurd H (by simp)
def spec_l1Path.l0:Nat→ByteArray→Int→ByteArray→List ByteArray→Bool→ByteArray→Option (ByteArray)
 | 0,_,_,_,_,_,_=>none
 | k+1,x3,x4,x111000,x111001,x111002,x111003=>if x4 < (x111001.length:Int) then (if x4 > 0 then (if x3.size+1≤9223372036854775807 then (if 0≤x4 then (if x3.size+1+(rdOf ByteArray.empty x111001 x4).size≤9223372036854775807 then (spec_l1Path.l0 k ((x3++(⟨#[47]⟩:ByteArray))++(rdOf ByteArray.empty x111001 x4)) (wrap64 (x4+1)) x111000 x111001 x111002 x111003) else (none)) else (none)) else (none)) else (if 0≤x4 then (if x3.size+(rdOf ByteArray.empty x111001 x4).size≤9223372036854775807 then (spec_l1Path.l0 k (x3++(rdOf ByteArray.empty x111001 x4)) (wrap64 (x4+1)) x111000 x111001 x111002 x111003) else (none)) else (none))) else (if x111002=true then (if x3.size+1≤9223372036854775807 then (if x3.size+1+x111003.size≤9223372036854775807 then (some ((x3++(⟨#[63]⟩:ByteArray))++x111003)) else (none)) else (none)) else (some x3))
def spec_l1Path.f (k:Nat) (a0_0:ByteArray) (l0_1:List ByteArray) (a0_2:Bool) (a0_3:ByteArray):Option (ByteArray):=spec_l1Path.l0 k (⟨#[47]⟩:ByteArray) 0 a0_0 l0_1 a0_2 a0_3
theorem spec_l1Path.mono_l:∀ k,(∀ y0 y1 y2 y3 y4 y5,LeO (spec_l1Path.l0 k y0 y1 y2 y3 y4 y5) (spec_l1Path.l0 (k+1) y0 y1 y2 y3 y4 y5))
 | 0=>by intros;intro r h;simp [spec_l1Path.l0] at h
 | k+1=>by
  have ih0:=spec_l1Path.mono_l k;intros;unfold spec_l1Path.l0;repeat' first|(with_reducible first|exact ih0 _ _ _ _ _ _|exact LeO.refl _|exact LeO.none _|refine LeO.ite ?_ ?_|refine LeO.bind ?_ (fun _=>?_))|exact LeO.none _|refine LeO.ite ?_ ?_|refine LeO.bind ?_ (fun _=>?_)
theorem spec_l1Path.mono:∀ a0 a1 a2 a3 k,LeO (spec_l1Path.f k a0 a1 a2 a3) (spec_l1Path.f (k+1) a0 a1 a2 a3):=by
 intro a0 a1 a2 a3 k;have ih0:=spec_l1Path.mono_l k;unfold spec_l1Path.f
 repeat' first|(with_reducible first|exact ih0 _ _ _ _ _ _|exact LeO.refl _|exact LeO.none _|refine LeO.ite ?_ ?_|refine LeO.bind ?_ (fun _=>?_))|exact LeO.none _|refine LeO.ite ?_ ?_|refine LeO.bind ?_ (fun _=>?_)
theorem spec_l1Path.calls (k:Nat) (a0_0:ByteArray) (A0_1:Option Addr) (c0_1:Nat) (l0_1:List ByteArray) (a0_2:Bool) (a0_3:ByteArray) (r:ByteArray) (w:World) (hr0_1:Kd.C Kd.string w A0_1 l0_1.length l0_1) (hc0_1:l0_1.length≤c0_1) (h:spec_l1Path.f k a0_0 l0_1 a0_2 a0_3=some r) :
  Calls Tryz.prog 100 #[.agg #[.string a0_0,.slice A0_1 l0_1.length c0_1,.bool a0_2,.string a0_3]] w fun e w'=>e=.returned (.string r)∧Below w.heap.size w w':=by
 have hu39:=Tryz.underlying39;have HR0_1:=A_ hr0_1;have HC0_1:=A_ hc0_1;clear hr0_1 hc0_1;have HB:=A_ (Below.refl w.heap.size w);unfold spec_l1Path.f at h
 have H:=h;clear h;have H':=A_ H;clear H;go_enter Tryz.func100,Tryz.ntmps100;go_wp2_with (first|(refine boxF 1 #[.string a0_0,.slice A0_1 l0_1.length c0_1,.bool a0_2,.string a0_3] 39 ?_;intro gb110 hg w2 BK110 hb;have GE110:=geB hg (zz5 HB);replace HB:=A_ (bS (zz5 HB) hb);clear hb hg))
 go_loopg [3,4] k (fun kq v3 v4 w'=>∃ (x3_1:ByteArray) (x4_1:Int),v3=.string x3_1∧v4=.int .i64 x4_1∧Aside0 (spec_l1Path.l0 kq x3_1 x4_1 a0_0 l0_1 a0_2 a0_3=some r)∧Aside0 (kq≤k)∧Aside0 (w'.heap[gb110]?=some (.cells #[.string a0_0,(.slice A0_1 l0_1.length c0_1),.bool a0_2,.string a0_3] 39 (0,0)))∧Aside0 (Below w.heap.size w w'))
 case atStart=>exact ⟨((⟨#[47]⟩:ByteArray)),(0),zz0,zz0,H',⟨Nat.le_refl _⟩,⟨(zz15 BK110)⟩,⟨(zz16 HB GE110)⟩⟩
 case round=>
  clear H';obtain ⟨x3_1,x4_1,rfl,rfl,HA,HK1,BK110,HB⟩:=hrel;cases gk with
  | zero=>exact absurd HA.out (by simp [spec_l1Path.l0])
  | succ k1=>
   obtain ⟨H⟩:=HA;simp only [spec_l1Path.l0] at H
   replace H:=iteEd H;rcases H with ⟨c3b0,H⟩|⟨c3b0,H⟩
   ·replace H:=iteEg H
    rcases H with ⟨c4b0,H⟩|⟨c4b0,H⟩
    ·replace H:=iteN H
     obtain ⟨c5,H⟩:=H;have c5b0:=eq_true c5;have c5b1:=dT c5;try have c5b2:(9223372036854775807 < x3_1.size+1)=False:=eq_false (Nat.not_lt.2 c5)
     replace H:=iteNd H;obtain ⟨c6b0,H⟩:=H;replace H:=iteN H;obtain ⟨c7,H⟩:=H;have c7b0:=eq_true c7;have c7b1:=dT c7;try have c7b2:(9223372036854775807 < x3_1.size+1+(rdOf ByteArray.empty l0_1 x4_1).size)=False:=eq_false (Nat.not_lt.2 c7)
     have H':=A_ H;clear H;obtain ⟨_,_,_,_,_,_,_,_⟩:=cf4 BK110;obtain ⟨⟨ad111,e111,hx111_0⟩,p111,q111⟩:=atB (Kd.at_string HR0_1.out x4_1);cases e111
     replace hx111_0:=cbl HB hx111_0;go_wp2
     go_roundg k1
     case measure=>have:=HK1.out;omega
     case rel=>exact ⟨((x3_1++(⟨#[47]⟩:ByteArray))++(rdOf ByteArray.empty l0_1 x4_1)),(wrap64 (x4_1+1)),zz0,zz0,H',⟨(zz3 HK1)⟩,⟨(zz15 BK110)⟩,⟨(zz16 HB GE110)⟩⟩
    ·replace H:=iteNd H
     obtain ⟨c9b0,H⟩:=H;replace H:=iteN H;obtain ⟨c10,H⟩:=H;have c10b0:=eq_true c10;have c10b1:=dT c10;try have c10b2:(9223372036854775807 < x3_1.size+(rdOf ByteArray.empty l0_1 x4_1).size)=False:=eq_false (Nat.not_lt.2 c10)
     have H':=A_ H;clear H;obtain ⟨_,_,_,_,_,_,_,_⟩:=cf4 BK110;obtain ⟨⟨ad112,e112,hx112_0⟩,p112,q112⟩:=atB (Kd.at_string HR0_1.out x4_1);cases e112
     replace hx112_0:=cbl HB hx112_0;go_wp2
     go_roundg k1
     case measure=>have:=HK1.out;omega
     case rel=>exact ⟨(x3_1++(rdOf ByteArray.empty l0_1 x4_1)),(wrap64 (x4_1+1)),zz0,zz0,H',⟨(zz3 HK1)⟩,⟨(zz15 BK110)⟩,⟨(zz16 HB GE110)⟩⟩
   ·replace H:=iteB H
    rcases H with ⟨rfl,H⟩|⟨rfl,H⟩
    ·replace H:=iteN H
     obtain ⟨c13,H⟩:=H;have c13b0:=eq_true c13;have c13b1:=dT c13;try have c13b2:(9223372036854775807 < x3_1.size+1)=False:=eq_false (Nat.not_lt.2 c13)
     replace H:=iteN H;obtain ⟨c14,H⟩:=H;have c14b0:=eq_true c14;have c14b1:=dT c14;try have c14b2:(9223372036854775807 < x3_1.size+1+a0_3.size)=False:=eq_false (Nat.not_lt.2 c14)
     obtain rfl:=sI H;obtain ⟨_,_,_,_,_,_,_,_⟩:=cf4 BK110;go_wp2
     go_ret
     exact ⟨zz12,(zz16 HB GE110)⟩
    ·obtain rfl:=sI H
     obtain ⟨_,_,_,_,_,_,_,_⟩:=cf4 BK110;go_wp2
     go_ret
     exact ⟨zz12,(zz16 HB GE110)⟩
mutual
def spec_l1Hex.j0:Nat→Int→Bool→Option (Int)
 | 0,_,_=>none
 | k+1,x0,x3=>if x3=true then (some ((x0 - 48) % 256)) else (if x0 ≥ 97 then (spec_l1Hex.j1 k x0 (decide (x0≤102))) else (spec_l1Hex.j1 k x0 false))
def spec_l1Hex.j1:Nat→Int→Bool→Option (Int)
 | 0,_,_=>none
 | k+1,x0,x13=>if x13=true then (some (((x0 - 97) % 256)+10)) else (if x0 ≥ 65 then (if x0≤70 then (some (((x0 - 65) % 256)+10)) else (some (-1))) else (some (-1)))
end
def spec_l1Hex.f (k:Nat) (a0:Int):Option (Int):=if a0 ≥ 48 then (spec_l1Hex.j0 k a0 (decide (a0≤57))) else (spec_l1Hex.j0 k a0 false)
theorem spec_l1Hex.mono_l:∀ k,(∀ y0 y1,LeO (spec_l1Hex.j0 k y0 y1) (spec_l1Hex.j0 (k+1) y0 y1))∧(∀ y0 y1,LeO (spec_l1Hex.j1 k y0 y1) (spec_l1Hex.j1 (k+1) y0 y1))
 | 0=>by refine ⟨?_,?_⟩ <;> (intros;intro r h;simp [spec_l1Hex.j0,spec_l1Hex.j1] at h)
 | k+1=>by
  obtain ⟨ih0,ih1⟩:=spec_l1Hex.mono_l k;refine ⟨?_,?_⟩ <;> intros <;> (first|unfold spec_l1Hex.j0|unfold spec_l1Hex.j1) <;>
  repeat' first|(with_reducible first|exact ih0 _ _|exact ih1 _ _|exact LeO.refl _|exact LeO.none _|refine LeO.ite ?_ ?_|refine LeO.bind ?_ (fun _=>?_))|exact LeO.none _|refine LeO.ite ?_ ?_|refine LeO.bind ?_ (fun _=>?_)
theorem spec_l1Hex.mono:∀ a0 k,LeO (spec_l1Hex.f k a0) (spec_l1Hex.f (k+1) a0):=by
 intro a0 k;obtain ⟨ih0,ih1⟩:=spec_l1Hex.mono_l k;unfold spec_l1Hex.f
 repeat' first|(with_reducible first|exact ih0 _ _|exact ih1 _ _|exact LeO.refl _|exact LeO.none _|refine LeO.ite ?_ ?_|refine LeO.bind ?_ (fun _=>?_))|exact LeO.none _|refine LeO.ite ?_ ?_|refine LeO.bind ?_ (fun _=>?_)
theorem spec_l1Hex.calls (k:Nat) (a0:Int) (r:Int) (w:World) (h:spec_l1Hex.f k a0=some r) :
  Calls Tryz.prog 131 #[.int .u8 a0] w fun e w'=>e=.returned (.int .i64 r)∧Drawn0 w w':=by
 unfold spec_l1Hex.f at h
 have H:=h;clear h;have HC2:=A_ H;clear H;go_enter Tryz.func131,Tryz.ntmps131;go_upto_region 1 with (fail)
 go_cut [3] (fun v3 wc=>∃ (kq:Nat) (x3_1:Bool),v3=.bool x3_1∧Aside0 (spec_l1Hex.j0 kq a0 x3_1=some r)∧Aside0 (kq≤k)∧Drawn0 w wc)
 case first=>
  obtain ⟨H⟩:=HC2;replace H:=iteEe H;rcases H with ⟨c3b0,H⟩|⟨c3b0,H⟩
  ·(first|rw [c3b0]|(simp only [i64_w,i32_w];rw [c3b0])|skip)
   have H':=A_ H;clear H;go_wp2
   go_meet
   case rel=>exact ⟨_,(decide (a0≤57)),zz0,H',⟨zz17⟩,zz1⟩
  ·(first|rw [c3b0]|(simp only [i64_w,i32_w];rw [c3b0])|skip)
   have H':=A_ H;clear H;go_wp2
   go_meet
   case rel=>exact ⟨_,(false),zz0,H',⟨zz17⟩,zz1⟩
 case rest=>
  clear HC2;obtain ⟨kq,x3_1,rfl,HA,HJ1,⟨mc1,rfl⟩⟩:=hcut;cases kq with
  | zero=>exact absurd HA.out (by simp [spec_l1Hex.j0])
  | succ kj1=>
   obtain ⟨H⟩:=HA;simp only [spec_l1Hex.j0] at H
   replace H:=iteB H;rcases H with ⟨rfl,H⟩|⟨rfl,H⟩
   ·obtain rfl:=sI H
    go_wp2
    go_ret
    exact ⟨zz0,zz1⟩
   ·have HC5:=A_ H
    clear H;go_upto_region 3 with (fail)
    go_cut [13] (fun v13 wc=>∃ (kq:Nat) (x13_4:Bool),v13=.bool x13_4∧Aside0 (spec_l1Hex.j1 kq a0 x13_4=some r)∧Aside0 (kq≤kj1)∧Drawn0 w wc)
    case first=>
     obtain ⟨H⟩:=HC5;replace H:=iteEe H;rcases H with ⟨c6b0,H⟩|⟨c6b0,H⟩
     ·(first|rw [c6b0]|(simp only [i64_w,i32_w];rw [c6b0])|skip)
      have H':=A_ H;clear H;go_wp2
      go_meet
      case rel=>exact ⟨_,(decide (a0≤102)),zz0,H',⟨(zz7 HJ1)⟩,zz1⟩
     ·(first|rw [c6b0]|(simp only [i64_w,i32_w];rw [c6b0])|skip)
      have H':=A_ H;clear H;go_wp2
      go_meet
      case rel=>exact ⟨_,(false),zz0,H',⟨(zz7 HJ1)⟩,zz1⟩
    case rest=>
     clear HC5;obtain ⟨kq,x13_4,rfl,HA,HJ4,⟨mc4,rfl⟩⟩:=hcut;cases kq with
     | zero=>exact absurd HA.out (by simp [spec_l1Hex.j1])
     | succ kj4=>
      obtain ⟨H⟩:=HA;simp only [spec_l1Hex.j1] at H
      replace H:=iteB H;rcases H with ⟨rfl,H⟩|⟨rfl,H⟩
      ·obtain rfl:=sI H
       go_wp2
       go_ret
       exact ⟨zz0,zz1⟩
      ·replace H:=iteE H
       rcases H with ⟨c8,H⟩|⟨c8,H⟩
       ·have c8b0:=geT c8
        clear c8;replace H:=iteEd H;rcases H with ⟨c9b0,H⟩|⟨c9b0,H⟩
        ·obtain rfl:=sI H
         go_wp2
         go_ret
         exact ⟨zz0,zz1⟩
        ·obtain rfl:=sI H
         go_wp2
         go_ret
         exact ⟨zz0,zz1⟩
       ·have c8b0:=geF c8
        clear c8;obtain rfl:=sI H;go_wp2
        go_ret
        exact ⟨zz0,zz1⟩
def spec_l11At.l0:Nat→List (S30)→ByteArray→Int→Option (ByteArray×ByteArray×ByteArray×Int×Bool)
 | 0,_,_,_=>none
 | k+1,x0,x1,x6=>if x6 < (x0.length:Int) then (if 0≤x6 then (if ((rd_T30 x0 x6).f0).toList=x1.toList then (some ((rd_T30 x0 x6).f0,(rd_T30 x0 x6).f1,(rd_T30 x0 x6).f2,(rd_T30 x0 x6).f3,true)) else (spec_l11At.l0 k x0 x1 (wrap64 (x6+1)))) else (none)) else (some ((⟨#[]⟩:ByteArray),(⟨#[]⟩:ByteArray),(⟨#[]⟩:ByteArray),0,false))
def spec_l11At.f (k:Nat) (l0:List (S30)) (a1:ByteArray):Option (ByteArray×ByteArray×ByteArray×Int×Bool):=spec_l11At.l0 k l0 a1 0
theorem spec_l11At.calls (k:Nat) (A0:Option Addr) (c0:Nat) (l0:List (S30)) (a1:ByteArray) (r1:ByteArray) (r2:ByteArray) (r3:ByteArray) (r4:Int) (r5:Bool) (w:World) (hr0:Kd.C k30 w A0 l0.length l0) (hc0:l0.length≤c0) (h:spec_l11At.f k l0 a1=some (r1,r2,r3,r4,r5)) :
  Calls Tryz.prog 44 #[.slice A0 l0.length c0,.string a1] w fun e w'=>e=.returned (.tuple #[.agg #[.string r1,.string r2,.string r3,.int .i64 r4],.bool r5])∧Below w.heap.size w w':=by
 have hu30:=Tryz.underlying30;have HR0:=A_ hr0;have HC0:=A_ hc0;clear hr0 hc0;have HB:=A_ (Below.refl w.heap.size w);unfold spec_l11At.f at h
 have H:=h;clear h;have H':=A_ H;clear H;go_enter Tryz.func44,Tryz.ntmps44;go_wp2_with (first|(refine boxF 4 #[.string (⟨#[]⟩:ByteArray),.string (⟨#[]⟩:ByteArray),.string (⟨#[]⟩:ByteArray),.int .i64 0] 30 ?_;intro gb168 hg w3 BK168 hb;have GE168:=geB hg (zz5 HB);replace HB:=A_ (bS (zz5 HB) hb);clear hb hg))
 go_loopg [6] k (fun kq v6 w'=>∃ (x6_1:Int) (x169000_1:ByteArray) (x169001_1:ByteArray) (x169002_1:ByteArray) (x169003_1:Int),v6=.int .i64 x6_1∧Aside0 (spec_l11At.l0 kq l0 a1 x6_1=some (r1,r2,r3,r4,r5))∧Aside0 (kq≤k)∧Aside0 (w'.heap[gb168]?=some (.cells #[.string x169000_1,.string x169001_1,.string x169002_1,.int .i64 x169003_1] 30 (0,0)))∧Aside0 (Below w.heap.size w w'))
 case atStart=>exact ⟨(0),((⟨#[]⟩:ByteArray)),((⟨#[]⟩:ByteArray)),((⟨#[]⟩:ByteArray)),(0),zz0,H',⟨Nat.le_refl _⟩,⟨(zz15 BK168)⟩,⟨(zz16 HB GE168)⟩⟩
 case round=>
  clear H';obtain ⟨x6_1,x169000_1,x169001_1,x169002_1,x169003_1,rfl,HA,HK1,BK168,HB⟩:=hrel;cases gk with
  | zero=>exact absurd HA.out (by simp [spec_l11At.l0])
  | succ k1=>
   obtain ⟨H⟩:=HA;simp only [spec_l11At.l0] at H
   replace H:=iteEd H;rcases H with ⟨c4b0,H⟩|⟨c4b0,H⟩
   ·replace H:=iteNd H
    obtain ⟨c5b0,H⟩:=H;replace H:=iteEq H;rcases H with ⟨c6b0,c6b1,H⟩|⟨c6b0,c6b1,c6,H⟩
    ·simp only [Option.some.injEq,Prod.mk.injEq] at H
     obtain ⟨rfl,rfl,rfl,rfl,rfl⟩:=H;obtain ⟨⟨ad169,e169,hx169_0,hx169_1,hx169_2,hx169_3⟩,p169,q169⟩:=atB (at_T30 HR0.out x6_1);cases e169
     obtain ⟨hx169_0,hx169_1,hx169_2,hx169_3⟩:=cb4 HB hx169_0 hx169_1 hx169_2 hx169_3;obtain ⟨⟨ad170,e170,hx170_0,hx170_1,hx170_2,hx170_3⟩,p170,q170⟩:=atB (at_T30 HR0.out x6_1);obtain rfl:ad169=ad170:=(by injection e170);obtain ⟨hx170_0,hx170_1,hx170_2,hx170_3⟩:=cb4 HB hx170_0 hx170_1 hx170_2 hx170_3;obtain ⟨_,_,_,_,_,_,_,_⟩:=cf4 BK168;go_wp2
     refine pR (results_ct rfl _ _ gb168 30 #[.string ((rd_T30 l0 x6_1).f0),.string ((rd_T30 l0 x6_1).f1),.string ((rd_T30 l0 x6_1).f2),.int .i64 ((rd_T30 l0 x6_1).f3)] (0,0) _ rfl (zz32 BK168) Tryz.underlying30 rfl (by kernel_rfl)) rfl ?_;exact ⟨zz12,(zz16 HB GE168)⟩
    ·have H':=A_ H
     clear H;obtain ⟨⟨ad169,e169,hx169_0,hx169_1,hx169_2,hx169_3⟩,p169,q169⟩:=atB (at_T30 HR0.out x6_1);cases e169
     obtain ⟨hx169_0,hx169_1,hx169_2,hx169_3⟩:=cb4 HB hx169_0 hx169_1 hx169_2 hx169_3;go_wp2
     go_roundg k1
     case measure=>have:=HK1.out;omega
     case rel=>exact ⟨(wrap64 (x6_1+1)),(x169000_1),(x169001_1),(x169002_1),(x169003_1),zz0,H',⟨(zz3 HK1)⟩,⟨(zz15 BK168)⟩,⟨(zz16 HB GE168)⟩⟩
   ·simp only [Option.some.injEq,Prod.mk.injEq] at H
    obtain ⟨rfl,rfl,rfl,rfl,rfl⟩:=H;obtain ⟨_,_,_,_,_,_,_,_⟩:=cf4 BK168;go_wp2
    refine pR (results_ct rfl _ _ gb168 30 #[.string (⟨#[]⟩:ByteArray),.string (⟨#[]⟩:ByteArray),.string (⟨#[]⟩:ByteArray),.int .i64 0] (0,0) _ rfl (zz32 BK168) Tryz.underlying30 rfl (by kernel_rfl)) rfl ?_;exact ⟨zz12,(zz16 HB GE168)⟩
def spec_l71Rule.f (k:Nat) (s0_0:List Int) (s0_1:Int):Option (ByteArray×Int):=(spec_l6Rd_of.f k s0_0 s0_1 (([(⟨#[47]⟩:ByteArray),(⟨#[47,97]⟩:ByteArray),(⟨#[47,98]⟩:ByteArray),(⟨#[47,97,47]⟩:ByteArray),(⟨#[47,42,98]⟩:ByteArray),(⟨#[47,97,36]⟩:ByteArray),(⟨#[47,99]⟩:ByteArray),(⟨#[47,42,63]⟩:ByteArray),(⟨#[47,97,47,98]⟩:ByteArray),(⟨#[47,42,47,98,36]⟩:ByteArray),(⟨#[47,36]⟩:ByteArray),(⟨#[47,98,42,99]⟩:ByteArray),(⟨#[47,110,111,116,105,99,101]⟩:ByteArray),(⟨#[47,42]⟩:ByteArray)]:List ByteArray))).bind fun bt207=>(some (bt207.1,bt207.2))
theorem spec_l71Rule.calls (k:Nat) (g:Nat) (s0_0:List Int) (s0_1:Int) (r1:ByteArray) (r2:Int) (w0 w:World) (hI:IsS68 w0 w g s0_0 s0_1) (hB:Below w0.heap.size w0 w) (h:spec_l71Rule.f k s0_0 s0_1=some (r1,r2)) :
  Calls Tryz.prog 118 #[.pointer (some ⟨g,0,none⟩)] w fun e w'=>e=.returned (.string r1)∧IsS68 w0 w' g s0_0 r2∧Below w0.heap.size w0 w'∧KeepBut w w' g none:=by
 have HI0:=A_ hI;have HK:=A_ (KeepBut.refl w g none);have HL:=A_ hB.size;clear hI;have HW0:=A_ hB.size;have HB:=A_ hB;clear hB;unfold spec_l71Rule.f at h
 have H:=h;clear h;obtain ⟨y204,Ny204⟩:=toY (([(⟨#[47]⟩:ByteArray),(⟨#[47,97]⟩:ByteArray),(⟨#[47,98]⟩:ByteArray),(⟨#[47,97,47]⟩:ByteArray),(⟨#[47,42,98]⟩:ByteArray),(⟨#[47,97,36]⟩:ByteArray),(⟨#[47,99]⟩:ByteArray),(⟨#[47,42,63]⟩:ByteArray),(⟨#[47,97,47,98]⟩:ByteArray),(⟨#[47,42,47,98,36]⟩:ByteArray),(⟨#[47,36]⟩:ByteArray),(⟨#[47,98,42,99]⟩:ByteArray),(⟨#[47,110,111,116,105,99,101]⟩:ByteArray),(⟨#[47,42]⟩:ByteArray)]:List ByteArray));(first|with_reducible replace H:=bindZ Ny204 H|rw [← Ny204.out] at H|skip)
 replace H:=bindA H;obtain ⟨⟨t207,t208⟩,A2,H⟩:=H;try dsimp only at H
 simp only [Option.some.injEq,Prod.mk.injEq] at H
 obtain ⟨rfl,rfl⟩:=H;go_enter Tryz.func118,Tryz.ntmps118;go_wp2_with (first|((with_reducible refine gD (N:=4) rfl ?_);refine Kd.R_lit Kd.string _ 9 ?hg (N:=4) ?hd (xs:=([(⟨#[47]⟩:ByteArray),(⟨#[47,97]⟩:ByteArray),(⟨#[47,98]⟩:ByteArray),(⟨#[47,97,47]⟩:ByteArray),(⟨#[47,42,98]⟩:ByteArray),(⟨#[47,97,36]⟩:ByteArray),(⟨#[47,99]⟩:ByteArray),(⟨#[47,42,63]⟩:ByteArray),(⟨#[47,97,47,98]⟩:ByteArray),(⟨#[47,42,47,98,36]⟩:ByteArray),(⟨#[47,36]⟩:ByteArray),(⟨#[47,98,42,99]⟩:ByteArray),(⟨#[47,110,111,116,105,99,101]⟩:ByteArray),(⟨#[47,42]⟩:ByteArray)]:List ByteArray)) (inner:=[.string (⟨#[47]⟩:ByteArray),.string (⟨#[47,97]⟩:ByteArray),.string (⟨#[47,98]⟩:ByteArray),.string (⟨#[47,97,47]⟩:ByteArray),.string (⟨#[47,42,98]⟩:ByteArray),.string (⟨#[47,97,36]⟩:ByteArray),.string (⟨#[47,99]⟩:ByteArray),.string (⟨#[47,42,63]⟩:ByteArray),.string (⟨#[47,97,47,98]⟩:ByteArray),.string (⟨#[47,42,47,98,36]⟩:ByteArray),.string (⟨#[47,36]⟩:ByteArray),.string (⟨#[47,98,42,99]⟩:ByteArray),.string (⟨#[47,110,111,116,105,99,101]⟩:ByteArray),.string (⟨#[47,42]⟩:ByteArray)]) (ok:=fun _=>True) (okp:=fun _=>True) ?hr ?hp (fun _ hk=>hk) trivial (Below.refl _ _) (Nat.le_refl _) (by simp) ?_;(case hd=>rfl);(case hg=>rfl);(case hr=>exact zz26);(case hp=>exact (Reps.one (show Kd.M Kd.string _ _ _ (⟨#[47]⟩:ByteArray) [.string (⟨#[47]⟩:ByteArray)] from rfl) (Reps.one (show Kd.M Kd.string _ _ _ (⟨#[47,97]⟩:ByteArray) [.string (⟨#[47,97]⟩:ByteArray)] from rfl) (Reps.one (show Kd.M Kd.string _ _ _ (⟨#[47,98]⟩:ByteArray) [.string (⟨#[47,98]⟩:ByteArray)] from rfl) (Reps.one (show Kd.M Kd.string _ _ _ (⟨#[47,97,47]⟩:ByteArray) [.string (⟨#[47,97,47]⟩:ByteArray)] from rfl) (Reps.one (show Kd.M Kd.string _ _ _ (⟨#[47,42,98]⟩:ByteArray) [.string (⟨#[47,42,98]⟩:ByteArray)] from rfl) (Reps.one (show Kd.M Kd.string _ _ _ (⟨#[47,97,36]⟩:ByteArray) [.string (⟨#[47,97,36]⟩:ByteArray)] from rfl) (Reps.one (show Kd.M Kd.string _ _ _ (⟨#[47,99]⟩:ByteArray) [.string (⟨#[47,99]⟩:ByteArray)] from rfl) (Reps.one (show Kd.M Kd.string _ _ _ (⟨#[47,42,63]⟩:ByteArray) [.string (⟨#[47,42,63]⟩:ByteArray)] from rfl) (Reps.one (show Kd.M Kd.string _ _ _ (⟨#[47,97,47,98]⟩:ByteArray) [.string (⟨#[47,97,47,98]⟩:ByteArray)] from rfl) (Reps.one (show Kd.M Kd.string _ _ _ (⟨#[47,42,47,98,36]⟩:ByteArray) [.string (⟨#[47,42,47,98,36]⟩:ByteArray)] from rfl) (Reps.one (show Kd.M Kd.string _ _ _ (⟨#[47,36]⟩:ByteArray) [.string (⟨#[47,36]⟩:ByteArray)] from rfl) (Reps.one (show Kd.M Kd.string _ _ _ (⟨#[47,98,42,99]⟩:ByteArray) [.string (⟨#[47,98,42,99]⟩:ByteArray)] from rfl) (Reps.one (show Kd.M Kd.string _ _ _ (⟨#[47,110,111,116,105,99,101]⟩:ByteArray) [.string (⟨#[47,110,111,116,105,99,101]⟩:ByteArray)] from rfl) (Reps.one (show Kd.M Kd.string _ _ _ (⟨#[47,42]⟩:ByteArray) [.string (⟨#[47,42]⟩:ByteArray)] from rfl) (Reps.none _ _))))))))))))))));intro v205 w3 ho4 hb hg_ hnew_;clear hg_ hnew_;(first|rw [← Ny204.out] at ho4|(simp only [Int.reduceToNat] at ho4;rw [← Ny204.out] at ho4));have HO206:=A_ (Kd.R_lower ho4 (keep_size (w:=w) (g:=g) (row:=none) (zz19 HK)));replace HK:=A_ (KeepBut.trans (zz19 HK) (KeepBut.of_below hb g none) (.inl rfl));replace HB:=A_ (bS (zz20 HB HI0) hb);replace HI0:=A_ (IsS68.below (zz18 HI0) hb);clear hb ho4;obtain ⟨Ao5,co5,eo5⟩:=Kd.R_slice HO206.out;subst eo5)|(refine gR 41 (some 5) Tryz.func41 (spec_l6Rd_of.calls k g s0_0 s0_1 _ _ y204 t207 t208 w0 _ ?side1 ?side2 ?side3 ?side4 ?side5 A2.out) ?_;(case side1=>exact (zz18 HI0));(case side2=>exact (zz20 HB HI0));(case side3=>exact (zz33 HO206));(case side4=>exact (Kd.R_reads' HO206.out).2.1);(case side5=>exact far_slice (IsS68.own_ne HI0.out HO206.out (by decide)));rintro w6 ⟨hi,hb,hk⟩;replace HO206:=A_ (Kd.R_mono (Kd.R_keep (IsS68.apart (show IsS68 w0 _ g s0_0 s0_1 from (zz18 HI0)) (zz8 HO206) (by decide)) hk (fun _ h=>h.2)) (fun _ h=>h.1));replace HK:=A_ (KeepBut.trans (zz19 HK) hk (.inl rfl));replace HB:=A_ (hb);replace HI0:=A_ (hi);(try clear hb hk hi)))
 go_ret
 exact ⟨zz12,(zz18 HI0),(zz20 HB HI0),(zz19 HK)⟩
def spec_l71Rules.l0:Nat→List (S108)→Int→List Int→Int→Option ((List (S108))×Int)
 | 0,_,_,_,_=>none
 | k+1,x3,x4,x1000,x1001=>if x4 > 0 then ((spec_l6Rd_pick.f k x1000 x1001 2).bind fun bt214=>((spec_l71Rule.f k x1000 bt214.2).bind fun bt216=>(if x3.length < 5864062014805 then (spec_l71Rules.l0 k (x3++[(⟨(bt214.1 == 0),bt216.1⟩:S108)]) (wrap64 (x4 - 1)) x1000 bt216.2) else (none)))) else (some (x3,x1001))
def spec_l71Rules.f (k:Nat) (s0_0:List Int) (s0_1:Int):Option ((List (S108))×Int):=(spec_l6Rd_pick.f k s0_0 s0_1 5).bind fun bt212=>(spec_l71Rules.l0 k (([]:List (S108))) bt212.1 s0_0 bt212.2)
theorem spec_l71Rules.calls (k:Nat) (g:Nat) (s0_0:List Int) (s0_1:Int) (r1:List (S108)) (r2:Int) (w0 w:World) (hI:IsS68 w0 w g s0_0 s0_1) (hB:Below w0.heap.size w0 w) (h:spec_l71Rules.f k s0_0 s0_1=some (r1,r2)) :
  Calls Tryz.prog 94 #[.pointer (some ⟨g,0,none⟩)] w fun e w'=>∃ v0_:Value,e=.returned (v0_)∧Kd.R k108 108 w' w.heap.size (fun _=>True) v0_ r1∧IsS68 w0 w' g s0_0 r2∧Below w0.heap.size w0 w'∧KeepBut w w' g none:=by
 have hu108:=Tryz.underlying108;have HI0:=A_ hI;have HK:=A_ (KeepBut.refl w g none);have HL:=A_ hB.size;clear hI;have HW0:=A_ hB.size;have HB:=A_ hB;clear hB;unfold spec_l71Rules.f at h
 have H:=h;clear h;obtain ⟨y209,Ny209⟩:=toY (([]:List (S108)));(first|with_reducible replace H:=bindZ Ny209 H|rw [← Ny209.out] at H|skip)
 replace H:=bindA H;obtain ⟨⟨t212,t213⟩,A2,H⟩:=H;try dsimp only at H
 have H':=A_ H;clear H;go_enter Tryz.func94,Tryz.ntmps94;go_wp2_with (first|((with_reducible refine gD (N:=5) rfl ?_);refine Kd.R_lit k108 _ 108 ?hg (N:=5) ?hd (xs:=([]:List (S108))) (inner:=[]) (ok:=fun _=>True) (okp:=fun _=>True) ?hr ?hp (fun _ hk=>hk) trivial (Below.refl _ _) (Nat.le_refl _) (by simp) ?_;(case hd=>rfl);(case hg=>rfl);(case hr=>exact zz26);(case hp=>exact (Reps.none _ _));intro v210 w3 ho4 hb hg_ hnew_;clear hg_ hnew_;(first|rw [← Ny209.out] at ho4|(simp only [Int.reduceToNat] at ho4;rw [← Ny209.out] at ho4));have HO211:=A_ (Kd.R_lower ho4 (keep_size (w:=w) (g:=g) (row:=none) (zz19 HK)));replace HK:=A_ (KeepBut.trans (zz19 HK) (KeepBut.of_below hb g none) (.inl rfl));replace HB:=A_ (bS (zz20 HB HI0) hb);replace HI0:=A_ (IsS68.below (zz18 HI0) hb);clear hb ho4)|(refine gR 22 (some 7) Tryz.func22 (spec_l6Rd_pick.calls k g s0_0 s0_1 5 t212 t213 w0 _ ?side1 ?side2 A2.out) ?_;(case side1=>exact (zz18 HI0));(case side2=>exact (zz20 HB HI0));rintro w5 ⟨hi,hb,hk⟩;replace HO211:=A_ (Kd.R_mono (Kd.R_keep (IsS68.apart (show IsS68 w0 _ g s0_0 s0_1 from (zz18 HI0)) (zz8 HO211) (by decide)) hk (fun _ h=>h.2)) (fun _ h=>h.1));replace HK:=A_ (KeepBut.trans (zz19 HK) hk (.inl rfl));replace HB:=A_ (hb);replace HI0:=A_ (hi);(try clear hb hk hi)))
 go_loopg [3,4] k (fun kq v3 v4 w'=>∃ (x3_1:List (S108)) (x4_1:Int) (x1001_1:Int),v4=.int .i64 x4_1∧Aside0 (spec_l71Rules.l0 kq x3_1 x4_1 s0_0 x1001_1=some (r1,r2))∧Aside0 (kq≤k)∧Aside0 (Kd.R k108 108 w' w.heap.size (fun _=>True) v3 x3_1)∧Aside0 (IsS68 w0 w' g s0_0 x1001_1)∧Aside0 (KeepBut w w' g none)∧Aside0 (Below w0.heap.size w0 w'))
 case atStart=>exact ⟨(y209),(t212),(t213),zz0,H',⟨Nat.le_refl _⟩,⟨(zz8 HO211)⟩,⟨(zz18 HI0)⟩,⟨(zz19 HK)⟩,⟨(zz20 HB HI0)⟩⟩
 case round=>
  clear H';obtain ⟨x3_1,x4_1,x1001_1,rfl,HA,HK1,HO_3,HI0,HK,HB⟩:=hrel;cases gk with
  | zero=>exact absurd HA.out (by simp [spec_l71Rules.l0])
  | succ k1=>
   obtain ⟨H⟩:=HA;simp only [spec_l71Rules.l0] at H
   replace H:=iteEg H;rcases H with ⟨c6b0,H⟩|⟨c6b0,H⟩
   ·replace H:=bindA H
    obtain ⟨⟨t214,t215⟩,A7,H⟩:=H;try dsimp only at H
    replace H:=bindA H;obtain ⟨⟨t216,t217⟩,A8,H⟩:=H;try dsimp only at H
    replace H:=iteN H;obtain ⟨c9,H⟩:=H;have LMc9:=A_ c9;clear c9;obtain ⟨y218,Ny218⟩:=toY (x3_1++[(⟨(t214 == 0),t216⟩:S108)]);(first|with_reducible replace H:=bindZ Ny218 H|rw [← Ny218.out] at H|skip)
    have H':=A_ H;clear H;go_wp2_with (first|(refine gR 22 (some 14) Tryz.func22 (spec_l6Rd_pick.calls k1 g s0_0 x1001_1 2 t214 t215 w0 _ ?side1 ?side2 A7.out) ?_;(case side1=>exact (zz18 HI0));(case side2=>exact (zz20 HB HI0));rintro w10 ⟨hi,hb,hk⟩;replace HO_3:=A_ (Kd.R_mono (Kd.R_keep (IsS68.apart (show IsS68 w0 _ g s0_0 x1001_1 from (zz18 HI0)) (zz8 HO_3) (by decide)) hk (fun _ h=>h.2)) (fun _ h=>h.1));replace HK:=A_ (KeepBut.trans (zz19 HK) hk (.inl rfl));replace HB:=A_ (hb);replace HI0:=A_ (hi);(try clear hb hk hi))|(refine gR 118 (some 17) Tryz.func118 (spec_l71Rule.calls k1 g s0_0 t215 t216 t217 w0 _ ?side1 ?side2 A8.out) ?_;(case side1=>exact (zz18 HI0));(case side2=>exact (zz20 HB HI0));rintro w11 ⟨hi,hb,hk⟩;replace HO_3:=A_ (Kd.R_mono (Kd.R_keep (IsS68.apart (show IsS68 w0 _ g s0_0 t215 from (zz18 HI0)) (zz8 HO_3) (by decide)) hk (fun _ h=>h.2)) (fun _ h=>h.1));replace HK:=A_ (KeepBut.trans (zz19 HK) hk (.inl rfl));replace HB:=A_ (hb);replace HI0:=A_ (hi);(try clear hb hk hi))|((with_reducible refine gate_builtin (b:=.append) (xs:=#[.tmp 12,.tmp 19]) rfl ?_);at_builtin;refine Kd.R_append k108 w.heap.size rfl (.tmp 12) (.tmp 19) 104 108 (.agg #[(.bool false),(.string ⟨#[]⟩)]) 24 rfl Tryz.underlying104 info108 rfl (by decide) (by omega) u3 x3_1 (⟨(t214 == 0),t216⟩:S108) [.bool (t214 == 0),.string t216] (fun _=>True) (fun _=>False) rfl rfl ?aP (fun _ hk=>hk.elim) ?aF ?aO (Below.refl _ _) ?aS ?aL ?_;(case aP=>exact k108_mkM _ _ _ (⟨(t214 == 0),t216⟩:S108));(case aF=>exact (fun _ _=>trivial));(case aO=>exact (zz8 HO_3));(case aS=>exact (keep_size (w:=w) (g:=g) (row:=none) (zz19 HK)));(case aL=>exact (zz3 LMc9));intro v219 w12 ho hb hg hat;rw [← Ny218.out] at ho;replace HB:=A_ (below_weaken (zz20 HB HI0) HL.out hb);replace HI0:=A_ (IsS68.grown (zz18 HI0) hg (IsS68.own_ne HI0.out HO_3.out (by decide)));replace HK:=A_ (KeepBut.trans (zz19 HK) (KeepBut.of_grown hg g) (Kd.R_base2 HO_3.out));have HO220:=A_ (ho);clear HO_3;clear ho hb hg hat))
    go_roundg k1
    case measure=>have:=HK1.out;omega
    case rel=>exact ⟨(y218),(wrap64 (x4_1 - 1)),(t217),zz0,H',⟨(zz3 HK1)⟩,⟨(zz8 HO220)⟩,⟨(zz18 HI0)⟩,⟨(zz19 HK)⟩,⟨(zz20 HB HI0)⟩⟩
   ·simp only [Option.some.injEq,Prod.mk.injEq] at H
    obtain ⟨rfl,rfl⟩:=H;go_wp2
    go_ret
    exact ⟨_,zz12,(zz8 HO_3),(zz18 HI0),(zz20 HB HI0),(zz19 HK)⟩
def spec_l71Groups.l0:Nat→List (S106)→Int→List Int→Int→Option ((List (S106))×Int)
 | 0,_,_,_,_=>none
 | k+1,x3,x4,x1000,x1001=>if x4 > 0 then ((spec_l6Rd_of.f k x1000 x1001 (([(⟨#[42]⟩:ByteArray),(⟨#[114,111,118,101,114]⟩:ByteArray),(⟨#[115,99,111,117,116]⟩:ByteArray)]:List ByteArray))).bind fun bt229=>((some (([bt229.1]:List ByteArray):List ByteArray)).bind fun y231=>((spec_l71Rules.f k x1000 bt229.2).bind fun bt234=>((spec_l6Rd_pick.f k x1000 bt234.2 4).bind fun bt238=>((spec_l6Rd_pick.f k x1000 bt238.2 3).bind fun bt240=>((spec_l6Rd_pick.f k x1000 bt240.2 4).bind fun bt243=>(if bt243.1=0 then ((spec_l6Rd_of.f k x1000 bt243.2 (([(⟨#[42]⟩:ByteArray),(⟨#[114,111,118,101,114]⟩:ByteArray),(⟨#[120]⟩:ByteArray)]:List ByteArray))).bind fun bt248=>(if y231.length < 8796093022208 then ((some (y231++[bt248.1]:List ByteArray)).bind fun y250=>(if (bt234.1.length:Int) > 0 then (if x3.length < 2513169434916 then (spec_l71Groups.l0 k (x3++[(⟨y250,bt234.1,wrap64 (bt238.1 * bt240.1)⟩:S106)]) (wrap64 (x4 - 1)) x1000 bt248.2) else (none)) else (if (wrap64 (bt238.1 * bt240.1)) > 0 then (if x3.length < 2513169434916 then (spec_l71Groups.l0 k (x3++[(⟨y250,bt234.1,wrap64 (bt238.1 * bt240.1)⟩:S106)]) (wrap64 (x4 - 1)) x1000 bt248.2) else (none)) else (spec_l71Groups.l0 k x3 (wrap64 (x4 - 1)) x1000 bt248.2)))) else (none))) else (if (bt234.1.length:Int) > 0 then (if x3.length < 2513169434916 then (spec_l71Groups.l0 k (x3++[(⟨y231,bt234.1,wrap64 (bt238.1 * bt240.1)⟩:S106)]) (wrap64 (x4 - 1)) x1000 bt243.2) else (none)) else (if (wrap64 (bt238.1 * bt240.1)) > 0 then (if x3.length < 2513169434916 then (spec_l71Groups.l0 k (x3++[(⟨y231,bt234.1,wrap64 (bt238.1 * bt240.1)⟩:S106)]) (wrap64 (x4 - 1)) x1000 bt243.2) else (none)) else (spec_l71Groups.l0 k x3 (wrap64 (x4 - 1)) x1000 bt243.2)))))))))) else ((spec_l6Rd_pick.f k x1000 x1001 24).bind fun bt265=>(if bt265.1=0 then (if x3.length < 2513169434916 then (some ((x3++[(⟨(([(⟨#[120]⟩:ByteArray)]:List ByteArray)),([]:List (S108)),0⟩:S106)]),bt265.2)) else (none)) else (if bt265.1=1 then (if x3.length < 2513169434916 then (some ((x3++[(⟨([]:List ByteArray),([]:List (S108)),2⟩:S106)]),bt265.2)) else (none)) else (if bt265.1=2 then (if x3.length < 2513169434916 then (some ((x3++[(⟨(([(⟨#[88]⟩:ByteArray)]:List ByteArray)),([]:List (S108)),2⟩:S106)]),bt265.2)) else (none)) else (some (x3,bt265.2))))))
def spec_l71Groups.f (k:Nat) (s0_0:List Int) (s0_1:Int):Option ((List (S106))×Int):=(spec_l6Rd_pick.f k s0_0 s0_1 4).bind fun bt224=>(spec_l71Groups.l0 k (([]:List (S106))) bt224.1 s0_0 bt224.2)
def spec_l71Groups.T7:Bool×List (List Nat×List Nat):=(true,[([],[]),([0],[0]),([],[]),([],[]),([2,3],[2,3]),([4],[4]),([1,5,4],[1,5]),([0,1,2,3,4,5,6],[]),([7,6,6,0,1,2,3,4,5,6],[6,7])])
def spec_l71Groups.B7:List Nat:=[0,1,0,0,12,28,63,127,255]
theorem spec_l71Groups.tab7:rtab .any (opsOf Tryz.f67 7)=spec_l71Groups.T7:=by kernel_rfl
theorem spec_l71Groups.bits7:waitsOk spec_l71Groups.T7.2 spec_l71Groups.B7=true:=by kernel_rfl
theorem spec_l71Groups.calls (k:Nat) (g:Nat) (s0_0:List Int) (s0_1:Int) (r1:List (S106)) (r2:Int) (w0 w:World) (hI:IsS68 w0 w g s0_0 s0_1) (hB:Below w0.heap.size w0 w) (h:spec_l71Groups.f k s0_0 s0_1=some (r1,r2)) :
  Calls Tryz.prog 67 #[.pointer (some ⟨g,0,none⟩)] w fun e w'=>∃ v0_:Value,e=.returned (v0_)∧Kd.S k106 106 w' w.heap.size (fun _=>True) v0_ r1∧IsS68 w0 w' g s0_0 r2∧Below w0.heap.size w0 w'∧KeepBut w w' g none:=by
 have hu106:=Tryz.underlying106;have HI0:=A_ hI;have HK:=A_ (KeepBut.refl w g none);have HL:=A_ hB.size;clear hI;have HW0:=A_ hB.size;have HB:=A_ hB;clear hB;unfold spec_l71Groups.f at h
 have H:=h;clear h;obtain ⟨y221,Ny221⟩:=toY (([]:List (S106)));(first|with_reducible replace H:=bindZ Ny221 H|rw [← Ny221.out] at H|skip)
 replace H:=bindA H;obtain ⟨⟨t224,t225⟩,A2,H⟩:=H;try dsimp only at H
 have H':=A_ H;clear H;go_enter Tryz.func67,Tryz.ntmps67;go_wp2_with (first|((with_reducible refine gD (N:=6) rfl ?_);refine Kd.S_lit k106 _ 106 ?hg (N:=6) ?hd (xs:=([]:List (S106))) (inner:=[]) (ok:=fun _=>True) (okp:=fun _=>True) ?hr ?hp (fun _ hk=>hk) trivial (Below.refl _ _) (Nat.le_refl _) (by simp) ?_;(case hd=>rfl);(case hg=>rfl);(case hr=>exact zz26);(case hp=>exact (Reps.none _ _));intro v222 w3 ho4 hb hg_ hnew_;clear hg_ hnew_;(first|rw [← Ny221.out] at ho4|(simp only [Int.reduceToNat] at ho4;rw [← Ny221.out] at ho4));have HO223:=A_ (Kd.S_lower ho4 (keep_size (w:=w) (g:=g) (row:=none) (zz19 HK)));replace HK:=A_ (KeepBut.trans (zz19 HK) (KeepBut.of_below hb g none) (.inl rfl));replace HB:=A_ (bS (zz20 HB HI0) hb);replace HI0:=A_ (IsS68.below (zz18 HI0) hb);clear hb ho4)|(refine gR 22 (some 8) Tryz.func22 (spec_l6Rd_pick.calls k g s0_0 s0_1 4 t224 t225 w0 _ ?side1 ?side2 A2.out) ?_;(case side1=>exact (zz18 HI0));(case side2=>exact (zz20 HB HI0));rintro w5 ⟨hi,hb,hk⟩;replace HO223:=A_ (Kd.S_mono (Kd.S_keep (IsS68.apartS (show IsS68 w0 _ g s0_0 s0_1 from (zz18 HI0)) (zz35 HO223) (by decide)) hk (fun _ h=>h.2)) (fun _ h=>h.1));replace HK:=A_ (KeepBut.trans (zz19 HK) hk (.inl rfl));replace HB:=A_ (hb);replace HI0:=A_ (hi);(try clear hb hk hi)))
 go_loopg [3,4] k (fun kq v3 v4 w'=>∃ (x3_1:List (S106)) (x4_1:Int) (x1001_1:Int),v4=.int .i64 x4_1∧Aside0 (spec_l71Groups.l0 kq x3_1 x4_1 s0_0 x1001_1=some (r1,r2))∧Aside0 (kq≤k)∧Aside0 (Kd.S k106 106 w' w.heap.size (fun _=>True) v3 x3_1)∧Aside0 (IsS68 w0 w' g s0_0 x1001_1)∧Aside0 (KeepBut w w' g none)∧Aside0 (Below w0.heap.size w0 w'))
 case atStart=>exact ⟨(y221),(t224),(t225),zz0,H',⟨Nat.le_refl _⟩,⟨(zz35 HO223)⟩,⟨(zz18 HI0)⟩,⟨(zz19 HK)⟩,⟨(zz20 HB HI0)⟩⟩
 case round=>
  clear H';obtain ⟨x3_1,x4_1,x1001_1,rfl,HA,HK1,HO_3,HI0,HK,HB⟩:=hrel;cases gk with
  | zero=>exact absurd HA.out (by simp [spec_l71Groups.l0])
  | succ k1=>
   obtain ⟨H⟩:=HA;simp only [spec_l71Groups.l0] at H
   replace H:=iteEg H;rcases H with ⟨c6b0,H⟩|⟨c6b0,H⟩
   ·obtain ⟨y226,Ny226⟩:=toY (([(⟨#[42]⟩:ByteArray),(⟨#[114,111,118,101,114]⟩:ByteArray),(⟨#[115,99,111,117,116]⟩:ByteArray)]:List ByteArray))
    (first|with_reducible replace H:=bindZ Ny226 H|rw [← Ny226.out] at H|skip)
    replace H:=bindA H;obtain ⟨⟨t229,t230⟩,A7,H⟩:=H;try dsimp only at H
    obtain ⟨y231,Ny231,H⟩:=bindY H;replace H:=bindA H;obtain ⟨⟨t234,t237⟩,A8,H⟩:=H;try dsimp only at H
    replace H:=bindA H;obtain ⟨⟨t238,t239⟩,A9,H⟩:=H;try dsimp only at H
    replace H:=bindA H;obtain ⟨⟨t240,t241⟩,A10,H⟩:=H;try dsimp only at H
    replace H:=bindA H;obtain ⟨⟨t243,t244⟩,A11,H⟩:=H;try dsimp only at H
    have HF12:=A_ H;clear H;go_upto_if 27 with (first|((with_reducible refine gD (N:=14) rfl ?_);refine Kd.R_lit Kd.string _ 9 ?hg (N:=14) ?hd (xs:=([(⟨#[42]⟩:ByteArray),(⟨#[114,111,118,101,114]⟩:ByteArray),(⟨#[115,99,111,117,116]⟩:ByteArray)]:List ByteArray)) (inner:=[.string (⟨#[42]⟩:ByteArray),.string (⟨#[114,111,118,101,114]⟩:ByteArray),.string (⟨#[115,99,111,117,116]⟩:ByteArray)]) (ok:=fun _=>True) (okp:=fun _=>True) ?hr ?hp (fun _ hk=>hk) trivial (Below.refl _ _) (Nat.le_refl _) (by simp) ?_;(case hd=>rfl);(case hg=>rfl);(case hr=>exact zz26);(case hp=>exact (Reps.one (show Kd.M Kd.string _ _ _ (⟨#[42]⟩:ByteArray) [.string (⟨#[42]⟩:ByteArray)] from rfl) (Reps.one (show Kd.M Kd.string _ _ _ (⟨#[114,111,118,101,114]⟩:ByteArray) [.string (⟨#[114,111,118,101,114]⟩:ByteArray)] from rfl) (Reps.one (show Kd.M Kd.string _ _ _ (⟨#[115,99,111,117,116]⟩:ByteArray) [.string (⟨#[115,99,111,117,116]⟩:ByteArray)] from rfl) (Reps.none _ _)))));intro v227 w13 ho14 hb hg_ hnew_;clear hg_ hnew_;(first|rw [← Ny226.out] at ho14|(simp only [Int.reduceToNat] at ho14;rw [← Ny226.out] at ho14));replace HO_3:=A_ (Kd.S_elder' (zz35 HO_3) (Kd.R_base ho14) hb);have HO228:=A_ (Kd.R_lower ho14 (keep_size (w:=w) (g:=g) (row:=none) (zz19 HK)));replace HK:=A_ (KeepBut.trans (zz19 HK) (KeepBut.of_below hb g none) (.inl rfl));replace HB:=A_ (bS (zz20 HB HI0) hb);replace HI0:=A_ (IsS68.below (zz18 HI0) hb);clear hb ho14;obtain ⟨Ao15,co15,eo15⟩:=Kd.R_slice HO228.out;subst eo15)|(refine gR 41 (some 15) Tryz.func41 (spec_l6Rd_of.calls k1 g s0_0 x1001_1 _ _ y226 t229 t230 w0 _ ?side1 ?side2 ?side3 ?side4 ?side5 A7.out) ?_;(case side1=>exact (zz18 HI0));(case side2=>exact (zz20 HB HI0));(case side3=>exact (zz33 HO228));(case side4=>exact (Kd.R_reads' HO228.out).2.1);(case side5=>exact far_slice (IsS68.own_ne HI0.out HO228.out (by decide)));rintro w16 ⟨hi,hb,hk⟩;replace HO_3:=A_ (Kd.S_mono (Kd.S_keep (IsS68.apartS (show IsS68 w0 _ g s0_0 x1001_1 from (zz18 HI0)) (zz35 HO_3) (by decide)) hk (fun _ h=>h.2)) (fun _ h=>h.1));replace HO228:=A_ (Kd.R_mono (Kd.R_keep (IsS68.apart (show IsS68 w0 _ g s0_0 x1001_1 from (zz18 HI0)) (zz8 HO228) (by decide)) hk (fun _ h=>h.2)) (fun _ h=>h.1));replace HK:=A_ (KeepBut.trans (zz19 HK) hk (.inl rfl));replace HB:=A_ (hb);replace HI0:=A_ (hi);(try clear hb hk hi))|((with_reducible refine gD (N:=16) rfl ?_);refine Kd.R_lit Kd.string _ 9 ?hg (N:=16) ?hd (xs:=([t229]:List ByteArray)) (inner:=[.string t229]) (ok:=fun _=>True) (okp:=fun _=>True) ?hr ?hp (fun _ hk=>hk) trivial (Below.refl _ _) (Nat.le_refl _) (by simp) ?_;(case hd=>rfl);(case hg=>rfl);(case hr=>exact zz26);(case hp=>exact (Reps.one (show Kd.M Kd.string _ _ _ t229 [.string t229] from rfl) (Reps.none _ _)));intro v232 w17 ho18 hb hg_ hnew_;clear hg_ hnew_;(first|rw [← Ny231.out] at ho18|(simp only [Int.reduceToNat] at ho18;rw [← Ny231.out] at ho18));replace HO_3:=A_ (Kd.S_elder' (zz35 HO_3) (Kd.R_base ho18) hb);have HO233:=A_ (Kd.R_lower (Kd.R_new' ho18 (Kd.R_lt (zz8 HO228))) (keep_size (w:=w) (g:=g) (row:=none) (zz19 HK)));replace HO228:=A_ (Kd.R_elder' (zz8 HO228) (Kd.R_base ho18) hb);replace HK:=A_ (KeepBut.trans (zz19 HK) (KeepBut.of_below hb g none) (.inl rfl));replace HB:=A_ (bS (zz20 HB HI0) hb);replace HI0:=A_ (IsS68.below (zz18 HI0) hb);clear hb ho18)|(refine gV 94 (some 18) Tryz.func94 (spec_l71Rules.calls k1 g s0_0 t230 t234 t237 w0 _ ?side1 ?side2 A8.out) ?_;(case side1=>exact (zz18 HI0));(case side2=>exact (zz20 HB HI0));rintro v235 w19 ⟨ho0,hi,hb,hk⟩;replace HO_3:=A_ (Kd.S_mono (Kd.S_told (Kd.S_oldK (IsS68.apartS (show IsS68 w0 _ g s0_0 t230 from (zz18 HI0)) (zz35 HO_3) (by decide)) hk) (Kd.R_base ho0)) (fun _ h_=>h_.1));replace HO228:=A_ (Kd.R_mono (Kd.R_keep (IsS68.apart (show IsS68 w0 _ g s0_0 t230 from (zz18 HI0)) (zz8 HO228) (by decide)) hk (fun _ h=>h.2)) (fun _ h=>h.1));replace HO233:=A_ (Kd.R_mono (Kd.R_keep (IsS68.apart (show IsS68 w0 _ g s0_0 t230 from (zz18 HI0)) (zz8 HO233) (by decide)) hk (fun _ h=>h.2)) (fun _ h=>h.1));have HO236:=A_ (Kd.R_lower ho0 (keep_size (w:=w) (g:=g) (row:=none) (zz19 HK)));replace HK:=A_ (KeepBut.trans (zz19 HK) hk (.inl rfl));replace HB:=A_ (hb);replace HI0:=A_ (hi);(try clear hb hk hi ho0))|(refine gR 22 (some 20) Tryz.func22 (spec_l6Rd_pick.calls k1 g s0_0 t237 4 t238 t239 w0 _ ?side1 ?side2 A9.out) ?_;(case side1=>exact (zz18 HI0));(case side2=>exact (zz20 HB HI0));rintro w20 ⟨hi,hb,hk⟩;replace HO_3:=A_ (Kd.S_mono (Kd.S_keep (IsS68.apartS (show IsS68 w0 _ g s0_0 t237 from (zz18 HI0)) (zz35 HO_3) (by decide)) hk (fun _ h=>h.2)) (fun _ h=>h.1));replace HO228:=A_ (Kd.R_mono (Kd.R_keep (IsS68.apart (show IsS68 w0 _ g s0_0 t237 from (zz18 HI0)) (zz8 HO228) (by decide)) hk (fun _ h=>h.2)) (fun _ h=>h.1));replace HO233:=A_ (Kd.R_mono (Kd.R_keep (IsS68.apart (show IsS68 w0 _ g s0_0 t237 from (zz18 HI0)) (zz8 HO233) (by decide)) hk (fun _ h=>h.2)) (fun _ h=>h.1));replace HO236:=A_ (Kd.R_mono (Kd.R_keep (IsS68.apart (show IsS68 w0 _ g s0_0 t237 from (zz18 HI0)) (zz8 HO236) (by decide)) hk (fun _ h=>h.2)) (fun _ h=>h.1));replace HK:=A_ (KeepBut.trans (zz19 HK) hk (.inl rfl));replace HB:=A_ (hb);replace HI0:=A_ (hi);(try clear hb hk hi))|(refine gR 22 (some 22) Tryz.func22 (spec_l6Rd_pick.calls k1 g s0_0 t239 3 t240 t241 w0 _ ?side1 ?side2 A10.out) ?_;(case side1=>exact (zz18 HI0));(case side2=>exact (zz20 HB HI0));rintro w21 ⟨hi,hb,hk⟩;replace HO_3:=A_ (Kd.S_mono (Kd.S_keep (IsS68.apartS (show IsS68 w0 _ g s0_0 t239 from (zz18 HI0)) (zz35 HO_3) (by decide)) hk (fun _ h=>h.2)) (fun _ h=>h.1));replace HO228:=A_ (Kd.R_mono (Kd.R_keep (IsS68.apart (show IsS68 w0 _ g s0_0 t239 from (zz18 HI0)) (zz8 HO228) (by decide)) hk (fun _ h=>h.2)) (fun _ h=>h.1));replace HO233:=A_ (Kd.R_mono (Kd.R_keep (IsS68.apart (show IsS68 w0 _ g s0_0 t239 from (zz18 HI0)) (zz8 HO233) (by decide)) hk (fun _ h=>h.2)) (fun _ h=>h.1));replace HO236:=A_ (Kd.R_mono (Kd.R_keep (IsS68.apart (show IsS68 w0 _ g s0_0 t239 from (zz18 HI0)) (zz8 HO236) (by decide)) hk (fun _ h=>h.2)) (fun _ h=>h.1));replace HK:=A_ (KeepBut.trans (zz19 HK) hk (.inl rfl));replace HB:=A_ (hb);replace HI0:=A_ (hi);(try clear hb hk hi);obtain ⟨Ao22,co22,eo22⟩:=Kd.R_slice HO236.out;subst eo22;obtain ⟨Ao23,co23,eo23⟩:=Kd.R_slice HO233.out;subst eo23)|(refine boxF 5 #[.slice none 0 0,.slice none 0 0,.int .i64 0] 106 ?_;intro gb242 hg w24 BK242 hb;replace HO_3:=A_ (Kd.S_below (Kd.S_elderB (zz35 HO_3) gb242 (Nat.le_of_eq hg.symm)) hb);replace HO228:=A_ (rB (zz8 HO228) hb);replace HO233:=A_ (rB (zz8 HO233) hb);replace HO236:=A_ (rB (zz8 HO236) hb);replace HB:=A_ (bS (zz20 HB HI0) hb);have GW242:=A_ ((by rw [hg];exact (keep_size (w:=w) (g:=g) (row:=none) (zz19 HK)):w.heap.size≤gb242));have GE242:=A_ ((Nat.le_trans HW0.out (by rw [hg];exact (keep_size (w:=w) (g:=g) (row:=none) (zz19 HK)):w.heap.size≤gb242):w0.heap.size≤gb242));replace HK:=A_ (KeepBut.trans (zz19 HK) (KeepBut.of_below hb g none) (.inl rfl));have NB0_242:=A_ ((by rw [hg];exact Nat.ne_of_lt (IsS68.lt (show IsS68 w0 _ g s0_0 t241 from (zz18 HI0))):g≠gb242));have NB242_0:=A_ ((by rw [hg];exact Nat.ne_of_gt (IsS68.lt (show IsS68 w0 _ g s0_0 t241 from (zz18 HI0))):gb242≠g));replace HI0:=A_ (IsS68.below (zz18 HI0) hb);clear hb hg;have hnb25:=NB242_0.out;have hnc25:=NB0_242.out;obtain ⟨_,_,_,_,_,_⟩:=cf3 BK242)|(refine gR 22 (some 26) Tryz.func22 (spec_l6Rd_pick.calls k1 g s0_0 t241 4 t243 t244 w0 _ ?side1 ?side2 A11.out) ?_;(case side1=>exact (zz37 HI0 NB0_242));(case side2=>exact (zz38 HB HI0 GE242));rintro w27 ⟨hi,hb,hk⟩;replace HO_3:=A_ (Kd.S_mono (Kd.S_keep (IsS68.apartS (show IsS68 w0 _ g s0_0 t241 from (zz37 HI0 NB0_242)) (by (with_reducible repeat (first|apply Kd.S_alloc|apply Kd.S_drewN|apply Kd.S_drew));exact (Kd.S_mono (Kd.S_far (p:=⟨gb242,2,none⟩) (Kd.S_far (p:=⟨gb242,1,none⟩) (Kd.S_far (p:=⟨gb242,0,none⟩) (Kd.S_mono HO_3.out (fun k_ hk=>(⟨hk,hk.2⟩:_∧k_≠gb242))) (fun _ hk=>hk.2) (.slice Ao23 y231.length co23)) (fun _ hk=>hk.2) (.slice Ao22 t234.length co22)) (fun _ hk=>hk.2) (.int .i64 (wrap64 (t238 * t240)))) (fun _ h_=>h_.1))) (by decide)) hk (fun _ h=>h.2)) (fun _ h=>h.1));replace HO228:=A_ (Kd.R_mono (Kd.R_keep (IsS68.apart (show IsS68 w0 _ g s0_0 t241 from (zz37 HI0 NB0_242)) (zz40 HO228 BK242) (by decide)) hk (fun _ h=>h.2)) (fun _ h=>h.1));replace HO233:=A_ (Kd.R_mono (Kd.R_keep (IsS68.apart (show IsS68 w0 _ g s0_0 t241 from (zz37 HI0 NB0_242)) (zz40 HO233 BK242) (by decide)) hk (fun _ h=>h.2)) (fun _ h=>h.1));replace HO236:=A_ (Kd.R_mono (Kd.R_keep (IsS68.apart (show IsS68 w0 _ g s0_0 t241 from (zz37 HI0 NB0_242)) (zz40 HO236 BK242) (by decide)) hk (fun _ h=>h.2)) (fun _ h=>h.1));replace BK242:=A_ (KeepBut.blk hk (g':=gb242) (o:=.cells #[.slice Ao23 y231.length co23,.slice Ao22 t234.length co22,.int .i64 (wrap64 (t238 * t240))] 106 (0,0)) (zz41 BK242) NB242_0.out (by simp));replace HK:=A_ (KeepBut.trans (zz42 HK GW242) hk (.inl rfl));replace HB:=A_ (hb);replace HI0:=A_ (hi);(try clear hb hk hi)))
    obtain ⟨H⟩:=HF12;replace H:=iteEq H;rcases H with ⟨c28b0,c28b1,H⟩|⟨c28b0,c28b1,c28,H⟩
    ·(first|rw [c28b0]|(simp only [i64_w,i32_w];rw [c28b0])|skip)
     obtain ⟨y245,Ny245⟩:=toY (([(⟨#[42]⟩:ByteArray),(⟨#[114,111,118,101,114]⟩:ByteArray),(⟨#[120]⟩:ByteArray)]:List ByteArray));(first|with_reducible replace H:=bindZ Ny245 H|rw [← Ny245.out] at H|skip)
     replace H:=bindA H;obtain ⟨⟨t248,t249⟩,A29,H⟩:=H;try dsimp only at H
     replace H:=iteN H;obtain ⟨c30,H⟩:=H;have LMc30:=A_ c30;clear c30;obtain ⟨y250,Ny250⟩:=toY (y231++[t248]);(first|with_reducible replace H:=bindZ Ny250 H|rw [← Ny250.out] at H|skip)
     have HF31:=A_ H;clear H;try go_wp2
     replace HO_3:=A_ (Kd.S_drew HO_3.out);replace HO228:=A_ (Kd.R_drew HO228.out);replace HO233:=A_ (Kd.R_drew HO233.out);replace HO236:=A_ (Kd.R_drew HO236.out);replace BK242:=A_ (blk_drew BK242.out);replace HI0:=A_ (IsS68.drew HI0.out);replace HK:=A_ (keep_drew HK.out);replace HB:=A_ (below_drew1 HB.out);refine start_ (n:=9) (S:=fun w'=>w'.cell? ⟨gb242,0,none⟩=some (.slice Ao23 y231.length co23)∧w'.cell? ⟨gb242,1,none⟩=some (.slice Ao22 t234.length co22)∧w'.cell? ⟨gb242,2,none⟩=some (.int .i64 (wrap64 (t238 * t240)))) (ds:=[8]) #[yF,yF,yF,yF,yF,yF,yF,yF,yF] (by kernel_rfl) rfl rfl ⟨(blk_cell BK242.out 0).trans rfl,(blk_cell BK242.out 1).trans rfl,(blk_cell BK242.out 2).trans rfl⟩ (fun hHeld=>?_);refine with_tabW spec_l71Groups.tab7 spec_l71Groups.bits7 (fun HT_ HW_=>?_);generalize w27.drew=w32 at HO_3 HO228 HO233 HO236 BK242 HI0 HK HB hHeld ⊢;refine pureZ 0 (some 28) #[yT,yF,yF,yF,yF,yF,yF,yF,yF] ?_;refine pureZ 2 (some 30) #[yT,yF,yT,yF,yF,yF,yF,yF,yF] ?_;refine takeZ3 1 (some 29) #[yT,yT,yT,yF,yF,yF,yF,yF,yF] hHeld ?_;refine oneZ 3 (some 31) #[yT,yT,yT,yT,yF,yF,yF,yF,yF] (fun K hK=>?_);refine Kd.R_lit_step Kd.string _ 9 ?hg (N:=31) ?hd (xs:=([(⟨#[42]⟩:ByteArray),(⟨#[114,111,118,101,114]⟩:ByteArray),(⟨#[120]⟩:ByteArray)]:List ByteArray)) (inner:=[.string (⟨#[42]⟩:ByteArray),.string (⟨#[114,111,118,101,114]⟩:ByteArray),.string (⟨#[120]⟩:ByteArray)]) (ok:=fun _=>True) (okp:=fun _=>True) ?hr ?hp (fun _ hk=>hk) trivial (Below.refl _ _) (Nat.le_refl _) (by simp) ?_;(case hd=>rfl);(case hg=>rfl);(case hr=>exact zz26);(case hp=>exact (Reps.one (show Kd.M Kd.string _ _ _ (⟨#[42]⟩:ByteArray) [.string (⟨#[42]⟩:ByteArray)] from rfl) (Reps.one (show Kd.M Kd.string _ _ _ (⟨#[114,111,118,101,114]⟩:ByteArray) [.string (⟨#[114,111,118,101,114]⟩:ByteArray)] from rfl) (Reps.one (show Kd.M Kd.string _ _ _ (⟨#[120]⟩:ByteArray) [.string (⟨#[120]⟩:ByteArray)] from rfl) (Reps.none _ _)))));intro v246 w33 ho34 hb hg_ hnew_;clear hg_ hnew_;(first|rw [← Ny245.out] at ho34|(simp only [Int.reduceToNat] at ho34;rw [← Ny245.out] at ho34))
     replace HO_3:=A_ (Kd.S_elder' (zz35 HO_3) (Kd.R_base ho34) hb);replace HO236:=A_ (rB (zz8 HO236) hb);have HO247:=A_ (Kd.R_lower (Kd.R_new' (Kd.R_new' ho34 (Kd.R_lt (zz8 HO228))) (Kd.R_lt (zz8 HO233))) (keep_size (w:=w) (g:=g) (row:=none) (zz42 HK GW242)));replace HO228:=A_ (Kd.R_elder' (zz8 HO228) (Kd.R_base ho34) hb);replace HO233:=A_ (Kd.R_elder' (zz8 HO233) (Kd.R_base ho34) hb);replace BK242:=A_ (bB (zz15 BK242) hb);replace HK:=A_ (KeepBut.trans (zz42 HK GW242) (KeepBut.of_below hb g none) (.inl rfl));replace HB:=A_ (bS (zz38 HB HI0 GE242) hb);replace HI0:=A_ (IsS68.below (zz37 HI0 NB0_242) hb);clear hb ho34;obtain ⟨Ao35,co35,eo35⟩:=Kd.R_slice HO247.out;(first|subst eo35|(injection eo35 with f1_ f2_ f3_;have f4_:=f1_.symm;have f5_:=f3_.symm;clear f1_ f2_ f3_;subst f4_;subst f5_))
     refine hK.out _ _ ⟨(blk_cell BK242.out 0).trans rfl,(blk_cell BK242.out 1).trans rfl,(blk_cell BK242.out 2).trans rfl⟩ (fun hHeld=>?_);clear hK K;refine nZ 31 ?_;refine oneZ 4 (some 32) #[yT,yT,yT,yT,yT,yF,yF,yF,yF] (fun K hK=>?_);refine goes_ Tryz.func41 (by kernel_rfl) rfl #[.pointer (some ⟨g,0,none⟩),.slice Ao35 y245.length co35] (by rfl) rfl rfl zz27 ?_;with_reducible refine (spec_l6Rd_of.calls k1 g s0_0 t244 _ _ y245 t248 t249 w0 _ ?side1 ?side2 ?side3 ?side4 ?side5 A29.out).mono ?_
     (case side1=>exact (zz37 HI0 NB0_242))
     (case side2=>exact (zz38 HB HI0 GE242))
     (case side3=>exact (zz33 HO247))
     (case side4=>exact (Kd.R_reads' HO247.out).2.1)
     (case side5=>exact far_slice (IsS68.own_ne HI0.out HO247.out (by decide)))
     rintro e w36 ⟨rfl,hi,hb,hk⟩;refine ⟨_,rfl,?_⟩;replace HO_3:=A_ (Kd.S_mono (Kd.S_keep (IsS68.apartS (show IsS68 w0 _ g s0_0 t244 from (zz37 HI0 NB0_242)) (zz35 HO_3) (by decide)) hk (fun _ h=>h.2)) (fun _ h=>h.1));replace HO228:=A_ (Kd.R_mono (Kd.R_keep (IsS68.apart (show IsS68 w0 _ g s0_0 t244 from (zz37 HI0 NB0_242)) (zz8 HO228) (by decide)) hk (fun _ h=>h.2)) (fun _ h=>h.1));replace HO233:=A_ (Kd.R_mono (Kd.R_keep (IsS68.apart (show IsS68 w0 _ g s0_0 t244 from (zz37 HI0 NB0_242)) (zz8 HO233) (by decide)) hk (fun _ h=>h.2)) (fun _ h=>h.1));replace HO236:=A_ (Kd.R_mono (Kd.R_keep (IsS68.apart (show IsS68 w0 _ g s0_0 t244 from (zz37 HI0 NB0_242)) (zz8 HO236) (by decide)) hk (fun _ h=>h.2)) (fun _ h=>h.1));replace BK242:=A_ (KeepBut.blk hk (g':=gb242) (o:=.cells #[.slice Ao23 y231.length co23,.slice Ao22 t234.length co22,.int .i64 (wrap64 (t238 * t240))] 106 (0,0)) (zz15 BK242) NB242_0.out (by simp));replace HO247:=A_ (Kd.R_mono (Kd.R_keep (IsS68.apart (show IsS68 w0 _ g s0_0 t244 from (zz37 HI0 NB0_242)) (zz8 HO247) (by decide)) hk (fun _ h=>h.2)) (fun _ h=>h.1));replace HK:=A_ (KeepBut.trans (zz42 HK GW242) hk (.inl rfl));replace HB:=A_ (hb);replace HI0:=A_ (hi);(try clear hb)
     (try clear hb2)
     (try clear hk)
     (try clear hi)
     refine hK.out _ _ ⟨(blk_cell BK242.out 0).trans rfl,(blk_cell BK242.out 1).trans rfl,(blk_cell BK242.out 2).trans rfl⟩ (fun hHeld=>?_);clear hK K;refine nZ 32 ?_;refine oneZ 5 (some 33) #[yT,yT,yT,yT,yT,yT,yF,yF,yF] (fun K hK=>?_);refine value_ (w1:=?_) (v:=?_) (by rfl) rfl ?_ ?_;rotate_left 2
     ·go_simp
      constructor
      ·rfl
      ·rfl
     refine hK.out _ _ ⟨(blk_cell (blk_alloc BK242.out _) 0).trans rfl,(blk_cell (blk_alloc BK242.out _) 1).trans rfl,(blk_cell (blk_alloc BK242.out _) 2).trans rfl⟩ (fun hHeld=>?_);clear hK K;refine nZ 33 ?_;refine oneZ 6 (some 34) #[yT,yT,yT,yT,yT,yT,yT,yF,yF] (fun K hK=>?_);refine Kd.R_append_step Kd.string w.heap.size (by rfl) (.tmp 29) (.tmp 33) 35 9 (.string ⟨#[]⟩) 16 rfl Tryz.underlying35 info9 rfl (by decide) (by omega) (.slice Ao23 y231.length co23) y231 t248 [.string t248] (fun k_=>some k_≠(.slice Ao15 y226.length co15:Value).ownBlock∧some k_≠(.slice Ao35 y245.length co35:Value).ownBlock) (fun _=>False) rfl rfl ?aP (fun _ hk=>hk.elim) ?aF ?aO (Below.refl _ _) ?aS ?aL ?_;(case aP=>exact rfl)
     (case aF=>exact (fun k_ hk=>⟨Kd.fresh' (Kd.R_lt (zz8 HO228)) k_ hk,Kd.fresh' (Kd.R_lt (zz8 HO247)) k_ hk⟩))
     (case aO=>exact (zz43 HO233))
     (case aS=>exact (keep_size (w:=w) (g:=g) (row:=none) (zz42 HK GW242)))
     (case aL=>exact (zz3 LMc30))
     intro v251 w37 ho hb hg hat;rw [← Ny250.out] at ho;replace HO_3:=A_ (Kd.S_after (ok:=(fun k_=>some k_≠(.slice Ao15 y226.length co15:Value).ownBlock∧some k_≠(.slice Ao22 t234.length co22:Value).ownBlock∧some k_≠(.slice Ao35 y245.length co35:Value).ownBlock∧k_≠gb242)) (by (with_reducible repeat (first|apply Kd.S_alloc|apply Kd.S_drewN|apply Kd.S_drew));exact Kd.S_mono HO_3.out (fun _ hk=>⟨⟨hk.1.1.1.1.2,⟨hk.1.1.2,⟨hk.2,hk.1.2⟩⟩⟩,hk.1.1.1.2⟩)) hg hat);replace HO228:=A_ (Kd.R_after (ok:=(fun k_=>some k_≠(.slice Ao35 y245.length co35:Value).ownBlock)) (by (with_reducible repeat (first|apply Kd.R_alloc|apply Kd.R_drewN|apply Kd.R_drew));exact Kd.R_mono HO228.out (fun _ hk=>⟨hk.2,hk.1.2⟩)) hg hat);replace HO236:=A_ (Kd.R_over' (zz8 HO236) (Kd.R_typed (zz8 HO233)) (by decide) hg);replace BK242:=A_ (blk_grown (zz15 BK242) hg (Kd.R_ne HO233.out BK242.out (by decide)));replace HO247:=A_ (Kd.R_after (ok:=(fun k_=>some k_≠(.slice Ao15 y226.length co15:Value).ownBlock)) (zz43 HO247) hg hat);replace HB:=A_ (below_weaken (zz38 HB HI0 GE242) HL.out hb);replace HI0:=A_ (IsS68.grown (zz37 HI0 NB0_242) hg (IsS68.own_ne HI0.out HO233.out (by decide)));replace HK:=A_ (KeepBut.trans (zz42 HK GW242) (KeepBut.of_grown hg g) (Kd.R_base2 HO233.out));have HO252:=A_ (ho);clear HO233;clear ho hb hg hat;obtain ⟨Ao38,co38,eo38⟩:=Kd.R_slice HO252.out;(first|subst eo38|(injection eo38 with f1_ f2_ f3_;have f4_:=f1_.symm;have f5_:=f3_.symm;clear f1_ f2_ f3_;subst f4_;subst f5_))
     refine hK.out _ _ ⟨(blk_cell BK242.out 0).trans rfl,(blk_cell BK242.out 1).trans rfl,(blk_cell BK242.out 2).trans rfl⟩ (fun hHeld=>?_);clear hK K;refine nZ 34 ?_;refine pureZ 7 (some 35) #[yT,yT,yT,yT,yT,yT,yT,yT,yF] ?_;refine last_ (i:=8) (N:=none) #[yT,yT,yT,yT,yT,yT,yT,yT,yT] rfl rfl (one_of HT_.out (by kernel_rfl)) (by decide) (fun K hK=>?_);have hs39:w37.cell? ⟨gb242,0,none⟩=some (.slice Ao23 y231.length co23):=(blk_cell BK242.out 0).trans rfl;have hfs39:=blk_frozen BK242.out 0;refine skip_ (w1:=?_) (by rfl) rfl ?_ ?_;rotate_left
     ·go_simp
      rfl
     refine hK.out _ _ ?_;clear hK K;refine done_ (done_of HT_.out (by kernel_rfl)) ?_;have n0_:Aside0 (Kd.S k106 106 (w37.setCell ⟨gb242,0,none⟩ (.slice Ao38 y250.length co38)) w.heap.size (fun k_=>some k_≠(.slice Ao15 y226.length co15:Value).ownBlock∧some k_≠(.slice Ao22 t234.length co22:Value).ownBlock∧some k_≠(.slice Ao35 y245.length co35:Value).ownBlock∧some k_≠(.slice Ao38 y250.length co38:Value).ownBlock∧k_≠gb242) u3 x3_1):=⟨(by (with_reducible repeat (first|apply Kd.S_alloc|apply Kd.S_drewN|apply Kd.S_drew));exact Kd.S_mono (Kd.S_far (p:=⟨gb242,0,none⟩) (Kd.S_mono HO_3.out (fun k_ hk=>(⟨hk,hk.1.2.2.2⟩:_∧k_≠gb242))) (fun _ hk=>hk.2) (.slice Ao38 y250.length co38)) (fun _ hk=>⟨hk.1.1.1,⟨hk.1.1.2.1,⟨hk.1.1.2.2.1,⟨hk.1.2,hk.1.1.2.2.2⟩⟩⟩⟩))⟩;have n1_:Aside0 (Kd.R Kd.string 9 (w37.setCell ⟨gb242,0,none⟩ (.slice Ao38 y250.length co38)) w.heap.size (fun k_=>some k_≠(.slice Ao35 y245.length co35:Value).ownBlock∧some k_≠(.slice Ao38 y250.length co38:Value).ownBlock) (.slice Ao15 y226.length co15) y226):=⟨(zz47 (rt HO228 BK242))⟩;have n2_:Aside0 (Kd.R k108 108 (w37.setCell ⟨gb242,0,none⟩ (.slice Ao38 y250.length co38)) w.heap.size (fun _=>True) (.slice Ao22 t234.length co22) t234):=⟨(zz47 (rt HO236 BK242))⟩;have n3_:Aside0 (Kd.R Kd.string 9 (w37.setCell ⟨gb242,0,none⟩ (.slice Ao38 y250.length co38)) w.heap.size (fun k_=>some k_≠(.slice Ao15 y226.length co15:Value).ownBlock∧some k_≠(.slice Ao38 y250.length co38:Value).ownBlock) (.slice Ao35 y245.length co35) y245):=⟨(zz47 (rt HO247 BK242))⟩;have n4_:Aside0 (Kd.R Kd.string 9 (w37.setCell ⟨gb242,0,none⟩ (.slice Ao38 y250.length co38)) w.heap.size (fun k_=>some k_≠(.slice Ao15 y226.length co15:Value).ownBlock∧some k_≠(.slice Ao35 y245.length co35:Value).ownBlock) (.slice Ao38 y250.length co38) y250):=⟨(zz47 (rt HO252 BK242))⟩;have n5_:Aside0 ((w37.setCell ⟨gb242,0,none⟩ (.slice Ao38 y250.length co38)).heap[gb242]?=some (.cells #[.slice Ao38 y250.length co38,.slice Ao22 t234.length co22,.int .i64 (wrap64 (t238 * t240))] 106 (0,0))):=⟨(by first|((repeat (first|(with_reducible first|exact BK242.out|refine blk_drewN ?_ _|refine blk_drew ?_|refine blk_alloc ?_ _|apply blk_put)|exact BK242.out));all_goals rfl;done)|(apply blk_put (i:=0);exact BK242.out;all_goals rfl))⟩;have n6_:Aside0 (IsS68 w0 (w37.setCell ⟨gb242,0,none⟩ (.slice Ao38 y250.length co38)) g s0_0 t249):=⟨(zz37 HI0 NB0_242)⟩;have n7_:Aside0 (KeepBut w (w37.setCell ⟨gb242,0,none⟩ (.slice Ao38 y250.length co38)) g none):=⟨(zz42 HK GW242)⟩;have n8_:Aside0 (Below w0.heap.size w0 (w37.setCell ⟨gb242,0,none⟩ (.slice Ao38 y250.length co38))):=⟨(zz38 HB HI0 GE242)⟩;(try clear HO_3)
     (try clear HO228)
     (try clear HO236)
     (try clear HO247)
     (try clear HO252)
     (try clear BK242)
     (try clear HI0)
     (try clear HK)
     (try clear HB)
     generalize (w37.setCell ⟨gb242,0,none⟩ (.slice Ao38 y250.length co38))=w40 at n0_ n1_ n2_ n3_ n4_ n5_ n6_ n7_ n8_ ⊢;have HO_3:=n0_;have HO228:=n1_;have HO236:=n2_;have HO247:=n3_;have HO252:=n4_;have BK242:=n5_;have HI0:=n6_;have HK:=n7_;have HB:=n8_;clear n0_ n1_ n2_ n3_ n4_ n5_ n6_ n7_ n8_;have hnb41:=NB242_0.out;have hnc41:=NB0_242.out;obtain ⟨_,_,_,_,_,_⟩:=cf3 BK242;go_wp2_with (first|((with_reducible refine atG ?_ ?_ fun K_ hK_=>?_);rfl;exact undecG)|((with_reducible refine atI ?_ fun K_ hK_=>?_);exact undecI))
     refine unG hK_ ?_;clear hK_ K_;obtain ⟨H⟩:=HF31;replace H:=iteE H;rcases H with ⟨c43,H⟩|⟨c43,H⟩
     ·have c43b0:=gtT c43
      have c43b1:decide (0 < t234.length)=true:=dT (by omega);(first|refine iteT ?_|refine iteF ?_|skip)
      clear c43;(first|rw [c43b0]|(simp only [i64_w,i32_w];rw [c43b0])|skip)
      replace H:=iteN H;obtain ⟨c44,H⟩:=H;have LMc44:=A_ c44;clear c44;obtain ⟨y253,Ny253⟩:=toY (x3_1++[(⟨y250,t234,wrap64 (t238 * t240)⟩:S106)]);(first|with_reducible replace H:=bindZ Ny253 H|rw [← Ny253.out] at H|skip)
      have H':=A_ H;clear H;have hnb45:=NB242_0.out;have hnc45:=NB0_242.out;obtain ⟨_,_,_,_,_,_⟩:=cf3 BK242;go_wp2_with (first|((with_reducible refine gate_builtin (b:=.append) (xs:=#[.tmp 45,.tmp 47]) rfl ?_);at_builtin;refine Kd.S_append k106 w.heap.size rfl (.tmp 45) (.tmp 47) 87 106 (.agg #[(.slice none 0 0),(.slice none 0 0),(.int .i64 0)]) 56 rfl Tryz.underlying87 info106 rfl (by decide) (by omega) u3 x3_1 (⟨y250,t234,wrap64 (t238 * t240)⟩:S106) [.slice Ao38 y250.length co38,.slice Ao22 t234.length co22,.int .i64 (wrap64 (t238 * t240))] (fun k_=>some k_≠(.slice Ao15 y226.length co15:Value).ownBlock∧some k_≠(.slice Ao35 y245.length co35:Value).ownBlock∧k_≠gb242) (fun k_=>some k_=(.slice Ao38 y250.length co38:Value).ownBlock∨some k_=(.slice Ao22 t234.length co22:Value).ownBlock) rfl rfl ?aP (fun k_ hk_=>hk_.elim (fun h_=>((Kd.R_mono (ok':=fun k_=>((fun k_=>some k_≠(.slice Ao15 y226.length co15:Value).ownBlock∧some k_≠(.slice Ao35 y245.length co35:Value).ownBlock∧k_≠gb242)) k_∧some k_≠(u3:Value).ownBlock) (Kd.R_types (Kd.R_apart' (HO252.out) (Kd.S_typed HO_3.out) (by decide)) BK242.out (by decide)) (fun k_ hk=>⟨⟨hk.1.1.1,⟨hk.1.1.2,hk.2⟩⟩,hk.1.2⟩))).1 k_ h_.symm) (fun h_=>((Kd.R_mono (ok':=fun k_=>((fun k_=>some k_≠(.slice Ao15 y226.length co15:Value).ownBlock∧some k_≠(.slice Ao35 y245.length co35:Value).ownBlock∧k_≠gb242)) k_∧some k_≠(u3:Value).ownBlock) (Kd.R_types (Kd.R_apart' (Kd.R_apart' (Kd.R_apart' (HO236.out) (Kd.R_typed HO228.out) (by decide)) (Kd.R_typed HO247.out) (by decide)) (Kd.S_typed HO_3.out) (by decide)) BK242.out (by decide)) (fun k_ hk=>⟨⟨hk.1.1.1.2,⟨hk.1.1.2,hk.2⟩⟩,hk.1.2⟩))).1 k_ h_.symm)) ?aF ?aO (Below.refl _ _) ?aS ?aL ?_;(case aP=>exact k106_mkM _ _ _ (⟨y250,t234,wrap64 (t238 * t240)⟩:S106) (Kd.R_mono (Kd.R_tight rfl (Kd.R_mono (ok':=fun k_=>((fun k_=>some k_≠(.slice Ao15 y226.length co15:Value).ownBlock∧some k_≠(.slice Ao35 y245.length co35:Value).ownBlock∧k_≠gb242)) k_∧some k_≠(u3:Value).ownBlock) (Kd.R_types (Kd.R_apart' (HO252.out) (Kd.S_typed HO_3.out) (by decide)) BK242.out (by decide)) (fun k_ hk=>⟨⟨hk.1.1.1,⟨hk.1.1.2,hk.2⟩⟩,hk.1.2⟩))) (fun _ h_=>Or.inl h_)) (Kd.R_mono (Kd.R_tight rfl (Kd.R_mono (ok':=fun k_=>((fun k_=>some k_≠(.slice Ao15 y226.length co15:Value).ownBlock∧some k_≠(.slice Ao35 y245.length co35:Value).ownBlock∧k_≠gb242)) k_∧some k_≠(u3:Value).ownBlock) (Kd.R_types (Kd.R_apart' (Kd.R_apart' (Kd.R_apart' (HO236.out) (Kd.R_typed HO228.out) (by decide)) (Kd.R_typed HO247.out) (by decide)) (Kd.S_typed HO_3.out) (by decide)) BK242.out (by decide)) (fun k_ hk=>⟨⟨hk.1.1.1.2,⟨hk.1.1.2,hk.2⟩⟩,hk.1.2⟩))) (fun _ h_=>Or.inr (h_))));(case aF=>exact (fun k_ hk=>⟨Kd.fresh' (Kd.R_lt (zz8 HO228)) k_ hk,Kd.fresh' (Kd.R_lt (zz8 HO247)) k_ hk,Kd.freshB (zz15 BK242) k_ hk⟩));(case aO=>exact (zz49 HO_3));(case aS=>exact (keep_size (w:=w) (g:=g) (row:=none) (zz42 HK GW242)));(case aL=>exact (zz3 LMc44));intro v254 w47 ho hb hg hat;rw [← Ny253.out] at ho;replace HO228:=A_ (Kd.R_over' (zz8 HO228) (Kd.S_typed (zz35 HO_3)) (by decide) hg);replace BK242:=A_ (blk_grown (zz15 BK242) hg (Kd.S_away HO_3.out (fun _ hk=>hk.2.2.2.2)));replace HO247:=A_ (Kd.R_over' (zz8 HO247) (Kd.S_typed (zz35 HO_3)) (by decide) hg);replace HB:=A_ (below_weaken (zz38 HB HI0 GE242) HL.out hb);replace HI0:=A_ (IsS68.grown (zz37 HI0 NB0_242) hg (IsS68.own_neS HI0.out HO_3.out (by decide)));replace HK:=A_ (KeepBut.trans (zz42 HK GW242) (KeepBut.of_grown hg g) (Kd.S_base2 HO_3.out));have HO255:=A_ (ho);clear HO_3;clear HO236;clear HO252;clear ho hb hg hat))
      go_roundg k1
      case measure=>have:=HK1.out;omega
      case rel=>exact ⟨(y253),(wrap64 (x4_1 - 1)),(t249),zz0,H',⟨(zz3 HK1)⟩,⟨(zz50 HO255)⟩,⟨(zz37 HI0 NB0_242)⟩,⟨(zz42 HK GW242)⟩,⟨(zz38 HB HI0 GE242)⟩⟩
     ·have c43b0:=gtF c43
      have c43b1:decide (0 < t234.length)=false:=dF (by omega);(first|refine iteT ?_|refine iteF ?_|skip)
      clear c43;(first|rw [c43b0]|(simp only [i64_w,i32_w];rw [c43b0])|skip)
      replace H:=iteEg H;rcases H with ⟨c48b0,H⟩|⟨c48b0,H⟩
      ·replace H:=iteN H
       obtain ⟨c49,H⟩:=H;have LMc49:=A_ c49;clear c49;obtain ⟨y256,Ny256⟩:=toY (x3_1++[(⟨y250,t234,wrap64 (t238 * t240)⟩:S106)]);(first|with_reducible replace H:=bindZ Ny256 H|rw [← Ny256.out] at H|skip)
       have H':=A_ H;clear H;have hnb50:=NB242_0.out;have hnc50:=NB0_242.out;obtain ⟨_,_,_,_,_,_⟩:=cf3 BK242;go_wp2_with (first|((with_reducible refine gate_builtin (b:=.append) (xs:=#[.tmp 45,.tmp 47]) rfl ?_);at_builtin;refine Kd.S_append k106 w.heap.size rfl (.tmp 45) (.tmp 47) 87 106 (.agg #[(.slice none 0 0),(.slice none 0 0),(.int .i64 0)]) 56 rfl Tryz.underlying87 info106 rfl (by decide) (by omega) u3 x3_1 (⟨y250,t234,wrap64 (t238 * t240)⟩:S106) [.slice Ao38 y250.length co38,.slice Ao22 t234.length co22,.int .i64 (wrap64 (t238 * t240))] (fun k_=>some k_≠(.slice Ao15 y226.length co15:Value).ownBlock∧some k_≠(.slice Ao35 y245.length co35:Value).ownBlock∧k_≠gb242) (fun k_=>some k_=(.slice Ao38 y250.length co38:Value).ownBlock∨some k_=(.slice Ao22 t234.length co22:Value).ownBlock) rfl rfl ?aP (fun k_ hk_=>hk_.elim (fun h_=>((Kd.R_mono (ok':=fun k_=>((fun k_=>some k_≠(.slice Ao15 y226.length co15:Value).ownBlock∧some k_≠(.slice Ao35 y245.length co35:Value).ownBlock∧k_≠gb242)) k_∧some k_≠(u3:Value).ownBlock) (Kd.R_types (Kd.R_apart' (HO252.out) (Kd.S_typed HO_3.out) (by decide)) BK242.out (by decide)) (fun k_ hk=>⟨⟨hk.1.1.1,⟨hk.1.1.2,hk.2⟩⟩,hk.1.2⟩))).1 k_ h_.symm) (fun h_=>((Kd.R_mono (ok':=fun k_=>((fun k_=>some k_≠(.slice Ao15 y226.length co15:Value).ownBlock∧some k_≠(.slice Ao35 y245.length co35:Value).ownBlock∧k_≠gb242)) k_∧some k_≠(u3:Value).ownBlock) (Kd.R_types (Kd.R_apart' (Kd.R_apart' (Kd.R_apart' (HO236.out) (Kd.R_typed HO228.out) (by decide)) (Kd.R_typed HO247.out) (by decide)) (Kd.S_typed HO_3.out) (by decide)) BK242.out (by decide)) (fun k_ hk=>⟨⟨hk.1.1.1.2,⟨hk.1.1.2,hk.2⟩⟩,hk.1.2⟩))).1 k_ h_.symm)) ?aF ?aO (Below.refl _ _) ?aS ?aL ?_;(case aP=>exact k106_mkM _ _ _ (⟨y250,t234,wrap64 (t238 * t240)⟩:S106) (Kd.R_mono (Kd.R_tight rfl (Kd.R_mono (ok':=fun k_=>((fun k_=>some k_≠(.slice Ao15 y226.length co15:Value).ownBlock∧some k_≠(.slice Ao35 y245.length co35:Value).ownBlock∧k_≠gb242)) k_∧some k_≠(u3:Value).ownBlock) (Kd.R_types (Kd.R_apart' (HO252.out) (Kd.S_typed HO_3.out) (by decide)) BK242.out (by decide)) (fun k_ hk=>⟨⟨hk.1.1.1,⟨hk.1.1.2,hk.2⟩⟩,hk.1.2⟩))) (fun _ h_=>Or.inl h_)) (Kd.R_mono (Kd.R_tight rfl (Kd.R_mono (ok':=fun k_=>((fun k_=>some k_≠(.slice Ao15 y226.length co15:Value).ownBlock∧some k_≠(.slice Ao35 y245.length co35:Value).ownBlock∧k_≠gb242)) k_∧some k_≠(u3:Value).ownBlock) (Kd.R_types (Kd.R_apart' (Kd.R_apart' (Kd.R_apart' (HO236.out) (Kd.R_typed HO228.out) (by decide)) (Kd.R_typed HO247.out) (by decide)) (Kd.S_typed HO_3.out) (by decide)) BK242.out (by decide)) (fun k_ hk=>⟨⟨hk.1.1.1.2,⟨hk.1.1.2,hk.2⟩⟩,hk.1.2⟩))) (fun _ h_=>Or.inr (h_))));(case aF=>exact (fun k_ hk=>⟨Kd.fresh' (Kd.R_lt (zz8 HO228)) k_ hk,Kd.fresh' (Kd.R_lt (zz8 HO247)) k_ hk,Kd.freshB (zz15 BK242) k_ hk⟩));(case aO=>exact (zz49 HO_3));(case aS=>exact (keep_size (w:=w) (g:=g) (row:=none) (zz42 HK GW242)));(case aL=>exact (zz3 LMc49));intro v257 w52 ho hb hg hat;rw [← Ny256.out] at ho;replace HO228:=A_ (Kd.R_over' (zz8 HO228) (Kd.S_typed (zz35 HO_3)) (by decide) hg);replace BK242:=A_ (blk_grown (zz15 BK242) hg (Kd.S_away HO_3.out (fun _ hk=>hk.2.2.2.2)));replace HO247:=A_ (Kd.R_over' (zz8 HO247) (Kd.S_typed (zz35 HO_3)) (by decide) hg);replace HB:=A_ (below_weaken (zz38 HB HI0 GE242) HL.out hb);replace HI0:=A_ (IsS68.grown (zz37 HI0 NB0_242) hg (IsS68.own_neS HI0.out HO_3.out (by decide)));replace HK:=A_ (KeepBut.trans (zz42 HK GW242) (KeepBut.of_grown hg g) (Kd.S_base2 HO_3.out));have HO258:=A_ (ho);clear HO_3;clear HO236;clear HO252;clear ho hb hg hat))
       go_roundg k1
       case measure=>have:=HK1.out;omega
       case rel=>exact ⟨(y256),(wrap64 (x4_1 - 1)),(t249),zz0,H',⟨(zz3 HK1)⟩,⟨(zz50 HO258)⟩,⟨(zz37 HI0 NB0_242)⟩,⟨(zz42 HK GW242)⟩,⟨(zz38 HB HI0 GE242)⟩⟩
      ·have H':=A_ H
       clear H;have hnb53:=NB242_0.out;have hnc53:=NB0_242.out;obtain ⟨_,_,_,_,_,_⟩:=cf3 BK242;go_wp2
       go_roundg k1
       case measure=>have:=HK1.out;omega
       case rel=>exact ⟨(x3_1),(wrap64 (x4_1 - 1)),(t249),zz0,H',⟨(zz3 HK1)⟩,⟨(zz50 HO_3)⟩,⟨(zz37 HI0 NB0_242)⟩,⟨(zz42 HK GW242)⟩,⟨(zz38 HB HI0 GE242)⟩⟩
    ·(first|rw [c28b0]|(simp only [i64_w,i32_w];rw [c28b0])|skip)
     replace H:=iteE H;rcases H with ⟨c55,H⟩|⟨c55,H⟩
     ·have c55b0:=gtT c55
      have c55b1:decide (0 < t234.length)=true:=dT (by omega);clear c55;replace H:=iteN H;obtain ⟨c56,H⟩:=H;have LMc56:=A_ c56;clear c56;obtain ⟨y259,Ny259⟩:=toY (x3_1++[(⟨y231,t234,wrap64 (t238 * t240)⟩:S106)]);(first|with_reducible replace H:=bindZ Ny259 H|rw [← Ny259.out] at H|skip)
      have H':=A_ H;clear H;have hnb57:=NB242_0.out;have hnc57:=NB0_242.out;obtain ⟨_,_,_,_,_,_⟩:=cf3 BK242;go_wp2_with (first|((with_reducible refine gate_builtin (b:=.append) (xs:=#[.tmp 45,.tmp 47]) rfl ?_);at_builtin;refine Kd.S_append k106 w.heap.size rfl (.tmp 45) (.tmp 47) 87 106 (.agg #[(.slice none 0 0),(.slice none 0 0),(.int .i64 0)]) 56 rfl Tryz.underlying87 info106 rfl (by decide) (by omega) u3 x3_1 (⟨y231,t234,wrap64 (t238 * t240)⟩:S106) [.slice Ao23 y231.length co23,.slice Ao22 t234.length co22,.int .i64 (wrap64 (t238 * t240))] (fun k_=>some k_≠(.slice Ao15 y226.length co15:Value).ownBlock∧k_≠gb242) (fun k_=>some k_=(.slice Ao23 y231.length co23:Value).ownBlock∨some k_=(.slice Ao22 t234.length co22:Value).ownBlock) rfl rfl ?aP (fun k_ hk_=>hk_.elim (fun h_=>((Kd.R_mono (ok':=fun k_=>((fun k_=>some k_≠(.slice Ao15 y226.length co15:Value).ownBlock∧k_≠gb242)) k_∧some k_≠(u3:Value).ownBlock) (Kd.R_types (Kd.R_apart' (HO233.out) (Kd.S_typed HO_3.out) (by decide)) BK242.out (by decide)) (fun k_ hk=>⟨⟨hk.1.1.2,hk.2⟩,hk.1.2⟩))).1 k_ h_.symm) (fun h_=>((Kd.R_mono (ok':=fun k_=>((fun k_=>some k_≠(.slice Ao15 y226.length co15:Value).ownBlock∧k_≠gb242)) k_∧some k_≠(u3:Value).ownBlock) (Kd.R_types (Kd.R_apart' (Kd.R_apart' (HO236.out) (Kd.R_typed HO228.out) (by decide)) (Kd.S_typed HO_3.out) (by decide)) BK242.out (by decide)) (fun k_ hk=>⟨⟨hk.1.1.2,hk.2⟩,hk.1.2⟩))).1 k_ h_.symm)) ?aF ?aO (Below.refl _ _) ?aS ?aL ?_;(case aP=>exact k106_mkM _ _ _ (⟨y231,t234,wrap64 (t238 * t240)⟩:S106) (Kd.R_mono (Kd.R_tight rfl (Kd.R_mono (ok':=fun k_=>((fun k_=>some k_≠(.slice Ao15 y226.length co15:Value).ownBlock∧k_≠gb242)) k_∧some k_≠(u3:Value).ownBlock) (Kd.R_types (Kd.R_apart' (HO233.out) (Kd.S_typed HO_3.out) (by decide)) BK242.out (by decide)) (fun k_ hk=>⟨⟨hk.1.1.2,hk.2⟩,hk.1.2⟩))) (fun _ h_=>Or.inl h_)) (Kd.R_mono (Kd.R_tight rfl (Kd.R_mono (ok':=fun k_=>((fun k_=>some k_≠(.slice Ao15 y226.length co15:Value).ownBlock∧k_≠gb242)) k_∧some k_≠(u3:Value).ownBlock) (Kd.R_types (Kd.R_apart' (Kd.R_apart' (HO236.out) (Kd.R_typed HO228.out) (by decide)) (Kd.S_typed HO_3.out) (by decide)) BK242.out (by decide)) (fun k_ hk=>⟨⟨hk.1.1.2,hk.2⟩,hk.1.2⟩))) (fun _ h_=>Or.inr (h_))));(case aF=>exact (fun k_ hk=>⟨Kd.fresh' (Kd.R_lt (zz8 HO228)) k_ hk,Kd.freshB (zz15 BK242) k_ hk⟩));(case aO=>exact (zz51 HO_3));(case aS=>exact (keep_size (w:=w) (g:=g) (row:=none) (zz42 HK GW242)));(case aL=>exact (zz3 LMc56));intro v260 w59 ho hb hg hat;rw [← Ny259.out] at ho;replace HO228:=A_ (Kd.R_over' (zz8 HO228) (Kd.S_typed (zz35 HO_3)) (by decide) hg);replace BK242:=A_ (blk_grown (zz15 BK242) hg (Kd.S_away HO_3.out (fun _ hk=>hk.2)));replace HB:=A_ (below_weaken (zz38 HB HI0 GE242) HL.out hb);replace HI0:=A_ (IsS68.grown (zz37 HI0 NB0_242) hg (IsS68.own_neS HI0.out HO_3.out (by decide)));replace HK:=A_ (KeepBut.trans (zz42 HK GW242) (KeepBut.of_grown hg g) (Kd.S_base2 HO_3.out));have HO261:=A_ (ho);clear HO_3;clear HO233;clear HO236;clear ho hb hg hat))
      go_roundg k1
      case measure=>have:=HK1.out;omega
      case rel=>exact ⟨(y259),(wrap64 (x4_1 - 1)),(t244),zz0,H',⟨(zz3 HK1)⟩,⟨(zz50 HO261)⟩,⟨(zz37 HI0 NB0_242)⟩,⟨(zz42 HK GW242)⟩,⟨(zz38 HB HI0 GE242)⟩⟩
     ·have c55b0:=gtF c55
      have c55b1:decide (0 < t234.length)=false:=dF (by omega);clear c55;replace H:=iteEg H;rcases H with ⟨c60b0,H⟩|⟨c60b0,H⟩
      ·replace H:=iteN H
       obtain ⟨c61,H⟩:=H;have LMc61:=A_ c61;clear c61;obtain ⟨y262,Ny262⟩:=toY (x3_1++[(⟨y231,t234,wrap64 (t238 * t240)⟩:S106)]);(first|with_reducible replace H:=bindZ Ny262 H|rw [← Ny262.out] at H|skip)
       have H':=A_ H;clear H;have hnb62:=NB242_0.out;have hnc62:=NB0_242.out;obtain ⟨_,_,_,_,_,_⟩:=cf3 BK242;go_wp2_with (first|((with_reducible refine gate_builtin (b:=.append) (xs:=#[.tmp 45,.tmp 47]) rfl ?_);at_builtin;refine Kd.S_append k106 w.heap.size rfl (.tmp 45) (.tmp 47) 87 106 (.agg #[(.slice none 0 0),(.slice none 0 0),(.int .i64 0)]) 56 rfl Tryz.underlying87 info106 rfl (by decide) (by omega) u3 x3_1 (⟨y231,t234,wrap64 (t238 * t240)⟩:S106) [.slice Ao23 y231.length co23,.slice Ao22 t234.length co22,.int .i64 (wrap64 (t238 * t240))] (fun k_=>some k_≠(.slice Ao15 y226.length co15:Value).ownBlock∧k_≠gb242) (fun k_=>some k_=(.slice Ao23 y231.length co23:Value).ownBlock∨some k_=(.slice Ao22 t234.length co22:Value).ownBlock) rfl rfl ?aP (fun k_ hk_=>hk_.elim (fun h_=>((Kd.R_mono (ok':=fun k_=>((fun k_=>some k_≠(.slice Ao15 y226.length co15:Value).ownBlock∧k_≠gb242)) k_∧some k_≠(u3:Value).ownBlock) (Kd.R_types (Kd.R_apart' (HO233.out) (Kd.S_typed HO_3.out) (by decide)) BK242.out (by decide)) (fun k_ hk=>⟨⟨hk.1.1.2,hk.2⟩,hk.1.2⟩))).1 k_ h_.symm) (fun h_=>((Kd.R_mono (ok':=fun k_=>((fun k_=>some k_≠(.slice Ao15 y226.length co15:Value).ownBlock∧k_≠gb242)) k_∧some k_≠(u3:Value).ownBlock) (Kd.R_types (Kd.R_apart' (Kd.R_apart' (HO236.out) (Kd.R_typed HO228.out) (by decide)) (Kd.S_typed HO_3.out) (by decide)) BK242.out (by decide)) (fun k_ hk=>⟨⟨hk.1.1.2,hk.2⟩,hk.1.2⟩))).1 k_ h_.symm)) ?aF ?aO (Below.refl _ _) ?aS ?aL ?_;(case aP=>exact k106_mkM _ _ _ (⟨y231,t234,wrap64 (t238 * t240)⟩:S106) (Kd.R_mono (Kd.R_tight rfl (Kd.R_mono (ok':=fun k_=>((fun k_=>some k_≠(.slice Ao15 y226.length co15:Value).ownBlock∧k_≠gb242)) k_∧some k_≠(u3:Value).ownBlock) (Kd.R_types (Kd.R_apart' (HO233.out) (Kd.S_typed HO_3.out) (by decide)) BK242.out (by decide)) (fun k_ hk=>⟨⟨hk.1.1.2,hk.2⟩,hk.1.2⟩))) (fun _ h_=>Or.inl h_)) (Kd.R_mono (Kd.R_tight rfl (Kd.R_mono (ok':=fun k_=>((fun k_=>some k_≠(.slice Ao15 y226.length co15:Value).ownBlock∧k_≠gb242)) k_∧some k_≠(u3:Value).ownBlock) (Kd.R_types (Kd.R_apart' (Kd.R_apart' (HO236.out) (Kd.R_typed HO228.out) (by decide)) (Kd.S_typed HO_3.out) (by decide)) BK242.out (by decide)) (fun k_ hk=>⟨⟨hk.1.1.2,hk.2⟩,hk.1.2⟩))) (fun _ h_=>Or.inr (h_))));(case aF=>exact (fun k_ hk=>⟨Kd.fresh' (Kd.R_lt (zz8 HO228)) k_ hk,Kd.freshB (zz15 BK242) k_ hk⟩));(case aO=>exact (zz51 HO_3));(case aS=>exact (keep_size (w:=w) (g:=g) (row:=none) (zz42 HK GW242)));(case aL=>exact (zz3 LMc61));intro v263 w64 ho hb hg hat;rw [← Ny262.out] at ho;replace HO228:=A_ (Kd.R_over' (zz8 HO228) (Kd.S_typed (zz35 HO_3)) (by decide) hg);replace BK242:=A_ (blk_grown (zz15 BK242) hg (Kd.S_away HO_3.out (fun _ hk=>hk.2)));replace HB:=A_ (below_weaken (zz38 HB HI0 GE242) HL.out hb);replace HI0:=A_ (IsS68.grown (zz37 HI0 NB0_242) hg (IsS68.own_neS HI0.out HO_3.out (by decide)));replace HK:=A_ (KeepBut.trans (zz42 HK GW242) (KeepBut.of_grown hg g) (Kd.S_base2 HO_3.out));have HO264:=A_ (ho);clear HO_3;clear HO233;clear HO236;clear ho hb hg hat))
       go_roundg k1
       case measure=>have:=HK1.out;omega
       case rel=>exact ⟨(y262),(wrap64 (x4_1 - 1)),(t244),zz0,H',⟨(zz3 HK1)⟩,⟨(zz50 HO264)⟩,⟨(zz37 HI0 NB0_242)⟩,⟨(zz42 HK GW242)⟩,⟨(zz38 HB HI0 GE242)⟩⟩
      ·have H':=A_ H
       clear H;have hnb65:=NB242_0.out;have hnc65:=NB0_242.out;obtain ⟨_,_,_,_,_,_⟩:=cf3 BK242;go_wp2
       go_roundg k1
       case measure=>have:=HK1.out;omega
       case rel=>exact ⟨(x3_1),(wrap64 (x4_1 - 1)),(t244),zz0,H',⟨(zz3 HK1)⟩,⟨(zz50 HO_3)⟩,⟨(zz37 HI0 NB0_242)⟩,⟨(zz42 HK GW242)⟩,⟨(zz38 HB HI0 GE242)⟩⟩
   ·replace H:=bindA H
    obtain ⟨⟨t265,t266⟩,A67,H⟩:=H;try dsimp only at H
    have HF68:=A_ H;clear H;go_upto_if 51 with (first|(refine gR 22 (some 50) Tryz.func22 (spec_l6Rd_pick.calls k1 g s0_0 x1001_1 24 t265 t266 w0 _ ?side1 ?side2 A67.out) ?_;(case side1=>exact (zz18 HI0));(case side2=>exact (zz20 HB HI0));rintro w69 ⟨hi,hb,hk⟩;replace HO_3:=A_ (Kd.S_mono (Kd.S_keep (IsS68.apartS (show IsS68 w0 _ g s0_0 x1001_1 from (zz18 HI0)) (zz35 HO_3) (by decide)) hk (fun _ h=>h.2)) (fun _ h=>h.1));replace HK:=A_ (KeepBut.trans (zz19 HK) hk (.inl rfl));replace HB:=A_ (hb);replace HI0:=A_ (hi);(try clear hb hk hi)))
    obtain ⟨H⟩:=HF68;replace H:=iteEq H;rcases H with ⟨c70b0,c70b1,H⟩|⟨c70b0,c70b1,c70,H⟩
    ·(first|rw [c70b0]|(simp only [i64_w,i32_w];rw [c70b0])|skip)
     obtain ⟨y267,Ny267⟩:=toY (([(⟨#[120]⟩:ByteArray)]:List ByteArray));(first|with_reducible replace H:=bindZ Ny267 H|rw [← Ny267.out] at H|skip)
     replace H:=iteN H;obtain ⟨c71,H⟩:=H;have LMc71:=A_ c71;clear c71;obtain ⟨y270,Ny270⟩:=toY (x3_1++[(⟨y267,([]:List (S108)),0⟩:S106)]);(first|with_reducible replace H:=bindZ Ny270 H|rw [← Ny270.out] at H|skip)
     simp only [Option.some.injEq,Prod.mk.injEq] at H
     obtain ⟨rfl,rfl⟩:=H;go_wp2_with (first|((with_reducible refine gD (N:=54) rfl ?_);refine Kd.R_lit Kd.string _ 9 ?hg (N:=54) ?hd (xs:=([(⟨#[120]⟩:ByteArray)]:List ByteArray)) (inner:=[.string (⟨#[120]⟩:ByteArray)]) (ok:=fun _=>True) (okp:=fun _=>True) ?hr ?hp (fun _ hk=>hk) trivial (Below.refl _ _) (Nat.le_refl _) (by simp) ?_;(case hd=>rfl);(case hg=>rfl);(case hr=>exact zz26);(case hp=>exact (Reps.one (show Kd.M Kd.string _ _ _ (⟨#[120]⟩:ByteArray) [.string (⟨#[120]⟩:ByteArray)] from rfl) (Reps.none _ _)));intro v268 w72 ho73 hb hg_ hnew_;clear hg_ hnew_;(first|rw [← Ny267.out] at ho73|(simp only [Int.reduceToNat] at ho73;rw [← Ny267.out] at ho73));replace HO_3:=A_ (Kd.S_elder' (zz35 HO_3) (Kd.R_base ho73) hb);have HO269:=A_ (Kd.R_lower ho73 (keep_size (w:=w) (g:=g) (row:=none) (zz19 HK)));replace HK:=A_ (KeepBut.trans (zz19 HK) (KeepBut.of_below hb g none) (.inl rfl));replace HB:=A_ (bS (zz20 HB HI0) hb);replace HI0:=A_ (IsS68.below (zz18 HI0) hb);clear hb ho73;obtain ⟨Ao74,co74,eo74⟩:=Kd.R_slice HO269.out;subst eo74)|((with_reducible refine gate_builtin (b:=.append) (xs:=#[.tmp 53,.tmp 56]) rfl ?_);at_builtin;refine Kd.S_append k106 w.heap.size rfl (.tmp 53) (.tmp 56) 87 106 (.agg #[(.slice none 0 0),(.slice none 0 0),(.int .i64 0)]) 56 rfl Tryz.underlying87 info106 rfl (by decide) (by omega) u3 x3_1 (⟨y267,([]:List (S108)),0⟩:S106) [.slice Ao74 y267.length co74,.slice none 0 0,.int .i64 0] (fun _=>True) (fun k_=>some k_=(.slice Ao74 y267.length co74:Value).ownBlock) rfl rfl ?aP (fun k_ hk_=>((Kd.R_mono (ok':=fun k_=>((fun _=>True)) k_∧some k_≠(u3:Value).ownBlock) (Kd.R_apart' (HO269.out) (Kd.S_typed HO_3.out) (by decide)) (fun k_ hk=>⟨trivial,hk.2⟩))).1 k_ hk_.symm) ?aF ?aO (Below.refl _ _) ?aS ?aL ?_;(case aP=>exact k106_mkM _ _ _ (⟨y267,([]:List (S108)),0⟩:S106) (Kd.R_mono (Kd.R_tight rfl (Kd.R_mono (ok':=fun k_=>((fun _=>True)) k_∧some k_≠(u3:Value).ownBlock) (Kd.R_apart' (HO269.out) (Kd.S_typed HO_3.out) (by decide)) (fun k_ hk=>⟨trivial,hk.2⟩))) (fun _ h_=>h_)) (Kd.R_nil _ _ _ _ _));(case aF=>exact (fun _ _=>trivial));(case aO=>exact (zz52 HO_3));(case aS=>exact (keep_size (w:=w) (g:=g) (row:=none) (zz19 HK)));(case aL=>exact (zz3 LMc71));intro v271 w75 ho hb hg hat;rw [← Ny270.out] at ho;replace HB:=A_ (below_weaken (zz20 HB HI0) HL.out hb);replace HI0:=A_ (IsS68.grown (zz18 HI0) hg (IsS68.own_neS HI0.out HO_3.out (by decide)));replace HK:=A_ (KeepBut.trans (zz19 HK) (KeepBut.of_grown hg g) (Kd.S_base2 HO_3.out));have HO272:=A_ (ho);clear HO_3;clear HO269;clear ho hb hg hat))
     go_ret
     exact ⟨_,zz12,(zz35 HO272),(zz18 HI0),(zz20 HB HI0),(zz19 HK)⟩
    ·(first|rw [c70b0]|(simp only [i64_w,i32_w];rw [c70b0])|skip)
     replace H:=iteEq H;rcases H with ⟨c76b0,c76b1,H⟩|⟨c76b0,c76b1,c76,H⟩
     ·replace H:=iteN H
      obtain ⟨c77,H⟩:=H;have LMc77:=A_ c77;clear c77;obtain ⟨y273,Ny273⟩:=toY (x3_1++[(⟨([]:List ByteArray),([]:List (S108)),2⟩:S106)]);(first|with_reducible replace H:=bindZ Ny273 H|rw [← Ny273.out] at H|skip)
      simp only [Option.some.injEq,Prod.mk.injEq] at H
      obtain ⟨rfl,rfl⟩:=H;go_wp2_with (first|((with_reducible refine gate_builtin (b:=.append) (xs:=#[.tmp 60,.tmp 62]) rfl ?_);at_builtin;refine Kd.S_append k106 w.heap.size rfl (.tmp 60) (.tmp 62) 87 106 (.agg #[(.slice none 0 0),(.slice none 0 0),(.int .i64 0)]) 56 rfl Tryz.underlying87 info106 rfl (by decide) (by omega) u3 x3_1 (⟨([]:List ByteArray),([]:List (S108)),2⟩:S106) [.slice none 0 0,.slice none 0 0,.int .i64 2] (fun _=>True) (fun _=>False) rfl rfl ?aP (fun k_ hk_=>hk_.elim) ?aF ?aO (Below.refl _ _) ?aS ?aL ?_;(case aP=>exact k106_mkM _ _ _ (⟨([]:List ByteArray),([]:List (S108)),2⟩:S106) (Kd.R_nil _ _ _ _ _) (Kd.R_nil _ _ _ _ _));(case aF=>exact (fun _ _=>trivial));(case aO=>exact (by (with_reducible repeat (first|apply Kd.S_alloc|apply Kd.S_drewN|apply Kd.S_drew));exact Kd.S_mono HO_3.out (fun k_ hk=>⟨trivial,fun e_=>e_⟩)));(case aS=>exact (keep_size (w:=w) (g:=g) (row:=none) (zz19 HK)));(case aL=>exact (zz3 LMc77));intro v274 w78 ho hb hg hat;rw [← Ny273.out] at ho;replace HB:=A_ (below_weaken (zz20 HB HI0) HL.out hb);replace HI0:=A_ (IsS68.grown (zz18 HI0) hg (IsS68.own_neS HI0.out HO_3.out (by decide)));replace HK:=A_ (KeepBut.trans (zz19 HK) (KeepBut.of_grown hg g) (Kd.S_base2 HO_3.out));have HO275:=A_ (ho);clear HO_3;clear ho hb hg hat))
      go_ret
      exact ⟨_,zz12,(zz35 HO275),(zz18 HI0),(zz20 HB HI0),(zz19 HK)⟩
     ·replace H:=iteEq H
      rcases H with ⟨c79b0,c79b1,H⟩|⟨c79b0,c79b1,c79,H⟩
      ·obtain ⟨y276,Ny276⟩:=toY (([(⟨#[88]⟩:ByteArray)]:List ByteArray))
       (first|with_reducible replace H:=bindZ Ny276 H|rw [← Ny276.out] at H|skip)
       replace H:=iteN H;obtain ⟨c80,H⟩:=H;have LMc80:=A_ c80;clear c80;obtain ⟨y279,Ny279⟩:=toY (x3_1++[(⟨y276,([]:List (S108)),2⟩:S106)]);(first|with_reducible replace H:=bindZ Ny279 H|rw [← Ny279.out] at H|skip)
       simp only [Option.some.injEq,Prod.mk.injEq] at H
       obtain ⟨rfl,rfl⟩:=H;go_wp2_with (first|((with_reducible refine gD (N:=67) rfl ?_);refine Kd.R_lit Kd.string _ 9 ?hg (N:=67) ?hd (xs:=([(⟨#[88]⟩:ByteArray)]:List ByteArray)) (inner:=[.string (⟨#[88]⟩:ByteArray)]) (ok:=fun _=>True) (okp:=fun _=>True) ?hr ?hp (fun _ hk=>hk) trivial (Below.refl _ _) (Nat.le_refl _) (by simp) ?_;(case hd=>rfl);(case hg=>rfl);(case hr=>exact zz26);(case hp=>exact (Reps.one (show Kd.M Kd.string _ _ _ (⟨#[88]⟩:ByteArray) [.string (⟨#[88]⟩:ByteArray)] from rfl) (Reps.none _ _)));intro v277 w81 ho82 hb hg_ hnew_;clear hg_ hnew_;(first|rw [← Ny276.out] at ho82|(simp only [Int.reduceToNat] at ho82;rw [← Ny276.out] at ho82));replace HO_3:=A_ (Kd.S_elder' (zz35 HO_3) (Kd.R_base ho82) hb);have HO278:=A_ (Kd.R_lower ho82 (keep_size (w:=w) (g:=g) (row:=none) (zz19 HK)));replace HK:=A_ (KeepBut.trans (zz19 HK) (KeepBut.of_below hb g none) (.inl rfl));replace HB:=A_ (bS (zz20 HB HI0) hb);replace HI0:=A_ (IsS68.below (zz18 HI0) hb);clear hb ho82;obtain ⟨Ao83,co83,eo83⟩:=Kd.R_slice HO278.out;subst eo83)|((with_reducible refine gate_builtin (b:=.append) (xs:=#[.tmp 66,.tmp 69]) rfl ?_);at_builtin;refine Kd.S_append k106 w.heap.size rfl (.tmp 66) (.tmp 69) 87 106 (.agg #[(.slice none 0 0),(.slice none 0 0),(.int .i64 0)]) 56 rfl Tryz.underlying87 info106 rfl (by decide) (by omega) u3 x3_1 (⟨y276,([]:List (S108)),2⟩:S106) [.slice Ao83 y276.length co83,.slice none 0 0,.int .i64 2] (fun _=>True) (fun k_=>some k_=(.slice Ao83 y276.length co83:Value).ownBlock) rfl rfl ?aP (fun k_ hk_=>((Kd.R_mono (ok':=fun k_=>((fun _=>True)) k_∧some k_≠(u3:Value).ownBlock) (Kd.R_apart' (HO278.out) (Kd.S_typed HO_3.out) (by decide)) (fun k_ hk=>⟨trivial,hk.2⟩))).1 k_ hk_.symm) ?aF ?aO (Below.refl _ _) ?aS ?aL ?_;(case aP=>exact k106_mkM _ _ _ (⟨y276,([]:List (S108)),2⟩:S106) (Kd.R_mono (Kd.R_tight rfl (Kd.R_mono (ok':=fun k_=>((fun _=>True)) k_∧some k_≠(u3:Value).ownBlock) (Kd.R_apart' (HO278.out) (Kd.S_typed HO_3.out) (by decide)) (fun k_ hk=>⟨trivial,hk.2⟩))) (fun _ h_=>h_)) (Kd.R_nil _ _ _ _ _));(case aF=>exact (fun _ _=>trivial));(case aO=>exact (zz52 HO_3));(case aS=>exact (keep_size (w:=w) (g:=g) (row:=none) (zz19 HK)));(case aL=>exact (zz3 LMc80));intro v280 w84 ho hb hg hat;rw [← Ny279.out] at ho;replace HB:=A_ (below_weaken (zz20 HB HI0) HL.out hb);replace HI0:=A_ (IsS68.grown (zz18 HI0) hg (IsS68.own_neS HI0.out HO_3.out (by decide)));replace HK:=A_ (KeepBut.trans (zz19 HK) (KeepBut.of_grown hg g) (Kd.S_base2 HO_3.out));have HO281:=A_ (ho);clear HO_3;clear HO278;clear ho hb hg hat))
       go_ret
       exact ⟨_,zz12,(zz35 HO281),(zz18 HI0),(zz20 HB HI0),(zz19 HK)⟩
      ·simp only [Option.some.injEq,Prod.mk.injEq] at H
       obtain ⟨rfl,rfl⟩:=H;go_wp2
       go_ret
       exact ⟨_,zz12,(zz35 HO_3),(zz18 HI0),(zz20 HB HI0),(zz19 HK)⟩
def laws_lpTexts.l0:Nat→List ByteArray→List ByteArray→Int→Option (Bool)
 | 0,_,_,_=>none
 | k+1,x0,x1,x5=>if x5 < (x0.length:Int) then (if 0≤x5 then (if x5 < (x1.length:Int) then (if (rdOf ByteArray.empty x0 x5).toList=(rdOf ByteArray.empty x1 x5).toList then (laws_lpTexts.l0 k x0 x1 (wrap64 (x5+1))) else (some false)) else (none)) else (none)) else (some true)
def laws_lpTexts.f (k:Nat) (l0:List ByteArray) (l1:List ByteArray):Option (Bool):=if (l0.length:Int)=(l1.length:Int) then (laws_lpTexts.l0 k l0 l1 0) else (some false)
theorem laws_lpTexts.mono_l:∀ k,(∀ y0 y1 y2,LeO (laws_lpTexts.l0 k y0 y1 y2) (laws_lpTexts.l0 (k+1) y0 y1 y2))
 | 0=>by intros;intro r h;simp [laws_lpTexts.l0] at h
 | k+1=>by
  have ih0:=laws_lpTexts.mono_l k;intros;unfold laws_lpTexts.l0;repeat' first|(with_reducible first|exact ih0 _ _ _|exact LeO.refl _|exact LeO.none _|refine LeO.ite ?_ ?_|refine LeO.bind ?_ (fun _=>?_))|exact LeO.none _|refine LeO.ite ?_ ?_|refine LeO.bind ?_ (fun _=>?_)
theorem laws_lpTexts.calls (k:Nat) (A0:Option Addr) (c0:Nat) (l0:List ByteArray) (A1:Option Addr) (c1:Nat) (l1:List ByteArray) (r:Bool) (w:World) (hr0:Kd.C Kd.string w A0 l0.length l0) (hc0:l0.length≤c0) (hr1:Kd.C Kd.string w A1 l1.length l1) (hc1:l1.length≤c1) (h:laws_lpTexts.f k l0 l1=some r) :
  Calls Tryz.prog 13 #[.slice A0 l0.length c0,.slice A1 l1.length c1] w fun e w'=>e=.returned (.bool r)∧Drawn0 w w':=by
 have HR0:=A_ hr0;have HC0:=A_ hc0;clear hr0 hc0;have HR1:=A_ hr1;have HC1:=A_ hc1;clear hr1 hc1;unfold laws_lpTexts.f at h
 have H:=h;clear h;replace H:=iteE H;rcases H with ⟨c3,H⟩|⟨c3,H⟩
 ·obtain ⟨c3b0,c3b1⟩:=eqT c3
  have c3b2:(l0.length == l1.length)=true:=by first|simpa using c3|(simp at c3 ⊢;omega)
  clear c3;have H':=A_ H;clear H;go_enter Tryz.func13,Tryz.ntmps13;go_wp2
  repeat (go_quiet (fail);try go_wp2)
  go_loopg [5] k (fun kq v5 w'=>∃ (x5_1:Int),v5=.int .i64 x5_1∧Aside0 (laws_lpTexts.l0 kq l0 l1 x5_1=some r)∧Aside0 (kq≤k)∧Drawn0 w w')
  case atStart=>exact ⟨(0),zz0,H',⟨Nat.le_refl _⟩,zz1⟩
  case round=>
   clear H';obtain ⟨x5_1,rfl,HA,HK1,⟨m1,rfl⟩⟩:=hrel;cases gk with
   | zero=>exact absurd HA.out (by simp [laws_lpTexts.l0])
   | succ k1=>
    obtain ⟨H⟩:=HA;simp only [laws_lpTexts.l0] at H
    replace H:=iteEd H;rcases H with ⟨c4b0,H⟩|⟨c4b0,H⟩
    ·replace H:=iteNd H
     obtain ⟨c5b0,H⟩:=H;replace H:=iteNd H;obtain ⟨c6b0,H⟩:=H;replace H:=iteEq H;rcases H with ⟨c7b0,c7b1,H⟩|⟨c7b0,c7b1,c7,H⟩
     ·have H':=A_ H
      clear H;obtain ⟨⟨ad836,e836,hx836_0⟩,p836,q836⟩:=atB (Kd.at_string HR0.out x5_1);cases e836
      obtain ⟨⟨ad837,e837,hx837_0⟩,p837,q837⟩:=atB (Kd.at_string HR1.out x5_1);cases e837
      go_wp2
      repeat (go_quiet (fail);try go_wp2)
      go_roundg k1
      case measure=>have:=HK1.out;omega
      case rel=>exact ⟨(wrap64 (x5_1+1)),zz0,H',⟨(zz3 HK1)⟩,zz1⟩
     ·obtain rfl:=sI H
      obtain ⟨⟨ad836,e836,hx836_0⟩,p836,q836⟩:=atB (Kd.at_string HR0.out x5_1);cases e836
      obtain ⟨⟨ad837,e837,hx837_0⟩,p837,q837⟩:=atB (Kd.at_string HR1.out x5_1);cases e837
      go_wp2
      repeat (go_quiet (fail);try go_wp2)
      go_ret
      exact ⟨zz0,zz1⟩
    ·obtain rfl:=sI H
     go_wp2
     repeat (go_quiet (fail);try go_wp2)
     go_ret
     exact ⟨zz0,zz1⟩
 ·obtain ⟨c3b0,c3b1⟩:=eqF c3
  have c3b2:(l0.length == l1.length)=false:=by first|simpa using c3|(simp at c3 ⊢;omega)
  obtain rfl:=sI H;go_enter Tryz.func13,Tryz.ntmps13;go_wp2
  repeat (go_quiet (fail);try go_wp2)
  go_ret
  exact ⟨zz0,zz1⟩
def spec_l1Cut.l0:Nat→ByteArray→Int→Int→Option (ByteArray×ByteArray×Bool)
 | 0,_,_,_=>none
 | k+1,x0,x1,x7=>if x7 < (x0.size:Int) then (if 0≤x7 then (if (bt x0 x7)=x1 then (if x7≤(x0.size:Int) then (if 0≤(wrap64 (x7+1)) then (if (wrap64 (x7+1))≤(x0.size:Int) then (some (x0.extract 0 (x7:Int).toNat,x0.extract ((wrap64 (x7+1)):Int).toNat x0.size,true)) else (none)) else (none)) else (none)) else (spec_l1Cut.l0 k x0 x1 (wrap64 (x7+1)))) else (none)) else (some (x0,(⟨#[]⟩:ByteArray),false))
def spec_l1Cut.f (k:Nat) (a0:ByteArray) (a1:Int):Option (ByteArray×ByteArray×Bool):=spec_l1Cut.l0 k a0 a1 0
theorem spec_l1Cut.calls (k:Nat) (a0:ByteArray) (a1:Int) (r1:ByteArray) (r2:ByteArray) (r3:Bool) (w:World) (h:spec_l1Cut.f k a0 a1=some (r1,r2,r3)) :
  Calls Tryz.prog 70 #[.string a0,.int .u8 a1] w fun e w'=>e=.returned (.tuple #[.string r1,.string r2,.bool r3])∧Drawn0 w w':=by
 unfold spec_l1Cut.f at h
 have H:=h;clear h;have H':=A_ H;clear H;go_enter Tryz.func70,Tryz.ntmps70;go_wp2
 repeat (go_quiet (fail);try go_wp2)
 go_loopg [7] k (fun kq v7 w'=>∃ (x7_1:Int),v7=.int .i64 x7_1∧Aside0 (spec_l1Cut.l0 kq a0 a1 x7_1=some (r1,r2,r3))∧Aside0 (kq≤k)∧Drawn0 w w')
 case atStart=>exact ⟨(0),zz0,H',⟨Nat.le_refl _⟩,zz1⟩
 case round=>
  clear H';obtain ⟨x7_1,rfl,HA,HK1,⟨m1,rfl⟩⟩:=hrel;cases gk with
  | zero=>exact absurd HA.out (by simp [spec_l1Cut.l0])
  | succ k1=>
   obtain ⟨H⟩:=HA;simp only [spec_l1Cut.l0] at H
   replace H:=iteEd H;rcases H with ⟨c3b0,H⟩|⟨c3b0,H⟩
   ·replace H:=iteNd H
    obtain ⟨c4b0,H⟩:=H;replace H:=iteEq H;rcases H with ⟨c6b0,c6b1,H⟩|⟨c6b0,c6b1,c6,H⟩
    ·have c7b0:=eq_true (ofD:0≤x7_1)
     replace H:=iteN H;obtain ⟨c8,H⟩:=H;have c8b0:=eq_true c8;have c8b1:=dT c8;clear c8;obtain ⟨ji9,hji9⟩:∃ j_:Int,(wrap64 (x7_1+1))=j_:=⟨_,rfl⟩;(first|rw [hji9] at H|simp only [hji9] at H)
     have hji9w:(IntKind.i64.wrap (x7_1+1))=ji9:=(i64_w _).trans hji9;replace H:=iteN H;obtain ⟨c10,H⟩:=H;have c10b0:=eq_true c10;have c10b1:=dT c10;clear c10;replace H:=iteN H;obtain ⟨c11,H⟩:=H;have c11b0:=eq_true c11;have c11b1:=dT c11;clear c11;simp only [Option.some.injEq,Prod.mk.injEq] at H
     obtain ⟨rfl,rfl,rfl⟩:=H;have p5:0≤(x7_1:Int):=ofD;have q5:x7_1 < (a0.size:Int):=ofD;have hx5:=bt_at a0 x7_1;replace p5:=eq_true p5;replace q5:=eq_true q5;go_wp2
     repeat (go_quiet (fail);try go_wp2)
     go_ret3
     exact ⟨(by first|rfl|(simp only [i64_w,i32_w];done)|(simp only [aid_isEmpty,aid_isEmpty2];done)|(simp;done)|((simp only [← hji9] <;> (first|rfl|simp));done)|(simp [*];done)),zz1⟩
    ·have H':=A_ H
     clear H;have p5:0≤(x7_1:Int):=ofD;have q5:x7_1 < (a0.size:Int):=ofD;have hx5:=bt_at a0 x7_1;replace p5:=eq_true p5;replace q5:=eq_true q5;go_wp2
     repeat (go_quiet (fail);try go_wp2)
     go_roundg k1
     case measure=>have:=HK1.out;omega
     case rel=>exact ⟨(wrap64 (x7_1+1)),zz0,H',⟨(zz3 HK1)⟩,zz1⟩
   ·simp only [Option.some.injEq,Prod.mk.injEq] at H
    obtain ⟨rfl,rfl,rfl⟩:=H;go_wp2
    repeat (go_quiet (fail);try go_wp2)
    go_ret3
    exact ⟨zz0,zz1⟩
def spec_l1Split.l0:Nat→Int→List ByteArray→ByteArray→Bool→Option (List ByteArray)
 | 0,_,_,_,_=>none
 | k+1,x1,x5,x6,x7=>if x7=true then ((spec_l1Cut.f k x6 x1).bind fun bt443=>(if x5.length < 8796093022208 then (spec_l1Split.l0 k x1 (x5++[bt443.1]) bt443.2.1 bt443.2.2) else (none))) else (some x5)
def spec_l1Split.f (k:Nat) (a0:ByteArray) (a1:Int):Option (List ByteArray):=spec_l1Split.l0 k a1 (([]:List ByteArray)) a0 true
theorem spec_l1Split.calls (k:Nat) (a0:ByteArray) (a1:Int) (r:List ByteArray) (w:World) (h:spec_l1Split.f k a0 a1=some r) :
  Calls Tryz.prog 119 #[.string a0,.int .u8 a1] w fun e w'=>∃ v0_:Value,e=.returned (v0_)∧Kd.R Kd.string 9 w' w.heap.size (fun _=>True) v0_ r∧Below w.heap.size w w':=by
 have HB:=A_ (Below.refl w.heap.size w);unfold spec_l1Split.f at h
 have H:=h;clear h;obtain ⟨y440,Ny440⟩:=toY (([]:List ByteArray));(first|with_reducible replace H:=bindZ Ny440 H|rw [← Ny440.out] at H|skip)
 have H':=A_ H;clear H;go_enter Tryz.func119,Tryz.ntmps119;go_wp2_with (first|((with_reducible refine gD (N:=9) rfl ?_);refine Kd.R_lit Kd.string _ 9 ?hg (N:=9) ?hd (xs:=([]:List ByteArray)) (inner:=[]) (ok:=fun _=>True) (okp:=fun _=>True) ?hr ?hp (fun _ hk=>hk) trivial (Below.refl _ _) (Nat.le_refl _) (by simp) ?_;(case hd=>rfl);(case hg=>rfl);(case hr=>exact zz26);(case hp=>exact (Reps.none _ _));intro v441 w3 ho4 hb hg_ hnew_;clear hg_ hnew_;(first|rw [← Ny440.out] at ho4|(simp only [Int.reduceToNat] at ho4;rw [← Ny440.out] at ho4));have HO442:=A_ (Kd.R_lower ho4 (below_size (zz5 HB)));replace HB:=A_ (bS (zz5 HB) hb);clear hb ho4))
 go_loopg [5,6,7] k (fun kq v5 v6 v7 w'=>∃ (x5_1:List ByteArray) (x6_1:ByteArray) (x7_1:Bool),v6=.string x6_1∧v7=.bool x7_1∧Aside0 (spec_l1Split.l0 kq a1 x5_1 x6_1 x7_1=some r)∧Aside0 (kq≤k)∧Aside0 (Kd.R Kd.string 9 w' w.heap.size (fun _=>True) v5 x5_1)∧Aside0 (Below w.heap.size w w'))
 case atStart=>exact ⟨(y440),(a0),(true),zz0,zz0,H',⟨Nat.le_refl _⟩,⟨(zz8 HO442)⟩,⟨(zz5 HB)⟩⟩
 case round=>
  clear H';obtain ⟨x5_1,x6_1,x7_1,rfl,rfl,HA,HK1,HO_5,HB⟩:=hrel;cases gk with
  | zero=>exact absurd HA.out (by simp [spec_l1Split.l0])
  | succ k1=>
   obtain ⟨H⟩:=HA;simp only [spec_l1Split.l0] at H
   replace H:=iteB H;rcases H with ⟨rfl,H⟩|⟨rfl,H⟩
   ·replace H:=bindA H
    obtain ⟨⟨t443,t444,t445⟩,A6,H⟩:=H;try dsimp only at H
    replace H:=iteN H;obtain ⟨c7,H⟩:=H;have LMc7:=A_ c7;clear c7;obtain ⟨y446,Ny446⟩:=toY (x5_1++[t443]);(first|with_reducible replace H:=bindZ Ny446 H|rw [← Ny446.out] at H|skip)
    have H':=A_ H;clear H;go_wp2_with (first|(refine gR 70 (some 15) Tryz.func70 (spec_l1Cut.calls k1 x6_1 a1 t443 t444 t445 _ A6.out) ?_;rintro w' ⟨nd,rfl⟩)|((with_reducible refine gate_builtin (b:=.append) (xs:=#[.tmp 19,.tmp 21]) rfl ?_);at_builtin;refine Kd.R_append Kd.string (w0:=w) w.heap.size rfl (.tmp 19) (.tmp 21) 35 9 (.string ⟨#[]⟩) 16 rfl Tryz.underlying35 info9 rfl (by decide) (by omega) u5 x5_1 t443 [.string t443] (fun _=>True) (fun _=>False) rfl rfl ?aP (fun _ hk=>hk.elim) ?aF ?aO ?aB ?aS ?aL ?_;(case aP=>exact rfl);(case aB=>exact (zz5 HB));(case aF=>exact (fun _ _=>trivial));(case aO=>exact (zz8 HO_5));(case aS=>exact (below_size (zz5 HB)));(case aL=>exact (zz3 LMc7));intro v447 w8 ho hb hg hat;rw [← Ny446.out] at ho;replace HB:=A_ (hb);have HO448:=A_ (ho);clear HO_5;clear ho hb hg hat))
    go_roundg k1
    case measure=>have:=HK1.out;omega
    case rel=>exact ⟨(y446),(t444),(t445),zz0,zz0,H',⟨(zz3 HK1)⟩,⟨(zz8 HO448)⟩,⟨(zz5 HB)⟩⟩
   ·obtain rfl:=sI H
    go_wp2
    go_ret
    exact ⟨_,zz12,(zz8 HO_5),(zz5 HB)⟩
mutual
def spec_PathClean.l0:Nat→List ByteArray→List ByteArray→Int→Option (List ByteArray)
 | 0,_,_,_=>none
 | k+1,x0,x3,x4=>if x4 < (x0.length:Int) then (if 0≤x4 then (if (rdOf ByteArray.empty x0 x4).toList=([]:List UInt8) then (spec_PathClean.j1 k x0 x3 x4 true) else (spec_PathClean.j1 k x0 x3 x4 ((rdOf ByteArray.empty x0 x4).toList == ([46]:List UInt8)))) else (none)) else (some x3)
def spec_PathClean.j1:Nat→List ByteArray→List ByteArray→Int→Bool→Option (List ByteArray)
 | 0,_,_,_,_=>none
 | k+1,x0,x3,x4,x19=>if x19=true then (spec_PathClean.l0 k x0 x3 (wrap64 (x4+1))) else (if 0≤x4 then (if x4 < (x0.length:Int) then (if (rdOf ByteArray.empty x0 x4).toList=([46,46]:List UInt8) then (if 0≤(mx (wrap64 ((x3.length:Int) - 1)) 0) then (if (mx (wrap64 ((x3.length:Int) - 1)) 0)≤(x3.length:Int) then (spec_PathClean.l0 k x0 (x3.take ((mx (wrap64 ((x3.length:Int) - 1)) 0):Int).toNat) (wrap64 (x4+1))) else (none)) else (none)) else (if x3.length < 8796093022208 then (spec_PathClean.l0 k x0 (x3++[rdOf ByteArray.empty x0 x4]) (wrap64 (x4+1))) else (none))) else (none)) else (none))
end
def spec_PathClean.f (k:Nat) (l0:List ByteArray):Option (List ByteArray):=spec_PathClean.l0 k l0 (([]:List ByteArray)) 0
theorem spec_PathClean.calls (k:Nat) (A0:Option Addr) (c0:Nat) (l0:List ByteArray) (r:List ByteArray) (w:World) (hr0:Kd.C Kd.string w A0 l0.length l0) (hc0:l0.length≤c0) (h:spec_PathClean.f k l0=some r) :
  Calls Tryz.prog 121 #[.slice A0 l0.length c0] w fun e w'=>∃ v0_:Value,e=.returned (v0_)∧Kd.R Kd.string 9 w' w.heap.size (fun _=>True) v0_ r∧Below w.heap.size w w':=by
 have HR0:=A_ hr0;have HC0:=A_ hc0;clear hr0 hc0;have HB:=A_ (Below.refl w.heap.size w);unfold spec_PathClean.f at h
 have H:=h;clear h;obtain ⟨y449,Ny449⟩:=toY (([]:List ByteArray));(first|with_reducible replace H:=bindZ Ny449 H|rw [← Ny449.out] at H|skip)
 have H':=A_ H;clear H;go_enter Tryz.func121,Tryz.ntmps121;go_wp2_with (first|((with_reducible refine gD (N:=5) rfl ?_);refine Kd.R_lit Kd.string _ 9 ?hg (N:=5) ?hd (xs:=([]:List ByteArray)) (inner:=[]) (ok:=fun _=>True) (okp:=fun _=>True) ?hr ?hp (fun _ hk=>hk) trivial (Below.refl _ _) (Nat.le_refl _) (by simp) ?_;(case hd=>rfl);(case hg=>rfl);(case hr=>exact zz26);(case hp=>exact (Reps.none _ _));intro v450 w2 ho3 hb hg_ hnew_;clear hg_ hnew_;(first|rw [← Ny449.out] at ho3|(simp only [Int.reduceToNat] at ho3;rw [← Ny449.out] at ho3));have HO451:=A_ (Kd.R_lower ho3 (below_size (zz5 HB)));replace HB:=A_ (bS (zz5 HB) hb);clear hb ho3))
 go_loopg [3,4] k (fun kq v3 v4 w'=>∃ (x3_1:List ByteArray) (x4_1:Int),v4=.int .i64 x4_1∧Aside0 (spec_PathClean.l0 kq l0 x3_1 x4_1=some r)∧Aside0 (kq≤k)∧Aside0 (Kd.R Kd.string 9 w' w.heap.size (fun _=>True) v3 x3_1)∧Aside0 (Below w.heap.size w w'))
 case atStart=>exact ⟨(y449),(0),zz0,H',⟨Nat.le_refl _⟩,⟨(zz8 HO451)⟩,⟨(zz5 HB)⟩⟩
 case round=>
  clear H';obtain ⟨x3_1,x4_1,rfl,HA,HK1,HO_3,HB⟩:=hrel;cases gk with
  | zero=>exact absurd HA.out (by simp [spec_PathClean.l0])
  | succ k1=>
   obtain ⟨H⟩:=HA;simp only [spec_PathClean.l0] at H
   replace H:=iteEd H;rcases H with ⟨c4b0,H⟩|⟨c4b0,H⟩
   ·have HC5:=A_ H
    clear H;go_upto_region 6 with (fail)
    go_cut [19] (fun v19 wc=>∃ (kq:Nat) (x19_4:Bool),v19=.bool x19_4∧Aside0 (spec_PathClean.j1 kq l0 x3_1 x4_1 x19_4=some r)∧Aside0 (kq≤k1)∧Aside0 (Kd.R Kd.string 9 wc w.heap.size (fun _=>True) u3 x3_1)∧Aside0 (Below w.heap.size w wc))
    case first=>
     obtain ⟨H⟩:=HC5;replace H:=iteNd H;obtain ⟨c6b0,H⟩:=H;(first|rw [c6b0]|(simp only [i64_w,i32_w];rw [c6b0])|skip)
     replace H:=iteEq H;rcases H with ⟨c7b0,c7b1,H⟩|⟨c7b0,c7b1,c7,H⟩
     ·have H':=A_ H
      clear H;obtain ⟨⟨ad452,e452,hx452_0⟩,p452,q452⟩:=atB (Kd.at_string HR0.out x4_1);cases e452
      replace hx452_0:=cbl HB hx452_0;go_wp2
      go_meet
      case rel=>exact ⟨_,(true),zz0,H',⟨(zz7 HK1)⟩,⟨(zz8 HO_3)⟩,⟨(zz5 HB)⟩⟩
     ·have H':=A_ H
      clear H;obtain ⟨⟨ad452,e452,hx452_0⟩,p452,q452⟩:=atB (Kd.at_string HR0.out x4_1);cases e452
      replace hx452_0:=cbl HB hx452_0;obtain ⟨⟨ad453,e453,hx453_0⟩,p453,q453⟩:=atB (Kd.at_string HR0.out x4_1);obtain rfl:ad452=ad453:=(by injection e453);replace hx453_0:=cbl HB hx453_0;go_wp2
      go_meet
      case rel=>exact ⟨_,(((rdOf ByteArray.empty l0 x4_1).toList == ([46]:List UInt8))),zz0,H',⟨(zz7 HK1)⟩,⟨(zz8 HO_3)⟩,⟨(zz5 HB)⟩⟩
    case rest=>
     clear HC5;obtain ⟨kq,x19_4,rfl,HA,HJ4,HO_3,HB⟩:=hcut;cases kq with
     | zero=>exact absurd HA.out (by simp [spec_PathClean.j1])
     | succ kj4=>
      obtain ⟨H⟩:=HA;simp only [spec_PathClean.j1] at H
      replace H:=iteB H;rcases H with ⟨rfl,H⟩|⟨rfl,H⟩
      ·have H':=A_ H
       clear H;go_wp2
       go_roundg kj4
       case measure=>have:=HK1.out;have:=HJ4.out;omega
       case rel=>exact ⟨(x3_1),(wrap64 (x4_1+1)),zz0,H',⟨(zz10 HK1 HJ4)⟩,⟨(zz8 HO_3)⟩,⟨(zz5 HB)⟩⟩
      ·replace H:=iteN H
       obtain ⟨c9,H⟩:=H;have c9b0:=dT c9;clear c9;replace H:=iteNd H;obtain ⟨c10b0,H⟩:=H;replace H:=iteEq H;rcases H with ⟨c11b0,c11b1,H⟩|⟨c11b0,c11b1,c11,H⟩
       ·obtain ⟨ji12,hji12⟩:∃ j_:Int,(mx (wrap64 ((x3_1.length:Int) - 1)) 0)=j_:=⟨_,rfl⟩
        (first|rw [hji12] at H|simp only [hji12] at H)
        have hji12_:(if (wrap64 ((x3_1.length:Int) - 1)) < 0 then 0 else (wrap64 ((x3_1.length:Int) - 1)))=ji12:=hji12;replace H:=iteN H;obtain ⟨c13,H⟩:=H;have c13b0:=eq_true c13;have c13b1:=dT c13;clear c13;replace H:=iteN H;obtain ⟨c14,H⟩:=H;have c14b0:=eq_true c14;have c14b1:=dT c14;clear c14;obtain ⟨y455,Ny455⟩:=toY (x3_1.take ((ji12):Int).toNat);(first|with_reducible replace H:=bindZ Ny455 H|rw [← Ny455.out] at H|skip)
        have H':=A_ H;clear H;obtain ⟨⟨ad454,e454,hx454_0⟩,p454,q454⟩:=atB (Kd.at_string HR0.out x4_1);cases e454
        replace hx454_0:=cbl HB hx454_0;obtain ⟨Ao15,co15,eo15⟩:=Kd.R_slice HO_3.out;subst eo15;have q16:((ji12):Int)≤((x3_1.length:Int):Int):=ofD;obtain ⟨i016,hi016,_,hsz16,_⟩:=info_parts info9;have hcut16:=cut_to (P:=Tryz.prog) 35 9 .i64 Tryz.underlying35 hi016 Ao15 x3_1.length co15 (ji12) ofD q16 (Kd.R_reads' HO_3.out).2.1;have hr16:=Kd.R_take (m:=((ji12):Int).toNat) HO_3.out (by omega);have hy16:y455.length=((ji12):Int).toNat:=(by rw [Ny455.out,List.length_take];omega);rw [← Ny455.out] at hr16;rw [← hy16] at hr16 hcut16;clear hy16 hi016 hsz16 HO_3;have HO457:=A_ hr16;clear hr16;replace q16:=eq_true q16;go_wp2
        go_roundg kj4
        case measure=>have:=HK1.out;have:=HJ4.out;omega
        case rel=>exact ⟨(y455),(wrap64 (x4_1+1)),zz0,H',⟨(zz10 HK1 HJ4)⟩,⟨(zz8 HO457)⟩,⟨(zz5 HB)⟩⟩
       ·replace H:=iteN H
        obtain ⟨c17,H⟩:=H;have LMc17:=A_ c17;clear c17;obtain ⟨y459,Ny459⟩:=toY (x3_1++[rdOf ByteArray.empty l0 x4_1]);(first|with_reducible replace H:=bindZ Ny459 H|rw [← Ny459.out] at H|skip)
        have H':=A_ H;clear H;obtain ⟨⟨ad454,e454,hx454_0⟩,p454,q454⟩:=atB (Kd.at_string HR0.out x4_1);cases e454
        replace hx454_0:=cbl HB hx454_0;obtain ⟨⟨ad458,e458,hx458_0⟩,p458,q458⟩:=atB (Kd.at_string HR0.out x4_1);obtain rfl:ad454=ad458:=(by injection e458);replace hx458_0:=cbl HB hx458_0;go_wp2_with (first|((with_reducible refine gate_builtin (b:=.append) (xs:=#[.tmp 12,.tmp 17]) rfl ?_);at_builtin;refine Kd.R_append Kd.string (w0:=w) w.heap.size rfl (.tmp 12) (.tmp 17) 35 9 (.string ⟨#[]⟩) 16 rfl Tryz.underlying35 info9 rfl (by decide) (by omega) u3 x3_1 (rdOf ByteArray.empty l0 x4_1) [.string (rdOf ByteArray.empty l0 x4_1)] (fun _=>True) (fun _=>False) rfl rfl ?aP (fun _ hk=>hk.elim) ?aF ?aO ?aB ?aS ?aL ?_;(case aP=>exact rfl);(case aB=>exact (zz5 HB));(case aF=>exact (fun _ _=>trivial));(case aO=>exact (zz8 HO_3));(case aS=>exact (below_size (zz5 HB)));(case aL=>exact (zz3 LMc17));intro v460 w18 ho hb hg hat;rw [← Ny459.out] at ho;replace HB:=A_ (hb);have HO461:=A_ (ho);clear HO_3;clear ho hb hg hat))
        go_roundg kj4
        case measure=>have:=HK1.out;have:=HJ4.out;omega
        case rel=>exact ⟨(y459),(wrap64 (x4_1+1)),zz0,H',⟨(zz10 HK1 HJ4)⟩,⟨(zz8 HO461)⟩,⟨(zz5 HB)⟩⟩
   ·obtain rfl:=sI H
    go_wp2
    go_ret
    exact ⟨_,zz12,(zz8 HO_3),(zz5 HB)⟩
mutual
def spec_l3Marks.l0:Nat→ByteArray→List ByteArray→Bool→Int→Int→Option (List ByteArray)
 | 0,_,_,_,_,_=>none
 | k+1,x0,x3,x4,x5,x6=>if x6 < (x0.size:Int) then (spec_l3Marks.j1 k x0 x3 x4 x5 x6 (decide ((x0.size:Int)≤300))) else (spec_l3Marks.j1 k x0 x3 x4 x5 x6 false)
def spec_l3Marks.j1:Nat→ByteArray→List ByteArray→Bool→Int→Int→Bool→Option (List ByteArray)
 | 0,_,_,_,_,_,_=>none
 | k+1,x0,x3,x4,x5,x6,x16=>if x16=true then (if x5 ≥ 0 then (if 0≤x6 then (if x6 < (x0.size:Int) then (spec_l3Marks.j2 k x0 x3 x4 x5 x6 ((bt x0 x6) == 62)) else (none)) else (none)) else (spec_l3Marks.j2 k x0 x3 x4 x5 x6 false)) else (some x3)
def spec_l3Marks.j2:Nat→ByteArray→List ByteArray→Bool→Int→Int→Bool→Option (List ByteArray)
 | 0,_,_,_,_,_,_=>none
 | k+1,x0,x3,x4,x5,x6,x19=>if x19=true then (if 0≤x5 then (if x5≤x6 then (if x6≤(x0.size:Int) then (if x3.length < 8796093022208 then (spec_l3Marks.l0 k x0 (x3++[x0.extract (x5:Int).toNat (x6:Int).toNat]) x4 (-1) (wrap64 (x6+1))) else (none)) else (none)) else (none)) else (none)) else (if x5 ≥ 0 then (spec_l3Marks.l0 k x0 x3 x4 x5 (wrap64 (x6+1))) else (if x4=true then (if 0≤x6 then (if x6 < (x0.size:Int) then (spec_l3Marks.l0 k x0 x3 ((bt x0 x6) != 41) x5 (wrap64 (x6+1))) else (none)) else (none)) else (if 0≤x6 then (if x6 < (x0.size:Int) then (if (bt x0 x6)=40 then (spec_l3Marks.l0 k x0 x3 true x5 (wrap64 (x6+1))) else (if (bt x0 x6)=60 then (spec_l3Marks.l0 k x0 x3 x4 (wrap64 (x6+1)) (wrap64 (x6+1))) else (spec_l3Marks.l0 k x0 x3 x4 x5 (wrap64 (x6+1))))) else (none)) else (none))))
end
def spec_l3Marks.f (k:Nat) (a0:ByteArray):Option (List ByteArray):=spec_l3Marks.l0 k a0 (([]:List ByteArray)) false (-1) 0
theorem spec_l3Marks.mono_l:∀ k,(∀ y0 y1 y2 y3 y4,LeO (spec_l3Marks.l0 k y0 y1 y2 y3 y4) (spec_l3Marks.l0 (k+1) y0 y1 y2 y3 y4))∧(∀ y0 y1 y2 y3 y4 y5,LeO (spec_l3Marks.j1 k y0 y1 y2 y3 y4 y5) (spec_l3Marks.j1 (k+1) y0 y1 y2 y3 y4 y5))∧(∀ y0 y1 y2 y3 y4 y5,LeO (spec_l3Marks.j2 k y0 y1 y2 y3 y4 y5) (spec_l3Marks.j2 (k+1) y0 y1 y2 y3 y4 y5))
 | 0=>by refine ⟨?_,?_,?_⟩ <;> (intros;intro r h;simp [spec_l3Marks.l0,spec_l3Marks.j1,spec_l3Marks.j2] at h)
 | k+1=>by
  obtain ⟨ih0,ih1,ih2⟩:=spec_l3Marks.mono_l k;refine ⟨?_,?_,?_⟩ <;> intros <;> (first|unfold spec_l3Marks.l0|unfold spec_l3Marks.j1|unfold spec_l3Marks.j2) <;>
  repeat' first|(with_reducible first|exact ih0 _ _ _ _ _|exact ih1 _ _ _ _ _ _|exact ih2 _ _ _ _ _ _|exact LeO.refl _|exact LeO.none _|refine LeO.ite ?_ ?_|refine LeO.bind ?_ (fun _=>?_))|exact LeO.none _|refine LeO.ite ?_ ?_|refine LeO.bind ?_ (fun _=>?_)
theorem spec_l3Marks.mono:∀ a0 k,LeO (spec_l3Marks.f k a0) (spec_l3Marks.f (k+1) a0):=by
 intro a0 k;obtain ⟨ih0,ih1,ih2⟩:=spec_l3Marks.mono_l k;unfold spec_l3Marks.f
 repeat' first|(with_reducible first|exact ih0 _ _ _ _ _|exact ih1 _ _ _ _ _ _|exact ih2 _ _ _ _ _ _|exact LeO.refl _|exact LeO.none _|refine LeO.ite ?_ ?_|refine LeO.bind ?_ (fun _=>?_))|exact LeO.none _|refine LeO.ite ?_ ?_|refine LeO.bind ?_ (fun _=>?_)
theorem spec_l3Marks.calls (k:Nat) (a0:ByteArray) (r:List ByteArray) (w:World) (h:spec_l3Marks.f k a0=some r) :
  Calls Tryz.prog 101 #[.string a0] w fun e w'=>∃ v0_:Value,e=.returned (v0_)∧Kd.R Kd.string 9 w' w.heap.size (fun _=>True) v0_ r∧Below w.heap.size w w':=by
 have HB:=A_ (Below.refl w.heap.size w);unfold spec_l3Marks.f at h
 have H:=h;clear h;obtain ⟨y840,Ny840⟩:=toY (([]:List ByteArray));(first|with_reducible replace H:=bindZ Ny840 H|rw [← Ny840.out] at H|skip)
 have H':=A_ H;clear H;go_enter Tryz.func101,Tryz.ntmps101;go_wp2_with (first|((with_reducible refine gD (N:=7) rfl ?_);(try (refine gate_guard (by rfl) ?_;dsimp only));refine Kd.R_lit Kd.string _ 9 ?hg (N:=7) ?hd (xs:=([]:List ByteArray)) (inner:=[]) (ok:=fun _=>True) (okp:=fun _=>True) ?hr ?hp (fun _ hk=>hk) trivial (Below.refl _ _) (Nat.le_refl _) (by simp) ?_;(case hd=>rfl);(case hg=>rfl);(case hr=>exact zz26);(case hp=>exact (Reps.none _ _));intro v841 w2 ho3 hb hg_ hnew_;clear hg_ hnew_;(first|rw [← Ny840.out] at ho3|(simp only [Int.reduceToNat] at ho3;rw [← Ny840.out] at ho3));have HO842:=A_ (Kd.R_lower ho3 (below_size (zz5 HB)));replace HB:=A_ (bS (zz5 HB) hb);clear hb ho3))
 go_loopg [3,4,5,6] k (fun kq v3 v4 v5 v6 w'=>∃ (x3_1:List ByteArray) (x4_1:Bool) (x5_1:Int) (x6_1:Int),v4=.bool x4_1∧v5=.int .i64 x5_1∧v6=.int .i64 x6_1∧Aside0 (spec_l3Marks.l0 kq a0 x3_1 x4_1 x5_1 x6_1=some r)∧Aside0 (kq≤k)∧Aside0 (Kd.R Kd.string 9 w' w.heap.size (fun _=>True) v3 x3_1)∧Aside0 (Below w.heap.size w w'))
 case atStart=>exact ⟨(y840),(false),((-1)),(0),zz0,zz0,zz0,H',⟨Nat.le_refl _⟩,⟨(zz8 HO842)⟩,⟨(zz5 HB)⟩⟩
 case round=>
  clear H';obtain ⟨x3_1,x4_1,x5_1,x6_1,rfl,rfl,rfl,HA,HK1,HO_3,HB⟩:=hrel;cases gk with
  | zero=>exact absurd HA.out (by simp [spec_l3Marks.l0])
  | succ k1=>
   obtain ⟨H⟩:=HA;simp only [spec_l3Marks.l0] at H
   have HC4:=A_ H;clear H;go_upto_region 5 with (fail)
   go_cut [16] (fun v16 wc=>∃ (kq:Nat) (x16_3:Bool),v16=.bool x16_3∧Aside0 (spec_l3Marks.j1 kq a0 x3_1 x4_1 x5_1 x6_1 x16_3=some r)∧Aside0 (kq≤k1)∧Aside0 (Kd.R Kd.string 9 wc w.heap.size (fun _=>True) u3 x3_1)∧Aside0 (Below w.heap.size w wc))
   case first=>
    obtain ⟨H⟩:=HC4;replace H:=iteEd H;rcases H with ⟨c5b0,H⟩|⟨c5b0,H⟩
    ·(first|rw [c5b0]|(simp only [i64_w,i32_w];rw [c5b0])|skip)
     have H':=A_ H;clear H;go_wp2
     go_meet
     case rel=>exact ⟨_,(decide ((a0.size:Int)≤300)),zz0,H',⟨(zz7 HK1)⟩,⟨(zz8 HO_3)⟩,⟨(zz5 HB)⟩⟩
    ·(first|rw [c5b0]|(simp only [i64_w,i32_w];rw [c5b0])|skip)
     have H':=A_ H;clear H;go_wp2
     go_meet
     case rel=>exact ⟨_,(false),zz0,H',⟨(zz7 HK1)⟩,⟨(zz8 HO_3)⟩,⟨(zz5 HB)⟩⟩
   case rest=>
    clear HC4;obtain ⟨kq,x16_3,rfl,HA,HJ3,HO_3,HB⟩:=hcut;cases kq with
    | zero=>exact absurd HA.out (by simp [spec_l3Marks.j1])
    | succ kj3=>
     obtain ⟨H⟩:=HA;simp only [spec_l3Marks.j1] at H
     replace H:=iteB H;rcases H with ⟨rfl,H⟩|⟨rfl,H⟩
     ·have HC7:=A_ H
      clear H;go_upto_region 7 with (fail)
      go_cut [19] (fun v19 wc=>∃ (kq:Nat) (x19_6:Bool),v19=.bool x19_6∧Aside0 (spec_l3Marks.j2 kq a0 x3_1 x4_1 x5_1 x6_1 x19_6=some r)∧Aside0 (kq≤kj3)∧Aside0 (Kd.R Kd.string 9 wc w.heap.size (fun _=>True) u3 x3_1)∧Aside0 (Below w.heap.size w wc))
      case first=>
       obtain ⟨H⟩:=HC7;replace H:=iteEe H;rcases H with ⟨c8b0,H⟩|⟨c8b0,H⟩
       ·(first|rw [c8b0]|(simp only [i64_w,i32_w];rw [c8b0])|skip)
        replace H:=iteNd H;obtain ⟨c9b0,H⟩:=H;replace H:=iteNd H;obtain ⟨c10b0,H⟩:=H;have H':=A_ H;clear H;have p11:0≤(x6_1:Int):=ofD;have q11:x6_1 < (a0.size:Int):=ofD;have hx11:=bt_at a0 x6_1;replace p11:=eq_true p11;replace q11:=eq_true q11;go_wp2
        go_meet
        case rel=>exact ⟨_,(((bt a0 x6_1) == 62)),zz0,H',⟨(by have:=HK1.out;have:=HJ3.out;first|omega|exact Nat.le_refl _)⟩,⟨(zz8 HO_3)⟩,⟨(zz5 HB)⟩⟩
       ·(first|rw [c8b0]|(simp only [i64_w,i32_w];rw [c8b0])|skip)
        have H':=A_ H;clear H;go_wp2
        go_meet
        case rel=>exact ⟨_,(false),zz0,H',⟨(by have:=HK1.out;have:=HJ3.out;first|omega|exact Nat.le_refl _)⟩,⟨(zz8 HO_3)⟩,⟨(zz5 HB)⟩⟩
      case rest=>
       clear HC7;obtain ⟨kq,x19_6,rfl,HA,HJ6,HO_3,HB⟩:=hcut;cases kq with
       | zero=>exact absurd HA.out (by simp [spec_l3Marks.j2])
       | succ kj6=>
        obtain ⟨H⟩:=HA;simp only [spec_l3Marks.j2] at H
        replace H:=iteB H;rcases H with ⟨rfl,H⟩|⟨rfl,H⟩
        ·replace H:=iteN H
         obtain ⟨c13,H⟩:=H;have c13b0:=eq_true c13;have c13b1:=dT c13;clear c13;replace H:=iteN H;obtain ⟨c14,H⟩:=H;have c14b0:=eq_true c14;have c14b1:=dT c14;clear c14;replace H:=iteN H;obtain ⟨c15,H⟩:=H;have c15b0:=eq_true c15;have c15b1:=dT c15;clear c15;replace H:=iteN H;obtain ⟨c16,H⟩:=H;have LMc16:=A_ c16;clear c16;obtain ⟨y843,Ny843⟩:=toY (x3_1++[a0.extract (x5_1:Int).toNat (x6_1:Int).toNat]);(first|with_reducible replace H:=bindZ Ny843 H|rw [← Ny843.out] at H|skip)
         have H':=A_ H;clear H;go_wp2_with (first|((with_reducible refine gate_builtin (b:=.append) (xs:=#[.tmp 28,.tmp 33]) rfl ?_);(try (refine gate_guard (by rfl) ?_;dsimp only));at_builtin;refine Kd.R_append Kd.string (w0:=w) w.heap.size rfl (.tmp 28) (.tmp 33) 35 9 (.string ⟨#[]⟩) 16 rfl Tryz.underlying35 info9 rfl (by decide) (by omega) u3 x3_1 (a0.extract (x5_1:Int).toNat (x6_1:Int).toNat) [.string (a0.extract (x5_1:Int).toNat (x6_1:Int).toNat)] (fun _=>True) (fun _=>False) rfl rfl ?aP (fun _ hk=>hk.elim) ?aF ?aO ?aB ?aS ?aL ?_;(case aP=>exact rfl);(case aB=>exact (zz5 HB));(case aF=>exact (fun _ _=>trivial));(case aO=>exact (zz8 HO_3));(case aS=>exact (below_size (zz5 HB)));(case aL=>exact (zz3 LMc16));intro v844 w17 ho hb hg hat;rw [← Ny843.out] at ho;replace HB:=A_ (hb);have HO845:=A_ (ho);clear HO_3;clear ho hb hg hat))
         go_roundg kj6
         case measure=>have:=HK1.out;have:=HJ3.out;have:=HJ6.out;omega
         case rel=>exact ⟨(y843),(x4_1),((-1)),(wrap64 (x6_1+1)),zz0,zz0,zz0,H',⟨(zz64 HK1 HJ3 HJ6)⟩,⟨(zz8 HO845)⟩,⟨(zz5 HB)⟩⟩
        ·replace H:=iteE H
         rcases H with ⟨c18,H⟩|⟨c18,H⟩
         ·have c18b0:=geT c18
          clear c18;have H':=A_ H;clear H;go_wp2
          go_roundg kj6
          case measure=>have:=HK1.out;have:=HJ3.out;have:=HJ6.out;omega
          case rel=>exact ⟨(x3_1),(x4_1),(x5_1),(wrap64 (x6_1+1)),zz0,zz0,zz0,H',⟨(zz64 HK1 HJ3 HJ6)⟩,⟨(zz8 HO_3)⟩,⟨(zz5 HB)⟩⟩
         ·have c18b0:=geF c18
          clear c18;replace H:=iteB H;rcases H with ⟨rfl,H⟩|⟨rfl,H⟩
          ·replace H:=iteN H
           obtain ⟨c20,H⟩:=H;have c20b0:=dT c20;clear c20;replace H:=iteNd H;obtain ⟨c21b0,H⟩:=H;have H':=A_ H;clear H;have p22:0≤(x6_1:Int):=ofD;have q22:x6_1 < (a0.size:Int):=ofD;have hx22:=bt_at a0 x6_1;replace p22:=eq_true p22;replace q22:=eq_true q22;go_wp2
           go_roundg kj6
           case measure=>have:=HK1.out;have:=HJ3.out;have:=HJ6.out;omega
           case rel=>exact ⟨(x3_1),(((bt a0 x6_1) != 41)),(x5_1),(wrap64 (x6_1+1)),zz0,zz0,zz0,H',⟨(zz64 HK1 HJ3 HJ6)⟩,⟨(zz8 HO_3)⟩,⟨(zz5 HB)⟩⟩
          ·replace H:=iteN H
           obtain ⟨c23,H⟩:=H;have c23b0:=dT c23;clear c23;replace H:=iteNd H;obtain ⟨c24b0,H⟩:=H;replace H:=iteEq H;rcases H with ⟨c26b0,c26b1,H⟩|⟨c26b0,c26b1,c26,H⟩
           ·have H':=A_ H
            clear H;have p25:0≤(x6_1:Int):=ofD;have q25:x6_1 < (a0.size:Int):=ofD;have hx25:=bt_at a0 x6_1;replace p25:=eq_true p25;replace q25:=eq_true q25;go_wp2
            go_roundg kj6
            case measure=>have:=HK1.out;have:=HJ3.out;have:=HJ6.out;omega
            case rel=>exact ⟨(x3_1),(true),(x5_1),(wrap64 (x6_1+1)),zz0,zz0,zz0,H',⟨(zz64 HK1 HJ3 HJ6)⟩,⟨(zz8 HO_3)⟩,⟨(zz5 HB)⟩⟩
           ·replace H:=iteEq H
            rcases H with ⟨c28b0,c28b1,H⟩|⟨c28b0,c28b1,c28,H⟩
            ·have H':=A_ H
             clear H;have p25:0≤(x6_1:Int):=ofD;have q25:x6_1 < (a0.size:Int):=ofD;have hx25:=bt_at a0 x6_1;replace p25:=eq_true p25;replace q25:=eq_true q25;have p27:0≤(x6_1:Int):=ofD;have q27:x6_1 < (a0.size:Int):=ofD;have hx27:=bt_at a0 x6_1;replace p27:=eq_true p27;replace q27:=eq_true q27;go_wp2
             go_roundg kj6
             case measure=>have:=HK1.out;have:=HJ3.out;have:=HJ6.out;omega
             case rel=>exact ⟨(x3_1),(false),(wrap64 (x6_1+1)),(wrap64 (x6_1+1)),zz0,zz0,zz0,H',⟨(zz64 HK1 HJ3 HJ6)⟩,⟨(zz8 HO_3)⟩,⟨(zz5 HB)⟩⟩
            ·have H':=A_ H
             clear H;have p25:0≤(x6_1:Int):=ofD;have q25:x6_1 < (a0.size:Int):=ofD;have hx25:=bt_at a0 x6_1;replace p25:=eq_true p25;replace q25:=eq_true q25;have p27:0≤(x6_1:Int):=ofD;have q27:x6_1 < (a0.size:Int):=ofD;have hx27:=bt_at a0 x6_1;replace p27:=eq_true p27;replace q27:=eq_true q27;go_wp2
             go_roundg kj6
             case measure=>have:=HK1.out;have:=HJ3.out;have:=HJ6.out;omega
             case rel=>exact ⟨(x3_1),(false),(x5_1),(wrap64 (x6_1+1)),zz0,zz0,zz0,H',⟨(zz64 HK1 HJ3 HJ6)⟩,⟨(zz8 HO_3)⟩,⟨(zz5 HB)⟩⟩
     ·obtain rfl:=sI H
      go_wp2
      go_ret
      exact ⟨_,zz12,(zz8 HO_3),(zz5 HB)⟩
def spec_l3Put.l0:Nat→List ByteArray→ByteArray→Int→Option (List ByteArray)
 | 0,_,_,_=>none
 | k+1,x0,x1,x5=>if x5 < (x0.length:Int) then (if 0≤x5 then (if (rdOf ByteArray.empty x0 x5).toList=x1.toList then (some x0) else (spec_l3Put.l0 k x0 x1 (wrap64 (x5+1)))) else (none)) else (if x0.length < 8796093022208 then (some (x0++[x1])) else (none))
def spec_l3Put.f (k:Nat) (l0:List ByteArray) (a1:ByteArray):Option (List ByteArray):=spec_l3Put.l0 k l0 a1 0
theorem spec_l3Put.calls (k:Nat) (P0_:Nat→Prop) (u9000_:Value) (l0:List ByteArray) (a1:ByteArray) (r:List ByteArray) (w0 w:World) (hB:Below w0.heap.size w0 w) (ho0:Kd.R Kd.string 9 w w0.heap.size P0_ u9000_ l0) (h:spec_l3Put.f k l0 a1=some r) :
  Calls Tryz.prog 77 #[u9000_,.string a1] w fun e w'=>∃ v0_:Value,e=.returned (v0_)∧Kd.R Kd.string 9 w' w0.heap.size (fun k_=>(P0_ k_∨w.heap.size≤k_)) v0_ r∧Below w0.heap.size w0 w'∧Kept w w' (fun k_=>P0_ k_):=by
 have HO0:=A_ (show Kd.R Kd.string 9 w w0.heap.size (fun k_=>(P0_ k_∨w.heap.size≤k_)) u9000_ l0 from Kd.R_mono ho0 (fun k_ hk=>(.inl hk)));have HK:=A_ (Kept.refl w (fun k_=>P0_ k_));have HW0:=A_ hB.size;have HB:=A_ hB;clear hB;unfold spec_l3Put.f at h
 have H:=h;clear h;have H':=A_ H;clear H;go_enter Tryz.func77,Tryz.ntmps77;go_wp2
 go_loopg [5] k (fun kq v5 w'=>∃ (x5_1:Int),v5=.int .i64 x5_1∧Aside0 (spec_l3Put.l0 kq l0 a1 x5_1=some r)∧Aside0 (kq≤k)∧Aside0 (Kd.R Kd.string 9 w' w0.heap.size (fun k_=>(P0_ k_∨w.heap.size≤k_)) u9000_ l0)∧Aside0 (Kept w w' (fun k_=>P0_ k_))∧Aside0 (Below w0.heap.size w0 w'))
 case atStart=>exact ⟨(0),zz0,H',⟨Nat.le_refl _⟩,⟨(zz8 HO0)⟩,⟨(zz65 HK)⟩,⟨(zz5 HB)⟩⟩
 case round=>
  clear H';obtain ⟨x5_1,rfl,HA,HK1,HO_0,HK,HB⟩:=hrel;cases gk with
  | zero=>exact absurd HA.out (by simp [spec_l3Put.l0])
  | succ k1=>
   obtain ⟨H⟩:=HA;simp only [spec_l3Put.l0] at H
   replace H:=iteEd H;rcases H with ⟨c3b0,H⟩|⟨c3b0,H⟩
   ·replace H:=iteNd H
    obtain ⟨c4b0,H⟩:=H;replace H:=iteEq H;rcases H with ⟨c5b0,c5b1,H⟩|⟨c5b0,c5b1,c5,H⟩
    ·obtain rfl:=sI H
     obtain ⟨Ao6,co6,eo6⟩:=Kd.R_slice HO_0.out;subst eo6;obtain ⟨⟨ad921,e921,hx921_0⟩,p921,q921⟩:=atB (Kd.at_string (Kd.R_reads' HO_0.out).2.2 x5_1);cases e921
     go_wp2
     go_ret
     exact ⟨_,zz12,(zz8 HO_0),(zz5 HB),(zz65 HK)⟩
    ·have H':=A_ H
     clear H;obtain ⟨Ao7,co7,eo7⟩:=Kd.R_slice HO_0.out;subst eo7;obtain ⟨⟨ad921,e921,hx921_0⟩,p921,q921⟩:=atB (Kd.at_string (Kd.R_reads' HO_0.out).2.2 x5_1);cases e921
     go_wp2
     go_roundg k1
     case measure=>have:=HK1.out;omega
     case rel=>exact ⟨(wrap64 (x5_1+1)),zz0,H',⟨(zz3 HK1)⟩,⟨(zz8 HO_0)⟩,⟨(zz65 HK)⟩,⟨(zz5 HB)⟩⟩
   ·replace H:=iteE H
    rcases H with ⟨c8,H⟩|⟨c8,H⟩
    ·have LMc8:=A_ c8
     clear c8;obtain ⟨y922,Ny922⟩:=toY (l0++[a1]);(first|with_reducible replace H:=bindZ Ny922 H|rw [← Ny922.out] at H|skip)
     obtain rfl:=sI H;obtain ⟨Ao9,co9,eo9⟩:=Kd.R_slice HO_0.out;subst eo9;go_wp2_with (first|((with_reducible refine gate_builtin (b:=.append) (xs:=#[.tmp 19,.tmp 21]) rfl ?_);at_builtin;refine Kd.R_append Kd.string (w0:=w0) w0.heap.size rfl (.tmp 19) (.tmp 21) 35 9 (.string ⟨#[]⟩) 16 rfl Tryz.underlying35 info9 rfl (by decide) (by omega) (.slice Ao9 l0.length co9) l0 a1 [.string a1] (fun k_=>(P0_ k_∨w.heap.size≤k_)) (fun _=>False) rfl rfl ?aP (fun _ hk=>hk.elim) ?aF ?aO ?aB ?aS ?aL ?_;(case aP=>exact rfl);(case aB=>exact (zz5 HB));(case aF=>exact (fun k_ hk=>(.inr (Nat.le_trans (by first|exact HK.out.1|exact (show Kept w _ (fun k_=>P0_ k_) from (zz65 HK)).1) hk))));(case aO=>exact (zz8 HO_0));(case aS=>exact (below_size (zz5 HB)));(case aL=>exact (zz3 LMc8));intro v923 w10 ho hb hg hat;rw [← Ny922.out] at ho;replace HB:=A_ (hb);replace HK:=A_ (Kept.of_grown (S:=(fun k_=>P0_ k_)) hg (zz65 HK) (fun k_ e_=>(HO_0.out.1 k_ e_)));have HO924:=A_ (ho);clear HO_0;clear ho hb hg hat))
     go_ret
     exact ⟨_,zz12,(zz8 HO924),(zz5 HB),(zz65 HK)⟩
    ·exact absurd H (by simp)
def laws_lpHas.l0:Nat→List ByteArray→ByteArray→Int→Option (Bool)
 | 0,_,_,_=>none
 | k+1,x0,x1,x5=>if x5 < (x0.length:Int) then (if 0≤x5 then (if (rdOf ByteArray.empty x0 x5).toList=x1.toList then (some true) else (laws_lpHas.l0 k x0 x1 (wrap64 (x5+1)))) else (none)) else (some false)
def laws_lpHas.f (k:Nat) (l0:List ByteArray) (a1:ByteArray):Option (Bool):=laws_lpHas.l0 k l0 a1 0
theorem laws_lpHas.calls (k:Nat) (A0:Option Addr) (c0:Nat) (l0:List ByteArray) (a1:ByteArray) (r:Bool) (w:World) (hr0:Kd.C Kd.string w A0 l0.length l0) (hc0:l0.length≤c0) (h:laws_lpHas.f k l0 a1=some r) :
  Calls Tryz.prog 39 #[.slice A0 l0.length c0,.string a1] w fun e w'=>e=.returned (.bool r)∧Drawn0 w w':=by
 have HR0:=A_ hr0;have HC0:=A_ hc0;clear hr0 hc0;unfold laws_lpHas.f at h
 have H:=h;clear h;have H':=A_ H;clear H;go_enter Tryz.func39,Tryz.ntmps39;go_wp2
 go_loopg [5] k (fun kq v5 w'=>∃ (x5_1:Int),v5=.int .i64 x5_1∧Aside0 (laws_lpHas.l0 kq l0 a1 x5_1=some r)∧Aside0 (kq≤k)∧Drawn0 w w')
 case atStart=>exact ⟨(0),zz0,H',⟨Nat.le_refl _⟩,zz1⟩
 case round=>
  clear H';obtain ⟨x5_1,rfl,HA,HK1,⟨m1,rfl⟩⟩:=hrel;cases gk with
  | zero=>exact absurd HA.out (by simp [laws_lpHas.l0])
  | succ k1=>
   obtain ⟨H⟩:=HA;simp only [laws_lpHas.l0] at H
   replace H:=iteEd H;rcases H with ⟨c3b0,H⟩|⟨c3b0,H⟩
   ·replace H:=iteNd H
    obtain ⟨c4b0,H⟩:=H;replace H:=iteEq H;rcases H with ⟨c5b0,c5b1,H⟩|⟨c5b0,c5b1,c5,H⟩
    ·obtain rfl:=sI H
     obtain ⟨⟨ad1017,e1017,hx1017_0⟩,p1017,q1017⟩:=atB (Kd.at_string HR0.out x5_1);cases e1017
     go_wp2
     go_ret
     exact ⟨zz0,zz1⟩
    ·have H':=A_ H
     clear H;obtain ⟨⟨ad1017,e1017,hx1017_0⟩,p1017,q1017⟩:=atB (Kd.at_string HR0.out x5_1);cases e1017
     go_wp2
     go_roundg k1
     case measure=>have:=HK1.out;omega
     case rel=>exact ⟨(wrap64 (x5_1+1)),zz0,H',⟨(zz3 HK1)⟩,zz1⟩
   ·obtain rfl:=sI H
    go_wp2
    go_ret
    exact ⟨zz0,zz1⟩
def laws_lpOnce.l0:Nat→List ByteArray→Int→Option (Bool)
 | 0,_,_=>none
 | k+1,x0,x3=>if x3 < (x0.length:Int) then (if 0≤x3 then (if x3≤(x0.length:Int) then ((laws_lpHas.f k (x0.take (x3:Int).toNat) (rdOf ByteArray.empty x0 x3)).bind fun t1020=>(if t1020=true then (some false) else (laws_lpOnce.l0 k x0 (wrap64 (x3+1))))) else (none)) else (none)) else (some true)
def laws_lpOnce.f (k:Nat) (l0:List ByteArray):Option (Bool):=laws_lpOnce.l0 k l0 0
theorem laws_lpOnce.calls (k:Nat) (A0:Option Addr) (c0:Nat) (l0:List ByteArray) (r:Bool) (w:World) (hr0:Kd.C Kd.string w A0 l0.length l0) (hc0:l0.length≤c0) (h:laws_lpOnce.f k l0=some r) :
  Calls Tryz.prog 18 #[.slice A0 l0.length c0] w fun e w'=>e=.returned (.bool r)∧Drawn0 w w':=by
 have HR0:=A_ hr0;have HC0:=A_ hc0;clear hr0 hc0;unfold laws_lpOnce.f at h
 have H:=h;clear h;have H':=A_ H;clear H;go_enter Tryz.func18,Tryz.ntmps18;go_wp2
 repeat (go_quiet (fail);try go_wp2)
 go_loopg [3] k (fun kq v3 w'=>∃ (x3_1:Int),v3=.int .i64 x3_1∧Aside0 (laws_lpOnce.l0 kq l0 x3_1=some r)∧Aside0 (kq≤k)∧Drawn0 w w')
 case atStart=>exact ⟨(0),zz0,H',⟨Nat.le_refl _⟩,zz1⟩
 case round=>
  clear H';obtain ⟨x3_1,rfl,HA,HK1,⟨m1,rfl⟩⟩:=hrel;cases gk with
  | zero=>exact absurd HA.out (by simp [laws_lpOnce.l0])
  | succ k1=>
   obtain ⟨H⟩:=HA;simp only [laws_lpOnce.l0] at H
   replace H:=iteEd H;rcases H with ⟨c2b0,H⟩|⟨c2b0,H⟩
   ·replace H:=iteN H
    obtain ⟨c3,H⟩:=H;have c3b0:=eq_true c3;have c3b1:=dT c3;clear c3;replace H:=iteN H;obtain ⟨c4,H⟩:=H;have c4b0:=eq_true c4;have c4b1:=dT c4;clear c4;replace H:=bindA H;obtain ⟨t1020,A5,H⟩:=H;have HF6:=A_ H;clear H;obtain ⟨i07,hi07,_,hsz7,_⟩:=info_parts info9;obtain ⟨hcut7,hA7,hC7⟩:=print_take_of (P:=Tryz.prog) Value.string (⟨#[]⟩:ByteArray) 35 9 .i64 Tryz.underlying35 hi07 hsz7 A0 c0 l0 x3_1 ofD ofD HC0.out;have HR1018:=A_ (Kd.C_of_reads (h1:=fun _=>rfl) (hA7 _ (Kd.reads_of_C HR0.out)));have HC1018:=A_ hC7;generalize hy1018_:(l0.take (x3_1:Int).toNat)=y1018_ at *;clear hy1018_;clear hA7 hC7 hi07 hsz7;obtain ⟨⟨ad1019,e1019,hx1019_0⟩,p1019,q1019⟩:=atB (Kd.at_string HR0.out x3_1);cases e1019
    go_upto_if 17 with (first|(go_at_call 39;(with_reducible refine (laws_lpHas.calls k1 _ _ y1018_ (rdOf ByteArray.empty l0 x3_1) t1020 _ ?side1 ?side2 A5.out).mono ?_);(case side1=>exact (zz70 HR1018));(case side2=>exact HC1018.out);rintro e w' ⟨rfl,⟨nd,rfl⟩⟩;(try first|exact ⟨rfl,_,World.drewN_drewN _ _ _⟩|exact ⟨rfl,_,Eq.trans (World.drewN_drewN _ _ _) (congrArg (World.drewN _) (Nat.add_assoc _ _ _))⟩)))
    repeat (go_quiet (first|(go_at_call 39;(with_reducible refine (laws_lpHas.calls k1 _ _ y1018_ (rdOf ByteArray.empty l0 x3_1) t1020 _ ?side1 ?side2 A5.out).mono ?_);(case side1=>exact (zz70 HR1018));(case side2=>exact HC1018.out);rintro e w' ⟨rfl,⟨nd,rfl⟩⟩;(try first|exact ⟨rfl,_,World.drewN_drewN _ _ _⟩|exact ⟨rfl,_,Eq.trans (World.drewN_drewN _ _ _) (congrArg (World.drewN _) (Nat.add_assoc _ _ _))⟩)));go_upto_if 17 with (first|(go_at_call 39;(with_reducible refine (laws_lpHas.calls k1 _ _ y1018_ (rdOf ByteArray.empty l0 x3_1) t1020 _ ?side1 ?side2 A5.out).mono ?_);(case side1=>exact (zz70 HR1018));(case side2=>exact HC1018.out);rintro e w' ⟨rfl,⟨nd,rfl⟩⟩;(try first|exact ⟨rfl,_,World.drewN_drewN _ _ _⟩|exact ⟨rfl,_,Eq.trans (World.drewN_drewN _ _ _) (congrArg (World.drewN _) (Nat.add_assoc _ _ _))⟩))))
    obtain ⟨H⟩:=HF6;replace H:=iteB H;rcases H with ⟨rfl,H⟩|⟨rfl,H⟩
    ·obtain rfl:=sI H
     go_wp2
     repeat (go_quiet (fail);try go_wp2)
     go_ret
     exact ⟨zz0,zz1⟩
    ·have H':=A_ H
     clear H;go_wp2
     repeat (go_quiet (fail);try go_wp2)
     go_roundg k1
     case measure=>have:=HK1.out;omega
     case rel=>exact ⟨(wrap64 (x3_1+1)),zz0,H',⟨(zz3 HK1)⟩,zz1⟩
   ·obtain rfl:=sI H
    go_wp2
    repeat (go_quiet (fail);try go_wp2)
    go_ret
    exact ⟨zz0,zz1⟩
def slices_Index_string_string.l0:Nat→List ByteArray→ByteArray→Int→Int→Option (Int)
 | 0,_,_,_,_=>none
 | k+1,x0,x1,x7,x8=>if x8 < x7 then (if 0≤x8 then (if x8 < (x0.length:Int) then (if x1.toList=(rdOf ByteArray.empty x0 x8).toList then (some x8) else (slices_Index_string_string.l0 k x0 x1 x7 (wrap64 (x8+1)))) else (none)) else (none)) else (some (-1))
def slices_Index_string_string.f (k:Nat) (l0:List ByteArray) (a1:ByteArray):Option (Int):=slices_Index_string_string.l0 k l0 a1 (l0.length:Int) 0
theorem slices_Index_string_string.calls (k:Nat) (A0:Option Addr) (c0:Nat) (l0:List ByteArray) (a1:ByteArray) (r:Int) (w:World) (hr0:Kd.C Kd.string w A0 l0.length l0) (hc0:l0.length≤c0) (h:slices_Index_string_string.f k l0 a1=some r) :
  Calls Tryz.prog 63 #[.slice A0 l0.length c0,.string a1] w fun e w'=>e=.returned (.int .i64 r)∧Drawn0 w w':=by
 have HR0:=A_ hr0;have HC0:=A_ hc0;clear hr0 hc0;unfold slices_Index_string_string.f at h
 have H:=h;clear h;have H':=A_ H;clear H;go_enter Tryz.func63,Tryz.ntmps63;go_wp2
 go_loopg [8] k (fun kq v8 w'=>∃ (x8_1:Int),v8=.int .i64 x8_1∧Aside0 (slices_Index_string_string.l0 kq l0 a1 (l0.length:Int) x8_1=some r)∧Aside0 (kq≤k)∧Drawn0 w w')
 case atStart=>exact ⟨(0),zz0,H',⟨Nat.le_refl _⟩,zz1⟩
 case round=>
  clear H';obtain ⟨x8_1,rfl,HA,HK1,⟨m1,rfl⟩⟩:=hrel;cases gk with
  | zero=>exact absurd HA.out (by simp [slices_Index_string_string.l0])
  | succ k1=>
   obtain ⟨H⟩:=HA;simp only [slices_Index_string_string.l0] at H
   replace H:=iteEd H;rcases H with ⟨c3b0,H⟩|⟨c3b0,H⟩
   ·replace H:=iteNd H
    obtain ⟨c4b0,H⟩:=H;replace H:=iteNd H;obtain ⟨c5b0,H⟩:=H;replace H:=iteEq H;rcases H with ⟨c6b0,c6b1,H⟩|⟨c6b0,c6b1,c6,H⟩
    ·obtain rfl:=sI H
     obtain ⟨⟨ad797,e797,hx797_0⟩,p797,q797⟩:=atB (Kd.at_string HR0.out x8_1);cases e797
     go_wp2
     go_ret
     exact ⟨zz0,zz1⟩
    ·have H':=A_ H
     clear H;obtain ⟨⟨ad797,e797,hx797_0⟩,p797,q797⟩:=atB (Kd.at_string HR0.out x8_1);cases e797
     go_wp2
     go_roundg k1
     case measure=>have:=HK1.out;omega
     case rel=>exact ⟨(wrap64 (x8_1+1)),zz0,H',⟨(zz3 HK1)⟩,zz1⟩
   ·obtain rfl:=sI H
    go_wp2
    go_ret
    exact ⟨zz0,zz1⟩
def stringslite_HasPrefix.f (a0:ByteArray) (a1:ByteArray):Option (Bool):=if (a0.size:Int) ≥ (a1.size:Int) then (if 0≤(a1.size:Int) then (if (a1.size:Int)≤(a0.size:Int) then (some ((a0.extract 0 ((a1.size:Int):Int).toNat).toList == a1.toList)) else (none)) else (none)) else (some false)
theorem stringslite_HasPrefix.calls (a0:ByteArray) (a1:ByteArray) (r:Bool) (w:World) (h:stringslite_HasPrefix.f a0 a1=some r) :
  Calls Tryz.prog 91 #[.string a0,.string a1] w fun e w'=>e=.returned (.bool r)∧Drawn0 w w':=by
 unfold stringslite_HasPrefix.f at h
 have H:=h;clear h;replace H:=iteE H;rcases H with ⟨c3,H⟩|⟨c3,H⟩
 ·have c3b0:=geT c3
  have c3b1:decide (a1.size≤a0.size)=true:=dT (Int.ofNat_le.mp c3);clear c3;replace H:=iteN H;obtain ⟨c4,H⟩:=H;have c4b0:=eq_true c4;have c4b1:=dT c4;clear c4;replace H:=iteN H;obtain ⟨c5,H⟩:=H;have c5b0:=eq_true c5;have c5b1:=dT c5;clear c5;obtain rfl:=sI H;go_enter Tryz.func91,Tryz.ntmps91;go_wp2
  go_ret
  exact ⟨zz0,zz1⟩
 ·have c3b0:=geF c3
  have c3b1:decide (a1.size≤a0.size)=false:=dF (fun h=>c3 (Int.ofNat_le.mpr h));clear c3;obtain rfl:=sI H;go_enter Tryz.func91,Tryz.ntmps91;go_wp2
  go_ret
  exact ⟨zz0,zz1⟩
def stringslite_CutPrefix.f (a0:ByteArray) (a1:ByteArray):Option (ByteArray×Bool):=(stringslite_HasPrefix.f a0 a1).bind fun t558=>(if t558=true then (if 0≤(a1.size:Int) then (if (a1.size:Int)≤(a0.size:Int) then (some (a0.extract ((a1.size:Int):Int).toNat a0.size,true)) else (none)) else (none)) else (some (a0,false)))
theorem stringslite_CutPrefix.calls (a0:ByteArray) (a1:ByteArray) (r1:ByteArray) (r2:Bool) (w:World) (h:stringslite_CutPrefix.f a0 a1=some (r1,r2)) :
  Calls Tryz.prog 79 #[.string a0,.string a1] w fun e w'=>e=.returned (.tuple #[.string r1,.bool r2])∧Drawn0 w w':=by
 unfold stringslite_CutPrefix.f at h
 have H:=h;clear h;replace H:=bindA H;obtain ⟨t558,A3,H⟩:=H;have HF4:=A_ H;clear H;go_enter Tryz.func79,Tryz.ntmps79;go_upto_if 9 with (first|(refine gR 91 (some 8) Tryz.func91 (stringslite_HasPrefix.calls a0 a1 t558 _ A3.out) ?_;rintro w' ⟨nd,rfl⟩))
 obtain ⟨H⟩:=HF4;replace H:=iteB H;rcases H with ⟨rfl,H⟩|⟨rfl,H⟩
 ·replace H:=iteN H
  obtain ⟨c6,H⟩:=H;have c6b0:=eq_true c6;have c6b1:=dT c6;clear c6;replace H:=iteN H;obtain ⟨c7,H⟩:=H;have c7b0:=eq_true c7;have c7b1:=dT c7;clear c7;simp only [Option.some.injEq,Prod.mk.injEq] at H
  obtain ⟨rfl,rfl⟩:=H;go_wp2
  go_ret2
  exact ⟨zz0,zz1⟩
 ·simp only [Option.some.injEq,Prod.mk.injEq] at H
  obtain ⟨rfl,rfl⟩:=H;go_wp2
  go_ret2
  exact ⟨zz0,zz1⟩
def strings_CutPrefix.f (a0:ByteArray) (a1:ByteArray):Option (ByteArray×Bool):=(stringslite_CutPrefix.f a0 a1).bind fun bt559=>(some (bt559.1,bt559.2))
theorem strings_CutPrefix.calls (a0:ByteArray) (a1:ByteArray) (r1:ByteArray) (r2:Bool) (w:World) (h:strings_CutPrefix.f a0 a1=some (r1,r2)) :
  Calls Tryz.prog 53 #[.string a0,.string a1] w fun e w'=>e=.returned (.tuple #[.string r1,.bool r2])∧Drawn0 w w':=by
 unfold strings_CutPrefix.f at h
 have H:=h;clear h;replace H:=bindA H;obtain ⟨⟨t559,t560⟩,A3,H⟩:=H;try dsimp only at H
 simp only [Option.some.injEq,Prod.mk.injEq] at H
 obtain ⟨rfl,rfl⟩:=H;go_enter Tryz.func53,Tryz.ntmps53;go_wp2_with (first|(refine gR 79 (some 8) Tryz.func79 (stringslite_CutPrefix.calls a0 a1 t559 t560 _ A3.out) ?_;rintro w' ⟨nd,rfl⟩))
 go_ret2
 exact ⟨zz0,zz1⟩
def impl_standsForItself.f (a0:Int):Option (Bool):=if a0 ≥ 97 then (if a0≤122 then (some true) else (if a0 ≥ 48 then (if a0≤57 then (some true) else (if a0=46 then (some true) else (some (a0 == 45)))) else (if a0=46 then (some true) else (some (a0 == 45))))) else (if a0 ≥ 48 then (if a0≤57 then (some true) else (if a0=46 then (some true) else (some (a0 == 45)))) else (if a0=46 then (some true) else (some (a0 == 45))))
theorem impl_standsForItself.calls (a0:Int) (r:Bool) (w:World) (h:impl_standsForItself.f a0=some r) :
  Calls Tryz.prog 111 #[.int .u8 a0] w fun e w'=>e=.returned (.bool r)∧Drawn0 w w':=by
 unfold impl_standsForItself.f at h
 have H:=h;clear h;replace H:=iteEe H;rcases H with ⟨c2b0,H⟩|⟨c2b0,H⟩
 ·replace H:=iteEd H
  rcases H with ⟨c3b0,H⟩|⟨c3b0,H⟩
  ·obtain rfl:=sI H
   go_enter Tryz.func111,Tryz.ntmps111;go_wp2
   go_ret
   exact ⟨zz0,zz1⟩
  ·replace H:=iteEe H
   rcases H with ⟨c4b0,H⟩|⟨c4b0,H⟩
   ·replace H:=iteEd H
    rcases H with ⟨c5b0,H⟩|⟨c5b0,H⟩
    ·obtain rfl:=sI H
     go_enter Tryz.func111,Tryz.ntmps111;go_wp2
     go_ret
     exact ⟨zz0,zz1⟩
    ·replace H:=iteEq H
     rcases H with ⟨c6b0,c6b1,H⟩|⟨c6b0,c6b1,c6,H⟩
     ·obtain rfl:=sI H
      go_enter Tryz.func111,Tryz.ntmps111;go_wp2
      go_ret
      exact ⟨zz0,zz1⟩
     ·obtain rfl:=sI H
      go_enter Tryz.func111,Tryz.ntmps111;go_wp2
      go_ret
      exact ⟨zz0,zz1⟩
   ·replace H:=iteEq H
    rcases H with ⟨c7b0,c7b1,H⟩|⟨c7b0,c7b1,c7,H⟩
    ·obtain rfl:=sI H
     go_enter Tryz.func111,Tryz.ntmps111;go_wp2
     go_ret
     exact ⟨zz0,zz1⟩
    ·obtain rfl:=sI H
     go_enter Tryz.func111,Tryz.ntmps111;go_wp2
     go_ret
     exact ⟨zz0,zz1⟩
 ·replace H:=iteEe H
  rcases H with ⟨c8b0,H⟩|⟨c8b0,H⟩
  ·replace H:=iteEd H
   rcases H with ⟨c9b0,H⟩|⟨c9b0,H⟩
   ·obtain rfl:=sI H
    go_enter Tryz.func111,Tryz.ntmps111;go_wp2
    go_ret
    exact ⟨zz0,zz1⟩
   ·replace H:=iteEq H
    rcases H with ⟨c10b0,c10b1,H⟩|⟨c10b0,c10b1,c10,H⟩
    ·obtain rfl:=sI H
     go_enter Tryz.func111,Tryz.ntmps111;go_wp2
     go_ret
     exact ⟨zz0,zz1⟩
    ·obtain rfl:=sI H
     go_enter Tryz.func111,Tryz.ntmps111;go_wp2
     go_ret
     exact ⟨zz0,zz1⟩
  ·replace H:=iteEq H
   rcases H with ⟨c11b0,c11b1,H⟩|⟨c11b0,c11b1,c11,H⟩
   ·obtain rfl:=sI H
    go_enter Tryz.func111,Tryz.ntmps111;go_wp2
    go_ret
    exact ⟨zz0,zz1⟩
   ·obtain rfl:=sI H
    go_enter Tryz.func111,Tryz.ntmps111;go_wp2
    go_ret
    exact ⟨zz0,zz1⟩
def spec_l71Houses.f  : Option (List ByteArray):=some (([(⟨#[97,98]⟩:ByteArray),(⟨#[99,100]⟩:ByteArray),(⟨#[101]⟩:ByteArray),(⟨#[102,111,120]⟩:ByteArray)]:List ByteArray))
theorem spec_l71Houses.calls  (r:List ByteArray) (w:World) (h:spec_l71Houses.f  = some r) :
  Calls Tryz.prog 65 #[] w fun e w'=>∃ v0_:Value,e=.returned (v0_)∧Kd.R Kd.string 9 w' w.heap.size (fun _=>True) v0_ r∧Below w.heap.size w w':=by
 have HB:=A_ (Below.refl w.heap.size w);unfold spec_l71Houses.f at h
 have H:=h;clear h;obtain ⟨y139,Ny139,H⟩:=bindY H;obtain rfl:=sI H;go_enter Tryz.func65,Tryz.ntmps65;go_wp2_with (first|((with_reducible refine gD (N:=1) rfl ?_);refine Kd.R_lit Kd.string _ 9 ?hg (N:=1) ?hd (xs:=([(⟨#[97,98]⟩:ByteArray),(⟨#[99,100]⟩:ByteArray),(⟨#[101]⟩:ByteArray),(⟨#[102,111,120]⟩:ByteArray)]:List ByteArray)) (inner:=[.string (⟨#[97,98]⟩:ByteArray),.string (⟨#[99,100]⟩:ByteArray),.string (⟨#[101]⟩:ByteArray),.string (⟨#[102,111,120]⟩:ByteArray)]) (ok:=fun _=>True) (okp:=fun _=>True) ?hr ?hp (fun _ hk=>hk) trivial (Below.refl _ _) (Nat.le_refl _) (by simp) ?_;(case hd=>rfl);(case hg=>rfl);(case hr=>exact zz26);(case hp=>exact (Reps.one (show Kd.M Kd.string _ _ _ (⟨#[97,98]⟩:ByteArray) [.string (⟨#[97,98]⟩:ByteArray)] from rfl) (Reps.one (show Kd.M Kd.string _ _ _ (⟨#[99,100]⟩:ByteArray) [.string (⟨#[99,100]⟩:ByteArray)] from rfl) (Reps.one (show Kd.M Kd.string _ _ _ (⟨#[101]⟩:ByteArray) [.string (⟨#[101]⟩:ByteArray)] from rfl) (Reps.one (show Kd.M Kd.string _ _ _ (⟨#[102,111,120]⟩:ByteArray) [.string (⟨#[102,111,120]⟩:ByteArray)] from rfl) (Reps.none _ _))))));intro v140 w1 ho2 hb hg_ hnew_;clear hg_ hnew_;(first|rw [← Ny139.out] at ho2|(simp only [Int.reduceToNat] at ho2;rw [← Ny139.out] at ho2));have HO141:=A_ (Kd.R_lower ho2 (below_size (zz5 HB)));replace HB:=A_ (bS (zz5 HB) hb);clear hb ho2))
 go_ret
 exact ⟨_,zz12,(zz8 HO141),(zz5 HB)⟩
def spec_l6In.f (a0:Int) (a1:Int) (a2:Int):Option (Bool):=if a0 ≥ a1 then (some (decide (a0≤a2))) else (some false)
theorem spec_l6In.calls (a0:Int) (a1:Int) (a2:Int) (r:Bool) (w:World) (h:spec_l6In.f a0 a1 a2=some r) :
  Calls Tryz.prog 27 #[.int .i64 a0,.int .i64 a1,.int .i64 a2] w fun e w'=>e=.returned (.bool r)∧Drawn0 w w':=by
 unfold spec_l6In.f at h
 have H:=h;clear h;replace H:=iteEe H;rcases H with ⟨c4b0,H⟩|⟨c4b0,H⟩
 ·obtain rfl:=sI H
  go_enter Tryz.func27,Tryz.ntmps27;go_wp2
  go_ret
  exact ⟨zz0,zz1⟩
 ·obtain rfl:=sI H
  go_enter Tryz.func27,Tryz.ntmps27;go_wp2
  go_ret
  exact ⟨zz0,zz1⟩
def spec_l1Plain.f (a0:Int):Option (Bool):=if a0 ≥ 97 then (if a0≤122 then (some true) else (if a0 ≥ 48 then (if a0≤57 then (some true) else (if a0=46 then (some true) else (some (a0 == 45)))) else (if a0=46 then (some true) else (some (a0 == 45))))) else (if a0 ≥ 48 then (if a0≤57 then (some true) else (if a0=46 then (some true) else (some (a0 == 45)))) else (if a0=46 then (some true) else (some (a0 == 45))))
theorem spec_l1Plain.calls (a0:Int) (r:Bool) (w:World) (h:spec_l1Plain.f a0=some r) :
  Calls Tryz.prog 130 #[.int .u8 a0] w fun e w'=>e=.returned (.bool r)∧Drawn0 w w':=by
 unfold spec_l1Plain.f at h
 have H:=h;clear h;replace H:=iteEe H;rcases H with ⟨c2b0,H⟩|⟨c2b0,H⟩
 ·replace H:=iteEd H
  rcases H with ⟨c3b0,H⟩|⟨c3b0,H⟩
  ·obtain rfl:=sI H
   go_enter Tryz.func130,Tryz.ntmps130;go_wp2
   go_ret
   exact ⟨zz0,zz1⟩
  ·replace H:=iteEe H
   rcases H with ⟨c4b0,H⟩|⟨c4b0,H⟩
   ·replace H:=iteEd H
    rcases H with ⟨c5b0,H⟩|⟨c5b0,H⟩
    ·obtain rfl:=sI H
     go_enter Tryz.func130,Tryz.ntmps130;go_wp2
     go_ret
     exact ⟨zz0,zz1⟩
    ·replace H:=iteEq H
     rcases H with ⟨c6b0,c6b1,H⟩|⟨c6b0,c6b1,c6,H⟩
     ·obtain rfl:=sI H
      go_enter Tryz.func130,Tryz.ntmps130;go_wp2
      go_ret
      exact ⟨zz0,zz1⟩
     ·obtain rfl:=sI H
      go_enter Tryz.func130,Tryz.ntmps130;go_wp2
      go_ret
      exact ⟨zz0,zz1⟩
   ·replace H:=iteEq H
    rcases H with ⟨c7b0,c7b1,H⟩|⟨c7b0,c7b1,c7,H⟩
    ·obtain rfl:=sI H
     go_enter Tryz.func130,Tryz.ntmps130;go_wp2
     go_ret
     exact ⟨zz0,zz1⟩
    ·obtain rfl:=sI H
     go_enter Tryz.func130,Tryz.ntmps130;go_wp2
     go_ret
     exact ⟨zz0,zz1⟩
 ·replace H:=iteEe H
  rcases H with ⟨c8b0,H⟩|⟨c8b0,H⟩
  ·replace H:=iteEd H
   rcases H with ⟨c9b0,H⟩|⟨c9b0,H⟩
   ·obtain rfl:=sI H
    go_enter Tryz.func130,Tryz.ntmps130;go_wp2
    go_ret
    exact ⟨zz0,zz1⟩
   ·replace H:=iteEq H
    rcases H with ⟨c10b0,c10b1,H⟩|⟨c10b0,c10b1,c10,H⟩
    ·obtain rfl:=sI H
     go_enter Tryz.func130,Tryz.ntmps130;go_wp2
     go_ret
     exact ⟨zz0,zz1⟩
    ·obtain rfl:=sI H
     go_enter Tryz.func130,Tryz.ntmps130;go_wp2
     go_ret
     exact ⟨zz0,zz1⟩
  ·replace H:=iteEq H
   rcases H with ⟨c11b0,c11b1,H⟩|⟨c11b0,c11b1,c11,H⟩
   ·obtain rfl:=sI H
    go_enter Tryz.func130,Tryz.ntmps130;go_wp2
    go_ret
    exact ⟨zz0,zz1⟩
   ·obtain rfl:=sI H
    go_enter Tryz.func130,Tryz.ntmps130;go_wp2
    go_ret
    exact ⟨zz0,zz1⟩
def spec_l1Sign.f (a0:Int):Option (ByteArray):=if 0≤(wrap64 (Int.tdiv a0 16)) then (if (wrap64 (Int.tdiv a0 16))≤(wrap64 ((wrap64 (Int.tdiv a0 16))+1)) then (if (wrap64 ((wrap64 (Int.tdiv a0 16))+1))≤16 then (if 1+((⟨#[48,49,50,51,52,53,54,55,56,57,65,66,67,68,69,70]⟩:ByteArray).extract ((wrap64 (Int.tdiv a0 16)):Int).toNat ((wrap64 ((wrap64 (Int.tdiv a0 16))+1)):Int).toNat).size≤9223372036854775807 then (if 0≤(Int.tmod a0 16) then (if (Int.tmod a0 16)≤(wrap64 ((Int.tmod a0 16)+1)) then (if (wrap64 ((Int.tmod a0 16)+1))≤16 then (if 1+(((⟨#[48,49,50,51,52,53,54,55,56,57,65,66,67,68,69,70]⟩:ByteArray).extract ((wrap64 (Int.tdiv a0 16)):Int).toNat ((wrap64 ((wrap64 (Int.tdiv a0 16))+1)):Int).toNat).size)+((⟨#[48,49,50,51,52,53,54,55,56,57,65,66,67,68,69,70]⟩:ByteArray).extract ((Int.tmod a0 16):Int).toNat ((wrap64 ((Int.tmod a0 16)+1)):Int).toNat).size≤9223372036854775807 then (some (((⟨#[37]⟩:ByteArray)++((⟨#[48,49,50,51,52,53,54,55,56,57,65,66,67,68,69,70]⟩:ByteArray).extract ((wrap64 (Int.tdiv a0 16)):Int).toNat ((wrap64 ((wrap64 (Int.tdiv a0 16))+1)):Int).toNat))++((⟨#[48,49,50,51,52,53,54,55,56,57,65,66,67,68,69,70]⟩:ByteArray).extract ((Int.tmod a0 16):Int).toNat ((wrap64 ((Int.tmod a0 16)+1)):Int).toNat))) else (none)) else (none)) else (none)) else (none)) else (none)) else (none)) else (none)) else (none)
theorem spec_l1Sign.calls (a0:Int) (r:ByteArray) (w:World) (h:spec_l1Sign.f a0=some r) :
  Calls Tryz.prog 132 #[.int .i64 a0] w fun e w'=>e=.returned (.string r)∧Drawn0 w w':=by
 unfold spec_l1Sign.f at h
 have H:=h;clear h;obtain ⟨ji2,hji2⟩:∃ j_:Int,(wrap64 (Int.tdiv a0 16))=j_:=⟨_,rfl⟩;(first|rw [hji2] at H|simp only [hji2] at H)
 have hji2w:(IntKind.i64.wrap (Int.tdiv a0 16))=ji2:=(i64_w _).trans hji2;replace H:=iteE H;rcases H with ⟨c3,H⟩|⟨c3,H⟩
 ·have c3b0:=eq_true c3
  have c3b1:=dT c3;clear c3;replace H:=iteN H;obtain ⟨c4,H⟩:=H;have c4b0:=eq_true c4;have c4b1:=dT c4;replace H:=iteN H;obtain ⟨c5,H⟩:=H;have c5b0:=eq_true c5;have c5b1:=dT c5;replace H:=iteN H;obtain ⟨c6,H⟩:=H;have c6b0:=eq_true c6;have c6b1:=dT c6;try have c6b2:(9223372036854775807 < 1+((⟨#[48,49,50,51,52,53,54,55,56,57,65,66,67,68,69,70]⟩:ByteArray).extract ((ji2):Int).toNat ((wrap64 ((ji2)+1)):Int).toNat).size)=False:=eq_false (Nat.not_lt.2 c6)
  obtain ⟨ji7,hji7⟩:∃ j_:Int,(Int.tmod a0 16)=j_:=⟨_,rfl⟩;(first|rw [hji7] at H|simp only [hji7] at H)
  replace H:=iteN H;obtain ⟨c8,H⟩:=H;have c8b0:=eq_true c8;have c8b1:=dT c8;clear c8;replace H:=iteN H;obtain ⟨c9,H⟩:=H;have c9b0:=eq_true c9;have c9b1:=dT c9;replace H:=iteN H;obtain ⟨c10,H⟩:=H;have c10b0:=eq_true c10;have c10b1:=dT c10;replace H:=iteN H;obtain ⟨c11,H⟩:=H;have c11b0:=eq_true c11;have c11b1:=dT c11;try have c11b2:(9223372036854775807 < 1+(((⟨#[48,49,50,51,52,53,54,55,56,57,65,66,67,68,69,70]⟩:ByteArray).extract ((ji2):Int).toNat ((wrap64 ((ji2)+1)):Int).toNat).size)+((⟨#[48,49,50,51,52,53,54,55,56,57,65,66,67,68,69,70]⟩:ByteArray).extract ((ji7):Int).toNat ((wrap64 ((ji7)+1)):Int).toNat).size)=False:=eq_false (Nat.not_lt.2 c11)
  obtain rfl:=sI H;go_enter Tryz.func132,Tryz.ntmps132;go_wp2
  repeat (go_quiet (fail);try go_wp2)
  go_ret
  exact ⟨(by first|rfl|(simp only [i64_w,i32_w];done)|(simp only [aid_isEmpty,aid_isEmpty2];done)|(simp;done)|(simp only [← hji2,← hji7] <;> (first|rfl|simp))|(simp [*];done)),zz1⟩
 ·exact absurd H (by simp)
def spec_l3Head.f (a0:ByteArray):Option (Int):=if a0.toList=([]:List UInt8) then (some 0) else (if 0 < (a0.size:Int) then (some (bt a0 0)) else (none))
theorem spec_l3Head.calls (a0:ByteArray) (r:Int) (w:World) (h:spec_l3Head.f a0=some r) :
  Calls Tryz.prog 102 #[.string a0] w fun e w'=>e=.returned (.int .u8 r)∧Drawn0 w w':=by
 unfold spec_l3Head.f at h
 have H:=h;clear h;replace H:=iteEq H;rcases H with ⟨c2b0,c2b1,H⟩|⟨c2b0,c2b1,c2,H⟩
 ·obtain rfl:=sI H
  go_enter Tryz.func102,Tryz.ntmps102;go_wp2
  go_ret
  exact ⟨zz0,zz1⟩
 ·replace H:=iteE H
  rcases H with ⟨c3,H⟩|⟨c3,H⟩
  ·have c3b0:=dT c3
   have c3b1:decide (0 < a0.size)=true:=dT (by omega);clear c3;obtain rfl:=sI H;have p4:0≤(0:Int):=(by omega);have q4:0 < a0.size:=(by have:(0:Int) < (a0.size:Int):=ofD;omega);have hx4:∀ h:0 < a0.size,((a0[0]'h).toNat:Int)=bt a0 0:=bt_at a0 0;clear p4;have qi4:(0 < (a0.size:Int))=True:=eq_true ofD;replace q4:=eq_true q4;go_enter Tryz.func102,Tryz.ntmps102;go_wp2
   go_ret
   exact ⟨zz0,zz1⟩
  ·exact absurd H (by simp)
def spec_l1Up.f (a0_0:ByteArray) (l0_1:List ByteArray) (a0_2:Bool) (a0_3:ByteArray):Option (ByteArray×List ByteArray×Bool×ByteArray):=(some (([]:List ByteArray):List ByteArray)).bind fun y854=>(if 0≤(mx (wrap64 ((l0_1.length:Int) - 1)) 0) then (if (mx (wrap64 ((l0_1.length:Int) - 1)) 0)≤(l0_1.length:Int) then (if y854.length+(l0_1.take ((mx (wrap64 ((l0_1.length:Int) - 1)) 0):Int).toNat).length < 8796093022208 then (some (a0_0,(y854++(l0_1.take ((mx (wrap64 ((l0_1.length:Int) - 1)) 0):Int).toNat)),false,(⟨#[]⟩:ByteArray))) else (none)) else (none)) else (none))
def spec_l1Up.T1:Bool×List (List Nat×List Nat):=(true,[([],[]),([0],[0]),([],[]),([],[]),([3],[3]),([],[]),([5],[5]),([6],[6]),([7],[7]),([8],[8]),([4,9],[4,9]),([2,10],[2,10]),([1,11],[1,11]),([12,11,0,1,2,3,4,5,6,7,8,9,10,11,12],[12])])
def spec_l1Up.B1:List Nat:=[0,1,0,0,8,0,32,96,224,480,1016,2044,4095,8191]
theorem spec_l1Up.tab1:rtab .any (opsOf Tryz.f103 1)=spec_l1Up.T1:=by kernel_rfl
theorem spec_l1Up.bits1:waitsOk spec_l1Up.T1.2 spec_l1Up.B1=true:=by kernel_rfl
theorem spec_l1Up.calls (a0_0:ByteArray) (A0_1:Option Addr) (c0_1:Nat) (l0_1:List ByteArray) (a0_2:Bool) (a0_3:ByteArray) (r1:ByteArray) (r2:List ByteArray) (r3:Bool) (r4:ByteArray) (w:World) (hr0_1:Kd.C Kd.string w A0_1 l0_1.length l0_1) (hc0_1:l0_1.length≤c0_1) (h:spec_l1Up.f a0_0 l0_1 a0_2 a0_3=some (r1,r2,r3,r4)) :
  Calls Tryz.prog 103 #[.agg #[.string a0_0,.slice A0_1 l0_1.length c0_1,.bool a0_2,.string a0_3]] w fun e w'=>∃ v1_:Value,e=.returned (.agg #[.string r1,v1_,.bool r3,.string r4])∧Kd.R Kd.string 9 w' w.heap.size (fun _=>True) v1_ r2∧Below w.heap.size w w':=by
 have hu39:=Tryz.underlying39;have HR0_1:=A_ hr0_1;have HC0_1:=A_ hc0_1;clear hr0_1 hc0_1;have HB:=A_ (Below.refl w.heap.size w);unfold spec_l1Up.f at h
 have H:=h;clear h;obtain ⟨y854,Ny854,H⟩:=bindY H;obtain ⟨ji2,hji2⟩:∃ j_:Int,(mx (wrap64 ((l0_1.length:Int) - 1)) 0)=j_:=⟨_,rfl⟩;(first|rw [hji2] at H|simp only [hji2] at H)
 (try (have hji2l:0≤ji2:=by (rw [← hji2];unfold mx;(repeat' split) <;> omega)))
 (try (have hji2m:0≤ji2:=by omega))
 have hji2_:(if (wrap64 ((l0_1.length:Int) - 1)) < 0 then 0 else (wrap64 ((l0_1.length:Int) - 1)))=ji2:=hji2;replace H:=iteE H;rcases H with ⟨c3,H⟩|⟨c3,H⟩
 ·have c3b0:=eq_true c3
  have c3b1:=dT c3;clear c3;replace H:=iteN H;obtain ⟨c4,H⟩:=H;have c4b0:=eq_true c4;have c4b1:=dT c4;clear c4;replace H:=iteN H;obtain ⟨c5,H⟩:=H;have LMc5:=A_ c5;clear c5;obtain ⟨y858,Ny858⟩:=toY (y854++(l0_1.take ((ji2):Int).toNat));(first|with_reducible replace H:=bindZ Ny858 H|rw [← Ny858.out] at H|skip)
  simp only [Option.some.injEq,Prod.mk.injEq] at H
  obtain ⟨rfl,rfl,rfl,rfl⟩:=H;go_enter Tryz.func103,Tryz.ntmps103;try go_wp2_with (first|(refine boxF 1 #[.string a0_0,.slice A0_1 l0_1.length c0_1,.bool a0_2,.string a0_3] 39 ?_;intro gb852 hg w6 BK852 hb;have GE852:=geB hg (zz5 HB);replace HB:=A_ (bS (zz5 HB) hb);clear hb hg)|(refine boxF 2 #[.string (⟨#[]⟩:ByteArray),.slice none 0 0,.bool false,.string (⟨#[]⟩:ByteArray)] 39 ?_;intro gb853 hg w7 BK853 hb;have GE853:=geB hg (zz16 HB GE852);replace HB:=A_ (bS (zz16 HB GE852) hb);have NB852_853:=A_ ((by rw [hg];exact Nat.ne_of_lt (blk_lt (zz15 BK852)):gb852≠gb853));have NB853_852:=A_ ((by rw [hg];exact Nat.ne_of_gt (blk_lt (zz15 BK852)):gb853≠gb852));replace BK852:=A_ (bB (zz15 BK852) hb);clear hb hg))
  replace BK852:=A_ (blk_drew BK852.out);replace BK853:=A_ (blk_drew BK853.out);replace HB:=A_ (below_drew1 HB.out);obtain ⟨i09,hi09,_,hsz9,_⟩:=info_parts info9;obtain ⟨hcut9,hA9,hC9⟩:=print_take_of (P:=Tryz.prog) Value.string (⟨#[]⟩:ByteArray) 35 9 .i64 Tryz.underlying35 hi09 hsz9 A0_1 c0_1 l0_1 (ji2) ofD ofD HC0_1.out;have HR857:=A_ (Kd.C_of_reads (h1:=fun _=>rfl) (hA9 _ (Kd.reads_of_C HR0_1.out)));have HC857:=A_ hC9;clear hA9 hC9 hi09 hsz9;refine start_ (n:=14) (S:=fun w'=>w'.cell? ⟨gb852,0,none⟩=some (.string a0_0)∧w'.cell? ⟨gb852,1,none⟩=some (.slice A0_1 l0_1.length c0_1)∧w'.cell? ⟨gb852,2,none⟩=some (.bool a0_2)∧w'.cell? ⟨gb852,3,none⟩=some (.string a0_3)) (ds:=[]) #[yF,yF,yF,yF,yF,yF,yF,yF,yF,yF,yF,yF,yF,yF] (by kernel_rfl) rfl rfl ⟨(blk_cell BK852.out 0).trans rfl,(blk_cell BK852.out 1).trans rfl,(blk_cell BK852.out 2).trans rfl,(blk_cell BK852.out 3).trans rfl⟩ (fun hHeld=>?_);refine with_tabW spec_l1Up.tab1 spec_l1Up.bits1 (fun HT_ HW_=>?_);generalize w7.drew=w8 at BK852 BK853 HB HR857 hHeld ⊢;refine pureZ 0 (some 3) #[yT,yF,yF,yF,yF,yF,yF,yF,yF,yF,yF,yF,yF,yF] ?_;refine pureZ 3 (some 6) #[yT,yF,yF,yT,yF,yF,yF,yF,yF,yF,yF,yF,yF,yF] ?_;refine pureZ 5 (some 8) #[yT,yF,yF,yT,yF,yT,yF,yF,yF,yF,yF,yF,yF,yF] ?_;refine takeZ4 1 (some 4) #[yT,yT,yF,yT,yF,yT,yF,yF,yF,yF,yF,yF,yF,yF] hHeld ?_;refine takeZ4 4 (some 7) #[yT,yT,yF,yT,yT,yT,yF,yF,yF,yF,yF,yF,yF,yF] hHeld ?_;refine takeZ4 6 (some 9) #[yT,yT,yF,yT,yT,yT,yT,yF,yF,yF,yF,yF,yF,yF] hHeld ?_;refine pureZ 7 (some 10) #[yT,yT,yF,yT,yT,yT,yT,yT,yF,yF,yF,yF,yF,yF] ?_;refine pureZ 8 (some 11) #[yT,yT,yF,yT,yT,yT,yT,yT,yT,yF,yF,yF,yF,yF] ?_;refine pureZ 9 (some 12) #[yT,yT,yF,yT,yT,yT,yT,yT,yT,yT,yF,yF,yF,yF] ?_;refine pureZ 10 (some 13) #[yT,yT,yF,yT,yT,yT,yT,yT,yT,yT,yT,yF,yF,yF] ?_;refine oneZ 2 (some 5) #[yT,yT,yT,yT,yT,yT,yT,yT,yT,yT,yT,yF,yF,yF] (fun K hK=>?_);refine Kd.R_lit_step Kd.string _ 9 ?hg (N:=5) ?hd (xs:=([]:List ByteArray)) (inner:=[]) (ok:=fun _=>True) (okp:=fun _=>True) ?hr ?hp (fun _ hk=>hk) trivial (Below.refl _ _) (Nat.le_refl _) (by simp) ?_;(case hd=>rfl);(case hg=>rfl);(case hr=>exact zz26);(case hp=>exact (Reps.none _ _));intro v855 w10 ho11 hb hg_ hnew_;clear hg_ hnew_;(first|rw [← Ny854.out] at ho11|(simp only [Int.reduceToNat] at ho11;rw [← Ny854.out] at ho11))
  have HO856:=A_ (Kd.R_lower ho11 (below_size (zz73 HB GE852 GE853)));replace BK852:=A_ (bB (zz15 BK852) hb);replace BK853:=A_ (bB (zz15 BK853) hb);replace HB:=A_ (bS (zz73 HB GE852 GE853) hb);clear hb ho11;refine hK.out _ _ ⟨(blk_cell BK852.out 0).trans rfl,(blk_cell BK852.out 1).trans rfl,(blk_cell BK852.out 2).trans rfl,(blk_cell BK852.out 3).trans rfl⟩ (fun hHeld=>?_);clear hK K;refine nZ 5 ?_;refine oneZ 11 (some 14) #[yT,yT,yT,yT,yT,yT,yT,yT,yT,yT,yT,yT,yF,yF] (fun K hK=>?_);refine Kd.R_append_rows_step Kd.string (w0:=w) w.heap.size (by rfl) (.tmp 5) (.tmp 13) 35 9 (.string ⟨#[]⟩) 16 rfl Tryz.underlying35 info9 rfl (by decide) (by omega) v855 y854 (l0_1.take ((ji2):Int).toNat) _ _ _ (fun _=>True) (fun _=>False) rfl rfl ?aO ?aR (fun _ _ h=>h) (fun _ h=>h.elim) ?aF ?aB ?aS ?aL ?_;(case aR=>exact (by first|(have hl_:(l0_1.take ((ji2):Int).toNat).length=(ji2).toNat:=(by rw [List.length_take];have h_:((ji2):Int)≤(l0_1.length:Int):=ofD;omega);have hC_:=(Kd.C_below HR857.out HB.out);rw [hl_] at hC_;exact hC_)|(rw [← show (l0_1.take ((ji2):Int).toNat).length=(ji2).toNat from (by rw [List.length_take];have h_:((ji2):Int)≤(l0_1.length:Int):=ofD;omega)];repeat (first|exact (Kd.C_below HR857.out HB.out)|(with_reducible refine Kd.C_alloc ?_ _)|(with_reducible refine Kd.C_drewN ?_ _)|(with_reducible refine Kd.C_drew ?_));done)|(repeat (first|exact (Kd.C_below HR857.out HB.out)|(with_reducible refine Kd.C_alloc ?_ _)|(with_reducible refine Kd.C_drewN ?_ _)|(with_reducible refine Kd.C_drew ?_)))))
  (case aB=>exact (zz73 HB GE852 GE853))
  (case aF=>exact (fun _ _=>trivial))
  (case aO=>exact (zz8 HO856))
  (case aS=>exact (below_size (zz73 HB GE852 GE853)))
  (case aL=>exact (by have:=LMc5.out;have hlx_:=(show (l0_1.take ((ji2):Int).toNat).length=(ji2).toNat from (by rw [List.length_take];have h_:((ji2):Int)≤(l0_1.length:Int):=ofD;omega));omega))
  intro v859 w12 ho hb hg hat;rw [← Ny858.out] at ho;replace BK852:=A_ (blk_grown (zz15 BK852) hg (Kd.R_ne HO856.out BK852.out (by decide)));replace BK853:=A_ (blk_grown (zz15 BK853) hg (Kd.R_ne HO856.out BK853.out (by decide)));replace HB:=A_ (hb);have HO860:=A_ (ho);clear HO856;clear ho hb hg hat;obtain ⟨Ao13,co13,eo13⟩:=Kd.R_slice HO860.out;(first|subst eo13|(injection eo13 with f1_ f2_ f3_;have f4_:=f1_.symm;have f5_:=f3_.symm;clear f1_ f2_ f3_;subst f4_;subst f5_))
  refine hK.out _ _ ⟨(blk_cell BK852.out 0).trans rfl,(blk_cell BK852.out 1).trans rfl,(blk_cell BK852.out 2).trans rfl,(blk_cell BK852.out 3).trans rfl⟩ (fun hHeld=>?_);clear hK K;refine nZ 14 ?_;refine pureZ 12 (some 15) #[yT,yT,yT,yT,yT,yT,yT,yT,yT,yT,yT,yT,yT,yF] ?_;refine oneZ 13 (none) #[yT,yT,yT,yT,yT,yT,yT,yT,yT,yT,yT,yT,yT,yT] (fun K hK=>?_);have hs14:w12.cell? ⟨gb853,0,none⟩=some (.string (⟨#[]⟩:ByteArray)):=(blk_cell BK853.out 0).trans rfl;have hfs14:=blk_frozen BK853.out 0;have hns14_0:=NB852_853.out;have hms14_0:=NB853_852.out;have hs15:w12.cell? ⟨gb853,1,none⟩=some (.slice none 0 0):=(blk_cell BK853.out 1).trans rfl;have hfs15:=blk_frozen BK853.out 1;have hns15_0:=NB852_853.out;have hms15_0:=NB853_852.out;have hs16:w12.cell? ⟨gb853,2,none⟩=some (.bool false):=(blk_cell BK853.out 2).trans rfl;have hfs16:=blk_frozen BK853.out 2;have hns16_0:=NB852_853.out;have hms16_0:=NB853_852.out;have hs17:w12.cell? ⟨gb853,3,none⟩=some (.string (⟨#[]⟩:ByteArray)):=(blk_cell BK853.out 3).trans rfl;have hfs17:=blk_frozen BK853.out 3;have hns17_0:=NB852_853.out;have hms17_0:=NB853_852.out;refine skip_ (w1:=?_) (by rfl) rfl ?_ ?_;rotate_left
  ·go_simp
   rfl
  refine hK.out _ _ ⟨((cell_far (p:=⟨gb853,_,none⟩) NB852_853.out _).trans (((cell_far (p:=⟨gb853,_,none⟩) NB852_853.out _).trans (((cell_far (p:=⟨gb853,_,none⟩) NB852_853.out _).trans (((cell_far (p:=⟨gb853,_,none⟩) NB852_853.out _).trans (hHeld.1)))))))),((cell_far (p:=⟨gb853,_,none⟩) NB852_853.out _).trans (((cell_far (p:=⟨gb853,_,none⟩) NB852_853.out _).trans (((cell_far (p:=⟨gb853,_,none⟩) NB852_853.out _).trans (((cell_far (p:=⟨gb853,_,none⟩) NB852_853.out _).trans (hHeld.2.1)))))))),((cell_far (p:=⟨gb853,_,none⟩) NB852_853.out _).trans (((cell_far (p:=⟨gb853,_,none⟩) NB852_853.out _).trans (((cell_far (p:=⟨gb853,_,none⟩) NB852_853.out _).trans (((cell_far (p:=⟨gb853,_,none⟩) NB852_853.out _).trans (hHeld.2.2.1)))))))),((cell_far (p:=⟨gb853,_,none⟩) NB852_853.out _).trans (((cell_far (p:=⟨gb853,_,none⟩) NB852_853.out _).trans (((cell_far (p:=⟨gb853,_,none⟩) NB852_853.out _).trans (((cell_far (p:=⟨gb853,_,none⟩) NB852_853.out _).trans (hHeld.2.2.2))))))))⟩ (fun hHeld=>?_);clear hK K;refine done_ (done_of HT_.out (by kernel_rfl)) ?_;try go_wp2
  refine pR (results_cell_row rfl _ _ gb853 39 #[.string a0_0,.slice Ao13 y858.length co13,.bool false,.string (⟨#[]⟩:ByteArray)] (0,0) _ rfl (zz32 BK853) Tryz.underlying39 rfl (by kernel_rfl)) rfl ?_;exact ⟨_,(by first|rfl|(simp [errW_none,errW_some] <;> rfl)|(simp only [← hji2];first|rfl|(simp [errW_none,errW_some] <;> rfl))|(simp [*,errW_none,errW_some] <;> rfl)),(zz47 (rt HO860 BK853)),(zz73 HB GE852 GE853)⟩
 ·exact absurd H (by simp)
def impl_beginsWith.f (a0:ByteArray) (a1:Int):Option (Bool):=if a0.toList=([]:List UInt8) then (some false) else (if 0 < (a0.size:Int) then (some ((bt a0 0) == a1)) else (none))
theorem impl_beginsWith.calls (a0:ByteArray) (a1:Int) (r:Bool) (w:World) (h:impl_beginsWith.f a0 a1=some r) :
  Calls Tryz.prog 60 #[.string a0,.int .u8 a1] w fun e w'=>e=.returned (.bool r)∧Drawn0 w w':=by
 unfold impl_beginsWith.f at h
 have H:=h;clear h;replace H:=iteEq H;rcases H with ⟨c3b0,c3b1,H⟩|⟨c3b0,c3b1,c3,H⟩
 ·obtain rfl:=sI H
  go_enter Tryz.func60,Tryz.ntmps60;go_wp2
  go_ret
  exact ⟨zz0,zz1⟩
 ·replace H:=iteE H
  rcases H with ⟨c4,H⟩|⟨c4,H⟩
  ·have c4b0:=dT c4
   have c4b1:decide (0 < a0.size)=true:=dT (by omega);clear c4;obtain rfl:=sI H;have p5:0≤(0:Int):=(by omega);have q5:0 < a0.size:=(by have:(0:Int) < (a0.size:Int):=ofD;omega);have hx5:∀ h:0 < a0.size,((a0[0]'h).toNat:Int)=bt a0 0:=bt_at a0 0;clear p5;have qi5:(0 < (a0.size:Int))=True:=eq_true ofD;replace q5:=eq_true q5;go_enter Tryz.func60,Tryz.ntmps60;go_wp2
   go_ret
   exact ⟨zz0,zz1⟩
  ·exact absurd H (by simp)
def strings_HasPrefix.f (a0:ByteArray) (a1:ByteArray):Option (Bool):=(stringslite_HasPrefix.f a0 a1).bind fun t748=>(some t748)
theorem strings_HasPrefix.calls (a0:ByteArray) (a1:ByteArray) (r:Bool) (w:World) (h:strings_HasPrefix.f a0 a1=some r) :
  Calls Tryz.prog 61 #[.string a0,.string a1] w fun e w'=>e=.returned (.bool r)∧Drawn0 w w':=by
 unfold strings_HasPrefix.f at h
 have H:=h;clear h;replace H:=bindA H;obtain ⟨t748,A3,H⟩:=H;obtain rfl:=sI H;go_enter Tryz.func61,Tryz.ntmps61;go_wp2_with (first|(refine gR 91 (some 7) Tryz.func91 (stringslite_HasPrefix.calls a0 a1 t748 _ A3.out) ?_;rintro w' ⟨nd,rfl⟩))
 go_ret
 exact ⟨zz0,zz1⟩
end Go.Proofs.YtpomhjkbgbociaaGreatDoor.P
end
