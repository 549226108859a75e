/- Part 2 of the proof of FnExactNoticeRead: the plain functions of what it reaches, that Go comes to just their answers, what they answer, and the words that the walks use; conditions: each theorem's own. -/
import Derived.Test.YthojbccgnlcblaaDoorZFnExactNoticeReada
import Derived.Laws.StructEq
import Derived.RowKit
import Derived.Test.YthojbccgnlcblaaDoorProg
import Derived.Below
import Derived.Deep.Draws
import Derived.Deep.AppendLies
import Derived.Maps.AppendAt
import Derived.OwnWalk
import Derived.Laws.BytesArg
import Derived.Laws.MakeOwn
import Derived.Laws.OwnMore
import Derived.Deep.OwnRows
import Derived.Tactics
import Derived.Lib.ConvBytes
import Derived.Laws.Slices
import Derived.WalkKit
import Derived.KernelRfl
import Derived.RowKit3
import Derived.Deep.LoopGhost
import Derived.Deep.QuietTactic
import Derived.BigQuiet
import Derived.WideLaws
import Derived.Deep.DeepCutAuto
import Derived.Deep.CutBlock
import Derived.Deep.RegionHeld3
import Derived.Laws.Rows
import Derived.Lib.AppendStr
import Derived.ArgAppend
import Derived.Laws.IdiomCopy
import Derived.OrdersHeld
import Derived.Laws.BitsLemmas
import Derived.Shelf.Strings.Search1
import Derived.Shelf.Strings.Search2
import Derived.Shelf.Strings.Search3
import Derived.Shelf.Strings.Cut
import Derived.Shelf.Strings.Count
import Derived.Shelf.LaysM
import Derived.Shelf.Strings.Shaped
import Derived.Shelf.Strings.Prefix
import Derived.Shelf.Unicode.DecodeSlow
import Derived.Lib.Strings

section
namespace Go.Proofs.YthojbccgnlcblaaDoorW.PrintWords
open Go.RowKit
section
variable {P:Program} {d:Nat} {xs ys:Array Value} {f:Field} {fs:List Field} {a b:Value} {r s:Bool} {w:World}
end
end Go.Proofs.YthojbccgnlcblaaDoorW.PrintWords
end
section
namespace Go.Proofs.YthojbccgnlcblaaDoor.P
theorem aid_isEmpty (l:List UInt8):(l != ([]:List UInt8)) = !l.isEmpty:=by cases l <;> rfl
theorem aid_isEmpty2 (l:List UInt8):(l == ([]:List UInt8))=l.isEmpty:=by cases l <;> rfl
end Go.Proofs.YthojbccgnlcblaaDoor.P
end
section
namespace Go.Proofs.YthojbccgnlcblaaDoor.P
open Go.RowKit Go.Proofs.YthojbccgnlcblaaDoorW.PrintWords
structure Undec (c:Prop):Prop where mk :: (out:True)
theorem Undec.y_ {c:Prop} (_:c):Undec c:=⟨trivial⟩
theorem Undec.n_ {c:Prop} (_:¬ c):Undec c:=⟨trivial⟩
theorem undecG {b:Bool} (h:Undec (b=true):=by (fail_if_success exact Undec.y_ rfl);(fail_if_success exact Undec.n_ (by decide));exact Undec.mk trivial):Undec (b=true):=h
theorem undecI {c:Prop} (h:Undec c:=by (fail_if_success exact Undec.y_ (by first|(with_reducible assumption)|((try simp only [decide_eq_true_eq,decide_eq_false_iff_not] at *);omega)|decide));(fail_if_success exact Undec.n_ (by first|(with_reducible assumption)|((try simp only [decide_eq_true_eq,decide_eq_false_iff_not] at *);omega)|decide));exact Undec.mk trivial):Undec c:=h
def MetP (J:Prop):Prop:=J
theorem atG {P:Program} {ops:Array Oper} {Q:Exit→Act→World→Prop} {a:Act} {w:World} {rest:List Oper} {d:Option Tmp} {op:Op} {ty:TypeId} {pos:String} {af:Array Edge} {j:Nat} {g b:Bool}
  (_hy:yielded ops a.tmps j=some b) (_nl:Undec (b=true)) (h:∀ K:Prop,Aside0 (K=wpList P ops Q (⟨d,op,ty,pos,af,some (j,g)⟩ :: rest) a w)→MetP K) :
  wpList P ops Q (⟨d,op,ty,pos,af,some (j,g)⟩ :: rest) a w:=h _ ⟨rfl⟩
theorem atI {c A B:Prop} [Decidable c] (_nl:Undec c) (h:∀ K:Prop,Aside0 (K=if c then A else B)→MetP K):if c then A else B:=h _ ⟨rfl⟩
theorem unG {A K:Prop} (hK:Aside0 (K=A)) (h:A):MetP K:=by rw [hK.out];exact h
theorem iteT {c A B:Prop} [Decidable c] (h:A) (hc:c:=by first|rfl|(with_reducible assumption)|omega|decide|exact List.length_eq_zero_iff.mp (by omega)|(intro h_;simp only [h_,List.length_nil] at *;omega)):if c then A else B:=by rw [if_pos hc];exact h
theorem iteF {c A B:Prop} [Decidable c] (h:B) (hc:¬ c:=by first|(with_reducible assumption)|decide|omega|exact fun h_=>h_ (List.length_eq_zero_iff.mp (by omega))|(intro h_;simp only [h_,List.length_nil] at *;omega)):if c then A else B:=by rw [if_neg hc];exact h
theorem upS {P:Program} {o:Oper} {a:Act} {next:Act→World→Prop} {Q:Exit→Act→World→Prop} {r:Result Next} (h:Oper.upon P o a next Q r):Oper.upon P o a next Q r:=h
end Go.Proofs.YthojbccgnlcblaaDoor.P
end
section
namespace Go.Proofs.YthojbccgnlcblaaDoor.P
open Go.RowKit Go.Proofs.YthojbccgnlcblaaDoorW.PrintWords Go.Proofs.YthojbccgnlcblaaDoorW.PrintLast Go.Proofs.YthojbccgnlcblaaDoorW.PrintMore
attribute [local go_sem] max2_int min2_int max_two min_two max_three min_three max_four min_four
set_option linter.unusedVariables false
set_option linter.unusedSimpArgs false
def errW:Option Int→Value
 | none=>.nilIface
 | some c=>.iface 0 (.int .i64 c)
theorem errW_none:errW none=.nilIface:=rfl
theorem errW_some (c:Int):errW (some c)=.iface 0 (.int .i64 c):=rfl
theorem info9:(Tryd.prog.info? 9).map (fun i=>(i.zero,i.size,i.bytes))=some (some (.string ⟨#[]⟩),1,16):=by kernel_rfl
structure S34 where
 f0:Bool
 f1:ByteArray
def z34:S34:=⟨false,(⟨#[]⟩:ByteArray)⟩
def k34:Kd S34:=Kd.iso (Kd.pair Kd.bool Kd.string) (fun x:S34=>(x.f0,x.f1))
theorem k34_open {w:World} {x:S34} {cs:List Value} (h:k34.K w x cs):cs=[.bool x.f0,.string x.f1]:=by
 obtain ⟨_,_,rfl,rfl,rfl⟩:=h
 exact rfl
theorem k34_openM {w:World} {base:Nat} {ok:Nat→Prop} {x:S34} {cs:List Value} (h:k34.M w base ok x cs):cs=[.bool x.f0,.string x.f1]:=by
 obtain ⟨_,_,rfl,rfl,rfl⟩:=h
 exact rfl
theorem k34_mkM (w:World) (base:Nat) (ok:Nat→Prop) (x:S34)  : k34.M w base ok x [.bool x.f0,.string x.f1]:=⟨[.bool x.f0],[.string x.f1],rfl,rfl,rfl⟩
def rd_T34 (xs:List S34) (i:Int):S34:=xs.getD i.toNat z34
theorem at_T34 {w:World} {A:Option Addr} {n:Nat} {xs:List S34} (h:Kd.C k34 w A n xs) (i:Int) (h0:0≤i) (h1:i < n):∃ ad , A=some ad∧w.cell? (ad.add (i.toNat * 2))=some (.bool (rd_T34 xs i).f0)∧w.cell? ⟨(ad.add (i.toNat * 2)).block,(ad.add (i.toNat * 2)).off+1,none⟩=some (.string (rd_T34 xs i).f1):=by
 obtain ⟨ad,c,e,_,hK,hc0⟩:=Kd.C_get h z34 i h0 h1
 have hc:∀ j u,c[j]?=some u→w.cell? (ad.add (i.toNat * 2+j))=some u:=hc0
 obtain rfl:=k34_open hK
 exact ⟨ad,e,hc 0 _ rfl,by rw [← add_field _ _ 1 (by omega)];exact hc 1 _ rfl⟩
structure S32 where
 f0:(List ByteArray)
 f1:(List S34)
 f2:Int
def z32:S32:=⟨([]:List ByteArray),([]:List S34),(0:Int)⟩
def k32:Kd S32:=Kd.iso (Kd.pair (Kd.slice 9 Kd.string) (Kd.pair (Kd.slice 34 k34) (Kd.int .i64))) (fun x:S32=>(x.f0,x.f1,x.f2))
theorem k32_open {w:World} {x:S32} {cs:List Value} (h:k32.K w x cs):∃ A0 c0 A1 c1,cs=[.slice A0 x.f0.length c0,.slice A1 x.f1.length c1,.int .i64 x.f2]∧x.f0.length≤c0∧Kd.string.C w A0 x.f0.length x.f0∧x.f1.length≤c1∧k34.C w A1 x.f1.length x.f1:=by
 obtain ⟨_,_,rfl,⟨A0,c0,rfl,l0,g0⟩,⟨_,_,rfl,⟨A1,c1,rfl,l1,g1⟩,rfl⟩⟩:=h
 exact ⟨A0,c0,A1,c1,rfl,l0,g0,l1,g1⟩
theorem k32_openM {w:World} {base:Nat} {ok:Nat→Prop} {x:S32} {cs:List Value} (h:k32.M w base ok x cs):∃ v0 v1,cs=[v0,v1,.int .i64 x.f2]∧Kd.string.R 9 w base ok v0 x.f0∧k34.R 34 w base ok v1 x.f1:=by
 obtain ⟨_,_,rfl,⟨v0,rfl,g0⟩,⟨_,_,rfl,⟨v1,rfl,g1⟩,rfl⟩⟩:=h
 exact ⟨v0,v1,rfl,g0,g1⟩
theorem k32_mkM (w:World) (base:Nat) (ok:Nat→Prop) (x:S32) {v0:Value} (g0:Kd.string.R 9 w base ok v0 x.f0) {v1:Value} (g1:k34.R 34 w base ok v1 x.f1):k32.M w base ok x [v0,v1,.int .i64 x.f2]:=⟨[v0],[v1,.int .i64 x.f2],rfl,⟨v0,rfl,g0⟩,⟨[v1],[.int .i64 x.f2],rfl,⟨v1,rfl,g1⟩,rfl⟩⟩
def rd_T32 (xs:List S32) (i:Int):S32:=xs.getD i.toNat z32
theorem at_T32 {w:World} {A:Option Addr} {n:Nat} {xs:List S32} (h:Kd.C k32 w A n xs) (i:Int) (h0:0≤i) (h1:i < n):∃ ad A0 c0 A1 c1,A=some ad∧w.cell? (ad.add (i.toNat * 3))=some (.slice A0 (rd_T32 xs i).f0.length c0)∧w.cell? ⟨(ad.add (i.toNat * 3)).block,(ad.add (i.toNat * 3)).off+1,none⟩=some (.slice A1 (rd_T32 xs i).f1.length c1)∧w.cell? ⟨(ad.add (i.toNat * 3)).block,(ad.add (i.toNat * 3)).off+2,none⟩=some (.int .i64 (rd_T32 xs i).f2)∧(rd_T32 xs i).f0.length≤c0∧Kd.string.C w A0 (rd_T32 xs i).f0.length (rd_T32 xs i).f0∧(rd_T32 xs i).f1.length≤c1∧k34.C w A1 (rd_T32 xs i).f1.length (rd_T32 xs i).f1:=by
 obtain ⟨ad,c,e,_,hK,hc0⟩:=Kd.C_get h z32 i h0 h1
 have hc:∀ j u,c[j]?=some u→w.cell? (ad.add (i.toNat * 3+j))=some u:=hc0
 obtain ⟨A0,c0,A1,c1,rfl,l0,g0,l1,g1⟩:=k32_open hK
 exact ⟨ad,A0,c0,A1,c1,e,hc 0 _ rfl,by rw [← add_field _ _ 1 (by omega)];exact hc 1 _ rfl,by rw [← add_field _ _ 2 (by omega)];exact hc 2 _ rfl,l0,g0,l1,g1⟩
end Go.Proofs.YthojbccgnlcblaaDoor.P
end
section
namespace Go.Proofs.YthojbccgnlcblaaDoor.P
open Go.RowKit Go.Proofs.YthojbccgnlcblaaDoorW.PrintWords Go.Proofs.YthojbccgnlcblaaDoorW.PrintLast Go.Proofs.YthojbccgnlcblaaDoorW.PrintMore
theorem ofD {p:Prop} [Decidable p] (h:decide p=true:=by first|(with_reducible assumption)|assumption):p:=of_decide_eq_true h
theorem bindA {α β:Type} {x:Option α} {f:α→Option β} {r:β} (h:x.bind f=some r):∃ a,Aside0 (x=some a)∧f a=some r:=by
 obtain ⟨a,h1,h2⟩:=Option.bind_eq_some_iff.mp h
 exact ⟨a,⟨h1⟩,h2⟩
theorem bindZ {α β:Type} {y z:α} (hz:Aside0 (z=y)) {f:α→Option β} {r:β} (h:(some y).bind f=some r):f z=some r:=hz.out ▸ h
theorem toY {α:Type} (y:α):∃ z,Aside0 (z=y):=⟨y,⟨rfl⟩⟩
theorem cbl {w W:World} {a:Addr} {v:Value} (hb:Aside0 (Below w.heap.size w W)) (h:w.cell? a=some v):W.cell? a=some v:=(hb.out.cell (World.block_lt_of_cell? w _ h)).trans h
theorem geB {w W:World} {g:Nat} (hg:g=W.heap.size) (h:Below w.heap.size w W):Aside0 (w.heap.size≤g):=⟨by rw [hg];exact below_size h⟩
section
variable {P:Program} {ops:Array Oper} {rest:List Oper} {o:Oper} {a:Act} {Q:Exit→Act→World→Prop} {md:Region.Mode} {S:World→Prop} {ds:List Nat} {W:World}
theorem boxF (N:Tmp) (cs:Array Value) (t:TypeId)
  (h:∀ g,g=W.heap.size→∀ w1,Aside0 (w1.heap[g]?=some (.cells cs t (0,0)))→Below W.heap.size W w1→wpList P ops Q rest (a.put o.dst (.pointer (some ⟨g,0,none⟩))) w1)
  (hd:o.dst=some N:=by rfl) (hgd:o.guard=none:=by rfl)
  (hrun:(execOp a.eval o).run P W=.ok (.value (.pointer (some ⟨W.heap.size,0,none⟩))) (W.alloc (.cells cs t (0,0))):=by first|(go_simp;done)|(go_simp;rfl)):wpList P ops Q (o :: rest) a W:=box_event hgd hd hrun fun g hg w1 hb=>h g hg w1 ⟨hb⟩
theorem gR (f:FuncId) (N:Option Tmp) {fn:Func} {as_:Array Operand} {ts:Array TypeId} {args:Array Value} {v:Value} {R:World→Prop} (hf:P.funcs[f]?=some fn) (hc:Calls P f args W fun e w'=>e=.returned v∧R w')
  (h:∀ w',R w'→wpList P ops Q rest (a.put N v) w')
  (hd:o.dst=N:=by rfl) (hop:o.op=.call { callee:=.value (.func f),args:=as_,argTypes:=ts }:=by rfl) (hg:o.guard=none:=by rfl) (hname:(fn.name == "runtime.NumGoroutine")=false:=by kernel_rfl) (hb:fn.body.isSome=true:=by rfl)
  (hargs:as_.map a.eval=args:=by (try simp only [List.map_toArray,List.map_cons,List.map_nil]);first|done|rfl|(simp only [List.length_drop,List.length_take];rfl)):wpList P ops Q (o :: rest) a W:=
 goesL_ N hd hg hf hname hb args hop hargs (hc.mono fun _ w' z=>⟨v,z.1,h w' z.2⟩)
theorem gV (f:FuncId) (N:Option Tmp) {fn:Func} {as_:Array Operand} {ts:Array TypeId} {args:Array Value} {β:Type} {V:β→Value} {R:β→World→Prop} (hf:P.funcs[f]?=some fn) (hc:Calls P f args W fun e w'=>∃ v,e=.returned (V v)∧R v w')
  (h:∀ v w',R v w'→wpList P ops Q rest (a.put N (V v)) w')
  (hd:o.dst=N:=by rfl) (hop:o.op=.call { callee:=.value (.func f),args:=as_,argTypes:=ts }:=by rfl) (hg:o.guard=none:=by rfl) (hname:(fn.name == "runtime.NumGoroutine")=false:=by kernel_rfl) (hb:fn.body.isSome=true:=by rfl)
  (hargs:as_.map a.eval=args:=by (try simp only [List.map_toArray,List.map_cons,List.map_nil]);first|done|rfl|(simp only [List.length_drop,List.length_take];rfl)):wpList P ops Q (o :: rest) a W:=
 goesL_ N hd hg hf hname hb args hop hargs (hc.mono fun _ w' z=>by obtain ⟨v,z1,z2⟩:=z;exact ⟨V v,z1,h v w' z2⟩)
theorem oneZ (i:Nat) (N:Option Tmp) {oi:Oper} {fuel:Nat} {l:Array Bool} (l':Array Bool)
  (h:∀ K:Act→World→Prop,Shut (∀ a' w',S w'→(S w'→wpAnyLast P md ops Q S ds fuel l' a' w')→K a' w')→if Region.wanted oi (yielded ops a.tmps)=true then Oper.wp P oi a W K Q else K (a.put N undef) W)
  (hi:ops[i]?=some oi:=by rfl) (hN:oi.dst=N:=by rfl) (hc:readyB md ops l l' i=true:=by exact one_of HT_.out (by kernel_rfl)) (hd:i ∉ ds:=by decide):wpAnyLast P md ops Q S ds (fuel+1) l a W:=one_ l' hi hN hc hd h
theorem nZ (N:Tmp) {fuel:Nat} {l:Array Bool} {b a':Act} {v:Value} (h:wpAnyLast P md ops Q S ds fuel l a' W) (hb:a=b.put (some N) v:=by rfl) (ha:b.put (some N) v=a':=by (simp only [Act.put,List.setIfInBounds_toArray,List.set_cons_zero,List.set_cons_succ,i64_w,i32_w];rfl)):wpAnyLast P md ops Q S ds fuel l a W:=norm_ (hb.trans ha) h
theorem pureZ (i:Nat) (N:Option Tmp) {v:Value} {fuel:Nat} {l:Array Bool} (l':Array Bool) {a':Act}
  (h:wpAnyLast P md ops Q S ds fuel l' a' W) (hi:ops[i]?=some o:=by rfl) (hN:o.dst=N:=by rfl) (hc:anyB md ops l l' i=true:=by exact any_of HT_.out (by kernel_rfl))
  (hQ:∀ c a w,Q (.panic c) (a.put o.dst v) w→Q (.panic c) a w:=by exact fun _ _ _ h=>h)
  (hy:Yields P ops o v a:=by exact Or.inl ⟨by rfl,by intro w';go_simp;with_reducible rfl⟩)
  (ha:a.put N v=a':=by (simp only [Act.put,List.setIfInBounds_toArray,List.set_cons_zero,List.set_cons_succ,i64_w,i32_w];rfl)):wpAnyLast P md ops Q S ds (fuel+1) l a W:=pure_ l' hi hN hc hQ hy ha h
theorem pureY (i:Nat) (N:Option Tmp) {v:Value} {fuel:Nat} {l:Array Bool} (l':Array Bool) {a':Act}
  (h:wpAnyLast P md ops Q S ds fuel l' a' W) (hi:ops[i]?=some o:=by rfl) (hN:o.dst=N:=by rfl) (hc:anyB md ops l l' i=true:=by kernel_rfl)
  (hQ:∀ c a w,Q (.panic c) (a.put o.dst v) w→Q (.panic c) a w:=by exact fun _ _ _ h=>h)
  (hy:Yields P ops o v a:=by exact Or.inl ⟨by rfl,by intro w';go_simp;with_reducible rfl⟩)
  (ha:a.put N v=a':=by (simp only [Act.put,List.setIfInBounds_toArray,List.set_cons_zero,List.set_cons_succ,i64_w,i32_w];rfl)):wpAnyLast P md ops Q S ds (fuel+1) l a W:=pure_ l' hi hN hc hQ hy ha h
theorem takeZ2 (i:Nat) (N:Option Tmp) {v:Value} {fuel:Nat} {l:Array Bool} (l':Array Bool) (hS:S W) {a':Act}
  (h:wpAnyLast P md ops Q S ds fuel l' a' W) (hi:ops[i]?=some o:=by rfl) (hN:o.dst=N:=by rfl) (hc:takeB md ops ds l l' i=true:=by exact take_ofW HT_.out HW_.out (by kernel_rfl))
  (hQ:∀ c a w,Q (.panic c) (a.put o.dst v) w→Q (.panic c) a w:=by exact fun _ _ _ h=>h)
  (hy:YieldsIf P ops S o v a:=by exact Or.inl ⟨by rfl,by rintro w' ⟨s0,s1⟩;go_simp;with_reducible rfl⟩)
  (ha:a.put N v=a':=by (simp only [Act.put,List.setIfInBounds_toArray,List.set_cons_zero,List.set_cons_succ,i64_w,i32_w];rfl)):wpAnyLast P md ops Q S ds (fuel+1) l a W:=take_ l' hi hN hc hQ hy hS ha h
theorem takeZ4 (i:Nat) (N:Option Tmp) {v:Value} {fuel:Nat} {l:Array Bool} (l':Array Bool) (hS:S W) {a':Act}
  (h:wpAnyLast P md ops Q S ds fuel l' a' W) (hi:ops[i]?=some o:=by rfl) (hN:o.dst=N:=by rfl) (hc:takeB md ops ds l l' i=true:=by exact take_ofW HT_.out HW_.out (by kernel_rfl))
  (hQ:∀ c a w,Q (.panic c) (a.put o.dst v) w→Q (.panic c) a w:=by exact fun _ _ _ h=>h)
  (hy:YieldsIf P ops S o v a:=by exact Or.inl ⟨by rfl,by rintro w' ⟨s0,s1,s2,s3⟩;go_simp;with_reducible rfl⟩)
  (ha:a.put N v=a':=by (simp only [Act.put,List.setIfInBounds_toArray,List.set_cons_zero,List.set_cons_succ,i64_w,i32_w];rfl)):wpAnyLast P md ops Q S ds (fuel+1) l a W:=take_ l' hi hN hc hQ hy hS ha h
theorem takeZ6 (i:Nat) (N:Option Tmp) {v:Value} {fuel:Nat} {l:Array Bool} (l':Array Bool) (hS:S W) {a':Act}
  (h:wpAnyLast P md ops Q S ds fuel l' a' W) (hi:ops[i]?=some o:=by rfl) (hN:o.dst=N:=by rfl) (hc:takeB md ops ds l l' i=true:=by exact take_ofW HT_.out HW_.out (by kernel_rfl))
  (hQ:∀ c a w,Q (.panic c) (a.put o.dst v) w→Q (.panic c) a w:=by exact fun _ _ _ h=>h)
  (hy:YieldsIf P ops S o v a:=by exact Or.inl ⟨by rfl,by rintro w' ⟨s0,s1,s2,s3,s4,s5⟩;go_simp;with_reducible rfl⟩)
  (ha:a.put N v=a':=by (simp only [Act.put,List.setIfInBounds_toArray,List.set_cons_zero,List.set_cons_succ,i64_w,i32_w];rfl)):wpAnyLast P md ops Q S ds (fuel+1) l a W:=take_ l' hi hN hc hQ hy hS ha h
end
theorem cf2 {w:World} {g:Nat} {t:TypeId} {x0 x1:Value} (h:Aside0 (w.heap[g]?=some (.cells #[x0,x1] t (0,0)))):w.cell? ⟨g,0,none⟩=some x0∧w.cell? ⟨g,1,none⟩=some x1∧w.frozen? ⟨g,0,none⟩=false∧w.frozen? ⟨g,1,none⟩=false:=⟨(blk_cell h.out 0).trans rfl,(blk_cell h.out 1).trans rfl,blk_frozen h.out 0,blk_frozen h.out 1⟩
theorem cf3 {w:World} {g:Nat} {t:TypeId} {x0 x1 x2:Value} (h:Aside0 (w.heap[g]?=some (.cells #[x0,x1,x2] t (0,0)))):w.cell? ⟨g,0,none⟩=some x0∧w.cell? ⟨g,1,none⟩=some x1∧w.cell? ⟨g,2,none⟩=some x2∧w.frozen? ⟨g,0,none⟩=false∧w.frozen? ⟨g,1,none⟩=false∧w.frozen? ⟨g,2,none⟩=false:=⟨(blk_cell h.out 0).trans rfl,(blk_cell h.out 1).trans rfl,(blk_cell h.out 2).trans rfl,blk_frozen h.out 0,blk_frozen h.out 1,blk_frozen h.out 2⟩
abbrev yT:Bool:=true
abbrev yF:Bool:=false
theorem A_ {p:Prop} (h:p):Aside0 p:=⟨h⟩
abbrev bS:=@below_step
abbrev bB:=@blk_below
abbrev rB:=@Kd.R_below
abbrev gD:=@gate_dst
abbrev sI:=@Option.some.inj
abbrev dT:=@decide_eq_true
abbrev dF:=@decide_eq_false
section
variable {α:Type} {r:α} {x y:Option α} {c:Prop} {i:Decidable c}
theorem iteN (h:(if c then x else none)=some r):c∧x=some r:=by
 by_cases hc:c
 ·rw [if_pos hc] at h;exact ⟨hc,h⟩
 ·rw [if_neg hc] at h;cases h
theorem iteE (h:(if c then x else y)=some r):(c∧x=some r)∨(¬ c∧y=some r):=by
 by_cases hc:c
 ·rw [if_pos hc] at h;exact .inl ⟨hc,h⟩
 ·rw [if_neg hc] at h;exact .inr ⟨hc,h⟩
theorem iteB {b:Bool} (h:(if b=true then x else y)=some r):(b=true∧x=some r)∨(b=false∧y=some r):=by cases b <;> simpa using h
theorem iteNd (h:(if c then x else none)=some r):decide c=true∧x=some r:=⟨decide_eq_true (iteN h).1,(iteN h).2⟩
theorem iteEd (h:(if c then x else y)=some r):(decide c=true∧x=some r)∨(decide c=false∧y=some r):=(iteE h).imp (fun z=>⟨decide_eq_true z.1,z.2⟩) (fun z=>⟨decide_eq_false z.1,z.2⟩)
end
section
variable {α:Type} {r:α} {x y:Option α} {a b:Int}
theorem gtT (h:a > b):decide (b < a)=true:=decide_eq_true h
theorem gtF (h:¬ a > b):decide (b < a)=false:=decide_eq_false h
theorem geT (h:a ≥ b):decide (b≤a)=true:=decide_eq_true h
theorem geF (h:¬ a ≥ b):decide (b≤a)=false:=decide_eq_false h
theorem iteEg {i:Decidable (a > b)} (h:(if a > b then x else y)=some r):(@decide (b < a) (Int.decLt b a)=true∧x=some r)∨(@decide (b < a) (Int.decLt b a)=false∧y=some r):=(iteE h).imp (fun z=>⟨gtT z.1,z.2⟩) (fun z=>⟨gtF z.1,z.2⟩)
theorem iteEe {i:Decidable (a ≥ b)} (h:(if a ≥ b then x else y)=some r):(@decide (b≤a) (Int.decLe b a)=true∧x=some r)∨(@decide (b≤a) (Int.decLe b a)=false∧y=some r):=(iteE h).imp (fun z=>⟨geT z.1,z.2⟩) (fun z=>⟨geF z.1,z.2⟩)
end
section
variable {α β:Type} [BEq β] [LawfulBEq β] {r:α} {x y:Option α} {a b:β}
theorem eqT (h:a=b):(a == b)=true∧(a != b)=false:=⟨beq_iff_eq.mpr h,bne_eq_false_iff_eq.mpr h⟩
theorem eqF (h:¬ a=b):(a == b)=false∧(a != b)=true:=⟨beq_eq_false_iff_ne.mpr h,bne_iff_ne.mpr h⟩
theorem iteEq {i:Decidable (a=b)} (h:(if a=b then x else y)=some r):((a == b)=true∧(a != b)=false∧x=some r)∨((a == b)=false∧(a != b)=true∧¬ a=b∧y=some r):=
 (iteE h).imp (fun z=>⟨(eqT z.1).1,(eqT z.1).2,z.2⟩) (fun z=>⟨(eqF z.1).1,(eqF z.1).2,z.1,z.2⟩)
end
theorem atB {P Q R:Prop} [Decidable P] [Decidable Q] (f:P→Q→R) (p:decide P=true:=by first|(with_reducible assumption)|assumption) (q:decide Q=true:=by first|(with_reducible assumption)|assumption):R∧(P=True)∧(Q=True):=
 ⟨f (of_decide_eq_true p) (of_decide_eq_true q),eq_true (of_decide_eq_true p),eq_true (of_decide_eq_true q)⟩
section
variable {P:Program} {f:FuncId} {args:Array Value} {w:World} {S:Value→World→Prop}
end
section
variable {w W:World} {a b c d:Addr} {s t u v:Value} (hb:Aside0 (Below w.heap.size w W)) (h1:w.cell? a=some s) (h2:w.cell? b=some t) (h3:w.cell? c=some u) (h4:w.cell? d=some v)
include hb h1 h2
theorem cb2:W.cell? a=some s∧W.cell? b=some t:=⟨cbl hb h1,cbl hb h2⟩
include h3
theorem cb3:W.cell? a=some s∧W.cell? b=some t∧W.cell? c=some u:=⟨cbl hb h1,cbl hb h2,cbl hb h3⟩
include h4
end
theorem zz0 {B:Prop} (f:B:=by first|rfl|(simp only [i64_w,i32_w];done)|(simp only [aid_isEmpty,aid_isEmpty2];done)|(simp;done)|(simp [*];done)):B:=f
theorem zz1 {B A0:Prop} (a0:Aside0 A0) (f:A0→B:=by intro g0_;repeat (first|(with_reducible first|exact g0_|apply below_alloc|apply pw_below_drewN|apply below_drew1)|exact g0_)):B:=f a0.out
theorem zz3 {B:Prop} (f:B:=by first|rfl|(simp [errW_none,errW_some] <;> rfl)|(simp [*,errW_none,errW_some] <;> rfl)):B:=f
theorem zz5 {B A0:Prop} (a0:Aside0 A0) (f:A0→B:=by intro g0_;have:=g0_;omega):B:=f a0.out
theorem zz6 {B:Prop} (f:B:=by repeat (first|exact Drawn0.refl _|apply Drawn0.step)):B:=f
theorem zz8 {B:Prop} (f:B:=by first|rfl|(simp only [i64_w,i32_w];done)|(simp only [aid_isEmpty,aid_isEmpty2];done)|(simp;done)|((simp only [← hji9] <;> (first|rfl|simp));done)|(simp [*];done)):B:=f
theorem zz9 {B:Prop} (f:B:=by first|(go_simp;done)|(go_simp;rfl)):B:=f
theorem zz10 {B A0:Prop} (a0:Aside0 A0) (f:A0→B:=by intro g0_;first|(with_reducible exact g0_)|((with_reducible repeat (first|apply Kd.R_alloc|apply Kd.R_drewN|apply Kd.R_drew));exact g0_)):B:=f a0.out
theorem zz13 {B A0:Prop} (a0:Aside0 A0) (f:A0→B:=by intro g0_;repeat (first|(with_reducible first|exact g0_|apply Kept.alloc|apply Kept.drewN|apply Kept.drew)|exact g0_)):B:=f a0.out
theorem zz24 {B:Prop} (f:B:=by (try simp only [List.map_toArray,List.map_cons,List.map_nil]);first|done|rfl|(simp only [List.length_drop,List.length_take];rfl)):B:=f
theorem zz27 {B A0 A1:Prop} (a0:Aside0 A0) (a1:Aside0 A1) (f:A0→A1→B:=by intro g0_ g1_;repeat (first|exact (Kd.C_below g0_ g1_)|(with_reducible refine Kd.C_alloc ?_ _)|(with_reducible refine Kd.C_drewN ?_ _)|(with_reducible refine Kd.C_drew ?_))):B:=f a0.out a1.out
theorem zz30 {B A0 A1:Prop} (a0:Aside0 A0) (a1:Aside0 A1) (f:A0→A1→B:=by intro g0_ g1_;repeat (first|(with_reducible first|exact g0_|apply below_alloc|apply pw_below_drewN|apply below_drew1|refine below_set ?_ g1_)|exact g0_)):B:=f a0.out a1.out
theorem zz31 {B A0:Prop} (a0:Aside0 A0) (f:A0→B:=by intro g0_;first|(with_reducible exact g0_)|((with_reducible repeat (first|apply blk_drewN|apply blk_drew|apply blk_alloc));exact g0_)):B:=f a0.out
theorem zz32 {B A0 A1 A2:Prop} (a0:Aside0 A0) (a1:Aside0 A1) (a2:Aside0 A2) (f:A0→A1→A2→B:=by intro g0_ g1_ g2_;repeat (first|(with_reducible first|exact g0_|apply below_alloc|apply pw_below_drewN|apply below_drew1|refine below_set ?_ g1_|refine below_set ?_ g2_)|exact g0_)):B:=f a0.out a1.out a2.out
theorem zz34 {B:Prop} (f:B:=by first|omega|exact Nat.le_refl _):B:=f
theorem zz37 {B A0 A1:Prop} (a0:Aside0 A0) (a1:Aside0 A1) (f:A0→A1→B:=by intro g0_ g1_;have:=g0_;have:=g1_;omega):B:=f a0.out a1.out
end Go.Proofs.YthojbccgnlcblaaDoor.P
end
section
namespace Go.Proofs.YthojbccgnlcblaaDoor.P
open Go.RowKit Go.Proofs.YthojbccgnlcblaaDoorW.PrintWords Go.Proofs.YthojbccgnlcblaaDoorW.PrintLast Go.Proofs.YthojbccgnlcblaaDoorW.PrintMore
attribute [local go_sem] max2_int min2_int max_two min_two max_three min_three max_four min_four
set_option linter.unusedVariables false
set_option linter.unusedSimpArgs false
set_option maxHeartbeats 8000000
set_option maxRecDepth 100000
def spec_l2Num.l0:Nat→ByteArray→Int→Int→Int→Option (Int)
 | 0,_,_,_,_=>none
 | k+1,x0,x1,x5,x6=>if x6 < (x0.size:Int) then (if 0≤x6 then (if (bt x0 x6) < 48 then (some 0) else (if (bt x0 x6) > 57 then (some 0) else (spec_l2Num.l0 k x0 x1 (mn (wrap64 ((wrap64 (x5 * 10))+(((bt x0 x6) - 48) % 256))) x1) (wrap64 (x6+1))))) else (none)) else (some x5)
def spec_l2Num.f (k:Nat) (a0:ByteArray) (a1:Int):Option (Int):=spec_l2Num.l0 k a0 a1 0 0
theorem spec_l2Num.mono_l:∀ k,(∀ y0 y1 y2 y3,LeO (spec_l2Num.l0 k y0 y1 y2 y3) (spec_l2Num.l0 (k+1) y0 y1 y2 y3))
 | 0=>by intros;intro r h;simp [spec_l2Num.l0] at h
 | k+1=>by
  have ih0:=spec_l2Num.mono_l k;intros;unfold spec_l2Num.l0;repeat' first|(with_reducible first|exact ih0 _ _ _ _|exact LeO.refl _|exact LeO.none _|refine LeO.ite ?_ ?_|refine LeO.bind ?_ (fun _=>?_))|exact LeO.none _|refine LeO.ite ?_ ?_|refine LeO.bind ?_ (fun _=>?_)
theorem spec_l2Num.mono:∀ a0 a1 k,LeO (spec_l2Num.f k a0 a1) (spec_l2Num.f (k+1) a0 a1):=by
 intro a0 a1 k;have ih0:=spec_l2Num.mono_l k;unfold spec_l2Num.f
 repeat' first|(with_reducible first|exact ih0 _ _ _ _|exact LeO.refl _|exact LeO.none _|refine LeO.ite ?_ ?_|refine LeO.bind ?_ (fun _=>?_))|exact LeO.none _|refine LeO.ite ?_ ?_|refine LeO.bind ?_ (fun _=>?_)
theorem spec_l2Num.calls (k:Nat) (a0:ByteArray) (a1:Int) (r:Int) (w:World) (h:spec_l2Num.f k a0 a1=some r) :
  Calls Tryd.prog 34 #[.string a0,.int .i64 a1] w fun e w'=>e=.returned (.int .i64 r)∧Below w.heap.size w w':=by
 have HB:=A_ (Below.refl w.heap.size w);unfold spec_l2Num.f at h
 have H:=h;clear h;have H':=A_ H;clear H;go_enter Tryd.func34,Tryd.ntmps34;go_wp2
 go_loopg [5,6] k (fun kq v5 v6 w'=>∃ (x5_1:Int) (x6_1:Int),v5=.int .i64 x5_1∧v6=.int .i64 x6_1∧Aside0 (spec_l2Num.l0 kq a0 a1 x5_1 x6_1=some r)∧Aside0 (kq≤k)∧Aside0 (Below w.heap.size w w'))
 case atStart=>exact ⟨(0),(0),zz0,zz0,H',⟨Nat.le_refl _⟩,⟨(zz1 HB)⟩⟩
 case round=>
  clear H';obtain ⟨x5_1,x6_1,rfl,rfl,HA,HK1,HB⟩:=hrel;cases gk with
  | zero=>exact absurd HA.out (by simp [spec_l2Num.l0])
  | succ k1=>
   obtain ⟨H⟩:=HA;simp only [spec_l2Num.l0] at H
   replace H:=iteEd H;rcases H with ⟨c3b0,H⟩|⟨c3b0,H⟩
   ·replace H:=iteNd H
    obtain ⟨c4b0,H⟩:=H;replace H:=iteEd H;rcases H with ⟨c6b0,H⟩|⟨c6b0,H⟩
    ·obtain rfl:=sI H
     have p5:0≤(x6_1:Int):=ofD;have q5:x6_1 < (a0.size:Int):=ofD;have hx5:=bt_at a0 x6_1;replace p5:=eq_true p5;replace q5:=eq_true q5;go_wp2
     go_ret
     exact ⟨zz3,(zz1 HB)⟩
    ·replace H:=iteEg H
     rcases H with ⟨c8b0,H⟩|⟨c8b0,H⟩
     ·obtain rfl:=sI H
      have p5:0≤(x6_1:Int):=ofD;have q5:x6_1 < (a0.size:Int):=ofD;have hx5:=bt_at a0 x6_1;replace p5:=eq_true p5;replace q5:=eq_true q5;have p7:0≤(x6_1:Int):=ofD;have q7:x6_1 < (a0.size:Int):=ofD;have hx7:=bt_at a0 x6_1;replace p7:=eq_true p7;replace q7:=eq_true q7;go_wp2
      go_ret
      exact ⟨zz3,(zz1 HB)⟩
     ·obtain ⟨ji10,hji10⟩:∃ j_:Int,(mn (wrap64 ((wrap64 (x5_1 * 10))+(((bt a0 x6_1) - 48) % 256))) a1)=j_:=⟨_,rfl⟩
      (first|rw [hji10] at H|simp only [hji10] at H)
      have hji10_:(if a1 < (wrap64 ((wrap64 (x5_1 * 10))+(((bt a0 x6_1) - 48) % 256))) then a1 else (wrap64 ((wrap64 (x5_1 * 10))+(((bt a0 x6_1) - 48) % 256))))=ji10:=hji10;have H':=A_ H;clear H;have p5:0≤(x6_1:Int):=ofD;have q5:x6_1 < (a0.size:Int):=ofD;have hx5:=bt_at a0 x6_1;replace p5:=eq_true p5;replace q5:=eq_true q5;have p7:0≤(x6_1:Int):=ofD;have q7:x6_1 < (a0.size:Int):=ofD;have hx7:=bt_at a0 x6_1;replace p7:=eq_true p7;replace q7:=eq_true q7;have p9:0≤(x6_1:Int):=ofD;have q9:x6_1 < (a0.size:Int):=ofD;have hx9:=bt_at a0 x6_1;replace p9:=eq_true p9;replace q9:=eq_true q9;go_wp2
      go_roundg k1
      case measure=>have:=HK1.out;omega
      case rel=>exact ⟨(ji10),(wrap64 (x6_1+1)),(by first|rfl|(simp only [i64_w,i32_w];done)|(simp only [aid_isEmpty,aid_isEmpty2];done)|(simp;done)|((simp only [← hji10] <;> (first|rfl|simp));done)|(simp [*];done)),zz0,H',⟨(zz5 HK1)⟩,⟨(zz1 HB)⟩⟩
   ·obtain rfl:=sI H
    go_wp2
    go_ret
    exact ⟨zz3,(zz1 HB)⟩
def spec_l1Cut.l0:Nat→ByteArray→Int→Int→Option (ByteArray×ByteArray×Bool)
 | 0,_,_,_=>none
 | k+1,x0,x1,x7=>if x7 < (x0.size:Int) then (if 0≤x7 then (if (bt x0 x7)=x1 then (if x7≤(x0.size:Int) then (if 0≤(wrap64 (x7+1)) then (if (wrap64 (x7+1))≤(x0.size:Int) then (some (x0.extract 0 (x7:Int).toNat,x0.extract ((wrap64 (x7+1)):Int).toNat x0.size,true)) else (none)) else (none)) else (none)) else (spec_l1Cut.l0 k x0 x1 (wrap64 (x7+1)))) else (none)) else (some (x0,(⟨#[]⟩:ByteArray),false))
def spec_l1Cut.f (k:Nat) (a0:ByteArray) (a1:Int):Option (ByteArray×ByteArray×Bool):=spec_l1Cut.l0 k a0 a1 0
theorem spec_l1Cut.calls (k:Nat) (a0:ByteArray) (a1:Int) (r1:ByteArray) (r2:ByteArray) (r3:Bool) (w:World) (h:spec_l1Cut.f k a0 a1=some (r1,r2,r3)) :
  Calls Tryd.prog 15 #[.string a0,.int .u8 a1] w fun e w'=>e=.returned (.tuple #[.string r1,.string r2,.bool r3])∧Drawn0 w w':=by
 unfold spec_l1Cut.f at h
 have H:=h;clear h;have H':=A_ H;clear H;go_enter Tryd.func15,Tryd.ntmps15;go_wp2
 repeat (go_quiet (fail);try go_wp2)
 go_loopg [7] k (fun kq v7 w'=>∃ (x7_1:Int),v7=.int .i64 x7_1∧Aside0 (spec_l1Cut.l0 kq a0 a1 x7_1=some (r1,r2,r3))∧Aside0 (kq≤k)∧Drawn0 w w')
 case atStart=>exact ⟨(0),zz0,H',⟨Nat.le_refl _⟩,zz6⟩
 case round=>
  clear H';obtain ⟨x7_1,rfl,HA,HK1,⟨m1,rfl⟩⟩:=hrel;cases gk with
  | zero=>exact absurd HA.out (by simp [spec_l1Cut.l0])
  | succ k1=>
   obtain ⟨H⟩:=HA;simp only [spec_l1Cut.l0] at H
   replace H:=iteEd H;rcases H with ⟨c3b0,H⟩|⟨c3b0,H⟩
   ·replace H:=iteNd H
    obtain ⟨c4b0,H⟩:=H;replace H:=iteEq H;rcases H with ⟨c6b0,c6b1,H⟩|⟨c6b0,c6b1,c6,H⟩
    ·have c7b0:=eq_true (ofD:0≤x7_1)
     replace H:=iteN H;obtain ⟨c8,H⟩:=H;have c8b0:=eq_true c8;have c8b1:=dT c8;clear c8;obtain ⟨ji9,hji9⟩:∃ j_:Int,(wrap64 (x7_1+1))=j_:=⟨_,rfl⟩;(first|rw [hji9] at H|simp only [hji9] at H)
     have hji9w:(IntKind.i64.wrap (x7_1+1))=ji9:=(i64_w _).trans hji9;replace H:=iteN H;obtain ⟨c10,H⟩:=H;have c10b0:=eq_true c10;have c10b1:=dT c10;clear c10;replace H:=iteN H;obtain ⟨c11,H⟩:=H;have c11b0:=eq_true c11;have c11b1:=dT c11;clear c11;simp only [Option.some.injEq,Prod.mk.injEq] at H
     obtain ⟨rfl,rfl,rfl⟩:=H;have p5:0≤(x7_1:Int):=ofD;have q5:x7_1 < (a0.size:Int):=ofD;have hx5:=bt_at a0 x7_1;replace p5:=eq_true p5;replace q5:=eq_true q5;go_wp2
     repeat (go_quiet (fail);try go_wp2)
     go_ret3
     exact ⟨zz8,zz6⟩
    ·have H':=A_ H
     clear H;have p5:0≤(x7_1:Int):=ofD;have q5:x7_1 < (a0.size:Int):=ofD;have hx5:=bt_at a0 x7_1;replace p5:=eq_true p5;replace q5:=eq_true q5;go_wp2
     repeat (go_quiet (fail);try go_wp2)
     go_roundg k1
     case measure=>have:=HK1.out;omega
     case rel=>exact ⟨(wrap64 (x7_1+1)),zz0,H',⟨(zz5 HK1)⟩,zz6⟩
   ·simp only [Option.some.injEq,Prod.mk.injEq] at H
    obtain ⟨rfl,rfl,rfl⟩:=H;go_wp2
    repeat (go_quiet (fail);try go_wp2)
    go_ret3
    exact ⟨zz0,zz6⟩
def spec_l1Split.l0:Nat→Int→List ByteArray→ByteArray→Bool→Option (List ByteArray)
 | 0,_,_,_,_=>none
 | k+1,x1,x5,x6,x7=>if x7=true then ((spec_l1Cut.f k x6 x1).bind fun bt104=>(if x5.length < 8796093022208 then (spec_l1Split.l0 k x1 (x5++[bt104.1]) bt104.2.1 bt104.2.2) else (none))) else (some x5)
def spec_l1Split.f (k:Nat) (a0:ByteArray) (a1:Int):Option (List ByteArray):=spec_l1Split.l0 k a1 (([]:List ByteArray)) a0 true
theorem spec_l1Split.calls (k:Nat) (a0:ByteArray) (a1:Int) (r:List ByteArray) (w:World) (h:spec_l1Split.f k a0 a1=some r) :
  Calls Tryd.prog 14 #[.string a0,.int .u8 a1] w fun e w'=>∃ v0_:Value,e=.returned (v0_)∧Kd.R Kd.string 9 w' w.heap.size (fun _=>True) v0_ r∧Below w.heap.size w w':=by
 have HB:=A_ (Below.refl w.heap.size w);unfold spec_l1Split.f at h
 have H:=h;clear h;obtain ⟨y101,Ny101⟩:=toY (([]:List ByteArray));(first|with_reducible replace H:=bindZ Ny101 H|rw [← Ny101.out] at H|skip)
 have H':=A_ H;clear H;go_enter Tryd.func14,Tryd.ntmps14;go_wp2_with (first|((with_reducible refine gD (N:=9) rfl ?_);refine Kd.R_lit Kd.string _ 9 ?hg (N:=9) ?hd (xs:=([]:List ByteArray)) (inner:=[]) (ok:=fun _=>True) (okp:=fun _=>True) ?hr ?hp (fun _ hk=>hk) trivial (Below.refl _ _) (Nat.le_refl _) (by simp) ?_;(case hd=>rfl);(case hg=>rfl);(case hr=>exact zz9);(case hp=>exact (Reps.none _ _));intro v102 w3 ho4 hb hg_ hnew_;clear hg_ hnew_;(first|rw [← Ny101.out] at ho4|(simp only [Int.reduceToNat] at ho4;rw [← Ny101.out] at ho4));have HO103:=A_ (Kd.R_lower ho4 (below_size (zz1 HB)));replace HB:=A_ (bS (zz1 HB) hb);clear hb ho4))
 go_loopg [5,6,7] k (fun kq v5 v6 v7 w'=>∃ (x5_1:List ByteArray) (x6_1:ByteArray) (x7_1:Bool),v6=.string x6_1∧v7=.bool x7_1∧Aside0 (spec_l1Split.l0 kq a1 x5_1 x6_1 x7_1=some r)∧Aside0 (kq≤k)∧Aside0 (Kd.R Kd.string 9 w' w.heap.size (fun _=>True) v5 x5_1)∧Aside0 (Below w.heap.size w w'))
 case atStart=>exact ⟨(y101),(a0),(true),zz0,zz0,H',⟨Nat.le_refl _⟩,⟨(zz10 HO103)⟩,⟨(zz1 HB)⟩⟩
 case round=>
  clear H';obtain ⟨x5_1,x6_1,x7_1,rfl,rfl,HA,HK1,HO_5,HB⟩:=hrel;cases gk with
  | zero=>exact absurd HA.out (by simp [spec_l1Split.l0])
  | succ k1=>
   obtain ⟨H⟩:=HA;simp only [spec_l1Split.l0] at H
   replace H:=iteB H;rcases H with ⟨rfl,H⟩|⟨rfl,H⟩
   ·replace H:=bindA H
    obtain ⟨⟨t104,t105,t106⟩,A6,H⟩:=H;try dsimp only at H
    replace H:=iteN H;obtain ⟨c7,H⟩:=H;have LMc7:=A_ c7;clear c7;obtain ⟨y107,Ny107⟩:=toY (x5_1++[t104]);(first|with_reducible replace H:=bindZ Ny107 H|rw [← Ny107.out] at H|skip)
    have H':=A_ H;clear H;go_wp2_with (first|(refine gR 15 (some 15) Tryd.func15 (spec_l1Cut.calls k1 x6_1 a1 t104 t105 t106 _ A6.out) ?_;rintro w' ⟨nd,rfl⟩)|((with_reducible refine gate_builtin (b:=.append) (xs:=#[.tmp 19,.tmp 21]) rfl ?_);at_builtin;refine Kd.R_append Kd.string (w0:=w) w.heap.size rfl (.tmp 19) (.tmp 21) 29 9 (.string ⟨#[]⟩) 16 rfl Tryd.underlying29 info9 rfl (by decide) (by omega) u5 x5_1 t104 [.string t104] (fun _=>True) (fun _=>False) rfl rfl ?aP (fun _ hk=>hk.elim) ?aF ?aO ?aB ?aS ?aL ?_;(case aP=>exact rfl);(case aB=>exact (zz1 HB));(case aF=>exact (fun _ _=>trivial));(case aO=>exact (zz10 HO_5));(case aS=>exact (below_size (zz1 HB)));(case aL=>exact (zz5 LMc7));intro v108 w8 ho hb hg hat;rw [← Ny107.out] at ho;replace HB:=A_ (hb);have HO109:=A_ (ho);clear HO_5;clear ho hb hg hat))
    go_roundg k1
    case measure=>have:=HK1.out;omega
    case rel=>exact ⟨(y107),(t105),(t106),zz0,zz0,H',⟨(zz5 HK1)⟩,⟨(zz10 HO109)⟩,⟨(zz1 HB)⟩⟩
   ·obtain rfl:=sI H
    go_wp2
    go_ret
    exact ⟨_,zz3,(zz10 HO_5),(zz1 HB)⟩
def laws_markText.l0:Nat→Int→ByteArray→Option (ByteArray)
 | 0,_,_=>none
 | k+1,x0,x3=>if x0 > 0 then ((some (([(wrap64 (48+(Int.tmod x0 10))) % 256]:List Int):List Int)).bind fun y158=>(if (strOfNums y158).size+x3.size≤9223372036854775807 then (laws_markText.l0 k (wrap64 (Int.tdiv x0 10)) ((strOfNums y158)++x3)) else (none))) else (if 1+x3.size≤9223372036854775807 then (some ((⟨#[109]⟩:ByteArray)++x3)) else (none))
def laws_markText.f (k:Nat) (a0:Int):Option (ByteArray):=if a0≤0 then (some (⟨#[109,48]⟩:ByteArray)) else (laws_markText.l0 k a0 (⟨#[]⟩:ByteArray))
theorem laws_markText.mono_l:∀ k,(∀ y0 y1,LeO (laws_markText.l0 k y0 y1) (laws_markText.l0 (k+1) y0 y1))
 | 0=>by intros;intro r h;simp [laws_markText.l0] at h
 | k+1=>by
  have ih0:=laws_markText.mono_l k;intros;unfold laws_markText.l0;repeat' first|(with_reducible first|exact ih0 _ _|exact LeO.refl _|exact LeO.none _|refine LeO.ite ?_ ?_|refine LeO.bind ?_ (fun _=>?_))|exact LeO.none _|refine LeO.ite ?_ ?_|refine LeO.bind ?_ (fun _=>?_)
theorem laws_markText.mono:∀ a0 k,LeO (laws_markText.f k a0) (laws_markText.f (k+1) a0):=by
 intro a0 k;have ih0:=laws_markText.mono_l k;unfold laws_markText.f
 repeat' first|(with_reducible first|exact ih0 _ _|exact LeO.refl _|exact LeO.none _|refine LeO.ite ?_ ?_|refine LeO.bind ?_ (fun _=>?_))|exact LeO.none _|refine LeO.ite ?_ ?_|refine LeO.bind ?_ (fun _=>?_)
theorem laws_markText.calls (k:Nat) (a0:Int) (r:ByteArray) (w:World) (h:laws_markText.f k a0=some r) :
  Calls Tryd.prog 41 #[.int .i64 a0] w fun e w'=>e=.returned (.string r)∧Below w.heap.size w w':=by
 have HB:=A_ (Below.refl w.heap.size w);unfold laws_markText.f at h
 have H:=h;clear h;replace H:=iteEd H;rcases H with ⟨c2b0,H⟩|⟨c2b0,H⟩
 ·obtain rfl:=sI H
  go_enter Tryd.func41,Tryd.ntmps41;go_wp2
  go_ret
  exact ⟨zz3,(zz1 HB)⟩
 ·have H':=A_ H
  clear H;go_enter Tryd.func41,Tryd.ntmps41;go_wp2
  go_loopg [0,3] k (fun kq v0 v3 w'=>∃ (x0_1:Int) (x3_1:ByteArray),v0=.int .i64 x0_1∧v3=.string x3_1∧Aside0 (laws_markText.l0 kq x0_1 x3_1=some r)∧Aside0 (kq≤k)∧Aside0 (Below w.heap.size w w'))
  case atStart=>exact ⟨(a0),((⟨#[]⟩:ByteArray)),zz0,zz0,H',⟨Nat.le_refl _⟩,⟨(zz1 HB)⟩⟩
  case round=>
   clear H';obtain ⟨x0_1,x3_1,rfl,rfl,HA,HK1,HB⟩:=hrel;cases gk with
   | zero=>exact absurd HA.out (by simp [laws_markText.l0])
   | succ k1=>
    obtain ⟨H⟩:=HA;simp only [laws_markText.l0] at H
    replace H:=iteEg H;rcases H with ⟨c3b0,H⟩|⟨c3b0,H⟩
    ·obtain ⟨y158,Ny158⟩:=toY (([(wrap64 (48+(Int.tmod x0_1 10))) % 256]:List Int))
     (first|with_reducible replace H:=bindZ Ny158 H|rw [← Ny158.out] at H|skip)
     replace H:=iteN H;obtain ⟨c4,H⟩:=H;have c4b0:=eq_true c4;have c4b1:=dT c4;try have c4b2:(9223372036854775807 < (strOfNums y158).size+x3_1.size)=False:=eq_false (Nat.not_lt.2 c4)
     have H':=A_ H;clear H;go_wp2_with (first|((with_reducible refine gD (N:=12) rfl ?_);refine Kd.R_lit (Kd.int .u8) _ 5 ?hg (N:=12) ?hd (xs:=([(wrap64 (48+(Int.tmod x0_1 10))) % 256]:List Int)) (inner:=[.int .u8 ((wrap64 (48+(Int.tmod x0_1 10))) % 256)]) (ok:=fun _=>True) (okp:=fun _=>True) ?hr ?hp (fun _ hk=>hk) trivial (Below.refl _ _) (Nat.le_refl _) (by simp) ?_;(case hd=>rfl);(case hg=>rfl);(case hr=>exact zz9);(case hp=>exact (Reps.one (show Kd.M (Kd.int .u8) _ _ _ ((wrap64 (48+(Int.tmod x0_1 10))) % 256) [.int .u8 ((wrap64 (48+(Int.tmod x0_1 10))) % 256)] from rfl) (Reps.none _ _)));intro v159 w5 ho6 hb hg_ hnew_;clear hg_ hnew_;(first|rw [← Ny158.out] at ho6|(simp only [Int.reduceToNat] at ho6;rw [← Ny158.out] at ho6));have HO160:=A_ (Kd.R_lower ho6 (below_size (zz1 HB)));replace HB:=A_ (bS (zz1 HB) hb);clear hb ho6;have hcv7:=own_string (P:=Tryd.prog) Tryd.underlying27 Tryd.underlying5 Tryd.underlying9 (Kd.own_of_R HO160.out)))
     go_roundg k1
     case measure=>have:=HK1.out;omega
     case rel=>exact ⟨(wrap64 (Int.tdiv x0_1 10)),((strOfNums y158)++x3_1),zz0,zz0,H',⟨(zz5 HK1)⟩,⟨(zz1 HB)⟩⟩
    ·replace H:=iteE H
     rcases H with ⟨c8,H⟩|⟨c8,H⟩
     ·have c8b0:=eq_true c8
      have c8b1:=dT c8;try have c8b2:(9223372036854775807 < 1+x3_1.size)=False:=eq_false (Nat.not_lt.2 c8)
      obtain rfl:=sI H;go_wp2
      go_ret
      exact ⟨zz3,(zz1 HB)⟩
     ·exact absurd H (by simp)
def laws_markStringS.l0:Nat→List ByteArray→Int→Int→Option (Int×List ByteArray)
 | 0,_,_,_=>none
 | k+1,x0,x1,x5=>if x5 < (x0.length:Int) then ((laws_markText.f k x1).bind fun t161=>(if 0≤x5 then (laws_markStringS.l0 k (x0.set (x5:Int).toNat t161) (wrap64 (x1+1)) (wrap64 (x5+1))) else (none))) else (some (x1,x0))
def laws_markStringS.f (k:Nat) (l0:List ByteArray) (a1:Int):Option (Int×List ByteArray):=laws_markStringS.l0 k l0 a1 0
theorem laws_markStringS.mono_l:∀ k,(∀ y0 y1 y2,LeO (laws_markStringS.l0 k y0 y1 y2) (laws_markStringS.l0 (k+1) y0 y1 y2))
 | 0=>by intros;intro r h;simp [laws_markStringS.l0] at h
 | k+1=>by
  have ih0:=laws_markStringS.mono_l k;intros;unfold laws_markStringS.l0;repeat' first|(with_reducible first|exact ih0 _ _ _|exact laws_markText.mono _ _|exact LeO.refl _|exact LeO.none _|refine LeO.ite ?_ ?_|refine LeO.bind ?_ (fun _=>?_))|exact LeO.none _|refine LeO.ite ?_ ?_|refine LeO.bind ?_ (fun _=>?_)
theorem laws_markStringS.calls (k:Nat) (P0_:Nat→Prop) (u9000_:Value) (l0:List ByteArray) (a1:Int) (r1:Int) (r2:List ByteArray) (w0 w:World) (hB:Below w0.heap.size w0 w) (ho0:Kd.R Kd.string 9 w w0.heap.size P0_ u9000_ l0) (h:laws_markStringS.f k l0 a1=some (r1,r2)) :
  Calls Tryd.prog 21 #[u9000_,.int .i64 a1] w fun e w'=>e=.returned (.int .i64 r1)∧Kd.R Kd.string 9 w' w0.heap.size (fun k_=>(P0_ k_∨w.heap.size≤k_)) u9000_ r2∧Below w0.heap.size w0 w'∧Kept w w' (fun k_=>P0_ k_):=by
 have HO0:=A_ (show Kd.R Kd.string 9 w w0.heap.size (fun k_=>(P0_ k_∨w.heap.size≤k_)) u9000_ l0 from Kd.R_mono ho0 (fun k_ hk=>(.inl hk)));have HK:=A_ (Kept.refl w (fun k_=>P0_ k_));have HW0:=A_ hB.size;have HB:=A_ hB;clear hB;unfold laws_markStringS.f at h
 have H:=h;clear h;have H':=A_ H;clear H;go_enter Tryd.func21,Tryd.ntmps21;go_wp2
 go_loopg [1,5] k (fun kq v1 v5 w'=>∃ (x0_1:List ByteArray) (x1_1:Int) (x5_1:Int),v1=.int .i64 x1_1∧v5=.int .i64 x5_1∧Aside0 (laws_markStringS.l0 kq x0_1 x1_1 x5_1=some (r1,r2))∧Aside0 (kq≤k)∧Aside0 (Kd.R Kd.string 9 w' w0.heap.size (fun k_=>(P0_ k_∨w.heap.size≤k_)) u9000_ x0_1)∧Aside0 (Kept w w' (fun k_=>P0_ k_))∧Aside0 (Below w0.heap.size w0 w'))
 case atStart=>exact ⟨(l0),(a1),(0),zz0,zz0,H',⟨Nat.le_refl _⟩,⟨(zz10 HO0)⟩,⟨(zz13 HK)⟩,⟨(zz1 HB)⟩⟩
 case round=>
  clear H';obtain ⟨x0_1,x1_1,x5_1,rfl,rfl,HA,HK1,HO_0,HK,HB⟩:=hrel;cases gk with
  | zero=>exact absurd HA.out (by simp [laws_markStringS.l0])
  | succ k1=>
   obtain ⟨H⟩:=HA;simp only [laws_markStringS.l0] at H
   replace H:=iteEd H;rcases H with ⟨c3b0,H⟩|⟨c3b0,H⟩
   ·replace H:=bindA H
    obtain ⟨t161,A4,H⟩:=H;replace H:=iteNd H;obtain ⟨c5b0,H⟩:=H;obtain ⟨y162,Ny162⟩:=toY (x0_1.set (x5_1:Int).toNat t161);(first|with_reducible replace H:=bindZ Ny162 H|rw [← Ny162.out] at H|skip)
    have H':=A_ H;clear H;obtain ⟨Ao7,co7,eo7⟩:=Kd.R_slice HO_0.out;subst eo7;go_wp2_with (first|(refine gR 41 (some 15) Tryd.func41 (laws_markText.calls k1 x1_1 t161 _ A4.out) ?_;rintro w8 hb;replace HO_0:=A_ (rB (zz10 HO_0) hb);replace HK:=A_ (Kept.below (S:=(fun k_=>P0_ k_)) (zz13 HK) hb);replace HB:=A_ (bS (zz1 HB) hb);(try clear hb);have p6:0≤(x5_1:Int):=ofD;have q6:(x5_1:Int) < ((x0_1.length:Int):Int):=ofD;obtain ⟨go6,co6,eo6,gb6,gl6,cl6,HG6⟩:=Kd.R_form HO_0.out (by omega);(first|cases eo6|(injection eo6 with ea_ en_ ec_;(first|subst ea_|(injection ea_ with ea_;subst ea_));subst ec_;clear en_));have GB6:=A_ gb6;have GG6:=A_ HG6;clear gb6 gl6 HG6;have HMgo6:=A_ (show (P0_ go6∨w.heap.size≤go6) from (HO_0.out.1 _ rfl));obtain ⟨hx6_0,hf6_0⟩:=Kd.R_celln (⟨#[]⟩:ByteArray) HO_0.out (x5_1:Int) p6 q6;replace p6:=eq_true p6;replace q6:=eq_true q6;obtain ⟨hy9_,hz9_⟩:=Kd.R_celln (⟨#[]⟩:ByteArray) HO_0.out (x5_1:Int) ofD ofD;have HP9:=Kd.R_putg HO_0.out (x5_1:Int) t161)|((with_reducible refine gate_store (t:=9) (p:=16) rfl ?_);refine store_event (t:=9) (p:=16) (v:=?vo_w10) (w1:=(w8.setCell ⟨go6,(x5_1:Int).toNat,none⟩ (.string t161))) ?hg ?ho ?hn ?hr ?_;(case ho=>rfl);(case hg=>rfl);(case hn=>rfl);(case hr=>exact zz9);intro w10 hw;have hg:w8.grownBy w10 (some go6):=(by rw [hw];exact HP9.2);have hp_:Kd.R Kd.string 9 w10 w0.heap.size (fun k_=>(P0_ k_∨w.heap.size≤k_)) (.slice (some ⟨go6,0,none⟩) x0_1.length co7) y162:=(by rw [hw,Ny162.out];exact HP9.1);clear HP9;replace HB:=A_ ((by rw [hw];exact below_set (HB.out) GB6.out:Below w0.heap.size w0 w10));replace HK:=A_ (Kept.of_grown (S:=(fun k_=>P0_ k_)) hg (zz13 HK) (fun k_ e_=>(HO_0.out.1 k_ e_)));replace HO_0:=A_ (hp_);clear hg hw hp_))
    go_roundg k1
    case measure=>have:=HK1.out;omega
    case rel=>exact ⟨(y162),(wrap64 (x1_1+1)),(wrap64 (x5_1+1)),zz0,zz0,H',⟨(zz5 HK1)⟩,⟨(zz10 HO_0)⟩,⟨(zz13 HK)⟩,⟨(zz1 HB)⟩⟩
   ·simp only [Option.some.injEq,Prod.mk.injEq] at H
    obtain ⟨rfl,rfl⟩:=H;obtain ⟨Ao11,co11,eo11⟩:=Kd.R_slice HO_0.out;subst eo11;go_wp2
    go_ret
    exact ⟨zz3,(zz10 HO_0),(zz1 HB),(zz13 HK)⟩
def laws_markRuleS.l0:Nat→List (S34)→Int→Int→Option (Int×(List (S34)))
 | 0,_,_,_=>none
 | k+1,x0,x1,x5=>if x5 < (x0.length:Int) then (if 0≤x5 then ((some (x0.set (x5:Int).toNat (⟨((Int.tmod x1 3) == 0),(rd_T34 x0 x5).f1⟩:S34):List (S34))).bind fun y163=>((laws_markText.f k (wrap64 (x1+1))).bind fun t164=>(laws_markRuleS.l0 k (y163.set (x5:Int).toNat (⟨(rd_T34 y163 x5).f0,t164⟩:S34)) (wrap64 ((wrap64 (x1+1))+1)) (wrap64 (x5+1))))) else (none)) else (some (x1,x0))
def laws_markRuleS.f (k:Nat) (l0:List (S34)) (a1:Int):Option (Int×(List (S34))):=laws_markRuleS.l0 k l0 a1 0
theorem laws_markRuleS.calls (k:Nat) (P0_:Nat→Prop) (u9000_:Value) (l0:List (S34)) (a1:Int) (r1:Int) (r2:List (S34)) (w0 w:World) (hB:Below w0.heap.size w0 w) (ho0:Kd.R k34 34 w w0.heap.size P0_ u9000_ l0) (h:laws_markRuleS.f k l0 a1=some (r1,r2)) :
  Calls Tryd.prog 22 #[u9000_,.int .i64 a1] w fun e w'=>e=.returned (.int .i64 r1)∧Kd.R k34 34 w' w0.heap.size (fun k_=>(P0_ k_∨w.heap.size≤k_)) u9000_ r2∧Below w0.heap.size w0 w'∧Kept w w' (fun k_=>P0_ k_):=by
 have HO0:=A_ (show Kd.R k34 34 w w0.heap.size (fun k_=>(P0_ k_∨w.heap.size≤k_)) u9000_ l0 from Kd.R_mono ho0 (fun k_ hk=>(.inl hk)));have HK:=A_ (Kept.refl w (fun k_=>P0_ k_));have HW0:=A_ hB.size;have HB:=A_ hB;clear hB;unfold laws_markRuleS.f at h
 have H:=h;clear h;have H':=A_ H;clear H;go_enter Tryd.func22,Tryd.ntmps22;go_wp2
 go_loopg [1,5] k (fun kq v1 v5 w'=>∃ (x0_1:List (S34)) (x1_1:Int) (x5_1:Int),v1=.int .i64 x1_1∧v5=.int .i64 x5_1∧Aside0 (laws_markRuleS.l0 kq x0_1 x1_1 x5_1=some (r1,r2))∧Aside0 (kq≤k)∧Aside0 (Kd.R k34 34 w' w0.heap.size (fun k_=>(P0_ k_∨w.heap.size≤k_)) u9000_ x0_1)∧Aside0 (Kept w w' (fun k_=>P0_ k_))∧Aside0 (Below w0.heap.size w0 w'))
 case atStart=>exact ⟨(l0),(a1),(0),zz0,zz0,H',⟨Nat.le_refl _⟩,⟨(zz10 HO0)⟩,⟨(zz13 HK)⟩,⟨(zz1 HB)⟩⟩
 case round=>
  clear H';obtain ⟨x0_1,x1_1,x5_1,rfl,rfl,HA,HK1,HO_0,HK,HB⟩:=hrel;cases gk with
  | zero=>exact absurd HA.out (by simp [laws_markRuleS.l0])
  | succ k1=>
   obtain ⟨H⟩:=HA;simp only [laws_markRuleS.l0] at H
   replace H:=iteEd H;rcases H with ⟨c3b0,H⟩|⟨c3b0,H⟩
   ·replace H:=iteNd H
    obtain ⟨c4b0,H⟩:=H;obtain ⟨y163,Ny163⟩:=toY (x0_1.set (x5_1:Int).toNat (⟨((Int.tmod x1_1 3) == 0),(rd_T34 x0_1 x5_1).f1⟩:S34));(first|with_reducible replace H:=bindZ Ny163 H|rw [← Ny163.out] at H|skip)
    replace H:=bindA H;obtain ⟨t164,A6,H⟩:=H;obtain ⟨y165,Ny165⟩:=toY (y163.set (x5_1:Int).toNat (⟨(rd_T34 y163 x5_1).f0,t164⟩:S34));(first|with_reducible replace H:=bindZ Ny165 H|rw [← Ny165.out] at H|skip)
    have H':=A_ H;clear H;obtain ⟨Ao8,co8,eo8⟩:=Kd.R_slice HO_0.out;subst eo8;have p5:0≤(x5_1:Int):=ofD;have q5:(x5_1:Int) < ((x0_1.length:Int):Int):=ofD;obtain ⟨go5,co5,eo5,gb5,gl5,cl5,HG5⟩:=Kd.R_form HO_0.out (by omega);(first|cases eo5|(injection eo5 with ea_ en_ ec_;(first|subst ea_|(injection ea_ with ea_;subst ea_));subst ec_;clear en_))
    have GB5:=A_ gb5;have GG5:=A_ HG5;clear gb5 gl5 HG5;have HMgo5:=A_ (show (P0_ go5∨w.heap.size≤go5) from (HO_0.out.1 _ rfl));obtain ⟨ce5,hcl5,hM5,hcc5,hfr5⟩:=Kd.R_elem HO_0.out z34 (x5_1:Int) p5 q5;obtain rfl:=k34_openM hM5;have hx5_0:wr.cell? ⟨go5,(x5_1:Int).toNat * 2,none⟩=some (.bool ((rd_T34 x0_1 x5_1).f0)):=hcc5 0 _ rfl;have hx5_1:wr.cell? ⟨go5,(x5_1:Int).toNat * 2+1,none⟩=some (.string ((rd_T34 x0_1 x5_1).f1)):=hcc5 1 _ rfl;have hf5_0:wr.frozen? ⟨go5,(x5_1:Int).toNat * 2,none⟩=false:=hfr5 0;have hf5_1:wr.frozen? ⟨go5,(x5_1:Int).toNat * 2+1,none⟩=false:=hfr5 1;clear hcl5 hcc5 hfr5 hM5;replace p5:=eq_true p5;replace q5:=eq_true q5;have HX9:=A_ (show Kd.R k34 34 wr w0.heap.size (fun k_=>(P0_ k_∨w.heap.size≤k_)) (.slice (some ⟨go5,0,none⟩) x0_1.length co8) x0_1 from (zz10 HO_0));obtain ⟨ce9,hcl9,hM9,hcc9,hfr9⟩:=Kd.R_elem HX9.out z34 (x5_1:Int) ofD (by have h_:(x5_1:Int) < ((x0_1.length:Int):Int):=ofD;first|exact h_|(have e_:=(Kd.R_reads' HO_0.out).1;omega)|simpa using h_);obtain rfl:=k34_openM hM9;have HP9:=Kd.R_seg HX9.out (x5_1:Int) ofD (by have h_:(x5_1:Int) < ((x0_1.length:Int):Int):=ofD;first|exact h_|(have e_:=(Kd.R_reads' HO_0.out).1;omega)|simpa using h_) (seg:=[.bool ((Int.tmod x1_1 3) == 0)]) (j:=0) hcl9 hcc9 (show 1≤2 from by decide) (x':=(⟨((Int.tmod x1_1 3) == 0),(rd_T34 x0_1 x5_1).f1⟩:S34)) (k34_mkM _ _ _ (⟨((Int.tmod x1_1 3) == 0),(rd_T34 x0_1 x5_1).f1⟩:S34) ) (fun _ hk=>hk);have hx9_0:=hcc9 0 _ rfl;(try simp only [show (k34).sz=2 from rfl,Nat.mul_one,Nat.add_zero] at hx9_0)
    have hf9_0:=hfr9 0;(try simp only [show (k34).sz=2 from rfl,Nat.mul_one,Nat.add_zero] at hf9_0)
    clear hcl9 hcc9 hfr9 hM9;go_wp2_with (first|((with_reducible refine gate_store (t:=4) (p:=18) rfl ?_);refine store_event (t:=4) (p:=18) (v:=?vo_w10) (w1:=(wr.setCell ⟨go5,(x5_1:Int).toNat * 2,none⟩ (.bool ((Int.tmod x1_1 3) == 0)))) ?hg ?ho ?hn ?hr ?_;(case ho=>rfl);(case hg=>rfl);(case hn=>rfl);(case hr=>exact zz9);intro w10 hw;have hg:wr.grownBy w10 (some go5):=(by rw [hw];exact HP9.2);have hp_:Kd.R k34 34 w10 w0.heap.size (fun k_=>(P0_ k_∨w.heap.size≤k_)) (.slice (some ⟨go5,0,none⟩) x0_1.length co8) y163:=(by rw [hw,Ny163.out];exact HP9.1);clear HP9;replace HB:=A_ ((by rw [hw];exact below_set (HB.out) GB5.out:Below w0.heap.size w0 w10));replace HK:=A_ (Kept.of_grown (S:=(fun k_=>P0_ k_)) hg (zz13 HK) (fun k_ e_=>(HO_0.out.1 k_ e_)));replace HO_0:=A_ (hp_);clear hg hw hp_)|(refine gR 41 (some 24) Tryd.func41 (laws_markText.calls k1 (wrap64 (x1_1+1)) t164 _ A6.out) ?_;rintro w11 hb;replace HO_0:=A_ (rB (zz10 HO_0) hb);replace HK:=A_ (Kept.below (S:=(fun k_=>P0_ k_)) (zz13 HK) hb);replace HB:=A_ (bS (zz1 HB) hb);(try clear hb);have p7:0≤(x5_1:Int):=ofD;have q7:(x5_1:Int) < ((x0_1.length:Int):Int):=ofD;obtain ⟨ce7,hcl7,hM7,hcc7,hfr7⟩:=Kd.R_elem HO_0.out z34 (x5_1:Int) p7 q7;obtain rfl:=k34_openM hM7;have hx7_0:w11.cell? ⟨go5,(x5_1:Int).toNat * 2,none⟩=some (.bool ((rd_T34 y163 x5_1).f0)):=hcc7 0 _ rfl;have hx7_1:w11.cell? ⟨go5,(x5_1:Int).toNat * 2+1,none⟩=some (.string ((rd_T34 y163 x5_1).f1)):=hcc7 1 _ rfl;have hf7_0:w11.frozen? ⟨go5,(x5_1:Int).toNat * 2,none⟩=false:=hfr7 0;have hf7_1:w11.frozen? ⟨go5,(x5_1:Int).toNat * 2+1,none⟩=false:=hfr7 1;clear hcl7 hcc7 hfr7 hM7;replace p7:=eq_true p7;replace q7:=eq_true q7;have HX12:=A_ (show Kd.R k34 34 w11 w0.heap.size (fun k_=>(P0_ k_∨w.heap.size≤k_)) (.slice (some ⟨go5,0,none⟩) x0_1.length co8) y163 from (zz10 HO_0));obtain ⟨ce12,hcl12,hM12,hcc12,hfr12⟩:=Kd.R_elem HX12.out z34 (x5_1:Int) ofD (by have h_:(x5_1:Int) < ((x0_1.length:Int):Int):=ofD;first|exact h_|(have e_:=(Kd.R_reads' HO_0.out).1;omega)|simpa using h_);obtain rfl:=k34_openM hM12;have HP12:=Kd.R_seg HX12.out (x5_1:Int) ofD (by have h_:(x5_1:Int) < ((x0_1.length:Int):Int):=ofD;first|exact h_|(have e_:=(Kd.R_reads' HO_0.out).1;omega)|simpa using h_) (seg:=[.string t164]) (j:=1) hcl12 hcc12 (show 2≤2 from by decide) (x':=(⟨(rd_T34 y163 x5_1).f0,t164⟩:S34)) (k34_mkM _ _ _ (⟨(rd_T34 y163 x5_1).f0,t164⟩:S34) ) (fun _ hk=>hk);have hx12_1:=hcc12 1 _ rfl;(try simp only [show (k34).sz=2 from rfl,Nat.mul_one,Nat.add_zero] at hx12_1);have hf12_1:=hfr12 1;(try simp only [show (k34).sz=2 from rfl,Nat.mul_one,Nat.add_zero] at hf12_1);clear hcl12 hcc12 hfr12 hM12)|((with_reducible refine gate_store (t:=9) (p:=26) rfl ?_);refine store_event (t:=9) (p:=26) (v:=?vo_w13) (w1:=(w11.setCell ⟨go5,(x5_1:Int).toNat * 2+1,none⟩ (.string t164))) ?hg ?ho ?hn ?hr ?_;(case ho=>rfl);(case hg=>rfl);(case hn=>rfl);(case hr=>exact zz9);intro w13 hw;have hg:w11.grownBy w13 (some go5):=(by rw [hw];exact HP12.2);have hp_:Kd.R k34 34 w13 w0.heap.size (fun k_=>(P0_ k_∨w.heap.size≤k_)) (.slice (some ⟨go5,0,none⟩) x0_1.length co8) y165:=(by rw [hw,Ny165.out];exact HP12.1);clear HP12;replace HB:=A_ ((by rw [hw];exact below_set (HB.out) GB5.out:Below w0.heap.size w0 w13));replace HK:=A_ (Kept.of_grown (S:=(fun k_=>P0_ k_)) hg (zz13 HK) (fun k_ e_=>(HO_0.out.1 k_ e_)));replace HO_0:=A_ (hp_);clear hg hw hp_))
    go_roundg k1
    case measure=>have:=HK1.out;omega
    case rel=>exact ⟨(y165),(wrap64 ((wrap64 (x1_1+1))+1)),(wrap64 (x5_1+1)),zz0,zz0,H',⟨(zz5 HK1)⟩,⟨(zz10 HO_0)⟩,⟨(zz13 HK)⟩,⟨(zz1 HB)⟩⟩
   ·simp only [Option.some.injEq,Prod.mk.injEq] at H
    obtain ⟨rfl,rfl⟩:=H;obtain ⟨Ao14,co14,eo14⟩:=Kd.R_slice HO_0.out;subst eo14;go_wp2
    go_ret
    exact ⟨zz3,(zz10 HO_0),(zz1 HB),(zz13 HK)⟩
def impl_allSmallLetters.l0:Nat→ByteArray→Int→Option (Bool)
 | 0,_,_=>none
 | k+1,x0,x3=>if x3 < (x0.size:Int) then (if 0≤x3 then (if (bt x0 x3) < 97 then (some false) else (if (bt x0 x3) > 122 then (some false) else (impl_allSmallLetters.l0 k x0 (wrap64 (x3+1))))) else (none)) else (some true)
def impl_allSmallLetters.f (k:Nat) (a0:ByteArray):Option (Bool):=impl_allSmallLetters.l0 k a0 0
theorem impl_allSmallLetters.mono_l:∀ k,(∀ y0 y1,LeO (impl_allSmallLetters.l0 k y0 y1) (impl_allSmallLetters.l0 (k+1) y0 y1))
 | 0=>by intros;intro r h;simp [impl_allSmallLetters.l0] at h
 | k+1=>by
  have ih0:=impl_allSmallLetters.mono_l k;intros;unfold impl_allSmallLetters.l0;repeat' first|(with_reducible first|exact ih0 _ _|exact LeO.refl _|exact LeO.none _|refine LeO.ite ?_ ?_|refine LeO.bind ?_ (fun _=>?_))|exact LeO.none _|refine LeO.ite ?_ ?_|refine LeO.bind ?_ (fun _=>?_)
theorem impl_allSmallLetters.mono:∀ a0 k,LeO (impl_allSmallLetters.f k a0) (impl_allSmallLetters.f (k+1) a0):=by
 intro a0 k;have ih0:=impl_allSmallLetters.mono_l k;unfold impl_allSmallLetters.f
 repeat' first|(with_reducible first|exact ih0 _ _|exact LeO.refl _|exact LeO.none _|refine LeO.ite ?_ ?_|refine LeO.bind ?_ (fun _=>?_))|exact LeO.none _|refine LeO.ite ?_ ?_|refine LeO.bind ?_ (fun _=>?_)
theorem impl_allSmallLetters.calls (k:Nat) (a0:ByteArray) (r:Bool) (w:World) (h:impl_allSmallLetters.f k a0=some r) :
  Calls Tryd.prog 59 #[.string a0] w fun e w'=>e=.returned (.bool r)∧Drawn0 w w':=by
 unfold impl_allSmallLetters.f at h
 have H:=h;clear h;have H':=A_ H;clear H;go_enter Tryd.func59,Tryd.ntmps59;go_wp2
 go_loopg [3] k (fun kq v3 w'=>∃ (x3_1:Int),v3=.int .i64 x3_1∧Aside0 (impl_allSmallLetters.l0 kq a0 x3_1=some r)∧Aside0 (kq≤k)∧Drawn0 w w')
 case atStart=>exact ⟨(0),zz0,H',⟨Nat.le_refl _⟩,zz6⟩
 case round=>
  clear H';obtain ⟨x3_1,rfl,HA,HK1,⟨m1,rfl⟩⟩:=hrel;cases gk with
  | zero=>exact absurd HA.out (by simp [impl_allSmallLetters.l0])
  | succ k1=>
   obtain ⟨H⟩:=HA;simp only [impl_allSmallLetters.l0] at H
   replace H:=iteEd H;rcases H with ⟨c2b0,H⟩|⟨c2b0,H⟩
   ·replace H:=iteNd H
    obtain ⟨c3b0,H⟩:=H;replace H:=iteEd H;rcases H with ⟨c5b0,H⟩|⟨c5b0,H⟩
    ·obtain rfl:=sI H
     have p4:0≤(x3_1:Int):=ofD;have q4:x3_1 < (a0.size:Int):=ofD;have hx4:=bt_at a0 x3_1;replace p4:=eq_true p4;replace q4:=eq_true q4;go_wp2
     go_ret
     exact ⟨zz0,zz6⟩
    ·replace H:=iteEg H
     rcases H with ⟨c7b0,H⟩|⟨c7b0,H⟩
     ·obtain rfl:=sI H
      have p4:0≤(x3_1:Int):=ofD;have q4:x3_1 < (a0.size:Int):=ofD;have hx4:=bt_at a0 x3_1;replace p4:=eq_true p4;replace q4:=eq_true q4;have p6:0≤(x3_1:Int):=ofD;have q6:x3_1 < (a0.size:Int):=ofD;have hx6:=bt_at a0 x3_1;replace p6:=eq_true p6;replace q6:=eq_true q6;go_wp2
      go_ret
      exact ⟨zz0,zz6⟩
     ·have H':=A_ H
      clear H;have p4:0≤(x3_1:Int):=ofD;have q4:x3_1 < (a0.size:Int):=ofD;have hx4:=bt_at a0 x3_1;replace p4:=eq_true p4;replace q4:=eq_true q4;have p6:0≤(x3_1:Int):=ofD;have q6:x3_1 < (a0.size:Int):=ofD;have hx6:=bt_at a0 x3_1;replace p6:=eq_true p6;replace q6:=eq_true q6;go_wp2
      go_roundg k1
      case measure=>have:=HK1.out;omega
      case rel=>exact ⟨(wrap64 (x3_1+1)),zz0,H',⟨(zz5 HK1)⟩,zz6⟩
   ·obtain rfl:=sI H
    go_wp2
    go_ret
    exact ⟨zz0,zz6⟩
def impl_readWait.l0:Nat→ByteArray→Int→Int→Option (Int)
 | 0,_,_,_=>none
 | k+1,x0,x3,x4=>if x4 < (x0.size:Int) then (if 0≤x4 then (if (bt x0 x4) < 48 then (some 0) else (if (bt x0 x4) > 57 then (some 0) else (impl_readWait.l0 k x0 (mn (wrap64 ((wrap64 (x3 * 10))+(((bt x0 x4) - 48) % 256))) 20) (wrap64 (x4+1))))) else (none)) else (some x3)
def impl_readWait.f (k:Nat) (a0:ByteArray):Option (Int):=impl_readWait.l0 k a0 0 0
theorem impl_readWait.mono_l:∀ k,(∀ y0 y1 y2,LeO (impl_readWait.l0 k y0 y1 y2) (impl_readWait.l0 (k+1) y0 y1 y2))
 | 0=>by intros;intro r h;simp [impl_readWait.l0] at h
 | k+1=>by
  have ih0:=impl_readWait.mono_l k;intros;unfold impl_readWait.l0;repeat' first|(with_reducible first|exact ih0 _ _ _|exact LeO.refl _|exact LeO.none _|refine LeO.ite ?_ ?_|refine LeO.bind ?_ (fun _=>?_))|exact LeO.none _|refine LeO.ite ?_ ?_|refine LeO.bind ?_ (fun _=>?_)
theorem impl_readWait.mono:∀ a0 k,LeO (impl_readWait.f k a0) (impl_readWait.f (k+1) a0):=by
 intro a0 k;have ih0:=impl_readWait.mono_l k;unfold impl_readWait.f
 repeat' first|(with_reducible first|exact ih0 _ _ _|exact LeO.refl _|exact LeO.none _|refine LeO.ite ?_ ?_|refine LeO.bind ?_ (fun _=>?_))|exact LeO.none _|refine LeO.ite ?_ ?_|refine LeO.bind ?_ (fun _=>?_)
theorem impl_readWait.calls (k:Nat) (a0:ByteArray) (r:Int) (w:World) (h:impl_readWait.f k a0=some r) :
  Calls Tryd.prog 38 #[.string a0] w fun e w'=>e=.returned (.int .i64 r)∧Below w.heap.size w w':=by
 have HB:=A_ (Below.refl w.heap.size w);unfold impl_readWait.f at h
 have H:=h;clear h;have H':=A_ H;clear H;go_enter Tryd.func38,Tryd.ntmps38;go_wp2
 go_loopg [3,4] k (fun kq v3 v4 w'=>∃ (x3_1:Int) (x4_1:Int),v3=.int .i64 x3_1∧v4=.int .i64 x4_1∧Aside0 (impl_readWait.l0 kq a0 x3_1 x4_1=some r)∧Aside0 (kq≤k)∧Aside0 (Below w.heap.size w w'))
 case atStart=>exact ⟨(0),(0),zz0,zz0,H',⟨Nat.le_refl _⟩,⟨(zz1 HB)⟩⟩
 case round=>
  clear H';obtain ⟨x3_1,x4_1,rfl,rfl,HA,HK1,HB⟩:=hrel;cases gk with
  | zero=>exact absurd HA.out (by simp [impl_readWait.l0])
  | succ k1=>
   obtain ⟨H⟩:=HA;simp only [impl_readWait.l0] at H
   replace H:=iteEd H;rcases H with ⟨c2b0,H⟩|⟨c2b0,H⟩
   ·replace H:=iteNd H
    obtain ⟨c3b0,H⟩:=H;replace H:=iteEd H;rcases H with ⟨c5b0,H⟩|⟨c5b0,H⟩
    ·obtain rfl:=sI H
     have p4:0≤(x4_1:Int):=ofD;have q4:x4_1 < (a0.size:Int):=ofD;have hx4:=bt_at a0 x4_1;replace p4:=eq_true p4;replace q4:=eq_true q4;go_wp2
     go_ret
     exact ⟨zz3,(zz1 HB)⟩
    ·replace H:=iteEg H
     rcases H with ⟨c7b0,H⟩|⟨c7b0,H⟩
     ·obtain rfl:=sI H
      have p4:0≤(x4_1:Int):=ofD;have q4:x4_1 < (a0.size:Int):=ofD;have hx4:=bt_at a0 x4_1;replace p4:=eq_true p4;replace q4:=eq_true q4;have p6:0≤(x4_1:Int):=ofD;have q6:x4_1 < (a0.size:Int):=ofD;have hx6:=bt_at a0 x4_1;replace p6:=eq_true p6;replace q6:=eq_true q6;go_wp2
      go_ret
      exact ⟨zz3,(zz1 HB)⟩
     ·obtain ⟨ji9,hji9⟩:∃ j_:Int,(mn (wrap64 ((wrap64 (x3_1 * 10))+(((bt a0 x4_1) - 48) % 256))) 20)=j_:=⟨_,rfl⟩
      (first|rw [hji9] at H|simp only [hji9] at H)
      have hji9_:(if 20 < (wrap64 ((wrap64 (x3_1 * 10))+(((bt a0 x4_1) - 48) % 256))) then 20 else (wrap64 ((wrap64 (x3_1 * 10))+(((bt a0 x4_1) - 48) % 256))))=ji9:=hji9;have H':=A_ H;clear H;have p4:0≤(x4_1:Int):=ofD;have q4:x4_1 < (a0.size:Int):=ofD;have hx4:=bt_at a0 x4_1;replace p4:=eq_true p4;replace q4:=eq_true q4;have p6:0≤(x4_1:Int):=ofD;have q6:x4_1 < (a0.size:Int):=ofD;have hx6:=bt_at a0 x4_1;replace p6:=eq_true p6;replace q6:=eq_true q6;have p8:0≤(x4_1:Int):=ofD;have q8:x4_1 < (a0.size:Int):=ofD;have hx8:=bt_at a0 x4_1;replace p8:=eq_true p8;replace q8:=eq_true q8;go_wp2
      go_roundg k1
      case measure=>have:=HK1.out;omega
      case rel=>exact ⟨(ji9),(wrap64 (x4_1+1)),zz8,zz0,H',⟨(zz5 HK1)⟩,⟨(zz1 HB)⟩⟩
   ·obtain rfl:=sI H
    go_wp2
    go_ret
    exact ⟨zz3,(zz1 HB)⟩
def laws_eqStringS.l0:Nat→List ByteArray→List ByteArray→Int→Option (Bool)
 | 0,_,_,_=>none
 | k+1,x0,x1,x5=>if x5 < (x0.length:Int) then (if 0≤x5 then (if x5 < (x1.length:Int) then (if (rdOf ByteArray.empty x0 x5).toList=(rdOf ByteArray.empty x1 x5).toList then (laws_eqStringS.l0 k x0 x1 (wrap64 (x5+1))) else (some false)) else (none)) else (none)) else (some true)
def laws_eqStringS.f (k:Nat) (l0:List ByteArray) (l1:List ByteArray):Option (Bool):=if (l0.length:Int)=(l1.length:Int) then (laws_eqStringS.l0 k l0 l1 0) else (some false)
theorem laws_eqStringS.mono_l:∀ k,(∀ y0 y1 y2,LeO (laws_eqStringS.l0 k y0 y1 y2) (laws_eqStringS.l0 (k+1) y0 y1 y2))
 | 0=>by intros;intro r h;simp [laws_eqStringS.l0] at h
 | k+1=>by
  have ih0:=laws_eqStringS.mono_l k;intros;unfold laws_eqStringS.l0;repeat' first|(with_reducible first|exact ih0 _ _ _|exact LeO.refl _|exact LeO.none _|refine LeO.ite ?_ ?_|refine LeO.bind ?_ (fun _=>?_))|exact LeO.none _|refine LeO.ite ?_ ?_|refine LeO.bind ?_ (fun _=>?_)
theorem laws_eqStringS.calls (k:Nat) (A0:Option Addr) (c0:Nat) (l0:List ByteArray) (A1:Option Addr) (c1:Nat) (l1:List ByteArray) (r:Bool) (w:World) (hr0:Kd.C Kd.string w A0 l0.length l0) (hc0:l0.length≤c0) (hr1:Kd.C Kd.string w A1 l1.length l1) (hc1:l1.length≤c1) (h:laws_eqStringS.f k l0 l1=some r) :
  Calls Tryd.prog 39 #[.slice A0 l0.length c0,.slice A1 l1.length c1] w fun e w'=>e=.returned (.bool r)∧Drawn0 w w':=by
 have HR0:=A_ hr0;have HC0:=A_ hc0;clear hr0 hc0;have HR1:=A_ hr1;have HC1:=A_ hc1;clear hr1 hc1;unfold laws_eqStringS.f at h
 have H:=h;clear h;replace H:=iteE H;rcases H with ⟨c3,H⟩|⟨c3,H⟩
 ·obtain ⟨c3b0,c3b1⟩:=eqT c3
  have c3b2:(l0.length == l1.length)=true:=by first|simpa using c3|(simp at c3 ⊢;omega)
  clear c3;have H':=A_ H;clear H;go_enter Tryd.func39,Tryd.ntmps39;go_wp2
  repeat (go_quiet (fail);try go_wp2)
  go_loopg [5] k (fun kq v5 w'=>∃ (x5_1:Int),v5=.int .i64 x5_1∧Aside0 (laws_eqStringS.l0 kq l0 l1 x5_1=some r)∧Aside0 (kq≤k)∧Drawn0 w w')
  case atStart=>exact ⟨(0),zz0,H',⟨Nat.le_refl _⟩,zz6⟩
  case round=>
   clear H';obtain ⟨x5_1,rfl,HA,HK1,⟨m1,rfl⟩⟩:=hrel;cases gk with
   | zero=>exact absurd HA.out (by simp [laws_eqStringS.l0])
   | succ k1=>
    obtain ⟨H⟩:=HA;simp only [laws_eqStringS.l0] at H
    replace H:=iteEd H;rcases H with ⟨c4b0,H⟩|⟨c4b0,H⟩
    ·replace H:=iteNd H
     obtain ⟨c5b0,H⟩:=H;replace H:=iteNd H;obtain ⟨c6b0,H⟩:=H;replace H:=iteEq H;rcases H with ⟨c7b0,c7b1,H⟩|⟨c7b0,c7b1,c7,H⟩
     ·have H':=A_ H
      clear H;obtain ⟨⟨ad144,e144,hx144_0⟩,p144,q144⟩:=atB (Kd.at_string HR0.out x5_1);cases e144
      obtain ⟨⟨ad145,e145,hx145_0⟩,p145,q145⟩:=atB (Kd.at_string HR1.out x5_1);cases e145
      go_wp2
      repeat (go_quiet (fail);try go_wp2)
      go_roundg k1
      case measure=>have:=HK1.out;omega
      case rel=>exact ⟨(wrap64 (x5_1+1)),zz0,H',⟨(zz5 HK1)⟩,zz6⟩
     ·obtain rfl:=sI H
      obtain ⟨⟨ad144,e144,hx144_0⟩,p144,q144⟩:=atB (Kd.at_string HR0.out x5_1);cases e144
      obtain ⟨⟨ad145,e145,hx145_0⟩,p145,q145⟩:=atB (Kd.at_string HR1.out x5_1);cases e145
      go_wp2
      repeat (go_quiet (fail);try go_wp2)
      go_ret
      exact ⟨zz0,zz6⟩
    ·obtain rfl:=sI H
     go_wp2
     repeat (go_quiet (fail);try go_wp2)
     go_ret
     exact ⟨zz0,zz6⟩
 ·obtain ⟨c3b0,c3b1⟩:=eqF c3
  have c3b2:(l0.length == l1.length)=false:=by first|simpa using c3|(simp at c3 ⊢;omega)
  obtain rfl:=sI H;go_enter Tryd.func39,Tryd.ntmps39;go_wp2
  repeat (go_quiet (fail);try go_wp2)
  go_ret
  exact ⟨zz0,zz6⟩
def laws_heldStringS.l0:Nat→List ByteArray→Int→Int→Option (Int)
 | 0,_,_,_=>none
 | k+1,x0,x1,x5=>if x5 < (x0.length:Int) then (if 0≤x5 then ((laws_markText.f k x1).bind fun t168=>(if (rdOf ByteArray.empty x0 x5).toList=t168.toList then (laws_heldStringS.l0 k x0 (wrap64 (x1+1)) (wrap64 (x5+1))) else (some (-1)))) else (none)) else (some x1)
def laws_heldStringS.f (k:Nat) (l0:List ByteArray) (a1:Int):Option (Int):=laws_heldStringS.l0 k l0 a1 0
theorem laws_heldStringS.mono_l:∀ k,(∀ y0 y1 y2,LeO (laws_heldStringS.l0 k y0 y1 y2) (laws_heldStringS.l0 (k+1) y0 y1 y2))
 | 0=>by intros;intro r h;simp [laws_heldStringS.l0] at h
 | k+1=>by
  have ih0:=laws_heldStringS.mono_l k;intros;unfold laws_heldStringS.l0;repeat' first|(with_reducible first|exact ih0 _ _ _|exact laws_markText.mono _ _|exact LeO.refl _|exact LeO.none _|refine LeO.ite ?_ ?_|refine LeO.bind ?_ (fun _=>?_))|exact LeO.none _|refine LeO.ite ?_ ?_|refine LeO.bind ?_ (fun _=>?_)
theorem laws_heldStringS.calls (k:Nat) (A0:Option Addr) (c0:Nat) (l0:List ByteArray) (a1:Int) (r:Int) (w:World) (hr0:Kd.C Kd.string w A0 l0.length l0) (hc0:l0.length≤c0) (h:laws_heldStringS.f k l0 a1=some r) :
  Calls Tryd.prog 23 #[.slice A0 l0.length c0,.int .i64 a1] w fun e w'=>e=.returned (.int .i64 r)∧Below w.heap.size w w':=by
 have HR0:=A_ hr0;have HC0:=A_ hc0;clear hr0 hc0;have HB:=A_ (Below.refl w.heap.size w);unfold laws_heldStringS.f at h
 have H:=h;clear h;have H':=A_ H;clear H;go_enter Tryd.func23,Tryd.ntmps23;go_wp2
 go_loopg [1,5] k (fun kq v1 v5 w'=>∃ (x1_1:Int) (x5_1:Int),v1=.int .i64 x1_1∧v5=.int .i64 x5_1∧Aside0 (laws_heldStringS.l0 kq l0 x1_1 x5_1=some r)∧Aside0 (kq≤k)∧Aside0 (Below w.heap.size w w'))
 case atStart=>exact ⟨(a1),(0),zz0,zz0,H',⟨Nat.le_refl _⟩,⟨(zz1 HB)⟩⟩
 case round=>
  clear H';obtain ⟨x1_1,x5_1,rfl,rfl,HA,HK1,HB⟩:=hrel;cases gk with
  | zero=>exact absurd HA.out (by simp [laws_heldStringS.l0])
  | succ k1=>
   obtain ⟨H⟩:=HA;simp only [laws_heldStringS.l0] at H
   replace H:=iteEd H;rcases H with ⟨c3b0,H⟩|⟨c3b0,H⟩
   ·replace H:=iteNd H
    obtain ⟨c4b0,H⟩:=H;replace H:=bindA H;obtain ⟨t168,A5,H⟩:=H;have HF6:=A_ H;clear H;try go_wp2
    replace HB:=A_ (below_drew1 HB.out);obtain ⟨⟨ad167,e167,hx167_0⟩,p167,q167⟩:=atB (Kd.at_string HR0.out x5_1);have hw167_0:=hx167_0;cases e167
    replace hx167_0:=cbl HB hx167_0;refine start_ (n:=7) (S:=fun w'=>w'.cell? (ad167.add (x5_1).toNat)=some (.string (rdOf ByteArray.empty l0 x5_1))) (ds:=[]) #[yF,yF,yF,yF,yF,yF,yF] (by kernel_rfl) rfl rfl (((HB.out.cell (World.block_lt_of_cell? w _ hw167_0)).trans hw167_0)) (fun hHeld=>?_);generalize wr.drew=w7 at HB hx167_0 hHeld ⊢;refine pureY 0 (some 12) #[yT,yF,yF,yF,yF,yF,yF] ?_;refine pureY 1 (some 13) #[yT,yT,yF,yF,yF,yF,yF] ?_;refine pureY 2 (some 14) #[yT,yT,yT,yF,yF,yF,yF] ?_;refine pureY 4 (some 16) #[yT,yT,yT,yF,yT,yF,yF] ?_;refine take_ (i:=3) (N:=some 15) (v:=?_) (a':=?_) #[yT,yT,yT,yT,yT,yF,yF] rfl rfl (by kernel_rfl) (fun _ _ _ h=>h) (Or.inl ⟨by rfl,?_⟩) hHeld ?_ ?_;rotate_left
    ·intro w' s0
     go_simp
     with_reducible rfl
    rotate_left
    ·simp only [Act.put,List.setIfInBounds_toArray,List.set_cons_zero,List.set_cons_succ,i64_w,i32_w]
     rfl
    refine one_ (i:=5) (N:=some 17) #[yT,yT,yT,yT,yT,yT,yF] rfl rfl (by kernel_rfl) (by decide) (fun K hK=>?_);refine goes_ Tryd.func41 (by kernel_rfl) rfl #[.int .i64 x1_1] (by rfl) rfl rfl zz24 ?_;with_reducible refine (laws_markText.calls k1 x1_1 t168 _ A5.out).mono ?_
    rintro e w8 ⟨rfl,hb⟩;refine ⟨_,rfl,?_⟩;replace HB:=A_ (bS (zz1 HB) hb);(try clear hb)
    (try clear hb2)
    (try clear hk)
    (try clear hi)
    refine hK.out _ _ (((HB.out.cell (World.block_lt_of_cell? w _ hw167_0)).trans hw167_0)) (fun hHeld=>?_);clear hK K;refine nZ 17 ?_;refine pureY 6 (some 18) #[yT,yT,yT,yT,yT,yT,yT] ?_;refine done_ (by kernel_rfl) ?_;go_upto_if 18 with (fail)
    obtain ⟨H⟩:=HF6;replace H:=iteEq H;rcases H with ⟨c9b0,c9b1,H⟩|⟨c9b0,c9b1,c9,H⟩
    ·(first|rw [c9b0]|(simp only [i64_w,i32_w];rw [c9b0])|skip)
     have H':=A_ H;clear H;go_wp2
     go_roundg k1
     case measure=>have:=HK1.out;omega
     case rel=>exact ⟨(wrap64 (x1_1+1)),(wrap64 (x5_1+1)),zz0,zz0,H',⟨(zz5 HK1)⟩,⟨(zz1 HB)⟩⟩
    ·(first|rw [c9b0]|(simp only [i64_w,i32_w];rw [c9b0])|skip)
     obtain rfl:=sI H;go_wp2
     go_ret
     exact ⟨zz3,(zz1 HB)⟩
   ·obtain rfl:=sI H
    go_wp2
    go_ret
    exact ⟨zz3,(zz1 HB)⟩
def laws_heldRuleS.l0:Nat→List (S34)→Int→Int→Option (Int)
 | 0,_,_,_=>none
 | k+1,x0,x1,x5=>if x5 < (x0.length:Int) then (if 0≤x5 then (if (((rd_T34 x0 x5).f0) != ((Int.tmod x1 3) == 0))=true then (some (-1)) else ((laws_markText.f k (wrap64 (x1+1))).bind fun t171=>(if ((rd_T34 x0 x5).f1).toList=t171.toList then (laws_heldRuleS.l0 k x0 (wrap64 ((wrap64 (x1+1))+1)) (wrap64 (x5+1))) else (some (-1))))) else (none)) else (some x1)
def laws_heldRuleS.f (k:Nat) (l0:List (S34)) (a1:Int):Option (Int):=laws_heldRuleS.l0 k l0 a1 0
def laws_heldRuleS.T7:Bool×List (List Nat×List Nat):=(true,[([],[]),([],[]),([0,1],[0,1]),([2],[2]),([3],[3]),([],[]),([5],[5]),([4,6],[4,6])])
def laws_heldRuleS.B7:List Nat:=[0,0,3,7,15,0,32,127]
theorem laws_heldRuleS.tab7:rtab .any (opsOf Tryd.f24 7)=laws_heldRuleS.T7:=by kernel_rfl
theorem laws_heldRuleS.bits7:waitsOk laws_heldRuleS.T7.2 laws_heldRuleS.B7=true:=by kernel_rfl
theorem laws_heldRuleS.calls (k:Nat) (A0:Option Addr) (c0:Nat) (l0:List (S34)) (a1:Int) (r:Int) (w:World) (hr0:Kd.C k34 w A0 l0.length l0) (hc0:l0.length≤c0) (h:laws_heldRuleS.f k l0 a1=some r) :
  Calls Tryd.prog 24 #[.slice A0 l0.length c0,.int .i64 a1] w fun e w'=>e=.returned (.int .i64 r)∧Below w.heap.size w w':=by
 have HR0:=A_ hr0;have HC0:=A_ hc0;clear hr0 hc0;have HB:=A_ (Below.refl w.heap.size w);unfold laws_heldRuleS.f at h
 have H:=h;clear h;have H':=A_ H;clear H;go_enter Tryd.func24,Tryd.ntmps24;go_wp2
 go_loopg [1,5] k (fun kq v1 v5 w'=>∃ (x1_1:Int) (x5_1:Int),v1=.int .i64 x1_1∧v5=.int .i64 x5_1∧Aside0 (laws_heldRuleS.l0 kq l0 x1_1 x5_1=some r)∧Aside0 (kq≤k)∧Aside0 (Below w.heap.size w w'))
 case atStart=>exact ⟨(a1),(0),zz0,zz0,H',⟨Nat.le_refl _⟩,⟨(zz1 HB)⟩⟩
 case round=>
  clear H';obtain ⟨x1_1,x5_1,rfl,rfl,HA,HK1,HB⟩:=hrel;cases gk with
  | zero=>exact absurd HA.out (by simp [laws_heldRuleS.l0])
  | succ k1=>
   obtain ⟨H⟩:=HA;simp only [laws_heldRuleS.l0] at H
   replace H:=iteEd H;rcases H with ⟨c3b0,H⟩|⟨c3b0,H⟩
   ·replace H:=iteNd H
    obtain ⟨c4b0,H⟩:=H;replace H:=iteE H;rcases H with ⟨c5,H⟩|⟨c5,H⟩
    ·have c5b0:(((rd_T34 l0 x5_1).f0) != ((Int.tmod x1_1 3) == 0))=true:=c5
     (try (have c5b1:decide (((rd_T34 l0 x5_1).f0)=((Int.tmod x1_1 3) == 0))=false:=by simpa using c5))
     (try (have c5b2:(((rd_T34 l0 x5_1).f0) == ((Int.tmod x1_1 3) == 0))=false:=by simpa using c5))
     (try (have c5b3:¬ (((rd_T34 l0 x5_1).f0)=((Int.tmod x1_1 3) == 0)):=by simpa using c5))
     clear c5;obtain rfl:=sI H;obtain ⟨⟨ad169,e169,hx169_0,hx169_1⟩,p169,q169⟩:=atB (at_T34 HR0.out x5_1);cases e169
     obtain ⟨hx169_0,hx169_1⟩:=cb2 HB hx169_0 hx169_1;go_wp2
     go_ret
     exact ⟨zz3,(zz1 HB)⟩
    ·have c5b0:(((rd_T34 l0 x5_1).f0) != ((Int.tmod x1_1 3) == 0))=false:=by simpa using c5
     (try (have c5b1:decide (((rd_T34 l0 x5_1).f0)=((Int.tmod x1_1 3) == 0))=true:=by simpa using c5))
     (try (have c5b2:(((rd_T34 l0 x5_1).f0) == ((Int.tmod x1_1 3) == 0))=true:=by simpa using c5))
     clear c5;replace H:=bindA H;obtain ⟨t171,A6,H⟩:=H;have HF7:=A_ H;clear H;obtain ⟨⟨ad169,e169,hx169_0,hx169_1⟩,p169,q169⟩:=atB (at_T34 HR0.out x5_1);cases e169
     obtain ⟨hx169_0,hx169_1⟩:=cb2 HB hx169_0 hx169_1;try go_wp2
     replace HB:=A_ (below_drew1 HB.out);obtain ⟨⟨ad170,e170,hx170_0,hx170_1⟩,p170,q170⟩:=atB (at_T34 HR0.out x5_1);have hw170_1:=hx170_1;have hw170_0:=hx170_0;obtain rfl:ad169=ad170:=(by injection e170);obtain ⟨hx170_0,hx170_1⟩:=cb2 HB hx170_0 hx170_1;refine start_ (n:=8) (S:=fun w'=>w'.cell? (ad169.add ((x5_1).toNat * 2))=some (.bool ((rd_T34 l0 x5_1).f0))∧w'.cell? ⟨(ad169.add ((x5_1).toNat * 2)).block,(ad169.add ((x5_1).toNat * 2)).off+1,none⟩=some (.string ((rd_T34 l0 x5_1).f1))) (ds:=[]) #[yF,yF,yF,yF,yF,yF,yF,yF] (by kernel_rfl) rfl rfl ⟨((HB.out.cell (World.block_lt_of_cell? w _ hw170_0)).trans hw170_0),((HB.out.cell (World.block_lt_of_cell? w _ hw170_1)).trans hw170_1)⟩ (fun hHeld=>?_);refine with_tabW laws_heldRuleS.tab7 laws_heldRuleS.bits7 (fun HT_ HW_=>?_);generalize wr.drew=w8 at HB hx170_0 hx170_1 hHeld ⊢;refine pureZ 0 (some 23) #[yT,yF,yF,yF,yF,yF,yF,yF] ?_;refine pureZ 1 (some 24) #[yT,yT,yF,yF,yF,yF,yF,yF] ?_;refine pureZ 2 (some 25) #[yT,yT,yT,yF,yF,yF,yF,yF] ?_;refine pureZ 3 (some 26) #[yT,yT,yT,yT,yF,yF,yF,yF] ?_;refine pureZ 5 (some 28) #[yT,yT,yT,yT,yF,yT,yF,yF] ?_;refine takeZ2 4 (some 27) #[yT,yT,yT,yT,yT,yT,yF,yF] hHeld ?_;refine oneZ 6 (some 29) #[yT,yT,yT,yT,yT,yT,yT,yF] (fun K hK=>?_);refine goes_ Tryd.func41 (by kernel_rfl) rfl #[.int .i64 (wrap64 (x1_1+1))] (by rfl) rfl rfl zz24 ?_;with_reducible refine (laws_markText.calls k1 (wrap64 (x1_1+1)) t171 _ A6.out).mono ?_
     rintro e w9 ⟨rfl,hb⟩;refine ⟨_,rfl,?_⟩;replace HB:=A_ (bS (zz1 HB) hb);(try clear hb)
     (try clear hb2)
     (try clear hk)
     (try clear hi)
     refine hK.out _ _ ⟨((HB.out.cell (World.block_lt_of_cell? w _ hw170_0)).trans hw170_0),((HB.out.cell (World.block_lt_of_cell? w _ hw170_1)).trans hw170_1)⟩ (fun hHeld=>?_);clear hK K;refine nZ 29 ?_;refine pureZ 7 (some 30) #[yT,yT,yT,yT,yT,yT,yT,yT] ?_;refine done_ (done_of HT_.out (by kernel_rfl)) ?_;go_upto_if 30 with (fail)
     obtain ⟨H⟩:=HF7;replace H:=iteEq H;rcases H with ⟨c10b0,c10b1,H⟩|⟨c10b0,c10b1,c10,H⟩
     ·(first|rw [c10b0]|(simp only [i64_w,i32_w];rw [c10b0])|skip)
      have H':=A_ H;clear H;go_wp2
      go_roundg k1
      case measure=>have:=HK1.out;omega
      case rel=>exact ⟨(wrap64 ((wrap64 (x1_1+1))+1)),(wrap64 (x5_1+1)),zz0,zz0,H',⟨(zz5 HK1)⟩,⟨(zz1 HB)⟩⟩
     ·(first|rw [c10b0]|(simp only [i64_w,i32_w];rw [c10b0])|skip)
      obtain rfl:=sI H;go_wp2
      go_ret
      exact ⟨zz3,(zz1 HB)⟩
   ·obtain rfl:=sI H
    go_wp2
    go_ret
    exact ⟨zz3,(zz1 HB)⟩
def laws_heldGroupS.l0:Nat→List (S32)→Int→Int→Option (Int)
 | 0,_,_,_=>none
 | k+1,x0,x1,x5=>if x5 < (x0.length:Int) then (if 0≤x5 then ((laws_heldStringS.f k ((rd_T32 x0 x5).f0) x1).bind fun t173=>(if t173 < 0 then (some (-1)) else ((laws_heldRuleS.f k ((rd_T32 x0 x5).f1) t173).bind fun t175=>(if t175 < 0 then (some (-1)) else (if ((rd_T32 x0 x5).f2)=t175 then (laws_heldGroupS.l0 k x0 (wrap64 (t175+1)) (wrap64 (x5+1))) else (some (-1))))))) else (none)) else (some x1)
def laws_heldGroupS.f (k:Nat) (l0:List (S32)) (a1:Int):Option (Int):=laws_heldGroupS.l0 k l0 a1 0
theorem laws_heldGroupS.calls (k:Nat) (A0:Option Addr) (c0:Nat) (l0:List (S32)) (a1:Int) (r:Int) (w:World) (hr0:Kd.C k32 w A0 l0.length l0) (hc0:l0.length≤c0) (h:laws_heldGroupS.f k l0 a1=some r) :
  Calls Tryd.prog 10 #[.slice A0 l0.length c0,.int .i64 a1] w fun e w'=>e=.returned (.int .i64 r)∧Below w.heap.size w w':=by
 have HR0:=A_ hr0;have HC0:=A_ hc0;clear hr0 hc0;have HB:=A_ (Below.refl w.heap.size w);unfold laws_heldGroupS.f at h
 have H:=h;clear h;have H':=A_ H;clear H;go_enter Tryd.func10,Tryd.ntmps10;go_wp2
 go_loopg [1,5] k (fun kq v1 v5 w'=>∃ (x1_1:Int) (x5_1:Int),v1=.int .i64 x1_1∧v5=.int .i64 x5_1∧Aside0 (laws_heldGroupS.l0 kq l0 x1_1 x5_1=some r)∧Aside0 (kq≤k)∧Aside0 (Below w.heap.size w w'))
 case atStart=>exact ⟨(a1),(0),zz0,zz0,H',⟨Nat.le_refl _⟩,⟨(zz1 HB)⟩⟩
 case round=>
  clear H';obtain ⟨x1_1,x5_1,rfl,rfl,HA,HK1,HB⟩:=hrel;cases gk with
  | zero=>exact absurd HA.out (by simp [laws_heldGroupS.l0])
  | succ k1=>
   obtain ⟨H⟩:=HA;simp only [laws_heldGroupS.l0] at H
   replace H:=iteEd H;rcases H with ⟨c3b0,H⟩|⟨c3b0,H⟩
   ·replace H:=iteNd H
    obtain ⟨c4b0,H⟩:=H;replace H:=bindA H;obtain ⟨t173,A5,H⟩:=H;have HF6:=A_ H;clear H;obtain ⟨⟨ad172,A172_0,c172_0,A172_1,c172_1,e172,hx172_0,hx172_1,hx172_2,hl172_0,hi172_0,hl172_1,hi172_1⟩,p172,q172⟩:=atB (at_T32 HR0.out x5_1);cases e172
    obtain ⟨hx172_0,hx172_1,hx172_2⟩:=cb3 HB hx172_0 hx172_1 hx172_2;have HR172_0:=A_ hi172_0;have HC172_0:=A_ hl172_0;clear hi172_0 hl172_0;have HR172_1:=A_ hi172_1;have HC172_1:=A_ hl172_1;clear hi172_1 hl172_1;go_upto_if 20 with (first|(refine gR 23 (some 18) Tryd.func23 (laws_heldStringS.calls k1 _ _ ((rd_T32 l0 x5_1).f0) x1_1 t173 _ ?side1 ?side2 A5.out) ?_;(case side1=>exact (zz27 HR172_0 HB));(case side2=>exact HC172_0.out);rintro w7 hb;replace HB:=A_ (bS (zz1 HB) hb);(try clear hb)))
    obtain ⟨H⟩:=HF6;replace H:=iteEd H;rcases H with ⟨c8b0,H⟩|⟨c8b0,H⟩
    ·(first|rw [c8b0]|(simp only [i64_w,i32_w];rw [c8b0])|skip)
     obtain rfl:=sI H;go_wp2
     go_ret
     exact ⟨zz3,(zz1 HB)⟩
    ·(first|rw [c8b0]|(simp only [i64_w,i32_w];rw [c8b0])|skip)
     replace H:=bindA H;obtain ⟨t175,A9,H⟩:=H;have HF10:=A_ H;clear H;obtain ⟨⟨ad174,A174_0,c174_0,A174_1,c174_1,e174,hx174_0,hx174_1,hx174_2,hl174_0,hi174_0,hl174_1,hi174_1⟩,p174,q174⟩:=atB (at_T32 HR0.out x5_1);obtain rfl:ad172=ad174:=(by injection e174);obtain ⟨hx174_0,hx174_1,hx174_2⟩:=cb3 HB hx174_0 hx174_1 hx174_2;have HR174_0:=A_ hi174_0;have HC174_0:=A_ hl174_0;clear hi174_0 hl174_0;have HR174_1:=A_ hi174_1;have HC174_1:=A_ hl174_1;clear hi174_1 hl174_1;go_upto_if 29 with (first|(refine gR 24 (some 27) Tryd.func24 (laws_heldRuleS.calls k1 _ _ ((rd_T32 l0 x5_1).f1) t173 t175 _ ?side1 ?side2 A9.out) ?_;(case side1=>exact (zz27 HR174_1 HB));(case side2=>exact HC174_1.out);rintro w11 hb;replace HB:=A_ (bS (zz1 HB) hb);(try clear hb)))
     obtain ⟨H⟩:=HF10;replace H:=iteEd H;rcases H with ⟨c12b0,H⟩|⟨c12b0,H⟩
     ·(first|rw [c12b0]|(simp only [i64_w,i32_w];rw [c12b0])|skip)
      obtain rfl:=sI H;go_wp2
      go_ret
      exact ⟨zz3,(zz1 HB)⟩
     ·(first|rw [c12b0]|(simp only [i64_w,i32_w];rw [c12b0])|skip)
      replace H:=iteEq H;rcases H with ⟨c13b0,c13b1,H⟩|⟨c13b0,c13b1,c13,H⟩
      ·have H':=A_ H
       clear H;obtain ⟨⟨ad176,A176_0,c176_0,A176_1,c176_1,e176,hx176_0,hx176_1,hx176_2,hl176_0,hi176_0,hl176_1,hi176_1⟩,p176,q176⟩:=atB (at_T32 HR0.out x5_1);obtain rfl:ad172=ad176:=(by injection e176);obtain ⟨hx176_0,hx176_1,hx176_2⟩:=cb3 HB hx176_0 hx176_1 hx176_2;have HR176_0:=A_ hi176_0;have HC176_0:=A_ hl176_0;clear hi176_0 hl176_0;have HR176_1:=A_ hi176_1;have HC176_1:=A_ hl176_1;clear hi176_1 hl176_1;go_wp2
       go_roundg k1
       case measure=>have:=HK1.out;omega
       case rel=>exact ⟨(wrap64 (t175+1)),(wrap64 (x5_1+1)),zz0,zz0,H',⟨(zz5 HK1)⟩,⟨(zz1 HB)⟩⟩
      ·obtain rfl:=sI H
       obtain ⟨⟨ad176,A176_0,c176_0,A176_1,c176_1,e176,hx176_0,hx176_1,hx176_2,hl176_0,hi176_0,hl176_1,hi176_1⟩,p176,q176⟩:=atB (at_T32 HR0.out x5_1);obtain rfl:ad172=ad176:=(by injection e176);obtain ⟨hx176_0,hx176_1,hx176_2⟩:=cb3 HB hx176_0 hx176_1 hx176_2;have HR176_0:=A_ hi176_0;have HC176_0:=A_ hl176_0;clear hi176_0 hl176_0;have HR176_1:=A_ hi176_1;have HC176_1:=A_ hl176_1;clear hi176_1 hl176_1;go_wp2
       go_ret
       exact ⟨zz3,(zz1 HB)⟩
   ·obtain rfl:=sI H
    go_wp2
    go_ret
    exact ⟨zz3,(zz1 HB)⟩
def spec_l6In.f (a0:Int) (a1:Int) (a2:Int):Option (Bool):=if a0 ≥ a1 then (some (decide (a0≤a2))) else (some false)
theorem spec_l6In.calls (a0:Int) (a1:Int) (a2:Int) (r:Bool) (w:World) (h:spec_l6In.f a0 a1 a2=some r) :
  Calls Tryd.prog 46 #[.int .i64 a0,.int .i64 a1,.int .i64 a2] w fun e w'=>e=.returned (.bool r)∧Drawn0 w w':=by
 unfold spec_l6In.f at h
 have H:=h;clear h;replace H:=iteEe H;rcases H with ⟨c4b0,H⟩|⟨c4b0,H⟩
 ·obtain rfl:=sI H
  go_enter Tryd.func46,Tryd.ntmps46;go_wp2
  go_ret
  exact ⟨zz0,zz6⟩
 ·obtain rfl:=sI H
  go_enter Tryd.func46,Tryd.ntmps46;go_wp2
  go_ret
  exact ⟨zz0,zz6⟩
def spec_l1Plain.f (a0:Int):Option (Bool):=if a0 ≥ 97 then (if a0≤122 then (some true) else (if a0 ≥ 48 then (if a0≤57 then (some true) else (if a0=46 then (some true) else (some (a0 == 45)))) else (if a0=46 then (some true) else (some (a0 == 45))))) else (if a0 ≥ 48 then (if a0≤57 then (some true) else (if a0=46 then (some true) else (some (a0 == 45)))) else (if a0=46 then (some true) else (some (a0 == 45))))
theorem spec_l1Plain.calls (a0:Int) (r:Bool) (w:World) (h:spec_l1Plain.f a0=some r) :
  Calls Tryd.prog 47 #[.int .u8 a0] w fun e w'=>e=.returned (.bool r)∧Drawn0 w w':=by
 unfold spec_l1Plain.f at h
 have H:=h;clear h;replace H:=iteEe H;rcases H with ⟨c2b0,H⟩|⟨c2b0,H⟩
 ·replace H:=iteEd H
  rcases H with ⟨c3b0,H⟩|⟨c3b0,H⟩
  ·obtain rfl:=sI H
   go_enter Tryd.func47,Tryd.ntmps47;go_wp2
   go_ret
   exact ⟨zz0,zz6⟩
  ·replace H:=iteEe H
   rcases H with ⟨c4b0,H⟩|⟨c4b0,H⟩
   ·replace H:=iteEd H
    rcases H with ⟨c5b0,H⟩|⟨c5b0,H⟩
    ·obtain rfl:=sI H
     go_enter Tryd.func47,Tryd.ntmps47;go_wp2
     go_ret
     exact ⟨zz0,zz6⟩
    ·replace H:=iteEq H
     rcases H with ⟨c6b0,c6b1,H⟩|⟨c6b0,c6b1,c6,H⟩
     ·obtain rfl:=sI H
      go_enter Tryd.func47,Tryd.ntmps47;go_wp2
      go_ret
      exact ⟨zz0,zz6⟩
     ·obtain rfl:=sI H
      go_enter Tryd.func47,Tryd.ntmps47;go_wp2
      go_ret
      exact ⟨zz0,zz6⟩
   ·replace H:=iteEq H
    rcases H with ⟨c7b0,c7b1,H⟩|⟨c7b0,c7b1,c7,H⟩
    ·obtain rfl:=sI H
     go_enter Tryd.func47,Tryd.ntmps47;go_wp2
     go_ret
     exact ⟨zz0,zz6⟩
    ·obtain rfl:=sI H
     go_enter Tryd.func47,Tryd.ntmps47;go_wp2
     go_ret
     exact ⟨zz0,zz6⟩
 ·replace H:=iteEe H
  rcases H with ⟨c8b0,H⟩|⟨c8b0,H⟩
  ·replace H:=iteEd H
   rcases H with ⟨c9b0,H⟩|⟨c9b0,H⟩
   ·obtain rfl:=sI H
    go_enter Tryd.func47,Tryd.ntmps47;go_wp2
    go_ret
    exact ⟨zz0,zz6⟩
   ·replace H:=iteEq H
    rcases H with ⟨c10b0,c10b1,H⟩|⟨c10b0,c10b1,c10,H⟩
    ·obtain rfl:=sI H
     go_enter Tryd.func47,Tryd.ntmps47;go_wp2
     go_ret
     exact ⟨zz0,zz6⟩
    ·obtain rfl:=sI H
     go_enter Tryd.func47,Tryd.ntmps47;go_wp2
     go_ret
     exact ⟨zz0,zz6⟩
  ·replace H:=iteEq H
   rcases H with ⟨c11b0,c11b1,H⟩|⟨c11b0,c11b1,c11,H⟩
   ·obtain rfl:=sI H
    go_enter Tryd.func47,Tryd.ntmps47;go_wp2
    go_ret
    exact ⟨zz0,zz6⟩
   ·obtain rfl:=sI H
    go_enter Tryd.func47,Tryd.ntmps47;go_wp2
    go_ret
    exact ⟨zz0,zz6⟩
def stringslite_HasSuffix.f (a0:ByteArray) (a1:ByteArray):Option (Bool):=if (a0.size:Int) ≥ (a1.size:Int) then (if 0≤(wrap64 ((a0.size:Int) - (a1.size:Int))) then (if (wrap64 ((a0.size:Int) - (a1.size:Int)))≤(a0.size:Int) then (some ((a0.extract ((wrap64 ((a0.size:Int) - (a1.size:Int))):Int).toNat a0.size).toList == a1.toList)) else (none)) else (none)) else (some false)
theorem stringslite_HasSuffix.calls (a0:ByteArray) (a1:ByteArray) (r:Bool) (w:World) (h:stringslite_HasSuffix.f a0 a1=some r) :
  Calls Tryd.prog 54 #[.string a0,.string a1] w fun e w'=>e=.returned (.bool r)∧Drawn0 w w':=by
 unfold stringslite_HasSuffix.f at h
 have H:=h;clear h;replace H:=iteE H;rcases H with ⟨c3,H⟩|⟨c3,H⟩
 ·have c3b0:=geT c3
  have c3b1:decide (a1.size≤a0.size)=true:=dT (Int.ofNat_le.mp c3);clear c3;obtain ⟨ji4,hji4⟩:∃ j_:Int,(wrap64 ((a0.size:Int) - (a1.size:Int)))=j_:=⟨_,rfl⟩;(first|rw [hji4] at H|simp only [hji4] at H)
  have hji4w:(IntKind.i64.wrap ((a0.size:Int) - (a1.size:Int)))=ji4:=(i64_w _).trans hji4;replace H:=iteN H;obtain ⟨c5,H⟩:=H;have c5b0:=eq_true c5;have c5b1:=dT c5;clear c5;replace H:=iteN H;obtain ⟨c6,H⟩:=H;have c6b0:=eq_true c6;have c6b1:=dT c6;clear c6;obtain rfl:=sI H;go_enter Tryd.func54,Tryd.ntmps54;go_wp2
  go_ret
  exact ⟨(by first|rfl|(simp only [i64_w,i32_w];done)|(simp only [aid_isEmpty,aid_isEmpty2];done)|(simp;done)|((simp only [← hji4] <;> (first|rfl|simp));done)|(simp [*];done)),zz6⟩
 ·have c3b0:=geF c3
  have c3b1:decide (a1.size≤a0.size)=false:=dF (fun h=>c3 (Int.ofNat_le.mpr h));clear c3;obtain rfl:=sI H;go_enter Tryd.func54,Tryd.ntmps54;go_wp2
  go_ret
  exact ⟨zz0,zz6⟩
def stringslite_TrimSuffix.f (a0:ByteArray) (a1:ByteArray):Option (ByteArray):=(stringslite_HasSuffix.f a0 a1).bind fun t112=>(if t112=true then (if 0≤(wrap64 ((a0.size:Int) - (a1.size:Int))) then (if (wrap64 ((a0.size:Int) - (a1.size:Int)))≤(a0.size:Int) then (some (a0.extract 0 ((wrap64 ((a0.size:Int) - (a1.size:Int))):Int).toNat)) else (none)) else (none)) else (some a0))
theorem stringslite_TrimSuffix.calls (a0:ByteArray) (a1:ByteArray) (r:ByteArray) (w:World) (h:stringslite_TrimSuffix.f a0 a1=some r) :
  Calls Tryd.prog 44 #[.string a0,.string a1] w fun e w'=>e=.returned (.string r)∧Drawn0 w w':=by
 unfold stringslite_TrimSuffix.f at h
 have H:=h;clear h;replace H:=bindA H;obtain ⟨t112,A3,H⟩:=H;have HF4:=A_ H;clear H;go_enter Tryd.func44,Tryd.ntmps44;go_upto_if 7 with (first|(refine gR 54 (some 7) Tryd.func54 (stringslite_HasSuffix.calls a0 a1 t112 _ A3.out) ?_;rintro w' ⟨nd,rfl⟩))
 obtain ⟨H⟩:=HF4;replace H:=iteB H;rcases H with ⟨rfl,H⟩|⟨rfl,H⟩
 ·obtain ⟨ji6,hji6⟩:∃ j_:Int,(wrap64 ((a0.size:Int) - (a1.size:Int)))=j_:=⟨_,rfl⟩
  (first|rw [hji6] at H|simp only [hji6] at H)
  have hji6w:(IntKind.i64.wrap ((a0.size:Int) - (a1.size:Int)))=ji6:=(i64_w _).trans hji6;replace H:=iteN H;obtain ⟨c7,H⟩:=H;have c7b0:=eq_true c7;have c7b1:=dT c7;clear c7;replace H:=iteN H;obtain ⟨c8,H⟩:=H;have c8b0:=eq_true c8;have c8b1:=dT c8;clear c8;obtain rfl:=sI H;go_wp2
  go_ret
  exact ⟨(by first|rfl|(simp only [i64_w,i32_w];done)|(simp only [aid_isEmpty,aid_isEmpty2];done)|(simp;done)|((simp only [← hji6] <;> (first|rfl|simp));done)|(simp [*];done)),zz6⟩
 ·obtain rfl:=sI H
  go_wp2
  go_ret
  exact ⟨zz0,zz6⟩
def strings_TrimSuffix.f (a0:ByteArray) (a1:ByteArray):Option (ByteArray):=(stringslite_TrimSuffix.f a0 a1).bind fun t113=>(some t113)
theorem strings_TrimSuffix.calls (a0:ByteArray) (a1:ByteArray) (r:ByteArray) (w:World) (h:strings_TrimSuffix.f a0 a1=some r) :
  Calls Tryd.prog 30 #[.string a0,.string a1] w fun e w'=>e=.returned (.string r)∧Drawn0 w w':=by
 unfold strings_TrimSuffix.f at h
 have H:=h;clear h;replace H:=bindA H;obtain ⟨t113,A3,H⟩:=H;obtain rfl:=sI H;go_enter Tryd.func30,Tryd.ntmps30;go_wp2_with (first|(refine gR 44 (some 7) Tryd.func44 (stringslite_TrimSuffix.calls a0 a1 t113 _ A3.out) ?_;rintro w' ⟨nd,rfl⟩))
 go_ret
 exact ⟨zz0,zz6⟩
def impl_standsForItself.f (a0:Int):Option (Bool):=if a0 ≥ 97 then (if a0≤122 then (some true) else (if a0 ≥ 48 then (if a0≤57 then (some true) else (if a0=46 then (some true) else (some (a0 == 45)))) else (if a0=46 then (some true) else (some (a0 == 45))))) else (if a0 ≥ 48 then (if a0≤57 then (some true) else (if a0=46 then (some true) else (some (a0 == 45)))) else (if a0=46 then (some true) else (some (a0 == 45))))
theorem impl_standsForItself.calls (a0:Int) (r:Bool) (w:World) (h:impl_standsForItself.f a0=some r) :
  Calls Tryd.prog 45 #[.int .u8 a0] w fun e w'=>e=.returned (.bool r)∧Drawn0 w w':=by
 unfold impl_standsForItself.f at h
 have H:=h;clear h;replace H:=iteEe H;rcases H with ⟨c2b0,H⟩|⟨c2b0,H⟩
 ·replace H:=iteEd H
  rcases H with ⟨c3b0,H⟩|⟨c3b0,H⟩
  ·obtain rfl:=sI H
   go_enter Tryd.func45,Tryd.ntmps45;go_wp2
   go_ret
   exact ⟨zz0,zz6⟩
  ·replace H:=iteEe H
   rcases H with ⟨c4b0,H⟩|⟨c4b0,H⟩
   ·replace H:=iteEd H
    rcases H with ⟨c5b0,H⟩|⟨c5b0,H⟩
    ·obtain rfl:=sI H
     go_enter Tryd.func45,Tryd.ntmps45;go_wp2
     go_ret
     exact ⟨zz0,zz6⟩
    ·replace H:=iteEq H
     rcases H with ⟨c6b0,c6b1,H⟩|⟨c6b0,c6b1,c6,H⟩
     ·obtain rfl:=sI H
      go_enter Tryd.func45,Tryd.ntmps45;go_wp2
      go_ret
      exact ⟨zz0,zz6⟩
     ·obtain rfl:=sI H
      go_enter Tryd.func45,Tryd.ntmps45;go_wp2
      go_ret
      exact ⟨zz0,zz6⟩
   ·replace H:=iteEq H
    rcases H with ⟨c7b0,c7b1,H⟩|⟨c7b0,c7b1,c7,H⟩
    ·obtain rfl:=sI H
     go_enter Tryd.func45,Tryd.ntmps45;go_wp2
     go_ret
     exact ⟨zz0,zz6⟩
    ·obtain rfl:=sI H
     go_enter Tryd.func45,Tryd.ntmps45;go_wp2
     go_ret
     exact ⟨zz0,zz6⟩
 ·replace H:=iteEe H
  rcases H with ⟨c8b0,H⟩|⟨c8b0,H⟩
  ·replace H:=iteEd H
   rcases H with ⟨c9b0,H⟩|⟨c9b0,H⟩
   ·obtain rfl:=sI H
    go_enter Tryd.func45,Tryd.ntmps45;go_wp2
    go_ret
    exact ⟨zz0,zz6⟩
   ·replace H:=iteEq H
    rcases H with ⟨c10b0,c10b1,H⟩|⟨c10b0,c10b1,c10,H⟩
    ·obtain rfl:=sI H
     go_enter Tryd.func45,Tryd.ntmps45;go_wp2
     go_ret
     exact ⟨zz0,zz6⟩
    ·obtain rfl:=sI H
     go_enter Tryd.func45,Tryd.ntmps45;go_wp2
     go_ret
     exact ⟨zz0,zz6⟩
  ·replace H:=iteEq H
   rcases H with ⟨c11b0,c11b1,H⟩|⟨c11b0,c11b1,c11,H⟩
   ·obtain rfl:=sI H
    go_enter Tryd.func45,Tryd.ntmps45;go_wp2
    go_ret
    exact ⟨zz0,zz6⟩
   ·obtain rfl:=sI H
    go_enter Tryd.func45,Tryd.ntmps45;go_wp2
    go_ret
    exact ⟨zz0,zz6⟩
def impl_isPatternByte.f (a0:Int):Option (Bool):=if a0=47 then (some true) else (if a0=42 then (some true) else (if a0=63 then (some true) else (if a0=37 then (some true) else ((impl_standsForItself.f a0).bind fun t114=>(if t114=true then (some true) else (if a0 ≥ 65 then (some (decide (a0≤70))) else (some false)))))))
theorem impl_isPatternByte.calls (a0:Int) (r:Bool) (w:World) (h:impl_isPatternByte.f a0=some r) :
  Calls Tryd.prog 31 #[.int .u8 a0] w fun e w'=>e=.returned (.bool r)∧Drawn0 w w':=by
 unfold impl_isPatternByte.f at h
 have H:=h;clear h;replace H:=iteEq H;rcases H with ⟨c2b0,c2b1,H⟩|⟨c2b0,c2b1,c2,H⟩
 ·obtain rfl:=sI H
  go_enter Tryd.func31,Tryd.ntmps31;go_wp2
  go_ret
  exact ⟨zz0,zz6⟩
 ·replace H:=iteEq H
  rcases H with ⟨c3b0,c3b1,H⟩|⟨c3b0,c3b1,c3,H⟩
  ·obtain rfl:=sI H
   go_enter Tryd.func31,Tryd.ntmps31;go_wp2
   go_ret
   exact ⟨zz0,zz6⟩
  ·replace H:=iteEq H
   rcases H with ⟨c4b0,c4b1,H⟩|⟨c4b0,c4b1,c4,H⟩
   ·obtain rfl:=sI H
    go_enter Tryd.func31,Tryd.ntmps31;go_wp2
    go_ret
    exact ⟨zz0,zz6⟩
   ·replace H:=iteEq H
    rcases H with ⟨c5b0,c5b1,H⟩|⟨c5b0,c5b1,c5,H⟩
    ·obtain rfl:=sI H
     go_enter Tryd.func31,Tryd.ntmps31;go_wp2
     go_ret
     exact ⟨zz0,zz6⟩
    ·replace H:=bindA H
     obtain ⟨t114,A6,H⟩:=H;have HF7:=A_ H;clear H;go_enter Tryd.func31,Tryd.ntmps31;go_wp2_with (first|(refine gR 45 (some 10) Tryd.func45 (impl_standsForItself.calls a0 t114 _ A6.out) ?_;rintro w' ⟨nd,rfl⟩)|((with_reducible refine atG ?_ ?_ fun K_ hK_=>?_);rfl;exact undecG)|((with_reducible refine atI ?_ fun K_ hK_=>?_);exact undecI))
     refine unG hK_ ?_;clear hK_ K_;obtain ⟨H⟩:=HF7;replace H:=iteB H;rcases H with ⟨rfl,H⟩|⟨rfl,H⟩
     ·(first|refine iteT ?_|refine iteF ?_|skip)
      obtain rfl:=sI H;(try ((with_reducible refine upS ?_);go_simp))
      go_wp2
      go_ret
      exact ⟨zz0,zz6⟩
     ·(first|refine iteT ?_|refine iteF ?_|skip)
      replace H:=iteEe H;rcases H with ⟨c9b0,H⟩|⟨c9b0,H⟩
      ·obtain rfl:=sI H
       go_wp2
       go_ret
       exact ⟨zz0,zz6⟩
      ·obtain rfl:=sI H
       go_wp2
       go_ret
       exact ⟨zz0,zz6⟩
def laws_eqRule.f (a0_0:Bool) (a0_1:ByteArray) (a1_0:Bool) (a1_1:ByteArray):Option (Bool):=if (a0_0 != a1_0)=true then (some false) else (if a0_1.toList=a1_1.toList then (some true) else (some false))
theorem laws_eqRule.calls (a0_0:Bool) (a0_1:ByteArray) (a1_0:Bool) (a1_1:ByteArray) (r:Bool) (w:World) (h:laws_eqRule.f a0_0 a0_1 a1_0 a1_1=some r) :
  Calls Tryd.prog 53 #[.agg #[.bool a0_0,.string a0_1],.agg #[.bool a1_0,.string a1_1]] w fun e w'=>e=.returned (.bool r)∧Below w.heap.size w w':=by
 have hu34:=Tryd.underlying34;have HB:=A_ (Below.refl w.heap.size w);unfold laws_eqRule.f at h
 have H:=h;clear h;replace H:=iteE H;rcases H with ⟨c3,H⟩|⟨c3,H⟩
 ·have c3b0:(a0_0 != a1_0)=true:=c3
  (try (have c3b1:decide (a0_0=a1_0)=false:=by simpa using c3))
  (try (have c3b2:(a0_0 == a1_0)=false:=by simpa using c3))
  (try (have c3b3:¬ (a0_0=a1_0):=by simpa using c3))
  clear c3;obtain rfl:=sI H;go_enter Tryd.func53,Tryd.ntmps53;go_wp2_with (first|(refine boxF 2 #[.bool a0_0,.string a0_1] 34 ?_;intro gb146 hg w4 BK146 hb;have GE146:=geB hg (zz1 HB);replace HB:=A_ (bS (zz1 HB) hb);clear hb hg)|(refine boxF 3 #[.bool a1_0,.string a1_1] 34 ?_;intro gb147 hg w5 BK147 hb;have GE147:=geB hg (zz30 HB GE146);replace HB:=A_ (bS (zz30 HB GE146) hb);have NB146_147:=A_ ((by rw [hg];exact Nat.ne_of_lt (blk_lt (zz31 BK146)):gb146≠gb147));have NB147_146:=A_ ((by rw [hg];exact Nat.ne_of_gt (blk_lt (zz31 BK146)):gb147≠gb146));replace BK146:=A_ (bB (zz31 BK146) hb);clear hb hg;have hnb6:=NB146_147.out;have hnc6:=NB147_146.out;obtain ⟨_,_,_,_⟩:=cf2 BK146;obtain ⟨_,_,_,_⟩:=cf2 BK147))
  go_ret
  exact ⟨zz3,(zz32 HB GE146 GE147)⟩
 ·have c3b0:(a0_0 != a1_0)=false:=by simpa using c3
  (try (have c3b1:decide (a0_0=a1_0)=true:=by simpa using c3))
  (try (have c3b2:(a0_0 == a1_0)=true:=by simpa using c3))
  clear c3;replace H:=iteEq H;rcases H with ⟨c9b0,c9b1,H⟩|⟨c9b0,c9b1,c9,H⟩
  ·obtain rfl:=sI H
   go_enter Tryd.func53,Tryd.ntmps53;go_wp2_with (first|(refine boxF 2 #[.bool a0_0,.string a0_1] 34 ?_;intro gb146 hg w10 BK146 hb;have GE146:=geB hg (zz1 HB);replace HB:=A_ (bS (zz1 HB) hb);clear hb hg)|(refine boxF 3 #[.bool a1_0,.string a1_1] 34 ?_;intro gb147 hg w11 BK147 hb;have GE147:=geB hg (zz30 HB GE146);replace HB:=A_ (bS (zz30 HB GE146) hb);have NB146_147:=A_ ((by rw [hg];exact Nat.ne_of_lt (blk_lt (zz31 BK146)):gb146≠gb147));have NB147_146:=A_ ((by rw [hg];exact Nat.ne_of_gt (blk_lt (zz31 BK146)):gb147≠gb146));replace BK146:=A_ (bB (zz31 BK146) hb);clear hb hg;have hnb12:=NB146_147.out;have hnc12:=NB147_146.out;obtain ⟨_,_,_,_⟩:=cf2 BK146;obtain ⟨_,_,_,_⟩:=cf2 BK147))
   go_ret
   exact ⟨zz3,(zz32 HB GE146 GE147)⟩
  ·obtain rfl:=sI H
   go_enter Tryd.func53,Tryd.ntmps53;go_wp2_with (first|(refine boxF 2 #[.bool a0_0,.string a0_1] 34 ?_;intro gb146 hg w15 BK146 hb;have GE146:=geB hg (zz1 HB);replace HB:=A_ (bS (zz1 HB) hb);clear hb hg)|(refine boxF 3 #[.bool a1_0,.string a1_1] 34 ?_;intro gb147 hg w16 BK147 hb;have GE147:=geB hg (zz30 HB GE146);replace HB:=A_ (bS (zz30 HB GE146) hb);have NB146_147:=A_ ((by rw [hg];exact Nat.ne_of_lt (blk_lt (zz31 BK146)):gb146≠gb147));have NB147_146:=A_ ((by rw [hg];exact Nat.ne_of_gt (blk_lt (zz31 BK146)):gb147≠gb146));replace BK146:=A_ (bB (zz31 BK146) hb);clear hb hg;have hnb17:=NB146_147.out;have hnc17:=NB147_146.out;obtain ⟨_,_,_,_⟩:=cf2 BK146;obtain ⟨_,_,_,_⟩:=cf2 BK147))
   go_ret
   exact ⟨zz3,(zz32 HB GE146 GE147)⟩
def spec_l2Name.l0:Nat→ByteArray→Int→Option (Bool)
 | 0,_,_=>none
 | k+1,x0,x3=>if x3 < (x0.size:Int) then (if 0≤x3 then (if (bt x0 x3) < 97 then (some false) else (if (bt x0 x3) > 122 then (some false) else (spec_l2Name.l0 k x0 (wrap64 (x3+1))))) else (none)) else ((spec_l6In.f (x0.size:Int) 1 8).bind fun t110=>(some t110))
def spec_l2Name.f (k:Nat) (a0:ByteArray):Option (Bool):=spec_l2Name.l0 k a0 0
theorem spec_l2Name.mono_l:∀ k,(∀ y0 y1,LeO (spec_l2Name.l0 k y0 y1) (spec_l2Name.l0 (k+1) y0 y1))
 | 0=>by intros;intro r h;simp [spec_l2Name.l0] at h
 | k+1=>by
  have ih0:=spec_l2Name.mono_l k;intros;unfold spec_l2Name.l0;repeat' first|(with_reducible first|exact ih0 _ _|exact LeO.refl _|exact LeO.none _|refine LeO.ite ?_ ?_|refine LeO.bind ?_ (fun _=>?_))|exact LeO.none _|refine LeO.ite ?_ ?_|refine LeO.bind ?_ (fun _=>?_)
theorem spec_l2Name.mono:∀ a0 k,LeO (spec_l2Name.f k a0) (spec_l2Name.f (k+1) a0):=by
 intro a0 k;have ih0:=spec_l2Name.mono_l k;unfold spec_l2Name.f
 repeat' first|(with_reducible first|exact ih0 _ _|exact LeO.refl _|exact LeO.none _|refine LeO.ite ?_ ?_|refine LeO.bind ?_ (fun _=>?_))|exact LeO.none _|refine LeO.ite ?_ ?_|refine LeO.bind ?_ (fun _=>?_)
theorem spec_l2Name.calls (k:Nat) (a0:ByteArray) (r:Bool) (w:World) (h:spec_l2Name.f k a0=some r) :
  Calls Tryd.prog 32 #[.string a0] w fun e w'=>e=.returned (.bool r)∧Drawn0 w w':=by
 unfold spec_l2Name.f at h
 have H:=h;clear h;have H':=A_ H;clear H;go_enter Tryd.func32,Tryd.ntmps32;go_wp2
 go_loopg [3] k (fun kq v3 w'=>∃ (x3_1:Int),v3=.int .i64 x3_1∧Aside0 (spec_l2Name.l0 kq a0 x3_1=some r)∧Aside0 (kq≤k)∧Drawn0 w w')
 case atStart=>exact ⟨(0),zz0,H',⟨Nat.le_refl _⟩,zz6⟩
 case round=>
  clear H';obtain ⟨x3_1,rfl,HA,HK1,⟨m1,rfl⟩⟩:=hrel;cases gk with
  | zero=>exact absurd HA.out (by simp [spec_l2Name.l0])
  | succ k1=>
   obtain ⟨H⟩:=HA;simp only [spec_l2Name.l0] at H
   replace H:=iteEd H;rcases H with ⟨c2b0,H⟩|⟨c2b0,H⟩
   ·replace H:=iteNd H
    obtain ⟨c3b0,H⟩:=H;replace H:=iteEd H;rcases H with ⟨c5b0,H⟩|⟨c5b0,H⟩
    ·obtain rfl:=sI H
     have p4:0≤(x3_1:Int):=ofD;have q4:x3_1 < (a0.size:Int):=ofD;have hx4:=bt_at a0 x3_1;replace p4:=eq_true p4;replace q4:=eq_true q4;go_wp2
     go_ret
     exact ⟨zz0,zz6⟩
    ·replace H:=iteEg H
     rcases H with ⟨c7b0,H⟩|⟨c7b0,H⟩
     ·obtain rfl:=sI H
      have p4:0≤(x3_1:Int):=ofD;have q4:x3_1 < (a0.size:Int):=ofD;have hx4:=bt_at a0 x3_1;replace p4:=eq_true p4;replace q4:=eq_true q4;have p6:0≤(x3_1:Int):=ofD;have q6:x3_1 < (a0.size:Int):=ofD;have hx6:=bt_at a0 x3_1;replace p6:=eq_true p6;replace q6:=eq_true q6;go_wp2
      go_ret
      exact ⟨zz0,zz6⟩
     ·have H':=A_ H
      clear H;have p4:0≤(x3_1:Int):=ofD;have q4:x3_1 < (a0.size:Int):=ofD;have hx4:=bt_at a0 x3_1;replace p4:=eq_true p4;replace q4:=eq_true q4;have p6:0≤(x3_1:Int):=ofD;have q6:x3_1 < (a0.size:Int):=ofD;have hx6:=bt_at a0 x3_1;replace p6:=eq_true p6;replace q6:=eq_true q6;go_wp2
      go_roundg k1
      case measure=>have:=HK1.out;omega
      case rel=>exact ⟨(wrap64 (x3_1+1)),zz0,H',⟨(zz5 HK1)⟩,zz6⟩
   ·replace H:=bindA H
    obtain ⟨t110,A8,H⟩:=H;obtain rfl:=sI H;go_wp2_with (first|(refine gR 46 (some 22) Tryd.func46 (spec_l6In.calls (a0.size:Int) 1 8 t110 _ A8.out) ?_;rintro w' ⟨nd,rfl⟩))
    go_ret
    exact ⟨zz0,zz6⟩
mutual
def spec_RuleOk.j0:Nat→ByteArray→Bool→Option (Bool)
 | 0,_,_=>none
 | k+1,x0,x16=>if x16=true then (some false) else (spec_RuleOk.l0 k x0 0)
def spec_RuleOk.l0:Nat→ByteArray→Int→Option (Bool)
 | 0,_,_=>none
 | k+1,x0,x3=>if x3 < (x0.size:Int) then (if 0≤x3 then ((spec_l1Plain.f (bt x0 x3)).bind fun t111=>(if t111=true then (spec_RuleOk.l0 k x0 (wrap64 (x3+1))) else (if (bt x0 x3)=47 then (spec_RuleOk.l0 k x0 (wrap64 (x3+1))) else (if (bt x0 x3)=42 then (spec_RuleOk.l0 k x0 (wrap64 (x3+1))) else (if (bt x0 x3)=63 then (spec_RuleOk.l0 k x0 (wrap64 (x3+1))) else (if (bt x0 x3)=37 then (spec_RuleOk.l0 k x0 (wrap64 (x3+1))) else (if (bt x0 x3) ≥ 65 then (if ((bt x0 x3)≤70) then (spec_RuleOk.l0 k x0 (wrap64 (x3+1))) else (if (bt x0 x3)=36 then (if (x3=(wrap64 ((x0.size:Int) - 1))) then (spec_RuleOk.l0 k x0 (wrap64 (x3+1))) else (some false)) else (some false))) else (if (bt x0 x3)=36 then (if (x3=(wrap64 ((x0.size:Int) - 1))) then (spec_RuleOk.l0 k x0 (wrap64 (x3+1))) else (some false)) else (some false))))))))) else (none)) else (some true)
end
def spec_RuleOk.f (k:Nat) (a0:ByteArray):Option (Bool):=if (a0.size:Int) > 16 then (spec_RuleOk.j0 k a0 true) else (if a0.toList=([]:List UInt8) then (spec_RuleOk.j0 k a0 true) else (if 0 < (a0.size:Int) then (spec_RuleOk.j0 k a0 ((bt a0 0) != 47)) else (none)))
theorem spec_RuleOk.calls (k:Nat) (a0:ByteArray) (r:Bool) (w:World) (h:spec_RuleOk.f k a0=some r) :
  Calls Tryd.prog 33 #[.string a0] w fun e w'=>e=.returned (.bool r)∧Drawn0 w w':=by
 unfold spec_RuleOk.f at h
 have H:=h;clear h;have HC2:=A_ H;clear H;go_enter Tryd.func33,Tryd.ntmps33;go_upto_region 1 with (fail)
 go_cut [16] (fun v16 wc=>∃ (kq:Nat) (x16_1:Bool),v16=.bool x16_1∧Aside0 (spec_RuleOk.j0 kq a0 x16_1=some r)∧Aside0 (kq≤k)∧Drawn0 w wc)
 case first=>
  obtain ⟨H⟩:=HC2;replace H:=iteE H;rcases H with ⟨c3,H⟩|⟨c3,H⟩
  ·have c3b0:=gtT c3
   have c3b1:decide (16 < a0.size)=true:=dT (by omega);clear c3;(first|rw [c3b0]|(simp only [i64_w,i32_w];rw [c3b0])|skip)
   have H':=A_ H;clear H;go_wp2
   go_meet
   case rel=>exact ⟨_,(true),zz0,H',⟨zz34⟩,zz6⟩
  ·have c3b0:=gtF c3
   have c3b1:decide (16 < a0.size)=false:=dF (by omega);clear c3;(first|rw [c3b0]|(simp only [i64_w,i32_w];rw [c3b0])|skip)
   replace H:=iteEq H;rcases H with ⟨c4b0,c4b1,H⟩|⟨c4b0,c4b1,c4,H⟩
   ·have H':=A_ H
    clear H;go_wp2
    go_meet
    case rel=>exact ⟨_,(true),zz0,H',⟨zz34⟩,zz6⟩
   ·replace H:=iteN H
    obtain ⟨c5,H⟩:=H;have c5b0:=dT c5;have c5b1:decide (0 < a0.size)=true:=dT (by omega);clear c5;have H':=A_ H;clear H;have p6:0≤(0:Int):=(by omega);have q6:0 < a0.size:=(by have:(0:Int) < (a0.size:Int):=ofD;omega);have hx6:∀ h:0 < a0.size,((a0[0]'h).toNat:Int)=bt a0 0:=bt_at a0 0;clear p6;have qi6:(0 < (a0.size:Int))=True:=eq_true ofD;replace q6:=eq_true q6;go_wp2
    go_meet
    case rel=>exact ⟨_,(((bt a0 0) != 47)),zz0,H',⟨zz34⟩,zz6⟩
 case rest=>
  clear HC2;obtain ⟨kq,x16_1,rfl,HA,HJ1,⟨mc1,rfl⟩⟩:=hcut;cases kq with
  | zero=>exact absurd HA.out (by simp [spec_RuleOk.j0])
  | succ kj1=>
   obtain ⟨H⟩:=HA;simp only [spec_RuleOk.j0] at H
   replace H:=iteB H;rcases H with ⟨rfl,H⟩|⟨rfl,H⟩
   ·obtain rfl:=sI H
    go_wp2
    go_ret
    exact ⟨zz0,zz6⟩
   ·have H':=A_ H
    clear H;go_wp2
    go_loopg [3] kj1 (fun kq v3 w'=>∃ (x3_2:Int),v3=.int .i64 x3_2∧Aside0 (spec_RuleOk.l0 kq a0 x3_2=some r)∧Aside0 (kq≤kj1)∧Drawn0 w w')
    case atStart=>exact ⟨(0),zz0,H',⟨Nat.le_refl _⟩,zz6⟩
    case round=>
     clear H';obtain ⟨x3_2,rfl,HA,HK2,⟨m2,rfl⟩⟩:=hrel;cases gk with
     | zero=>exact absurd HA.out (by simp [spec_RuleOk.l0])
     | succ k2=>
      obtain ⟨H⟩:=HA;simp only [spec_RuleOk.l0] at H
      replace H:=iteEd H;rcases H with ⟨c8b0,H⟩|⟨c8b0,H⟩
      ·replace H:=iteNd H
       obtain ⟨c9b0,H⟩:=H;replace H:=bindA H;obtain ⟨t111,A11,H⟩:=H;have HF12:=A_ H;clear H;have p10:0≤(x3_2:Int):=ofD;have q10:x3_2 < (a0.size:Int):=ofD;have hx10:=bt_at a0 x3_2;replace p10:=eq_true p10;replace q10:=eq_true q10;go_wp2_with (first|(refine gR 47 (some 27) Tryd.func47 (spec_l1Plain.calls (bt a0 x3_2) t111 _ A11.out) ?_;rintro w' ⟨nd,rfl⟩)|((with_reducible refine atG ?_ ?_ fun K_ hK_=>?_);rfl;exact undecG)|((with_reducible refine atI ?_ fun K_ hK_=>?_);exact undecI))
       refine unG hK_ ?_;clear hK_ K_;obtain ⟨H⟩:=HF12;replace H:=iteB H;rcases H with ⟨rfl,H⟩|⟨rfl,H⟩
       ·(first|refine iteT ?_|refine iteF ?_|skip)
        have H':=A_ H;clear H;(try ((with_reducible refine upS ?_);go_simp))
        go_wp2
        go_roundg k2
        case measure=>have:=HJ1.out;have:=HK2.out;omega
        case rel=>exact ⟨(wrap64 (x3_2+1)),zz0,H',⟨(zz37 HJ1 HK2)⟩,zz6⟩
       ·(first|refine iteT ?_|refine iteF ?_|skip)
        replace H:=iteEq H;rcases H with ⟨c14b0,c14b1,H⟩|⟨c14b0,c14b1,c14,H⟩
        ·have H':=A_ H
         clear H;go_wp2
         go_roundg k2
         case measure=>have:=HJ1.out;have:=HK2.out;omega
         case rel=>exact ⟨(wrap64 (x3_2+1)),zz0,H',⟨(zz37 HJ1 HK2)⟩,zz6⟩
        ·replace H:=iteEq H
         rcases H with ⟨c15b0,c15b1,H⟩|⟨c15b0,c15b1,c15,H⟩
         ·have H':=A_ H
          clear H;go_wp2
          go_roundg k2
          case measure=>have:=HJ1.out;have:=HK2.out;omega
          case rel=>exact ⟨(wrap64 (x3_2+1)),zz0,H',⟨(zz37 HJ1 HK2)⟩,zz6⟩
         ·replace H:=iteEq H
          rcases H with ⟨c16b0,c16b1,H⟩|⟨c16b0,c16b1,c16,H⟩
          ·have H':=A_ H
           clear H;go_wp2
           go_roundg k2
           case measure=>have:=HJ1.out;have:=HK2.out;omega
           case rel=>exact ⟨(wrap64 (x3_2+1)),zz0,H',⟨(zz37 HJ1 HK2)⟩,zz6⟩
          ·replace H:=iteEq H
           rcases H with ⟨c17b0,c17b1,H⟩|⟨c17b0,c17b1,c17,H⟩
           ·have H':=A_ H
            clear H;go_wp2
            go_roundg k2
            case measure=>have:=HJ1.out;have:=HK2.out;omega
            case rel=>exact ⟨(wrap64 (x3_2+1)),zz0,H',⟨(zz37 HJ1 HK2)⟩,zz6⟩
           ·replace H:=iteEe H
            rcases H with ⟨c18b0,H⟩|⟨c18b0,H⟩
            ·replace H:=iteE H
             rcases H with ⟨c19,H⟩|⟨c19,H⟩
             ·have c19b0:decide ((bt a0 x3_2)≤70)=true:=dT c19
              clear c19;have H':=A_ H;clear H;go_wp2
              go_roundg k2
              case measure=>have:=HJ1.out;have:=HK2.out;omega
              case rel=>exact ⟨(wrap64 (x3_2+1)),zz0,H',⟨(zz37 HJ1 HK2)⟩,zz6⟩
             ·have c19b0:decide ((bt a0 x3_2)≤70)=false:=dF c19
              clear c19;replace H:=iteEq H;rcases H with ⟨c20b0,c20b1,H⟩|⟨c20b0,c20b1,c20,H⟩
              ·replace H:=iteEq H
               rcases H with ⟨c21b0,c21b1,H⟩|⟨c21b0,c21b1,c21,H⟩
               ·have H':=A_ H
                clear H;go_wp2
                go_roundg k2
                case measure=>have:=HJ1.out;have:=HK2.out;omega
                case rel=>exact ⟨(wrap64 (x3_2+1)),zz0,H',⟨(zz37 HJ1 HK2)⟩,zz6⟩
               ·obtain rfl:=sI H
                go_wp2
                go_ret
                exact ⟨zz0,zz6⟩
              ·obtain rfl:=sI H
               go_wp2
               go_ret
               exact ⟨zz0,zz6⟩
            ·replace H:=iteEq H
             rcases H with ⟨c22b0,c22b1,H⟩|⟨c22b0,c22b1,c22,H⟩
             ·replace H:=iteEq H
              rcases H with ⟨c23b0,c23b1,H⟩|⟨c23b0,c23b1,c23,H⟩
              ·have H':=A_ H
               clear H;go_wp2
               go_roundg k2
               case measure=>have:=HJ1.out;have:=HK2.out;omega
               case rel=>exact ⟨(wrap64 (x3_2+1)),zz0,H',⟨(zz37 HJ1 HK2)⟩,zz6⟩
              ·obtain rfl:=sI H
               go_wp2
               go_ret
               exact ⟨zz0,zz6⟩
             ·obtain rfl:=sI H
              go_wp2
              go_ret
              exact ⟨zz0,zz6⟩
      ·obtain rfl:=sI H
       go_wp2
       go_ret
       exact ⟨zz0,zz6⟩
mutual
def impl_RuleOk.j0:Nat→ByteArray→Bool→Option (Bool)
 | 0,_,_=>none
 | k+1,x0,x17=>if x17=true then (some false) else ((strings_TrimSuffix.f x0 (⟨#[36]⟩:ByteArray)).bind fun t115=>(impl_RuleOk.l0 k t115 0))
def impl_RuleOk.l0:Nat→ByteArray→Int→Option (Bool)
 | 0,_,_=>none
 | k+1,x3,x4=>if x4 < (x3.size:Int) then (if 0≤x4 then ((impl_isPatternByte.f (bt x3 x4)).bind fun t116=>(if t116=true then (impl_RuleOk.l0 k x3 (wrap64 (x4+1))) else (some false))) else (none)) else (some true)
end
def impl_RuleOk.f (k:Nat) (a0:ByteArray):Option (Bool):=if (a0.size:Int) < 1 then (impl_RuleOk.j0 k a0 true) else (if (a0.size:Int) > 16 then (impl_RuleOk.j0 k a0 true) else (if 0 < (a0.size:Int) then (impl_RuleOk.j0 k a0 ((bt a0 0) != 47)) else (none)))
theorem impl_RuleOk.calls (k:Nat) (a0:ByteArray) (r:Bool) (w:World) (h:impl_RuleOk.f k a0=some r) :
  Calls Tryd.prog 13 #[.string a0] w fun e w'=>e=.returned (.bool r)∧Drawn0 w w':=by
 unfold impl_RuleOk.f at h
 have H:=h;clear h;have HC2:=A_ H;clear H;go_enter Tryd.func13,Tryd.ntmps13;go_upto_region 1 with (fail)
 go_cut [17] (fun v17 wc=>∃ (kq:Nat) (x17_1:Bool),v17=.bool x17_1∧Aside0 (impl_RuleOk.j0 kq a0 x17_1=some r)∧Aside0 (kq≤k)∧Drawn0 w wc)
 case first=>
  obtain ⟨H⟩:=HC2;replace H:=iteE H;rcases H with ⟨c3,H⟩|⟨c3,H⟩
  ·have c3b0:=dT c3
   have c3b1:decide (a0.size < 1)=true:=dT (by omega);clear c3;(first|rw [c3b0]|(simp only [i64_w,i32_w];rw [c3b0])|skip)
   have H':=A_ H;clear H;go_wp2
   go_meet
   case rel=>exact ⟨_,(true),zz0,H',⟨zz34⟩,zz6⟩
  ·have c3b0:=dF c3
   have c3b1:decide (a0.size < 1)=false:=dF (by omega);clear c3;(first|rw [c3b0]|(simp only [i64_w,i32_w];rw [c3b0])|skip)
   replace H:=iteE H;rcases H with ⟨c4,H⟩|⟨c4,H⟩
   ·have c4b0:=gtT c4
    have c4b1:decide (16 < a0.size)=true:=dT (by omega);clear c4;have H':=A_ H;clear H;go_wp2
    go_meet
    case rel=>exact ⟨_,(true),zz0,H',⟨zz34⟩,zz6⟩
   ·have c4b0:=gtF c4
    have c4b1:decide (16 < a0.size)=false:=dF (by omega);clear c4;replace H:=iteN H;obtain ⟨c5,H⟩:=H;have c5b0:=dT c5;have c5b1:decide (0 < a0.size)=true:=dT (by omega);clear c5;have H':=A_ H;clear H;have p6:0≤(0:Int):=(by omega);have q6:0 < a0.size:=(by have:(0:Int) < (a0.size:Int):=ofD;omega);have hx6:∀ h:0 < a0.size,((a0[0]'h).toNat:Int)=bt a0 0:=bt_at a0 0;clear p6;have qi6:(0 < (a0.size:Int))=True:=eq_true ofD;replace q6:=eq_true q6;go_wp2
    go_meet
    case rel=>exact ⟨_,(((bt a0 0) != 47)),zz0,H',⟨zz34⟩,zz6⟩
 case rest=>
  clear HC2;obtain ⟨kq,x17_1,rfl,HA,HJ1,⟨mc1,rfl⟩⟩:=hcut;cases kq with
  | zero=>exact absurd HA.out (by simp [impl_RuleOk.j0])
  | succ kj1=>
   obtain ⟨H⟩:=HA;simp only [impl_RuleOk.j0] at H
   replace H:=iteB H;rcases H with ⟨rfl,H⟩|⟨rfl,H⟩
   ·obtain rfl:=sI H
    go_wp2
    go_ret
    exact ⟨zz0,zz6⟩
   ·replace H:=bindA H
    obtain ⟨t115,A8,H⟩:=H;have H':=A_ H;clear H;go_wp2_with (first|(refine gR 30 (some 19) Tryd.func30 (strings_TrimSuffix.calls a0 (⟨#[36]⟩:ByteArray) t115 _ A8.out) ?_;rintro w' ⟨nd,rfl⟩))
    go_loopg [4] kj1 (fun kq v4 w'=>∃ (x4_2:Int),v4=.int .i64 x4_2∧Aside0 (impl_RuleOk.l0 kq t115 x4_2=some r)∧Aside0 (kq≤kj1)∧Drawn0 w w')
    case atStart=>exact ⟨(0),zz0,H',⟨Nat.le_refl _⟩,zz6⟩
    case round=>
     clear H';obtain ⟨x4_2,rfl,HA,HK2,⟨m2,rfl⟩⟩:=hrel;cases gk with
     | zero=>exact absurd HA.out (by simp [impl_RuleOk.l0])
     | succ k2=>
      obtain ⟨H⟩:=HA;simp only [impl_RuleOk.l0] at H
      replace H:=iteEd H;rcases H with ⟨c9b0,H⟩|⟨c9b0,H⟩
      ·replace H:=iteNd H
       obtain ⟨c10b0,H⟩:=H;replace H:=bindA H;obtain ⟨t116,A12,H⟩:=H;have HF13:=A_ H;clear H;have p11:0≤(x4_2:Int):=ofD;have q11:x4_2 < (t115.size:Int):=ofD;have hx11:=bt_at t115 x4_2;replace p11:=eq_true p11;replace q11:=eq_true q11;go_upto_if 30 with (first|(refine gR 31 (some 29) Tryd.func31 (impl_isPatternByte.calls (bt t115 x4_2) t116 _ A12.out) ?_;rintro w' ⟨nd,rfl⟩))
       obtain ⟨H⟩:=HF13;replace H:=iteB H;rcases H with ⟨rfl,H⟩|⟨rfl,H⟩
       ·have H':=A_ H
        clear H;go_wp2
        go_roundg k2
        case measure=>have:=HJ1.out;have:=HK2.out;omega
        case rel=>exact ⟨(wrap64 (x4_2+1)),zz0,H',⟨(zz37 HJ1 HK2)⟩,zz6⟩
       ·obtain rfl:=sI H
        go_wp2
        go_ret
        exact ⟨zz0,zz6⟩
      ·obtain rfl:=sI H
       go_wp2
       go_ret
       exact ⟨zz0,zz6⟩
def laws_eqRuleS.l0:Nat→List (S34)→List (S34)→Int→Option (Bool)
 | 0,_,_,_=>none
 | k+1,x0,x1,x5=>if x5 < (x0.length:Int) then (if 0≤x5 then (if x5 < (x1.length:Int) then ((laws_eqRule.f ((rd_T34 x0 x5).f0) ((rd_T34 x0 x5).f1) ((rd_T34 x1 x5).f0) ((rd_T34 x1 x5).f1)).bind fun t150=>(if t150=true then (laws_eqRuleS.l0 k x0 x1 (wrap64 (x5+1))) else (some false))) else (none)) else (none)) else (some true)
def laws_eqRuleS.f (k:Nat) (l0:List (S34)) (l1:List (S34)):Option (Bool):=if (l0.length:Int)=(l1.length:Int) then (laws_eqRuleS.l0 k l0 l1 0) else (some false)
def laws_eqRuleS.T6:Bool×List (List Nat×List Nat):=(true,[([],[]),([],[]),([0,1],[0,1]),([2],[2]),([],[]),([],[]),([4,5],[4,5]),([6],[6]),([3,7],[3,7]),([8],[8])])
def laws_eqRuleS.B6:List Nat:=[0,0,3,7,0,0,48,112,255,511]
theorem laws_eqRuleS.tab6:rtab .any (opsOf Tryd.f40 6)=laws_eqRuleS.T6:=by kernel_rfl
theorem laws_eqRuleS.bits6:waitsOk laws_eqRuleS.T6.2 laws_eqRuleS.B6=true:=by kernel_rfl
theorem laws_eqRuleS.calls (k:Nat) (A0:Option Addr) (c0:Nat) (l0:List (S34)) (A1:Option Addr) (c1:Nat) (l1:List (S34)) (r:Bool) (w:World) (hr0:Kd.C k34 w A0 l0.length l0) (hc0:l0.length≤c0) (hr1:Kd.C k34 w A1 l1.length l1) (hc1:l1.length≤c1) (h:laws_eqRuleS.f k l0 l1=some r) :
  Calls Tryd.prog 40 #[.slice A0 l0.length c0,.slice A1 l1.length c1] w fun e w'=>e=.returned (.bool r)∧Below w.heap.size w w':=by
 have hu34:=Tryd.underlying34;have HR0:=A_ hr0;have HC0:=A_ hc0;clear hr0 hc0;have HR1:=A_ hr1;have HC1:=A_ hc1;clear hr1 hc1;have HB:=A_ (Below.refl w.heap.size w);unfold laws_eqRuleS.f at h
 have H:=h;clear h;replace H:=iteE H;rcases H with ⟨c3,H⟩|⟨c3,H⟩
 ·obtain ⟨c3b0,c3b1⟩:=eqT c3
  have c3b2:(l0.length == l1.length)=true:=by first|simpa using c3|(simp at c3 ⊢;omega)
  clear c3;have H':=A_ H;clear H;go_enter Tryd.func40,Tryd.ntmps40;go_wp2
  go_loopg [5] k (fun kq v5 w'=>∃ (x5_1:Int),v5=.int .i64 x5_1∧Aside0 (laws_eqRuleS.l0 kq l0 l1 x5_1=some r)∧Aside0 (kq≤k)∧Aside0 (Below w.heap.size w w'))
  case atStart=>exact ⟨(0),zz0,H',⟨Nat.le_refl _⟩,⟨(zz1 HB)⟩⟩
  case round=>
   clear H';obtain ⟨x5_1,rfl,HA,HK1,HB⟩:=hrel;cases gk with
   | zero=>exact absurd HA.out (by simp [laws_eqRuleS.l0])
   | succ k1=>
    obtain ⟨H⟩:=HA;simp only [laws_eqRuleS.l0] at H
    replace H:=iteEd H;rcases H with ⟨c4b0,H⟩|⟨c4b0,H⟩
    ·replace H:=iteNd H
     obtain ⟨c5b0,H⟩:=H;replace H:=iteNd H;obtain ⟨c6b0,H⟩:=H;replace H:=bindA H;obtain ⟨t150,A7,H⟩:=H;have HF8:=A_ H;clear H;try go_wp2
     replace HB:=A_ (below_drew1 HB.out);obtain ⟨⟨ad148,e148,hx148_0,hx148_1⟩,p148,q148⟩:=atB (at_T34 HR0.out x5_1);have hw148_1:=hx148_1;have hw148_0:=hx148_0;cases e148
     obtain ⟨hx148_0,hx148_1⟩:=cb2 HB hx148_0 hx148_1;obtain ⟨⟨ad149,e149,hx149_0,hx149_1⟩,p149,q149⟩:=atB (at_T34 HR1.out x5_1);have hw149_1:=hx149_1;have hw149_0:=hx149_0;cases e149
     obtain ⟨hx149_0,hx149_1⟩:=cb2 HB hx149_0 hx149_1;refine start_ (n:=10) (S:=fun w'=>w'.cell? (ad148.add ((x5_1).toNat * 2))=some (.bool ((rd_T34 l0 x5_1).f0))∧w'.cell? ⟨(ad148.add ((x5_1).toNat * 2)).block,(ad148.add ((x5_1).toNat * 2)).off+1,none⟩=some (.string ((rd_T34 l0 x5_1).f1))∧w'.cell? (ad149.add ((x5_1).toNat * 2))=some (.bool ((rd_T34 l1 x5_1).f0))∧w'.cell? ⟨(ad149.add ((x5_1).toNat * 2)).block,(ad149.add ((x5_1).toNat * 2)).off+1,none⟩=some (.string ((rd_T34 l1 x5_1).f1))) (ds:=[]) #[yF,yF,yF,yF,yF,yF,yF,yF,yF,yF] (by kernel_rfl) rfl rfl ⟨((HB.out.cell (World.block_lt_of_cell? w _ hw148_0)).trans hw148_0),((HB.out.cell (World.block_lt_of_cell? w _ hw148_1)).trans hw148_1),((HB.out.cell (World.block_lt_of_cell? w _ hw149_0)).trans hw149_0),((HB.out.cell (World.block_lt_of_cell? w _ hw149_1)).trans hw149_1)⟩ (fun hHeld=>?_);refine with_tabW laws_eqRuleS.tab6 laws_eqRuleS.bits6 (fun HT_ HW_=>?_);generalize wr.drew=w9 at HB hx148_0 hx148_1 hx149_0 hx149_1 hHeld ⊢;refine pureZ 0 (some 17) #[yT,yF,yF,yF,yF,yF,yF,yF,yF,yF] ?_;refine pureZ 1 (some 18) #[yT,yT,yF,yF,yF,yF,yF,yF,yF,yF] ?_;refine pureZ 2 (some 19) #[yT,yT,yT,yF,yF,yF,yF,yF,yF,yF] ?_;refine pureZ 4 (some 21) #[yT,yT,yT,yF,yT,yF,yF,yF,yF,yF] ?_;refine pureZ 5 (some 22) #[yT,yT,yT,yF,yT,yT,yF,yF,yF,yF] ?_;refine pureZ 6 (some 23) #[yT,yT,yT,yF,yT,yT,yT,yF,yF,yF] ?_;refine takeZ4 3 (some 20) #[yT,yT,yT,yT,yT,yT,yT,yF,yF,yF] hHeld ?_;refine takeZ4 7 (some 24) #[yT,yT,yT,yT,yT,yT,yT,yT,yF,yF] hHeld ?_;refine oneZ 8 (some 25) #[yT,yT,yT,yT,yT,yT,yT,yT,yT,yF] (fun K hK=>?_);refine goes_ Tryd.func53 (by kernel_rfl) rfl #[.agg #[.bool ((rd_T34 l0 x5_1).f0),.string ((rd_T34 l0 x5_1).f1)],.agg #[.bool ((rd_T34 l1 x5_1).f0),.string ((rd_T34 l1 x5_1).f1)]] (by rfl) rfl rfl zz24 ?_;with_reducible refine (laws_eqRule.calls ((rd_T34 l0 x5_1).f0) ((rd_T34 l0 x5_1).f1) ((rd_T34 l1 x5_1).f0) ((rd_T34 l1 x5_1).f1) t150 _ A7.out).mono ?_
     rintro e w10 ⟨rfl,hb⟩;refine ⟨_,rfl,?_⟩;replace HB:=A_ (bS (zz1 HB) hb);(try clear hb)
     (try clear hb2)
     (try clear hk)
     (try clear hi)
     refine hK.out _ _ ⟨((HB.out.cell (World.block_lt_of_cell? w _ hw148_0)).trans hw148_0),((HB.out.cell (World.block_lt_of_cell? w _ hw148_1)).trans hw148_1),((HB.out.cell (World.block_lt_of_cell? w _ hw149_0)).trans hw149_0),((HB.out.cell (World.block_lt_of_cell? w _ hw149_1)).trans hw149_1)⟩ (fun hHeld=>?_);clear hK K;refine nZ 25 ?_;refine pureZ 9 (some 26) #[yT,yT,yT,yT,yT,yT,yT,yT,yT,yT] ?_;refine done_ (done_of HT_.out (by kernel_rfl)) ?_;go_upto_if 26 with (fail)
     obtain ⟨H⟩:=HF8;replace H:=iteB H;rcases H with ⟨rfl,H⟩|⟨rfl,H⟩
     ·have H':=A_ H
      clear H;go_wp2
      go_roundg k1
      case measure=>have:=HK1.out;omega
      case rel=>exact ⟨(wrap64 (x5_1+1)),zz0,H',⟨(zz5 HK1)⟩,⟨(zz1 HB)⟩⟩
     ·obtain rfl:=sI H
      go_wp2
      go_ret
      exact ⟨zz3,(zz1 HB)⟩
    ·obtain rfl:=sI H
     go_wp2
     go_ret
     exact ⟨zz3,(zz1 HB)⟩
 ·obtain ⟨c3b0,c3b1⟩:=eqF c3
  have c3b2:(l0.length == l1.length)=false:=by first|simpa using c3|(simp at c3 ⊢;omega)
  obtain rfl:=sI H;go_enter Tryd.func40,Tryd.ntmps40;go_wp2
  go_ret
  exact ⟨zz3,(zz1 HB)⟩
def laws_eqGroup.f (k:Nat) (l0_0:List ByteArray) (l0_1:List (S34)) (a0_2:Int) (l1_0:List ByteArray) (l1_1:List (S34)) (a1_2:Int):Option (Bool):=(laws_eqStringS.f k l0_0 l1_0).bind fun t153=>(if t153=true then ((laws_eqRuleS.f k l0_1 l1_1).bind fun t154=>(if t154=true then (if a0_2=a1_2 then (some true) else (some false)) else (some false))) else (some false))
theorem laws_eqGroup.calls (k:Nat) (A0_0:Option Addr) (c0_0:Nat) (l0_0:List ByteArray) (A0_1:Option Addr) (c0_1:Nat) (l0_1:List (S34)) (a0_2:Int) (A1_0:Option Addr) (c1_0:Nat) (l1_0:List ByteArray) (A1_1:Option Addr) (c1_1:Nat) (l1_1:List (S34)) (a1_2:Int) (r:Bool) (w:World) (hr0_0:Kd.C Kd.string w A0_0 l0_0.length l0_0) (hc0_0:l0_0.length≤c0_0) (hr0_1:Kd.C k34 w A0_1 l0_1.length l0_1) (hc0_1:l0_1.length≤c0_1) (hr1_0:Kd.C Kd.string w A1_0 l1_0.length l1_0) (hc1_0:l1_0.length≤c1_0) (hr1_1:Kd.C k34 w A1_1 l1_1.length l1_1) (hc1_1:l1_1.length≤c1_1) (h:laws_eqGroup.f k l0_0 l0_1 a0_2 l1_0 l1_1 a1_2=some r) :
  Calls Tryd.prog 20 #[.agg #[.slice A0_0 l0_0.length c0_0,.slice A0_1 l0_1.length c0_1,.int .i64 a0_2],.agg #[.slice A1_0 l1_0.length c1_0,.slice A1_1 l1_1.length c1_1,.int .i64 a1_2]] w fun e w'=>e=.returned (.bool r)∧Below w.heap.size w w':=by
 have hu32:=Tryd.underlying32;have HR0_0:=A_ hr0_0;have HC0_0:=A_ hc0_0;clear hr0_0 hc0_0;have HR0_1:=A_ hr0_1;have HC0_1:=A_ hc0_1;clear hr0_1 hc0_1;have HR1_0:=A_ hr1_0;have HC1_0:=A_ hc1_0;clear hr1_0 hc1_0;have HR1_1:=A_ hr1_1;have HC1_1:=A_ hc1_1;clear hr1_1 hc1_1;have HB:=A_ (Below.refl w.heap.size w);unfold laws_eqGroup.f at h
 have H:=h;clear h;replace H:=bindA H;obtain ⟨t153,A3,H⟩:=H;have HF4:=A_ H;clear H;go_enter Tryd.func20,Tryd.ntmps20;go_upto_if 10 with (first|(refine boxF 2 #[.slice A0_0 l0_0.length c0_0,.slice A0_1 l0_1.length c0_1,.int .i64 a0_2] 32 ?_;intro gb151 hg w5 BK151 hb;have GE151:=geB hg (zz1 HB);replace HB:=A_ (bS (zz1 HB) hb);clear hb hg)|(refine boxF 3 #[.slice A1_0 l1_0.length c1_0,.slice A1_1 l1_1.length c1_1,.int .i64 a1_2] 32 ?_;intro gb152 hg w6 BK152 hb;have GE152:=geB hg (zz30 HB GE151);replace HB:=A_ (bS (zz30 HB GE151) hb);have NB151_152:=A_ ((by rw [hg];exact Nat.ne_of_lt (blk_lt (zz31 BK151)):gb151≠gb152));have NB152_151:=A_ ((by rw [hg];exact Nat.ne_of_gt (blk_lt (zz31 BK151)):gb152≠gb151));replace BK151:=A_ (bB (zz31 BK151) hb);clear hb hg;have hnb7:=NB151_152.out;have hnc7:=NB152_151.out;obtain ⟨_,_,_,_,_,_⟩:=cf3 BK151;obtain ⟨_,_,_,_,_,_⟩:=cf3 BK152)|(refine gR 39 (some 9) Tryd.func39 (laws_eqStringS.calls k _ _ l0_0 _ _ l1_0 t153 _ ?side1 ?side2 ?side3 ?side4 A3.out) ?_;(case side1=>exact (zz27 HR0_0 HB));(case side2=>exact HC0_0.out);(case side3=>exact (zz27 HR1_0 HB));(case side4=>exact HC1_0.out);rintro w' ⟨nd,rfl⟩))
 obtain ⟨H⟩:=HF4;replace H:=iteB H;rcases H with ⟨rfl,H⟩|⟨rfl,H⟩
 ·replace H:=bindA H
  obtain ⟨t154,A11,H⟩:=H;have HF12:=A_ H;clear H;have hnb13:=NB151_152.out;have hnc13:=NB152_151.out;obtain ⟨_,_,_,_,_,_⟩:=cf3 BK151;obtain ⟨_,_,_,_,_,_⟩:=cf3 BK152;go_upto_if 16 with (first|(refine gR 40 (some 15) Tryd.func40 (laws_eqRuleS.calls k _ _ l0_1 _ _ l1_1 t154 _ ?side1 ?side2 ?side3 ?side4 A11.out) ?_;(case side1=>exact (zz27 HR0_1 HB));(case side2=>exact HC0_1.out);(case side3=>exact (zz27 HR1_1 HB));(case side4=>exact HC1_1.out);rintro w16 hb;replace BK151:=A_ (bB (zz31 BK151) hb);replace BK152:=A_ (bB (zz31 BK152) hb);replace HB:=A_ (bS (zz32 HB GE151 GE152) hb);(try clear hb)))
  obtain ⟨H⟩:=HF12;replace H:=iteB H;rcases H with ⟨rfl,H⟩|⟨rfl,H⟩
  ·replace H:=iteE H
   rcases H with ⟨c18,H⟩|⟨c18,H⟩
   ·obtain ⟨c18b0,c18b1⟩:=eqT c18
    clear c18;(first|rw [c18b0]|(simp only [i64_w,i32_w];rw [c18b0])|skip)
    obtain rfl:=sI H;have hnb19:=NB151_152.out;have hnc19:=NB152_151.out;obtain ⟨_,_,_,_,_,_⟩:=cf3 BK151;obtain ⟨_,_,_,_,_,_⟩:=cf3 BK152;go_wp2
    go_ret
    exact ⟨zz3,(zz32 HB GE151 GE152)⟩
   ·obtain ⟨c18b0,c18b1⟩:=eqF c18
    (first|rw [c18b0]|(simp only [i64_w,i32_w];rw [c18b0])|skip)
    obtain rfl:=sI H;have hnb22:=NB151_152.out;have hnc22:=NB152_151.out;obtain ⟨_,_,_,_,_,_⟩:=cf3 BK151;obtain ⟨_,_,_,_,_,_⟩:=cf3 BK152;go_wp2
    go_ret
    exact ⟨zz3,(zz32 HB GE151 GE152)⟩
  ·obtain rfl:=sI H
   go_wp2
   go_ret
   exact ⟨zz3,(zz32 HB GE151 GE152)⟩
 ·obtain rfl:=sI H
  go_wp2
  go_ret
  exact ⟨zz3,(zz32 HB GE151 GE152)⟩
def laws_eqGroupS.l0:Nat→List (S32)→List (S32)→Int→Option (Bool)
 | 0,_,_,_=>none
 | k+1,x0,x1,x5=>if x5 < (x0.length:Int) then (if 0≤x5 then (if x5 < (x1.length:Int) then ((laws_eqGroup.f k ((rd_T32 x0 x5).f0) ((rd_T32 x0 x5).f1) ((rd_T32 x0 x5).f2) ((rd_T32 x1 x5).f0) ((rd_T32 x1 x5).f1) ((rd_T32 x1 x5).f2)).bind fun t157=>(if t157=true then (laws_eqGroupS.l0 k x0 x1 (wrap64 (x5+1))) else (some false))) else (none)) else (none)) else (some true)
def laws_eqGroupS.f (k:Nat) (l0:List (S32)) (l1:List (S32)):Option (Bool):=if (l0.length:Int)=(l1.length:Int) then (laws_eqGroupS.l0 k l0 l1 0) else (some false)
def laws_eqGroupS.T6:Bool×List (List Nat×List Nat):=(true,[([],[]),([],[]),([0,1],[0,1]),([2],[2]),([],[]),([],[]),([4,5],[4,5]),([6],[6]),([3,7],[3,7]),([8],[8])])
def laws_eqGroupS.B6:List Nat:=[0,0,3,7,0,0,48,112,255,511]
theorem laws_eqGroupS.tab6:rtab .any (opsOf Tryd.f8 6)=laws_eqGroupS.T6:=by kernel_rfl
theorem laws_eqGroupS.bits6:waitsOk laws_eqGroupS.T6.2 laws_eqGroupS.B6=true:=by kernel_rfl
theorem laws_eqGroupS.calls (k:Nat) (A0:Option Addr) (c0:Nat) (l0:List (S32)) (A1:Option Addr) (c1:Nat) (l1:List (S32)) (r:Bool) (w:World) (hr0:Kd.C k32 w A0 l0.length l0) (hc0:l0.length≤c0) (hr1:Kd.C k32 w A1 l1.length l1) (hc1:l1.length≤c1) (h:laws_eqGroupS.f k l0 l1=some r) :
  Calls Tryd.prog 8 #[.slice A0 l0.length c0,.slice A1 l1.length c1] w fun e w'=>e=.returned (.bool r)∧Below w.heap.size w w':=by
 have hu32:=Tryd.underlying32;have HR0:=A_ hr0;have HC0:=A_ hc0;clear hr0 hc0;have HR1:=A_ hr1;have HC1:=A_ hc1;clear hr1 hc1;have HB:=A_ (Below.refl w.heap.size w);unfold laws_eqGroupS.f at h
 have H:=h;clear h;replace H:=iteE H;rcases H with ⟨c3,H⟩|⟨c3,H⟩
 ·obtain ⟨c3b0,c3b1⟩:=eqT c3
  have c3b2:(l0.length == l1.length)=true:=by first|simpa using c3|(simp at c3 ⊢;omega)
  clear c3;have H':=A_ H;clear H;go_enter Tryd.func8,Tryd.ntmps8;go_wp2
  go_loopg [5] k (fun kq v5 w'=>∃ (x5_1:Int),v5=.int .i64 x5_1∧Aside0 (laws_eqGroupS.l0 kq l0 l1 x5_1=some r)∧Aside0 (kq≤k)∧Aside0 (Below w.heap.size w w'))
  case atStart=>exact ⟨(0),zz0,H',⟨Nat.le_refl _⟩,⟨(zz1 HB)⟩⟩
  case round=>
   clear H';obtain ⟨x5_1,rfl,HA,HK1,HB⟩:=hrel;cases gk with
   | zero=>exact absurd HA.out (by simp [laws_eqGroupS.l0])
   | succ k1=>
    obtain ⟨H⟩:=HA;simp only [laws_eqGroupS.l0] at H
    replace H:=iteEd H;rcases H with ⟨c4b0,H⟩|⟨c4b0,H⟩
    ·replace H:=iteNd H
     obtain ⟨c5b0,H⟩:=H;replace H:=iteNd H;obtain ⟨c6b0,H⟩:=H;replace H:=bindA H;obtain ⟨t157,A7,H⟩:=H;have HF8:=A_ H;clear H;try go_wp2
     replace HB:=A_ (below_drew1 HB.out);obtain ⟨⟨ad155,A155_0,c155_0,A155_1,c155_1,e155,hx155_0,hx155_1,hx155_2,hl155_0,hi155_0,hl155_1,hi155_1⟩,p155,q155⟩:=atB (at_T32 HR0.out x5_1);have hw155_2:=hx155_2;have hw155_1:=hx155_1;have hw155_0:=hx155_0;cases e155
     obtain ⟨hx155_0,hx155_1,hx155_2⟩:=cb3 HB hx155_0 hx155_1 hx155_2;have HR155_0:=A_ hi155_0;have HC155_0:=A_ hl155_0;clear hi155_0 hl155_0;have HR155_1:=A_ hi155_1;have HC155_1:=A_ hl155_1;clear hi155_1 hl155_1;obtain ⟨⟨ad156,A156_0,c156_0,A156_1,c156_1,e156,hx156_0,hx156_1,hx156_2,hl156_0,hi156_0,hl156_1,hi156_1⟩,p156,q156⟩:=atB (at_T32 HR1.out x5_1);have hw156_2:=hx156_2;have hw156_1:=hx156_1;have hw156_0:=hx156_0;cases e156
     obtain ⟨hx156_0,hx156_1,hx156_2⟩:=cb3 HB hx156_0 hx156_1 hx156_2;have HR156_0:=A_ hi156_0;have HC156_0:=A_ hl156_0;clear hi156_0 hl156_0;have HR156_1:=A_ hi156_1;have HC156_1:=A_ hl156_1;clear hi156_1 hl156_1;refine start_ (n:=10) (S:=fun w'=>w'.cell? (ad155.add ((x5_1).toNat * 3))=some (.slice A155_0 ((rd_T32 l0 x5_1).f0).length c155_0)∧w'.cell? ⟨(ad155.add ((x5_1).toNat * 3)).block,(ad155.add ((x5_1).toNat * 3)).off+1,none⟩=some (.slice A155_1 ((rd_T32 l0 x5_1).f1).length c155_1)∧w'.cell? ⟨(ad155.add ((x5_1).toNat * 3)).block,(ad155.add ((x5_1).toNat * 3)).off+2,none⟩=some (.int .i64 ((rd_T32 l0 x5_1).f2))∧w'.cell? (ad156.add ((x5_1).toNat * 3))=some (.slice A156_0 ((rd_T32 l1 x5_1).f0).length c156_0)∧w'.cell? ⟨(ad156.add ((x5_1).toNat * 3)).block,(ad156.add ((x5_1).toNat * 3)).off+1,none⟩=some (.slice A156_1 ((rd_T32 l1 x5_1).f1).length c156_1)∧w'.cell? ⟨(ad156.add ((x5_1).toNat * 3)).block,(ad156.add ((x5_1).toNat * 3)).off+2,none⟩=some (.int .i64 ((rd_T32 l1 x5_1).f2))) (ds:=[]) #[yF,yF,yF,yF,yF,yF,yF,yF,yF,yF] (by kernel_rfl) rfl rfl ⟨((HB.out.cell (World.block_lt_of_cell? w _ hw155_0)).trans hw155_0),((HB.out.cell (World.block_lt_of_cell? w _ hw155_1)).trans hw155_1),((HB.out.cell (World.block_lt_of_cell? w _ hw155_2)).trans hw155_2),((HB.out.cell (World.block_lt_of_cell? w _ hw156_0)).trans hw156_0),((HB.out.cell (World.block_lt_of_cell? w _ hw156_1)).trans hw156_1),((HB.out.cell (World.block_lt_of_cell? w _ hw156_2)).trans hw156_2)⟩ (fun hHeld=>?_);refine with_tabW laws_eqGroupS.tab6 laws_eqGroupS.bits6 (fun HT_ HW_=>?_);generalize wr.drew=w9 at HB HR155_0 HR155_1 HR156_0 HR156_1 hx155_0 hx155_1 hx155_2 hx156_0 hx156_1 hx156_2 hHeld ⊢;refine pureZ 0 (some 17) #[yT,yF,yF,yF,yF,yF,yF,yF,yF,yF] ?_;refine pureZ 1 (some 18) #[yT,yT,yF,yF,yF,yF,yF,yF,yF,yF] ?_;refine pureZ 2 (some 19) #[yT,yT,yT,yF,yF,yF,yF,yF,yF,yF] ?_;refine pureZ 4 (some 21) #[yT,yT,yT,yF,yT,yF,yF,yF,yF,yF] ?_;refine pureZ 5 (some 22) #[yT,yT,yT,yF,yT,yT,yF,yF,yF,yF] ?_;refine pureZ 6 (some 23) #[yT,yT,yT,yF,yT,yT,yT,yF,yF,yF] ?_;refine takeZ6 3 (some 20) #[yT,yT,yT,yT,yT,yT,yT,yF,yF,yF] hHeld ?_;refine takeZ6 7 (some 24) #[yT,yT,yT,yT,yT,yT,yT,yT,yF,yF] hHeld ?_;refine oneZ 8 (some 25) #[yT,yT,yT,yT,yT,yT,yT,yT,yT,yF] (fun K hK=>?_);refine goes_ Tryd.func20 (by kernel_rfl) rfl #[.agg #[.slice A155_0 ((rd_T32 l0 x5_1).f0).length c155_0,.slice A155_1 ((rd_T32 l0 x5_1).f1).length c155_1,.int .i64 ((rd_T32 l0 x5_1).f2)],.agg #[.slice A156_0 ((rd_T32 l1 x5_1).f0).length c156_0,.slice A156_1 ((rd_T32 l1 x5_1).f1).length c156_1,.int .i64 ((rd_T32 l1 x5_1).f2)]] (by rfl) rfl rfl zz24 ?_;with_reducible refine (laws_eqGroup.calls k1 _ _ ((rd_T32 l0 x5_1).f0) _ _ ((rd_T32 l0 x5_1).f1) ((rd_T32 l0 x5_1).f2) _ _ ((rd_T32 l1 x5_1).f0) _ _ ((rd_T32 l1 x5_1).f1) ((rd_T32 l1 x5_1).f2) t157 _ ?side1 ?side2 ?side3 ?side4 ?side5 ?side6 ?side7 ?side8 A7.out).mono ?_
     (case side1=>exact (zz27 HR155_0 HB))
     (case side2=>exact HC155_0.out)
     (case side3=>exact (zz27 HR155_1 HB))
     (case side4=>exact HC155_1.out)
     (case side5=>exact (zz27 HR156_0 HB))
     (case side6=>exact HC156_0.out)
     (case side7=>exact (zz27 HR156_1 HB))
     (case side8=>exact HC156_1.out)
     rintro e w10 ⟨rfl,hb⟩;refine ⟨_,rfl,?_⟩;replace HB:=A_ (bS (zz1 HB) hb);(try clear hb)
     (try clear hb2)
     (try clear hk)
     (try clear hi)
     refine hK.out _ _ ⟨((HB.out.cell (World.block_lt_of_cell? w _ hw155_0)).trans hw155_0),((HB.out.cell (World.block_lt_of_cell? w _ hw155_1)).trans hw155_1),((HB.out.cell (World.block_lt_of_cell? w _ hw155_2)).trans hw155_2),((HB.out.cell (World.block_lt_of_cell? w _ hw156_0)).trans hw156_0),((HB.out.cell (World.block_lt_of_cell? w _ hw156_1)).trans hw156_1),((HB.out.cell (World.block_lt_of_cell? w _ hw156_2)).trans hw156_2)⟩ (fun hHeld=>?_);clear hK K;refine nZ 25 ?_;refine pureZ 9 (some 26) #[yT,yT,yT,yT,yT,yT,yT,yT,yT,yT] ?_;refine done_ (done_of HT_.out (by kernel_rfl)) ?_;go_upto_if 26 with (fail)
     obtain ⟨H⟩:=HF8;replace H:=iteB H;rcases H with ⟨rfl,H⟩|⟨rfl,H⟩
     ·have H':=A_ H
      clear H;go_wp2
      go_roundg k1
      case measure=>have:=HK1.out;omega
      case rel=>exact ⟨(wrap64 (x5_1+1)),zz0,H',⟨(zz5 HK1)⟩,⟨(zz1 HB)⟩⟩
     ·obtain rfl:=sI H
      go_wp2
      go_ret
      exact ⟨zz3,(zz1 HB)⟩
    ·obtain rfl:=sI H
     go_wp2
     go_ret
     exact ⟨zz3,(zz1 HB)⟩
 ·obtain ⟨c3b0,c3b1⟩:=eqF c3
  have c3b2:(l0.length == l1.length)=false:=by first|simpa using c3|(simp at c3 ⊢;omega)
  obtain rfl:=sI H;go_enter Tryd.func8,Tryd.ntmps8;go_wp2
  go_ret
  exact ⟨zz3,(zz1 HB)⟩
end Go.Proofs.YthojbccgnlcblaaDoor.P
end
section
namespace Go.Proofs.YthojbccgnlcblaaDoor.P
open Go.RowKit Go.Proofs.YthojbccgnlcblaaDoorW.PrintWords Go.Proofs.YthojbccgnlcblaaDoorW.PrintLast Go.Proofs.YthojbccgnlcblaaDoorW.PrintMore
set_option linter.unusedVariables false
abbrev Gp:=S32
abbrev kGp:Kd Gp:=k32
def lastG (l:List Gp):Gp:=l.getD (l.length - 1) z32
def lineName (k:Nat) (x1 x2:ByteArray):Option Bool:=
  if x1.toList=([99,97,108,108,101,114]:List UInt8) then (if x2.toList=([42]:List UInt8) then some true else spec_l2Name.f k x2) else some false
def lineRule (k:Nat) (x1 x2:ByteArray) (m:Nat):Option Bool:=
  if x1.toList=([108,101,116]:List UInt8)∨x1.toList=([98,97,114]:List UInt8) then (spec_RuleOk.f k x2).bind fun b=>some (b && decide (m < 6)) else some false
def spec_l2Line.f (k:Nat) (l0:List Gp) (x1 x2:ByteArray) (x3:Bool):Option (List Gp×Bool):=
  if l0.length < 1000000 then
    (lineName k x1 x2).bind fun b=>if b=true then
      (if x3=true∨l0.length=0 then some (l0++[⟨[x2],[],0⟩],false)
       else if (lastG l0).f0.length < 1000000 then some (l0.set (l0.length - 1) ⟨(lastG l0).f0++[x2],(lastG l0).f1,(lastG l0).f2⟩,false) else none)
    else if l0.length=0 then some (l0,x3)
    else (lineRule k x1 x2 (lastG l0).f1.length).bind fun c=>if c=true then
      some (l0.set (l0.length - 1) ⟨(lastG l0).f0,(lastG l0).f1++[⟨x1.toList == ([108,101,116]:List UInt8),x2⟩],(lastG l0).f2⟩,true)
    else if x1.toList=([119,97,105,116]:List UInt8) then (spec_l2Num.f k x2 20).bind fun m=>some (l0.set (l0.length - 1) ⟨(lastG l0).f0,(lastG l0).f1,m⟩,true)
    else some (l0,x3)
  else none
theorem lineRule_lt {k m:Nat} {x1 x2:ByteArray} (h:lineRule k x1 x2 m=some true):m < 6:=by
  unfold lineRule at h
  split at h
  · obtain ⟨b,_,h2⟩:=Option.bind_eq_some_iff.mp h
    have:=Option.some.inj h2
    simp only [Bool.and_eq_true,decide_eq_true_eq] at this
    exact this.2
  · cases h
structure Lines (w0 w wc:World) (base:Nat) (ok:Nat→Prop) (u:Value) (l:List Gp):Prop where
  S:Kd.S kGp 32 wc base ok u l
  B:Below base w0 wc
  K:Kept w wc ok
  le:base≤wc.heap.size
theorem Lines.drewN {w0 w wc:World} {base:Nat} {ok:Nat→Prop} {u:Value} {l:List Gp} (h:Lines w0 w wc base ok u l) (m:Nat):Lines w0 w (wc.drewN m) base ok u l:=
  ⟨Kd.S_drewN h.S m,pw_below_drewN h.B m,h.K.drewN m,h.le⟩
theorem Lines.drawn {w0 w wc wd:World} {base:Nat} {ok:Nat→Prop} {u:Value} {l:List Gp} (h:Lines w0 w wc base ok u l) (hd:Drawn0 wc wd):Lines w0 w wd base ok u l:=by
  obtain ⟨m,rfl⟩:=hd
  exact h.drewN m
theorem Lines.below {w0 w wc wd:World} {base:Nat} {ok:Nat→Prop} {u:Value} {l:List Gp} (h:Lines w0 w wc base ok u l) (hb:Below wc.heap.size wc wd):Lines w0 w wd base ok u l:=
  ⟨Kd.S_below h.S hb,h.B.trans (hb.mono h.le),h.K.below hb,Nat.le_trans h.le hb.size⟩
theorem Lines.last {w0 w wc:World} {base:Nat} {ok:Nat→Prop} {u:Value} {l:List Gp} (h:Lines w0 w wc base ok u l) (hp:0 < l.length) :
    ∃ g cap v0 v1 oki,u=.slice (some ⟨g,0,none⟩) l.length cap∧Kd.string.R 9 wc base oki v0 (lastG l).f0∧k34.R 34 wc base oki v1 (lastG l).f1 ∧
      (wc.cell? ⟨g,(l.length - 1) * 3,none⟩=some v0∧wc.cell? ⟨g,(l.length - 1) * 3+1,none⟩=some v1∧wc.cell? ⟨g,(l.length - 1) * 3+2,none⟩=some (.int .i64 (lastG l).f2))∧(∀ j,wc.frozen? ⟨g,(l.length - 1) * 3+j,none⟩=false)∧(∀ k,oki k→ok k∧k≠g) ∧
      Kd.H kGp 32 wc base ok (.slice (some ⟨g,0,none⟩) l.length cap) l ((l.length - 1:Nat):Int) oki [v0,v1,.int .i64 (lastG l).f2]:=by
  obtain ⟨g,cap,rfl,_,_,_⟩:=Kd.S_form h.S hp
  obtain ⟨oki,c,hcl,hM,hcc,hfr,hoki,hH⟩:=Kd.S_elem h.S z32 ((l.length - 1:Nat):Int) (by omega) (by omega)
  obtain ⟨v0,v1,rfl,g0,g1⟩:=k32_openM hM
  have e:(((l.length - 1:Nat):Int)).toNat=l.length - 1:=by omega
  rw [e] at hcc hfr g0 g1
  exact ⟨g,cap,v0,v1,oki,rfl,g0,g1,⟨hcc 0 _ rfl,hcc 1 _ rfl,hcc 2 _ rfl⟩,hfr,hoki,hH⟩
theorem infoGp:(Tryd.prog.info? 32).map (fun i=>(i.zero,i.size,i.bytes))=some (some (.agg #[.slice none 0 0,.slice none 0 0,.int .i64 0]),3,56):=by kernel_rfl
theorem infoRu:(Tryd.prog.info? 34).map (fun i=>(i.zero,i.size,i.bytes))=some (some (.agg #[.bool false,.string ⟨#[]⟩]),2,24):=by kernel_rfl
theorem Lines.fresh {w0 w wc w3:World} {base:Nat} {ok:Nat→Prop} {u v0 v1:Value} {l:List Gp} {x:Gp} (h:Lines w0 w wc base ok u l) (hfr:∀ k,w.heap.size≤k→ok k)
    (hst:∀ k,k < wc.heap.size→w3.heap[k]?=wc.heap[k]?) (hle:wc.heap.size≤w3.heap.size)
    (r0:Kd.string.R 9 w3 base (fun _=>True) v0 x.f0) (r1:k34.R 34 w3 base (fun _=>True) v1 x.f1)
    (h0:∃ b,v0.ownBlock=some b∧wc.heap.size≤b) (h1:∃ b,v1.ownBlock=some b∧wc.heap.size≤b) :
    ∃ okp:Nat→Prop,kGp.M w3 base okp x [v0,v1,.int .i64 x.f2]∧(∀ k,okp k→ok k∧some k≠u.ownBlock)∧(∀ k,w3.heap.size≤k→ok k)∧Kd.S kGp 32 w3 base (fun k=>ok k∧¬ okp k) u l∧Kept w w3 ok:=by
  obtain ⟨b0,e0,z0⟩:=h0
  obtain ⟨b1,e1,z1⟩:=h1
  have hw:w.heap.size≤wc.heap.size:=h.K.1
  have hold:∀ k,some k=v0.ownBlock∨some k=v1.ownBlock→wc.heap.size≤k:=by
    rintro k (hk|hk)
    · rw [e0] at hk;injection hk with hk;omega
    · rw [e1] at hk;injection hk with hk;omega
  refine ⟨fun k=>some k=v0.ownBlock∨some k=v1.ownBlock,k32_mkM _ _ _ x (Kd.R_mono (Kd.R_tight rfl r0) (fun k hk=>.inl hk)) (Kd.R_mono (Kd.R_tight rfl r1) (fun k hk=>.inr hk)),fun k hk=>⟨hfr k (by have:=hold k hk;omega),fun he=>?_⟩,fun k hk=>hfr k (by omega),?_,?_⟩
  · have:=Kd.S_lt h.S k he.symm
    have:=hold k hk
    omega
  · refine Kd.S_step (Kd.S_mono (Kd.S_bound h.S) (fun k hk=>⟨hk.1,fun h2=>?_⟩)) (fun k _ hlt=>hst k hlt)
    have:=hold k h2
    have:=hk.2.2.1
    omega
  · exact h.K.then_ (S2:=fun _=>False) ⟨hle,fun i hi _=>hst i hi⟩ (fun _ hk=>hk.elim)
theorem infoStrs:(Tryd.prog.info? 29).map (·.size)=some 1:=by kernel_rfl
theorem infoRus:(Tryd.prog.info? 30).map (·.size)=some 1:=by kernel_rfl
theorem infoInt:(Tryd.prog.info? 3).map (·.size)=some 1:=by kernel_rfl
set_option maxHeartbeats 8000000 in
set_option maxRecDepth 100000 in
theorem spec_l2Line.calls (k:Nat) (base:Nat) (ok:Nat→Prop) (u:Value) (l0:List Gp) (x1 x2:ByteArray) (x3:Bool) (r:List Gp) (rb:Bool) (w0 w:World) (hl:Lines w0 w w base ok u l0) (hfr:∀ k,w.heap.size≤k→ok k) (h:spec_l2Line.f k l0 x1 x2 x3=some (r,rb)) :
    Calls Tryd.prog 16 #[u,.string x1,.string x2,.bool x3] w fun e w'=>∃ v',e=.returned (.tuple #[v',.bool rb])∧Lines w0 w w' base ok v' r:=by
  obtain ⟨A,cc,hu⟩:=Kd.S_slice hl.S
  subst hu
  unfold spec_l2Line.f at h
  split at h
  case isFalse=>cases h
  rename_i hbig
  obtain ⟨b,hb,h2⟩:=Option.bind_eq_some_iff.mp h
  clear h
  have HL:=Aside0.mk hl
  have HF:=Aside0.mk hfr
  have H2:=Aside0.mk h2
  have HN:=Aside0.mk hb
  have HG:=Aside0.mk hbig
  clear hl h2 hb hfr hbig
  go_enter Tryd.func16,Tryd.ntmps16
  go_upto_region 2 with (fail)
  go_cut [14] (fun v14 wc=>v14=.bool b∧Aside0 (Lines w0 w wc base ok (.slice A l0.length cc) l0))
  case first=>
    have hn:=HN.out
    unfold lineName at hn
    by_cases c1:x1.toList=([99,97,108,108,101,114]:List UInt8)
    · rw [if_pos c1] at hn
      have c1b0:(x1.toList == ([99,97,108,108,101,114]:List UInt8))=true:=beq_iff_eq.mpr c1
      clear c1
      by_cases c2:x2.toList=([42]:List UInt8)
      · rw [if_pos c2] at hn
        have c2b0:(x2.toList == ([42]:List UInt8))=true:=beq_iff_eq.mpr c2
        clear c2
        obtain rfl:=Option.some.inj hn
        clear hn
        go_wp2
        go_meet
        case rel=>exact ⟨rfl,HL⟩
      · rw [if_neg c2] at hn
        have c2b0:(x2.toList == ([42]:List UInt8))=false:=beq_eq_false_iff_ne.mpr c2
        clear c2
        have HN1:=Aside0.mk hn
        clear hn
        go_wp2_with (first|(go_at_call 32;(with_reducible refine (spec_l2Name.calls k x2 b _ HN1.out).mono ?_);rintro e w' ⟨rfl,⟨nd,rfl⟩⟩))
        go_meet
        case rel=>exact ⟨rfl,⟨HL.out.drewN _⟩⟩
    · rw [if_neg c1] at hn
      have c1b0:(x1.toList == ([99,97,108,108,101,114]:List UInt8))=false:=beq_eq_false_iff_ne.mpr c1
      clear c1
      obtain rfl:=Option.some.inj hn
      clear hn
      go_wp2
      go_meet
      case rel=>exact ⟨rfl,HL⟩
  case rest=>
    clear HN
    obtain ⟨rfl,HL1⟩:=hcut
    clear HL
    cases b with
    | true=>
      have h2:=H2.out
      rw [if_pos rfl] at h2
      clear H2
      by_cases c3:x3=true∨l0.length=0
      · rw [if_pos c3] at h2
        obtain ⟨rfl,rfl⟩:=Prod.mk.inj (Option.some.inj h2)
        clear h2
        have e10:l0.length=0→decide (wrap64 ((l0.length:Int) - 1) < 0)=true:=fun h=>decide_eq_true (by rw [h];unfold wrap64;omega)
        have c3':x3=true∨(x3=false∧l0.length=0):=by cases x3 <;> simp_all
        clear c3
        rcases c3' with rfl|⟨rfl,c4⟩
        case' inr=>replace e10:=e10 c4;clear c4
        case' inl=>clear e10
        all_goals
          go_wp2_with (first
            | ((with_reducible refine gate_dst (N:=32) rfl ?_);refine Kd.R_lit Kd.string base 9 ?hg (N:=32) ?hd (xs:=[x2]) (inner:=[.string x2]) (ok:=fun _=>True) (okp:=fun _=>False) ?hr ?hp (fun _ hk=>hk.elim) trivial HL1.out.B HL1.out.le (by simp) ?_;(case hd=>rfl);(case hg=>rfl);(case hr=>first|(go_simp;done)|(go_simp;rfl));(case hp=>exact Reps.one rfl (Reps.none _ _));intro v32 w32 ho32 hb32 hg32 hn32;obtain ⟨A32,c32,rfl⟩:=Kd.R_slice ho32;have HO32:=Aside0.mk ho32;have HB32:=Aside0.mk hb32;have HG32:=Aside0.mk hg32;have HN32:=Aside0.mk hn32;clear ho32 hb32 hg32 hn32)
            | ((with_reducible refine gate_dst (N:=33) rfl ?_);refine Kd.R_lit k34 base 34 ?hg (N:=33) ?hd (xs:=[]) (inner:=[]) (ok:=fun _=>True) (okp:=fun _=>False) ?hr ?hp (fun _ hk=>hk.elim) trivial HB32.out (Nat.le_trans HL1.out.le HG32.out.size) (by simp) ?_;(case hd=>rfl);(case hg=>rfl);(case hr=>first|(go_simp;done)|(go_simp;rfl));(case hp=>exact Reps.none _ _);intro v33 w33 ho33 hb33 hg33 hn33;obtain ⟨A33,c33,rfl⟩:=Kd.R_slice ho33;have HO33:=Aside0.mk ho33;have HB33:=Aside0.mk hb33;have HG33:=Aside0.mk hg33;have HN33:=Aside0.mk hn33;clear ho33 hb33 hg33 hn33)
            | ((with_reducible refine gate_builtin (b:=.append) (xs:=#[.tmp 30,.tmp 35]) rfl ?_);at_builtin
               obtain ⟨okp,hM,hokp,hnew,hS,hK⟩:=Lines.fresh (x:=⟨[x2],[],0⟩) HL1.out HF.out (fun k hk=>(HG33.out.block k (Nat.lt_of_lt_of_le hk HG32.out.size) (by simp)).trans (HG32.out.block k hk (by simp))) (Nat.le_trans HG32.out.size HG33.out.size) (Kd.R_grown HO32.out HG33.out (fun _ _=>by simp)) HO33.out HN32.out (by obtain ⟨b,e,hb⟩:=HN33.out;exact ⟨b,e,Nat.le_trans HG32.out.size hb⟩)
               refine Kd.S_append kGp (w0:=w0) base rfl (.tmp 30) (.tmp 35) 22 32 (.agg #[.slice none 0 0,.slice none 0 0,.int .i64 0]) 56 rfl Tryd.underlying22 infoGp rfl (by decide) (by omega) (.slice A l0.length cc) l0 ⟨[x2],[],0⟩ [.slice A32 [x2].length c32,.slice A33 [].length c33,.int .i64 0] ok okp rfl rfl hM hokp hnew hS HB33.out (Nat.le_trans HL1.out.le (Nat.le_trans HG32.out.size HG33.out.size)) (by have:=HG.out;omega) ?_
               intro v1 w1 hS1 hB1 hG1 hat
               have HS1:=Aside0.mk hS1
               have HB1:=Aside0.mk hB1
               have HG1:=Aside0.mk (Kept.of_grown hG1 hK (fun k hk=>.inl (Kd.S_R hS |>.1 k hk |>.1)))
               have HZ1:=Aside0.mk (Nat.le_trans (Nat.le_trans HL1.out.le (Nat.le_trans HG32.out.size HG33.out.size)) hG1.size)
               clear hM hokp hnew hS hK hS1 hB1 hG1 hat))
          go_ret2
          exact ⟨v1,rfl,HS1.out,HB1.out,HG1.out,HZ1.out⟩
      · rw [if_neg c3] at h2
        split at h2
        case isFalse=>cases h2
        rename_i hsm
        obtain ⟨rfl,rfl⟩:=Prod.mk.inj (Option.some.inj h2)
        clear h2
        have c4:l0.length≠0:=fun h=>c3 (.inr h)
        obtain rfl:x3=false:=by cases x3 <;> simp_all
        clear c3
        have hbig:=HG.out
        obtain ⟨g,cap,v0,v1,oki,eu,g0,g1,⟨hx0,hx1,hx2⟩,hff,hoki,hH⟩:=HL1.out.last (by omega)
        injection eu with eu1 eu2 eu3
        subst eu1
        subst eu3
        obtain ⟨A0,cc0,rfl⟩:=Kd.R_slice g0
        obtain ⟨j,hj⟩:∃ j,l0.length - 1=j:=⟨_,rfl⟩
        have ej:wrap64 ((l0.length:Int) - 1)=(j:Int):=by unfold wrap64;omega
        rw [hj] at hx0 hx1 hx2 hff hH
        rw [ej]
        have e10:decide ((j:Int) < 0)=false:=decide_eq_false (by omega)
        have p0:(0≤(j:Int))=True:=eq_true (by omega)
        have q0:((j:Int) < (l0.length:Int))=True:=eq_true (by omega)
        have hf0:=hff 0
        rw [Nat.add_zero] at hf0
        have G0:=Aside0.mk g0
        have G1:=Aside0.mk g1
        have HH:=Aside0.mk hH
        have HS2:=Aside0.mk hsm
        clear g0 g1 hH hsm
        go_wp2_with (first
          | ((with_reducible refine gate_builtin (b:=.append) (xs:=#[.tmp 43,.tmp 45]) rfl ?_);at_builtin
             refine Kd.R_append Kd.string (w0:=w0) base rfl (.tmp 43) (.tmp 45) 29 9 (.string ⟨#[]⟩) 16 rfl Tryd.underlying29 info9 rfl (by decide) (by omega) (.slice A0 (lastG l0).f0.length cc0) (lastG l0).f0 x2 [.string x2] (fun k=>oki k∨(ok k∧wc.heap.size≤k)) (fun _=>False) rfl rfl rfl (fun _ hk=>hk.elim) (fun k hk=>.inr ⟨HF.out k (Nat.le_trans HL1.out.K.1 hk),hk⟩) (Kd.R_mono G0.out (fun _ hk=>.inl hk)) HL1.out.B HL1.out.le (by have:=HS2.out;omega) ?_
             intro v3 w1 ho hb hg hat
             have H1:=Aside0.mk (Kd.H_grown (Kd.H_widen HH.out) hg (fun k e=>.inl (G0.out.1 k e)))
             have R1:=Aside0.mk (Kd.R_over' (v:=.slice A0 (lastG l0).f0.length cc0) G1.out (Kd.R_typed G0.out) (by decide) hg)
             have K1:=Aside0.mk (Kept.of_grown hg HL1.out.K (fun k hk=>.inl (hoki k (G0.out.1 k hk)).1))
             obtain ⟨A3,cc3,rfl⟩:=Kd.R_slice ho
             have en:((lastG l0).f0++[x2]).length=(lastG l0).f0.length+1:=by rw [List.length_append,List.length_singleton]
             rw [en] at ho
             have R0:=Aside0.mk ho
             have B1:=Aside0.mk hb
             have Z1:=Aside0.mk (Nat.le_trans HL1.out.le hg.size)
             clear ho hb hg hat hx0 hx1 hx2 hff hf0)
          | ((with_reducible refine gate_store (t:=29) (p:=48) rfl ?_)
             refine Kd.H_store kGp (w0:=w0) base rfl rfl 29 (.tmp 48) (.tmp 46) rfl 32 (j:Int) 0 l0 ⟨(lastG l0).f0++[x2],(lastG l0).f1,(lastG l0).f2⟩ (.slice A3 ((lastG l0).f0.length+1) cc3) [.slice A3 ((lastG l0).f0.length+1) cc3] [.slice A0 (lastG l0).f0.length cc0,v1,.int .i64 (lastG l0).f2] ok (fun k=>oki k∨(ok k∧wc.heap.size≤k)) (fun k=>oki k∨(ok k∧wc.heap.size≤k)) rfl (by rw [Int.toNat_natCast];rfl) rfl (Kd.R_val R0.out).1 infoStrs (by intro q hq;rw [List.mem_singleton.1 hq];exact (Kd.R_val R0.out).2) H1.out (by omega) (by omega) (show 0+1≤3 by decide) (k32_mkM _ _ _ _ R0.out (Kd.R_mono R1.out (fun _ hk=>.inl hk))) (fun _ hk=>hk) B1.out ?_
             intro w2 hS hB hg2
             have S2:=Aside0.mk hS
             have B2:=Aside0.mk hB
             have K2:=Aside0.mk (Kept.of_grown hg2 K1.out (fun k hk=>.inl (by injection hk with hk;subst hk;exact (Kd.S_R hS).1 _ rfl)))
             have Z2:=Aside0.mk (Nat.le_trans Z1.out hg2.size)
             clear hS hB hg2))
        go_ret2
        have e2:=S2.out
        rw [Int.toNat_natCast] at e2
        first|exact ⟨.slice (some ⟨g,0,none⟩) l0.length cc,rfl,e2,B2.out,K2.out,Z2.out⟩|(rw [← hj] at e2;exact ⟨.slice (some ⟨g,0,none⟩) l0.length cc,rfl,e2,B2.out,K2.out,Z2.out⟩)
    | false=>
      have h2:=H2.out
      rw [if_neg (by decide)] at h2
      clear H2
      by_cases c4:l0.length=0
      · rw [if_pos c4] at h2
        obtain ⟨rfl,rfl⟩:=Prod.mk.inj (Option.some.inj h2)
        clear h2
        have e10:decide (wrap64 ((l0.length:Int) - 1) < 0)=true:=decide_eq_true (by rw [c4];unfold wrap64;omega)
        clear c4
        go_wp2
        go_ret2
        exact ⟨_,rfl,HL1.out⟩
      · rw [if_neg c4] at h2
        obtain ⟨c,hc,h3⟩:=Option.bind_eq_some_iff.mp h2
        clear h2
        have hbig:=HG.out
        obtain ⟨g,cap,_,_,_,eu,_⟩:=HL1.out.last (by omega)
        injection eu with eu1 eu2 eu3
        subst eu1
        clear eu2 eu3
        obtain ⟨j,hj⟩:∃ j,l0.length - 1=j:=⟨_,rfl⟩
        have ej:wrap64 ((l0.length:Int) - 1)=(j:Int):=by unfold wrap64;omega
        rw [ej]
        have e10:decide ((j:Int) < 0)=false:=decide_eq_false (by omega)
        have p0:(0≤(j:Int))=True:=eq_true (by omega)
        have q0:((j:Int) < (l0.length:Int))=True:=eq_true (by omega)
        have HC:=Aside0.mk hc
        have H3:=Aside0.mk h3
        clear hc h3
        go_upto_region 9 with (fail)
        go_cut [55] (fun v55 wd2=>v55=.bool c∧Aside0 (Drawn0 wc wd2))
        case first=>
          have HQ:=HL1.out
          obtain ⟨g_,cap_,v0,v1,oki,eu,g0,g1,⟨hx0,hx1,hx2⟩,hff,hoki,hH⟩:=HQ.last (by omega)
          injection eu with eu1 eu2 eu3
          injection eu1 with eu1
          injection eu1 with eg _ _
          subst eg
          subst eu3
          obtain ⟨A0,cc0,rfl⟩:=Kd.R_slice g0
          obtain ⟨A1,cc1,rfl⟩:=Kd.R_slice g1
          rw [hj] at hx0 hx1 hx2 hff hH
          have hf1:=hff 1
          have hf2:=hff 2
          have G0:=Aside0.mk g0
          have G1:=Aside0.mk g1
          have HH:=Aside0.mk hH
          clear g0 g1 hH
          have hc:=HC.out
          unfold lineRule at hc
          have two:((x1.toList == ([108,101,116]:List UInt8))=true∨((x1.toList == ([108,101,116]:List UInt8))=false∧(x1.toList == ([98,97,114]:List UInt8))=true))∨((x1.toList == ([108,101,116]:List UInt8))=false∧(x1.toList == ([98,97,114]:List UInt8))=false):=by
            cases (x1.toList == ([108,101,116]:List UInt8)) <;> cases (x1.toList == ([98,97,114]:List UInt8)) <;> simp
          rcases two with two|⟨a1,a2⟩
          · rw [if_pos (by rcases two with two|⟨_,two⟩ <;> simp [beq_iff_eq.1 two])] at hc
            obtain ⟨bo,hbo,hc2⟩:=Option.bind_eq_some_iff.mp hc
            have hce:=Option.some.inj hc2
            have HB:=Aside0.mk hbo
            have HE:=Aside0.mk hce
            clear hc hbo hc2 hce HC
            rcases two with a1|⟨a1,a2⟩
            all_goals
              cases bo
              case false=>
                go_wp2_with (first|(go_at_call 33;(with_reducible refine (spec_RuleOk.calls k x2 false _ HB.out).mono ?_);rintro e w' ⟨rfl,⟨nd,rfl⟩⟩))
                go_meet
                case rel=>exact ⟨by rw [← HE.out];rfl,⟨⟨_,rfl⟩⟩⟩
              case true=>
                go_wp2_with (first|(go_at_call 33;(with_reducible refine (spec_RuleOk.calls k x2 true _ HB.out).mono ?_);rintro e w' ⟨rfl,⟨nd,rfl⟩⟩))
                go_meet
                case rel=>exact ⟨by rw [← HE.out,Bool.true_and];simp;omega,⟨⟨_,rfl⟩⟩⟩
          · rw [if_neg (by rintro (h|h) <;> simp [h] at a1 a2)] at hc
            obtain rfl:=Option.some.inj hc
            clear hc HC
            go_wp2
            go_meet
            case rel=>exact ⟨rfl,⟨Drawn0.refl _⟩⟩
        case rest=>
          obtain ⟨rfl,hd⟩:=hcut
          have HQ:=HL1.out.drawn hd.out
          clear hd
          obtain ⟨g_,cap_,v0,v1,oki,eu,g0,g1,⟨hx0,hx1,hx2⟩,hff,hoki,hH⟩:=HQ.last (by omega)
          injection eu with eu1 eu2 eu3
          injection eu1 with eu1
          injection eu1 with eg _ _
          subst eg
          subst eu3
          obtain ⟨A0,cc0,rfl⟩:=Kd.R_slice g0
          obtain ⟨A1,cc1,rfl⟩:=Kd.R_slice g1
          rw [hj] at hx0 hx1 hx2 hff hH
          have hf1:=hff 1
          have hf2:=hff 2
          have G0:=Aside0.mk g0
          have G1:=Aside0.mk g1
          have HH:=Aside0.mk hH
          clear g0 g1 hH
          have HW:=Aside0.mk HQ
          clear HL1 HQ
          have h3:=H3.out
          clear H3
          cases c with
          | true=>
            rw [if_pos rfl] at h3
            obtain ⟨rfl,rfl⟩:=Prod.mk.inj (Option.some.inj h3)
            clear h3
            have HS2:=Aside0.mk (lineRule_lt HC.out)
            clear HC
            go_wp2_with (first
              | ((with_reducible refine gate_builtin (b:=.append) (xs:=#[.tmp 81,.tmp 86]) rfl ?_);at_builtin
                 refine Kd.R_append k34 (w0:=w0) base rfl (.tmp 81) (.tmp 86) 30 34 (.agg #[.bool false,.string ⟨#[]⟩]) 24 rfl Tryd.underlying30 infoRu rfl (by decide) (by omega) (.slice A1 (lastG l0).f1.length cc1) (lastG l0).f1 ⟨x1.toList == ([108,101,116]:List UInt8),x2⟩ [.bool (x1.toList == ([108,101,116]:List UInt8)),.string x2] (fun k=>oki k∨(ok k∧wc.heap.size≤k)) (fun _=>False) rfl rfl (k34_mkM _ _ _ _) (fun _ hk=>hk.elim) (fun k hk=>.inr ⟨HF.out k (Nat.le_trans HW.out.K.1 hk),hk⟩) (Kd.R_mono G1.out (fun _ hk=>.inl hk)) HW.out.B HW.out.le (by have:=HS2.out;omega) ?_
                 intro v3 w1 ho hb hg hat
                 have H1:=Aside0.mk (Kd.H_grown (Kd.H_widen HH.out) hg (fun k e=>.inl (G1.out.1 k e)))
                 have R1:=Aside0.mk (Kd.R_over' (v:=.slice A1 (lastG l0).f1.length cc1) G0.out (Kd.R_typed G1.out) (by decide) hg)
                 have K1:=Aside0.mk (Kept.of_grown hg HW.out.K (fun k hk=>.inl (hoki k (G1.out.1 k hk)).1))
                 obtain ⟨A3,cc3,rfl⟩:=Kd.R_slice ho
                 have en:((lastG l0).f1++[(⟨x1.toList == ([108,101,116]:List UInt8),x2⟩:S34)]).length=(lastG l0).f1.length+1:=by rw [List.length_append,List.length_singleton]
                 rw [en] at ho
                 have R0:=Aside0.mk ho
                 have B1:=Aside0.mk hb
                 have Z1:=Aside0.mk (Nat.le_trans HW.out.le hg.size)
                 clear ho hb hg hat hx0 hx1 hx2 hff hf1 hf2)
              | ((with_reducible refine gate_store (t:=30) (p:=89) rfl ?_)
                 refine Kd.H_store kGp (w0:=w0) base rfl rfl 30 (.tmp 89) (.tmp 87) rfl 32 (j:Int) 1 l0 ⟨(lastG l0).f0,(lastG l0).f1++[⟨x1.toList == ([108,101,116]:List UInt8),x2⟩],(lastG l0).f2⟩ (.slice A3 ((lastG l0).f1.length+1) cc3) [.slice A3 ((lastG l0).f1.length+1) cc3] [.slice A0 (lastG l0).f0.length cc0,.slice A1 (lastG l0).f1.length cc1,.int .i64 (lastG l0).f2] ok (fun k=>oki k∨(ok k∧wc.heap.size≤k)) (fun k=>oki k∨(ok k∧wc.heap.size≤k)) rfl (by rw [Int.toNat_natCast];rfl) rfl (Kd.R_val R0.out).1 infoRus (by intro q hq;rw [List.mem_singleton.1 hq];exact (Kd.R_val R0.out).2) H1.out (by omega) (by omega) (show 1+1≤3 by decide) (k32_mkM _ _ _ ⟨(lastG l0).f0,(lastG l0).f1++[⟨x1.toList == ([108,101,116]:List UInt8),x2⟩],(lastG l0).f2⟩ (Kd.R_mono R1.out (fun _ hk=>.inl hk)) R0.out) (fun _ hk=>hk) B1.out ?_
                 intro w2 hS hB hg2
                 have S2:=Aside0.mk hS
                 have B2:=Aside0.mk hB
                 have K2:=Aside0.mk (Kept.of_grown hg2 K1.out (fun k hk=>.inl (by injection hk with hk;subst hk;exact (Kd.S_R hS).1 _ rfl)))
                 have Z2:=Aside0.mk (Nat.le_trans Z1.out hg2.size)
                 clear hS hB hg2))
            go_ret2
            have e2:=S2.out
            rw [Int.toNat_natCast] at e2
            first|exact ⟨.slice (some ⟨g,0,none⟩) l0.length cc,rfl,e2,B2.out,K2.out,Z2.out⟩|(rw [← hj] at e2;exact ⟨.slice (some ⟨g,0,none⟩) l0.length cc,rfl,e2,B2.out,K2.out,Z2.out⟩)
          | false=>
            rw [if_neg (by decide)] at h3
            clear HC
            by_cases c5:x1.toList=([119,97,105,116]:List UInt8)
            · rw [if_pos c5] at h3
              have c5b:(x1.toList == ([119,97,105,116]:List UInt8))=true:=beq_iff_eq.mpr c5
              clear c5
              obtain ⟨m,hm,h4⟩:=Option.bind_eq_some_iff.mp h3
              obtain ⟨rfl,rfl⟩:=Prod.mk.inj (Option.some.inj h4)
              have HM:=Aside0.mk hm
              clear h3 hm h4
              go_wp2_with (first
                | (go_at_call 34;(with_reducible refine (spec_l2Num.calls k x2 20 m _ HM.out).mono ?_);rintro e w5 ⟨rfl,hb5⟩
                   have HW5:=Aside0.mk (HW.out.below hb5)
                   have HH5:=Aside0.mk (Kd.H_below HH.out hb5)
                   have G05:=Aside0.mk (Kd.R_below G0.out hb5)
                   have G15:=Aside0.mk (Kd.R_below G1.out hb5)
                   clear hb5)
                | ((with_reducible refine gate_store (t:=3) (p:=99) rfl ?_)
                   refine Kd.H_store kGp (w0:=w0) base rfl rfl 3 (.tmp 99) (.tmp 97) rfl 32 (j:Int) 2 l0 ⟨(lastG l0).f0,(lastG l0).f1,m⟩ (.int .i64 m) [.int .i64 m] [.slice A0 (lastG l0).f0.length cc0,.slice A1 (lastG l0).f1.length cc1,.int .i64 (lastG l0).f2] ok oki oki rfl (by rw [Int.toNat_natCast];rfl) rfl rfl infoInt (by intro q hq;rw [List.mem_singleton.1 hq];rfl) HH5.out (by omega) (by omega) (show 2+1≤3 by decide) (k32_mkM _ _ _ ⟨(lastG l0).f0,(lastG l0).f1,m⟩ G05.out G15.out) (fun _ hk=>hk) HW5.out.B ?_
                   intro w2 hS hB hg2
                   have S2:=Aside0.mk hS
                   have B2:=Aside0.mk hB
                   have K2:=Aside0.mk (Kept.of_grown hg2 HW5.out.K (fun k hk=>.inl (by injection hk with hk;subst hk;exact (Kd.S_R hS).1 _ rfl)))
                   have Z2:=Aside0.mk (Nat.le_trans HW5.out.le hg2.size)
                   clear hS hB hg2))
              go_ret2
              have e2:=S2.out
              rw [Int.toNat_natCast] at e2
              first|exact ⟨.slice (some ⟨g,0,none⟩) l0.length cc,rfl,e2,B2.out,K2.out,Z2.out⟩|(rw [← hj] at e2;exact ⟨.slice (some ⟨g,0,none⟩) l0.length cc,rfl,e2,B2.out,K2.out,Z2.out⟩)
            · rw [if_neg c5] at h3
              have c5b:(x1.toList == ([119,97,105,116]:List UInt8))=false:=beq_eq_false_iff_ne.mpr c5
              clear c5
              obtain ⟨rfl,rfl⟩:=Prod.mk.inj (Option.some.inj h3)
              clear h3
              go_wp2
              go_ret2
              exact ⟨_,rfl,HW.out⟩
def sLoop (k:Nat):List ByteArray→List Gp→Bool→Option (List Gp)
  | [],gs,_=>some gs
  | s :: r,gs,b=>(spec_l1Cut.f k s 32).bind fun t=>(spec_l2Line.f k gs t.1 t.2.1 b).bind fun q=>sLoop k r q.1 q.2
def spec_NoticeRead.f (k:Nat) (a0:ByteArray):Option (List Gp):=(spec_l1Split.f k a0 10).bind fun ls=>if ls.length≤1000000000 then sLoop k (ls.take 40) [] false else none
theorem nxt (i:Nat) (h:i < 1000000000):(Value.int .i64 (wrap64 ((i:Int)+1)))=.int .i64 ((i+1:Nat):Int):=by
  congr 1
  show wrap64 _=_
  unfold wrap64
  omega
theorem lines_none (w w1:World) (v:Value) (h:kGp.R 32 w1 w.heap.size (fun _=>True) v []):Kd.S kGp 32 w1 w.heap.size (fun _=>True) v []:=by
  obtain ⟨h0,inner,ho,hr⟩:=h
  exact ⟨fun _=>0,h0,inner,ho,by have:=hr.1;simpa using this,fun j p hj=>by simp at hj⟩
theorem string_at {W:World} {base:Nat} {ok:Nat→Prop} {v:Value} {xs:List ByteArray} (h:Kd.string.R 9 W base ok v xs) {i:Nat} (hi:i < xs.length) :
    ∃ g cap,v=.slice (some ⟨g,0,none⟩) xs.length cap∧base≤g∧g < W.heap.size∧W.cell? ⟨g,i,none⟩=some (.string xs[i]):=by
  obtain ⟨g,cap,rfl,hb,hl,_⟩:=Kd.R_form h (by omega)
  obtain ⟨c,hcl,hM,hcc,_⟩:=Kd.R_elem h (ByteArray.empty) (i:Int) (by omega) (by omega)
  have e:(i:Int).toNat=i:=by omega
  rw [e] at hM hcc
  have hc:c=[.string xs[i]]:=by
    have:c=[.string (xs.getD i ByteArray.empty)]:=hM
    rw [this,List.getD_eq_getElem?_getD,List.getElem?_eq_getElem hi];rfl
  subst hc
  refine ⟨g,cap,rfl,hb,hl,?_⟩
  have:=hcc 0 _ rfl
  rwa [Nat.add_zero,show Kd.string.sz=1 from rfl,Nat.mul_one] at this
set_option maxHeartbeats 8000000 in
set_option maxRecDepth 100000 in
theorem spec_NoticeRead.calls (k:Nat) (a0:ByteArray) (r:List Gp) (w:World) (h:spec_NoticeRead.f k a0=some r) :
    Calls Tryd.prog 6 #[.string a0] w fun e w'=>∃ v0_:Value,e=.returned (v0_)∧Kd.S kGp 32 w' w.heap.size (fun _=>True) v0_ r∧Below w.heap.size w w':=by
  unfold spec_NoticeRead.f at h
  obtain ⟨ls,hls,h2⟩:=Option.bind_eq_some_iff.mp h
  split at h2
  case isFalse=>cases h2
  rename_i hbig
  have HS:=Aside0.mk hls
  have H0:=Aside0.mk h2
  clear h hls h2
  go_enter Tryd.func6,Tryd.ntmps6
  go_wp2_with (first
    | ((with_reducible refine gate_dst (N:=10) rfl ?_);refine Kd.R_lit kGp w.heap.size 32 ?hg (N:=10) ?hd (xs:=[]) (inner:=[]) (ok:=fun _=>True) (okp:=fun _=>False) ?hr ?hp (fun _ hk=>hk.elim) trivial (Below.refl _ _) (Nat.le_refl _) (by simp) ?_;(case hd=>rfl);(case hg=>rfl);(case hr=>first|(go_simp;done)|(go_simp;rfl));(case hp=>exact Reps.none _ _);intro v10 w10 ho hb hg hn;obtain ⟨A10,c10,rfl⟩:=Kd.R_slice ho;have HL:=Aside0.mk (show Lines w w w10 w.heap.size (fun _=>True) (.slice A10 0 c10) [] from ⟨lines_none _ _ _ ho,hb,⟨hg.size,fun i _ hn=>absurd trivial hn⟩,hg.size⟩);clear ho hb hg hn)
    | (go_at_call 14;(with_reducible refine (spec_l1Split.calls k a0 10 ls _ HS.out).mono ?_);rintro e w12 ⟨v12,rfl,ho12,hb12⟩;obtain ⟨A12,c12,rfl⟩:=Kd.R_slice ho12;have HL2:=Aside0.mk (HL.out.below hb12);have HO:=Aside0.mk ho12;have HZ:=Aside0.mk hb12.size;have HB12:=Aside0.mk hb12;clear ho12 hb12))
  have e40:(ls.take 40).length=min 40 ls.length:=List.length_take
  have HO1:=Aside0.mk (Kd.R_tight rfl HO.out)
  have HL3:=Aside0.mk (show Lines w w w12 w.heap.size (fun k=>some k≠(Value.slice A12 ls.length c12).ownBlock) (.slice A10 0 c10) [] from
    ⟨Kd.S_below (Kd.S_mono (Kd.S_bound HL.out.S) (fun k hk he=>by have:=Kd.R_base HO.out k he.symm;have:=hk.2.2.1;omega)) HB12.out,HL2.out.B,Kept.of_below HL2.out.B _,HL2.out.le⟩)
  clear HL HL2 HO HZ HB12 HS
  go_loopg [3,4,6] (ls.take 40).length (fun g v3 v4 v6 wx=>∃ (i:Nat) (gs:List Gp) (b:Bool),v4=.bool b∧v6=.int .i64 i∧i+g=(ls.take 40).length∧Aside0 (sLoop k ((ls.take 40).drop i) gs b=some r)∧Aside0 (Lines w w wx w.heap.size (fun k=>some k≠(Value.slice A12 ls.length c12).ownBlock) v3 gs)∧Aside0 (Kd.string.R 9 wx w10.heap.size (fun k=>some k=(Value.slice A12 ls.length c12).ownBlock) (.slice A12 ls.length c12) ls))
  case atStart=>exact ⟨0,[],false,rfl,rfl,by omega,⟨by simpa using H0.out⟩,HL3,HO1⟩
  case round=>
    clear H0 HL3 HO1
    obtain ⟨i,gs,b,rfl,rfl,hig,H,HL,HO⟩:=hrel
    have hS:=Kd.S_slice HL.out.S
    obtain ⟨A3,c3,e3⟩:=hS
    subst e3
    cases gk with
    | zero=>
      have hr:gs=r:=by
        have:=H.out
        rw [List.drop_of_length_le (by omega)] at this
        exact Option.some.inj this
      subst hr
      by_cases c1:i < ls.length
      · have c1b:decide ((i:Int) < (ls.length:Int))=true:=decide_eq_true (by omega)
        have c1n:decide (i < ls.length)=true:=decide_eq_true (by omega)
        have c2b:decide ((i:Int) < 40)=false:=decide_eq_false (by omega)
        have c2n:decide (i < 40)=false:=decide_eq_false (by omega)
        clear c1
        go_wp2
        go_ret
        exact ⟨_,rfl,Kd.S_mono HL.out.S (fun _ _=>trivial),HL.out.B⟩
      · have c1b:decide ((i:Int) < (ls.length:Int))=false:=decide_eq_false (by omega)
        have c1n:decide (i < ls.length)=false:=decide_eq_false (by omega)
        clear c1
        go_wp2
        go_ret
        exact ⟨_,rfl,Kd.S_mono HL.out.S (fun _ _=>trivial),HL.out.B⟩
    | succ g1=>
      have hi:i < ls.length:=by omega
      have c1b:decide ((i:Int) < (ls.length:Int))=true:=decide_eq_true (by omega)
      have c1n:decide (i < ls.length)=true:=decide_eq_true (by omega)
      have c2b:decide ((i:Int) < 40)=true:=decide_eq_true (by omega)
      have c2n:decide (i < 40)=true:=decide_eq_true (by omega)
      obtain ⟨gl,cl,eu,hb0,hb1,hx0⟩:=string_at HO.out hi
      injection eu with eu1 eu2 eu3
      subst eu1
      subst eu3
      have p0:(0≤(i:Int))=True:=eq_true (by omega)
      have q0:((i:Int) < (ls.length:Int))=True:=eq_true (by omega)
      have h1:=H.out
      rw [List.drop_eq_getElem_cons (by omega:i < (ls.take 40).length),List.getElem_take] at h1
      unfold sLoop at h1
      obtain ⟨⟨t1,t2,t3⟩,A1,h2⟩:=Option.bind_eq_some_iff.mp h1
      obtain ⟨⟨gs2,b2⟩,A2,h3⟩:=Option.bind_eq_some_iff.mp h2
      have HA1:=Aside0.mk A1
      have HA2:=Aside0.mk A2
      have H':=Aside0.mk h3
      generalize ls[i]=s at hx0 HA1
      clear H h1 h2 h3 A1 A2
      have q1:(i < ls.length)=True:=eq_true (by omega)
      go_wp2_with (first
        | (go_at_call 15;(with_reducible refine (spec_l1Cut.calls k s 32 t1 t2 t3 _ HA1.out).mono ?_);rintro e w' ⟨rfl,⟨nd,rfl⟩⟩)
        | (go_at_call 16
           have HQ:=Aside0.mk (HL.out.drewN nd)
           have HP:=Aside0.mk (Kd.R_drewN HO.out nd)
           (with_reducible refine (spec_l2Line.calls k w.heap.size (fun k=>some k≠(Value.slice (some ⟨gl,0,none⟩) ls.length c12).ownBlock) (.slice A3 gs.length c3) gs t1 t2 b gs2 b2 w _ ⟨HQ.out.S,HQ.out.B,Kept.refl _ _,HQ.out.le⟩ (fun k hk he=>by have:=Kd.R_lt HP.out k he.symm;omega) HA2.out).mono ?_)
           rintro e w5 ⟨v5,rfl,h5⟩
           have H5:=Aside0.mk h5
           have HK5:=Aside0.mk (HQ.out.K.then_ h5.K (fun k hk=>.inl hk))
           have HO5:=Aside0.mk (Kd.R_step HP.out (fun k hk hlt=>h5.K.2 k hlt (fun h=>h hk)))
           clear h5))
      go_roundg g1
      case measure=>omega
      case rel=>exact ⟨i+1,gs2,b2,rfl,by first|rw [nxt i (by omega)]|simp,by omega,H',⟨⟨H5.out.S,H5.out.B,HK5.out,H5.out.le⟩⟩,HO5⟩
def grpAt (l:List Gp) (i:Nat):Gp:=l.getD i z32
def mgLoop (k:Nat):Nat→Nat→List Gp→Int→Option (Int×List Gp)
  | 0,_,gs,m=>some (m,gs)
  | d+1,i,gs,m=>(laws_markStringS.f k (grpAt gs i).f0 m).bind fun t=>(laws_markRuleS.f k (grpAt gs i).f1 t.1).bind fun q=>mgLoop k d (i+1) (gs.set i ⟨t.2,q.2,q.1⟩) (wrap64 (q.1+1))
def laws_markGroupS.f (k:Nat) (l0:List Gp) (a1:Int):Option (Int×List Gp):=if l0.length≤1000000000 then mgLoop k l0.length 0 l0 a1 else none
theorem Lines.group {w0 w wc:World} {base:Nat} {ok:Nat→Prop} {u:Value} {l:List Gp} (h:Lines w0 w wc base ok u l) (i:Nat) (hp:i < l.length) :
    ∃ g cap v0 v1 oki,u=.slice (some ⟨g,0,none⟩) l.length cap∧Kd.string.R 9 wc base oki v0 (grpAt l i).f0∧k34.R 34 wc base oki v1 (grpAt l i).f1 ∧
      (wc.cell? ⟨g,i * 3,none⟩=some v0∧wc.cell? ⟨g,i * 3+1,none⟩=some v1∧wc.cell? ⟨g,i * 3+2,none⟩=some (.int .i64 (grpAt l i).f2))∧(∀ j,wc.frozen? ⟨g,i * 3+j,none⟩=false)∧(∀ k,oki k→ok k∧k≠g) ∧
      Kd.H kGp 32 wc base ok (.slice (some ⟨g,0,none⟩) l.length cap) l (i:Int) oki [v0,v1,.int .i64 (grpAt l i).f2]:=by
  obtain ⟨g,cap,rfl,_,_,_⟩:=Kd.S_form h.S (by omega)
  obtain ⟨oki,c,hcl,hM,hcc,hfr,hoki,hH⟩:=Kd.S_elem h.S z32 (i:Int) (by omega) (by omega)
  obtain ⟨v0,v1,rfl,g0,g1⟩:=k32_openM hM
  rw [Int.toNat_natCast] at hcc hfr g0 g1
  exact ⟨g,cap,v0,v1,oki,rfl,g0,g1,⟨hcc 0 _ rfl,hcc 1 _ rfl,hcc 2 _ rfl⟩,hfr,hoki,hH⟩
set_option maxHeartbeats 8000000 in
set_option maxRecDepth 100000 in
theorem laws_markGroupS.calls (k:Nat) (ok:Nat→Prop) (u:Value) (l0:List Gp) (a1:Int) (r1:Int) (r2:List Gp) (w0 w:World) (hl:Lines w0 w w w0.heap.size ok u l0) (h:laws_markGroupS.f k l0 a1=some (r1,r2)) :
    Calls Tryd.prog 9 #[u,.int .i64 a1] w fun e w'=>e=.returned (.int .i64 r1)∧Lines w0 w w' w0.heap.size ok u r2:=by
  obtain ⟨A,cc,hu⟩:=Kd.S_slice hl.S
  unfold laws_markGroupS.f at h
  split at h
  case isFalse=>cases h
  rename_i hbig
  obtain ⟨n,hn⟩:∃ n,l0.length=n:=⟨_,rfl⟩
  rw [hn] at hu h hbig
  subst hu
  have HL:=Aside0.mk hl
  have H0:=Aside0.mk h
  clear hl h
  go_enter Tryd.func9,Tryd.ntmps9
  go_wp2
  go_loopg [1,5] n (fun g v1 v5 wx=>∃ (i:Nat) (gs:List Gp) (m:Int),v1=.int .i64 m∧v5=.int .i64 i∧i+g=n∧gs.length=n∧Aside0 (mgLoop k g i gs m=some (r1,r2))∧Aside0 (Lines w0 w wx w0.heap.size ok (.slice A n cc) gs))
  case atStart=>exact ⟨0,l0,a1,rfl,rfl,by omega,hn,H0,HL⟩
  case round=>
    clear H0 HL
    obtain ⟨i,gs,m,rfl,rfl,hig,hgn,H,HL⟩:=hrel
    cases gk with
    | zero=>
      have c1b:decide ((i:Int) < (n:Int))=false:=decide_eq_false (by omega)
      have c1n:decide (i < n)=false:=decide_eq_false (by omega)
      have hr:=H.out
      simp only [mgLoop,Option.some.injEq,Prod.mk.injEq] at hr
      obtain ⟨rfl,rfl⟩:=hr
      clear H
      go_wp2
      go_ret
      exact ⟨rfl,HL.out⟩
    | succ g1=>
      have c1b:decide ((i:Int) < (n:Int))=true:=decide_eq_true (by omega)
      have c1n:decide (i < n)=true:=decide_eq_true (by omega)
      have p0:(0≤(i:Int))=True:=eq_true (by omega)
      have q0:((i:Int) < (n:Int))=True:=eq_true (by omega)
      have q1:(i < n)=True:=eq_true (by omega)
      have h1:=H.out
      unfold mgLoop at h1
      obtain ⟨⟨m1,ns⟩,A1,h2⟩:=Option.bind_eq_some_iff.mp h1
      obtain ⟨⟨m2,rs⟩,A2,h3⟩:=Option.bind_eq_some_iff.mp h2
      have HA1:=Aside0.mk A1
      have HA2:=Aside0.mk A2
      have H':=Aside0.mk h3
      clear H h1 h2 h3 A1 A2
      obtain ⟨g,cap,v0,v1,oki,eu,g0,g1_,⟨hx0,hx1,hx2⟩,hff,hoki,hH⟩:=HL.out.group i (by omega)
      injection eu with eu1 eu2 eu3
      subst eu1
      subst eu3
      clear eu2
      obtain ⟨B0,b0,rfl⟩:=Kd.R_slice g0
      obtain ⟨B1,b1,rfl⟩:=Kd.R_slice g1_
      have G0:=Aside0.mk g0
      have G1:=Aside0.mk g1_
      have HH:=Aside0.mk hH
      clear g0 g1_ hH
      generalize grpAt gs i=q at HA1 HA2 G0 G1 HH hx0 hx1 hx2
      have NE:=Aside0.mk (show ∀ k,some k=(Value.slice B1 q.f1.length b1).ownBlock→¬ some k=(Value.slice B0 q.f0.length b0).ownBlock from fun k hk=>by
        obtain ⟨cells,hc⟩:=Kd.R_typed G1.out k hk.symm
        exact Kd.R_ne G0.out hc (by decide))
      have NG0:=Aside0.mk (show ¬ some g=(Value.slice B0 q.f0.length b0).ownBlock from fun e=>(hoki g (G0.out.1 g e.symm)).2 rfl)
      have NG1:=Aside0.mk (show ¬ some g=(Value.slice B1 q.f1.length b1).ownBlock from fun e=>(hoki g (G1.out.1 g e.symm)).2 rfl)
      go_wp2_with (first
        | (go_at_call 21;
           (with_reducible refine (laws_markStringS.calls k (fun k_=>some k_=(Value.slice B0 q.f0.length b0).ownBlock) (.slice B0 q.f0.length b0) q.f0 m m1 ns w0 _ HL.out.B (Kd.R_tight rfl G0.out) HA1.out).mono ?_)
           rintro e w5 ⟨rfl,ho5,hb5,hk5⟩
           have N0:=Aside0.mk (Kd.R_tight rfl ho5)
           have G15:=Aside0.mk (Kd.R_step (Kd.R_tight rfl G1.out) (fun k hk hlt=>hk5.2 k hlt (NE.out k hk)))
           have HH5:=Aside0.mk (Kd.H_step HH.out (fun k hok hno hlt=>hk5.2 k hlt (fun e=>hno (G0.out.1 k e.symm))))
           have HB5:=Aside0.mk hb5
           have HK5:=Aside0.mk (HL.out.K.then_ hk5 (fun k hk=>.inl (hoki k (G0.out.1 k hk.symm)).1))
           have hy1:=cell_kept hx1 hk5 NG0.out
           have hy2:=cell_kept hx2 hk5 NG0.out
           clear ho5 hb5 hk5 hx0 hx1 hx2)
        | (go_at_call 22;
           (with_reducible refine (laws_markRuleS.calls k (fun k_=>some k_=(Value.slice B1 q.f1.length b1).ownBlock) (.slice B1 q.f1.length b1) q.f1 m1 m2 rs w0 _ HB5.out G15.out HA2.out).mono ?_)
           rintro e w6 ⟨rfl,ho6,hb6,hk6⟩
           have R1:=Aside0.mk (Kd.R_tight rfl ho6)
           have R0:=Aside0.mk (Kd.R_step N0.out (fun k hk hlt=>hk6.2 k hlt (fun e=>NE.out k e hk)))
           have HH6:=Aside0.mk (Kd.H_step HH5.out (fun k hok hno hlt=>hk6.2 k hlt (fun e=>hno (G1.out.1 k e.symm))))
           have HB6:=Aside0.mk hb6
           have HK6:=Aside0.mk (HK5.out.then_ hk6 (fun k hk=>.inl (hoki k (G1.out.1 k hk.symm)).1))
           have hz2:=cell_kept hy2 hk6 NG1.out
           have hf2:=(Kd.H_at HH6.out (by omega) (by omega)).2 2
           rw [Int.toNat_natCast,show kGp.sz=3 from rfl] at hf2
           clear ho6 hb6 hk6 hy1 hy2)
        | ((with_reducible refine gate_store (t:=3) (p:=30) rfl ?_)
           refine Kd.H_store kGp (w0:=w0) w0.heap.size rfl rfl 3 (.tmp 30) (.tmp 28) rfl 32 (i:Int) 2 gs ⟨ns,rs,m2⟩ (.int .i64 m2) [.int .i64 m2] [.slice B0 q.f0.length b0,.slice B1 q.f1.length b1,.int .i64 q.f2] ok oki oki rfl (by rw [Int.toNat_natCast];rfl) rfl rfl infoInt (by intro q hq;rw [List.mem_singleton.1 hq];rfl) HH6.out (by omega) (by omega) (show 2+1≤3 by decide) (k32_mkM _ _ _ ⟨ns,rs,m2⟩ (Kd.R_mono R0.out (fun k hk=>G0.out.1 k hk.symm)) (Kd.R_mono R1.out (fun k hk=>G1.out.1 k hk.symm))) (fun _ hk=>hk) HB6.out ?_
           intro w7 hS hB hg2
           have HL7:=Aside0.mk (show Lines w0 w w7 w0.heap.size ok (.slice (some ⟨g,0,none⟩) gs.length cc) (gs.set i ⟨ns,rs,m2⟩) from ⟨by rw [Int.toNat_natCast] at hS;exact hS,hB,Kept.of_grown hg2 HK6.out (fun k hk=>.inl (by injection hk with hk;subst hk;exact (Kd.S_R hS).1 _ rfl)),hB.size⟩)
           clear hS hB hg2))
      go_roundg g1
      case measure=>omega
      case rel=>exact ⟨i+1,gs.set i ⟨ns,rs,m2⟩,wrap64 (m2+1),(by first|rfl|(simp only [i64_w,i32_w];done)),by first|rw [nxt i (by omega)]|simp,by omega,by rw [List.length_set];exact hgn,H',by rw [hgn] at HL7;exact HL7⟩
def strings_explode.f (a0:ByteArray) (a1:Int):Option (List ByteArray):=none
theorem strings_explode.calls (a0:ByteArray) (a1:Int) (r:List ByteArray) (w:World) (h:strings_explode.f a0 a1=some r) :
  Calls Tryd.prog 48 #[.string a0,.int .i64 a1] w fun e w'=>∃ v0_:Value,e=.returned (v0_)∧Kd.R Kd.string 9 w' w.heap.size (fun _=>True) v0_ r∧Below w.heap.size w w':=by
 cases h
end Go.Proofs.YthojbccgnlcblaaDoor.P
end
section
namespace Go.Proofs
open Go.Shelf
def Tryd.lays219_ren:Go.Shelf.Ren:=⟨fun|219=>58|217=>61|225=>62|224=>63|267=>64|266=>65|314=>66|n=>n,fun|9=>9|3=>3|4=>4|5=>5|46=>85|146=>91|51=>90|n=>n,fun|1=>0|n=>n⟩
theorem Tryd.lays219:Go.Proofs.Lays.n219 Tryd.prog Tryd.lays219_ren:={
 mixed:=by kernel_rfl
 f217:=Tryd.func61.trans (congrArg some (by kernel_rfl))
 f219:=Tryd.func58.trans (congrArg some (by kernel_rfl))
 f224:=Tryd.func63.trans (congrArg some (by kernel_rfl))
 f225:=Tryd.func62.trans (congrArg some (by kernel_rfl))
 f266:=Tryd.func65.trans (congrArg some (by kernel_rfl))
 f267:=Tryd.func64.trans (congrArg some (by kernel_rfl))
 f314:=Tryd.func66.trans (congrArg some (by kernel_rfl))
 t3:=Tryd.underlying3
 a3:=Tryd.isAgg3
 z3:=Tryd.sizeOf3
 v3:=Tryd.zeroValue3
 t4:=Tryd.underlying4
 a4:=Tryd.isAgg4
 z4:=Tryd.sizeOf4
 v4:=Tryd.zeroValue4
 t5:=Tryd.underlying5
 a5:=Tryd.isAgg5
 z5:=Tryd.sizeOf5
 v5:=Tryd.zeroValue5
 t9:=Tryd.underlying9
 a9:=Tryd.isAgg9
 z9:=Tryd.sizeOf9
 v9:=Tryd.zeroValue9
 t46:=Tryd.underlying85
 a46:=Tryd.isAgg85
 z46:=Tryd.sizeOf85
 v46:=Tryd.zeroValue85
 t51:=Tryd.underlying90
 a51:=Tryd.isAgg90
 z51:=Tryd.sizeOf90
 v51:=Tryd.zeroValue90
 t146:=Tryd.underlying91
 a146:=Tryd.isAgg91
 z146:=Tryd.sizeOf91
 v146:=Tryd.zeroValue91
 g1:=by kernel_rfl }
open Go.RowKit Go.Lib in
theorem Tryd.stringslite_Index_one (s:ByteArray) (c:UInt8) (w:World) :
  Calls Tryd.prog 58 #[.string s,.string ⟨#[c]⟩] w fun e w'=>e=.returned (.int .i64 (Lib.indexByte s.data.toList c))∧w'=w:=Any.stringslite_Index_one Tryd.lays219 s c w
open Go.RowKit Go.Lib in
theorem Tryd.stringslite_Index (s sub:ByteArray) (m:Int) (w:World) (hs:s.size < 4294967281) (hm:w.cell? ⟨0,0,none⟩=some (.int .i64 m)) :
  Calls Tryd.prog 58 #[.string s,.string sub] w fun e w'=>e=.returned (.int .i64 (Lib.index s.data.toList sub.data.toList))∧w'=w:=Any.stringslite_Index Tryd.lays219 s sub m w hs hm
def Tryd.lays143_ren:Go.Shelf.Ren:=⟨fun|143=>50|219=>58|217=>61|225=>62|224=>63|267=>64|266=>65|314=>66|n=>n,fun|9=>9|3=>3|4=>4|5=>5|46=>85|146=>91|51=>90|n=>n,fun|1=>0|n=>n⟩
theorem Tryd.lays143:Go.Proofs.Lays.n143 Tryd.prog Tryd.lays143_ren:={
 mixed:=by kernel_rfl
 f143:=Tryd.func50.trans (congrArg some (by kernel_rfl))
 f217:=Tryd.func61.trans (congrArg some (by kernel_rfl))
 f219:=Tryd.func58.trans (congrArg some (by kernel_rfl))
 f224:=Tryd.func63.trans (congrArg some (by kernel_rfl))
 f225:=Tryd.func62.trans (congrArg some (by kernel_rfl))
 f266:=Tryd.func65.trans (congrArg some (by kernel_rfl))
 f267:=Tryd.func64.trans (congrArg some (by kernel_rfl))
 f314:=Tryd.func66.trans (congrArg some (by kernel_rfl))
 t3:=Tryd.underlying3
 a3:=Tryd.isAgg3
 z3:=Tryd.sizeOf3
 v3:=Tryd.zeroValue3
 t4:=Tryd.underlying4
 a4:=Tryd.isAgg4
 z4:=Tryd.sizeOf4
 v4:=Tryd.zeroValue4
 t5:=Tryd.underlying5
 a5:=Tryd.isAgg5
 z5:=Tryd.sizeOf5
 v5:=Tryd.zeroValue5
 t9:=Tryd.underlying9
 a9:=Tryd.isAgg9
 z9:=Tryd.sizeOf9
 v9:=Tryd.zeroValue9
 t46:=Tryd.underlying85
 a46:=Tryd.isAgg85
 z46:=Tryd.sizeOf85
 v46:=Tryd.zeroValue85
 t51:=Tryd.underlying90
 a51:=Tryd.isAgg90
 z51:=Tryd.sizeOf90
 v51:=Tryd.zeroValue90
 t146:=Tryd.underlying91
 a146:=Tryd.isAgg91
 z146:=Tryd.sizeOf91
 v146:=Tryd.zeroValue91
 g1:=by kernel_rfl }
open Go.RowKit Go.Lib in
theorem Tryd.strings_Index (s sub:ByteArray) (m:Int) (w:World) (hs:s.size < 4294967281) (hm:w.cell? ⟨0,0,none⟩=some (.int .i64 m)) :
  Calls Tryd.prog 50 #[.string s,.string sub] w fun e w'=>e=.returned (.int .i64 (Lib.index s.data.toList sub.data.toList))∧w'=w:=Any.strings_Index Tryd.lays143 s sub m w hs hm
def Tryd.lays220_ren:Go.Shelf.Ren:=⟨fun|220=>51|219=>58|217=>61|225=>62|224=>63|267=>64|266=>65|314=>66|n=>n,fun|9=>9|4=>4|3=>3|5=>5|46=>85|146=>91|51=>90|n=>n,fun|1=>0|n=>n⟩
theorem Tryd.lays220:Go.Proofs.Lays.n220 Tryd.prog Tryd.lays220_ren:={
 mixed:=by kernel_rfl
 f217:=Tryd.func61.trans (congrArg some (by kernel_rfl))
 f219:=Tryd.func58.trans (congrArg some (by kernel_rfl))
 f220:=Tryd.func51.trans (congrArg some (by kernel_rfl))
 f224:=Tryd.func63.trans (congrArg some (by kernel_rfl))
 f225:=Tryd.func62.trans (congrArg some (by kernel_rfl))
 f266:=Tryd.func65.trans (congrArg some (by kernel_rfl))
 f267:=Tryd.func64.trans (congrArg some (by kernel_rfl))
 f314:=Tryd.func66.trans (congrArg some (by kernel_rfl))
 t3:=Tryd.underlying3
 a3:=Tryd.isAgg3
 z3:=Tryd.sizeOf3
 v3:=Tryd.zeroValue3
 t4:=Tryd.underlying4
 a4:=Tryd.isAgg4
 z4:=Tryd.sizeOf4
 v4:=Tryd.zeroValue4
 t5:=Tryd.underlying5
 a5:=Tryd.isAgg5
 z5:=Tryd.sizeOf5
 v5:=Tryd.zeroValue5
 t9:=Tryd.underlying9
 a9:=Tryd.isAgg9
 z9:=Tryd.sizeOf9
 v9:=Tryd.zeroValue9
 t46:=Tryd.underlying85
 a46:=Tryd.isAgg85
 z46:=Tryd.sizeOf85
 v46:=Tryd.zeroValue85
 t51:=Tryd.underlying90
 a51:=Tryd.isAgg90
 z51:=Tryd.sizeOf90
 v51:=Tryd.zeroValue90
 t146:=Tryd.underlying91
 a146:=Tryd.isAgg91
 z146:=Tryd.sizeOf91
 v146:=Tryd.zeroValue91
 g1:=by kernel_rfl }
open Go.RowKit Go.Lib in
theorem Tryd.stringslite_Cut (s sep:ByteArray) (m:Int) (w:World) (hs:s.size < 4294967281) (hm:w.cell? ⟨0,0,none⟩=some (.int .i64 m)) :
  Calls Tryd.prog 51 #[.string s,.string sep] w fun e w'=>e=.returned (.tuple #[.string ⟨(Lib.cut s.data.toList sep.data.toList).1.toArray⟩,.string ⟨(Lib.cut s.data.toList sep.data.toList).2.1.toArray⟩,.bool (Lib.cut s.data.toList sep.data.toList).2.2])∧∃ n,w'=w.drewN n:=Any.stringslite_Cut Tryd.lays220 s sep m w hs hm
def Tryd.lays145_ren:Go.Shelf.Ren:=⟨fun|145=>36|220=>51|219=>58|217=>61|225=>62|224=>63|267=>64|266=>65|314=>66|n=>n,fun|9=>9|4=>4|59=>37|3=>3|5=>5|46=>85|146=>91|51=>90|n=>n,fun|1=>0|n=>n⟩
theorem Tryd.lays145:Go.Proofs.Lays.n145 Tryd.prog Tryd.lays145_ren:={
 mixed:=by kernel_rfl
 f145:=Tryd.func36.trans (congrArg some (by kernel_rfl))
 f217:=Tryd.func61.trans (congrArg some (by kernel_rfl))
 f219:=Tryd.func58.trans (congrArg some (by kernel_rfl))
 f220:=Tryd.func51.trans (congrArg some (by kernel_rfl))
 f224:=Tryd.func63.trans (congrArg some (by kernel_rfl))
 f225:=Tryd.func62.trans (congrArg some (by kernel_rfl))
 f266:=Tryd.func65.trans (congrArg some (by kernel_rfl))
 f267:=Tryd.func64.trans (congrArg some (by kernel_rfl))
 f314:=Tryd.func66.trans (congrArg some (by kernel_rfl))
 t3:=Tryd.underlying3
 a3:=Tryd.isAgg3
 z3:=Tryd.sizeOf3
 v3:=Tryd.zeroValue3
 t4:=Tryd.underlying4
 a4:=Tryd.isAgg4
 z4:=Tryd.sizeOf4
 v4:=Tryd.zeroValue4
 t5:=Tryd.underlying5
 a5:=Tryd.isAgg5
 z5:=Tryd.sizeOf5
 v5:=Tryd.zeroValue5
 t9:=Tryd.underlying9
 a9:=Tryd.isAgg9
 z9:=Tryd.sizeOf9
 v9:=Tryd.zeroValue9
 t46:=Tryd.underlying85
 a46:=Tryd.isAgg85
 z46:=Tryd.sizeOf85
 v46:=Tryd.zeroValue85
 t51:=Tryd.underlying90
 a51:=Tryd.isAgg90
 z51:=Tryd.sizeOf90
 v51:=Tryd.zeroValue90
 t59:=Tryd.underlying37
 a59:=Tryd.isAgg37
 z59:=Tryd.sizeOf37
 v59:=Tryd.zeroValue37
 t146:=Tryd.underlying91
 a146:=Tryd.isAgg91
 z146:=Tryd.sizeOf91
 v146:=Tryd.zeroValue91
 g1:=by kernel_rfl }
open Go.RowKit Go.Lib in
theorem Tryd.strings_Cut (s sep:ByteArray) (m:Int) (w:World) (hs:s.size < 4294967281) (hm:w.cell? ⟨0,0,none⟩=some (.int .i64 m)) :
  Calls Tryd.prog 36 #[.string s,.string sep] w fun e w'=>e=.returned (.tuple #[.string ⟨(Lib.cut s.data.toList sep.data.toList).1.toArray⟩,.string ⟨(Lib.cut s.data.toList sep.data.toList).2.1.toArray⟩,.bool (Lib.cut s.data.toList sep.data.toList).2.2])∧∃ n,w'=w.drewN n:=Any.strings_Cut Tryd.lays145 s sep m w hs hm
def Tryd.lays138_ren:Go.Shelf.Ren:=⟨fun|138=>49|195=>55|218=>57|143=>50|219=>58|217=>61|225=>62|224=>63|267=>64|266=>65|314=>66|n=>n,fun|9=>9|3=>3|4=>4|5=>5|0=>0|46=>85|146=>91|51=>90|n=>n,fun|1=>0|n=>n⟩
theorem Tryd.lays138:Go.Proofs.Lays.n138 Tryd.prog Tryd.lays138_ren:={
 mixed:=by kernel_rfl
 f138:=Tryd.func49.trans (congrArg some (by kernel_rfl))
 f143:=Tryd.func50.trans (congrArg some (by kernel_rfl))
 f195:=Tryd.func55.trans (congrArg some (by kernel_rfl))
 f217:=Tryd.func61.trans (congrArg some (by kernel_rfl))
 f218:=Tryd.func57.trans (congrArg some (by kernel_rfl))
 f219:=Tryd.func58.trans (congrArg some (by kernel_rfl))
 f224:=Tryd.func63.trans (congrArg some (by kernel_rfl))
 f225:=Tryd.func62.trans (congrArg some (by kernel_rfl))
 f266:=Tryd.func65.trans (congrArg some (by kernel_rfl))
 f267:=Tryd.func64.trans (congrArg some (by kernel_rfl))
 f314:=Tryd.func66.trans (congrArg some (by kernel_rfl))
 t0:=Tryd.underlying0
 a0:=Tryd.isAgg0
 z0:=Tryd.sizeOf0
 v0:=Tryd.zeroValue0
 t3:=Tryd.underlying3
 a3:=Tryd.isAgg3
 z3:=Tryd.sizeOf3
 v3:=Tryd.zeroValue3
 t4:=Tryd.underlying4
 a4:=Tryd.isAgg4
 z4:=Tryd.sizeOf4
 v4:=Tryd.zeroValue4
 t5:=Tryd.underlying5
 a5:=Tryd.isAgg5
 z5:=Tryd.sizeOf5
 v5:=Tryd.zeroValue5
 t9:=Tryd.underlying9
 a9:=Tryd.isAgg9
 z9:=Tryd.sizeOf9
 v9:=Tryd.zeroValue9
 t46:=Tryd.underlying85
 a46:=Tryd.isAgg85
 z46:=Tryd.sizeOf85
 v46:=Tryd.zeroValue85
 t51:=Tryd.underlying90
 a51:=Tryd.isAgg90
 z51:=Tryd.sizeOf90
 v51:=Tryd.zeroValue90
 t146:=Tryd.underlying91
 a146:=Tryd.isAgg91
 z146:=Tryd.sizeOf91
 v146:=Tryd.zeroValue91
 g1:=by kernel_rfl }
open Go.RowKit Go.Lib in
theorem Tryd.strings_Count_one (s:ByteArray) (c:UInt8) (w:World) :
  Calls Tryd.prog 49 #[.string s,.string ⟨#[c]⟩] w fun e w'=>e=.returned (.int .i64 (Lib.countByte s.data.toList c))∧w'=w:=Any.strings_Count_one Tryd.lays138 s c w
open Go.RowKit Go.Lib in
theorem Tryd.strings_Count (s sub:ByteArray) (m:Int) (w:World) (hs:s.size < 4294967281) (hm:w.cell? ⟨0,0,none⟩=some (.int .i64 m)) (h2:2≤sub.size) :
  Calls Tryd.prog 49 #[.string s,.string sub] w fun e w'=>e=.returned (.int .i64 (Lib.countB s sub))∧w'=w:=Any.strings_Count Tryd.lays138 s sub m w hs hm h2
def Tryd.lays207_ren:Go.Shelf.Ren:=⟨fun|207=>54|n=>n,fun|9=>9|4=>4|3=>3|n=>n,fun|n=>n⟩
theorem Tryd.lays207:Go.Proofs.Lays.n207 Tryd.prog Tryd.lays207_ren:={
 mixed:=by kernel_rfl
 f207:=Tryd.func54.trans (congrArg some (by kernel_rfl))
 t3:=Tryd.underlying3
 a3:=Tryd.isAgg3
 z3:=Tryd.sizeOf3
 v3:=Tryd.zeroValue3
 t4:=Tryd.underlying4
 a4:=Tryd.isAgg4
 z4:=Tryd.sizeOf4
 v4:=Tryd.zeroValue4
 t9:=Tryd.underlying9
 a9:=Tryd.isAgg9
 z9:=Tryd.sizeOf9
 v9:=Tryd.zeroValue9 }
open Go.RowKit Go.Lib in
theorem Tryd.stringslite_HasSuffix (s p:ByteArray) (w:World) (hs:s.size≤9223372036854775807) :
  Calls Tryd.prog 54 #[.string s,.string p] w fun e w'=>e=.returned (.bool (Lib.hasSuffix s.data.toList p.data.toList))∧w'=w:=Any.stringslite_HasSuffix Tryd.lays207 s p w hs
def Tryd.lays209_ren:Go.Shelf.Ren:=⟨fun|209=>44|207=>54|n=>n,fun|9=>9|4=>4|3=>3|n=>n,fun|n=>n⟩
theorem Tryd.lays209:Go.Proofs.Lays.n209 Tryd.prog Tryd.lays209_ren:={
 mixed:=by kernel_rfl
 f207:=Tryd.func54.trans (congrArg some (by kernel_rfl))
 f209:=Tryd.func44.trans (congrArg some (by kernel_rfl))
 t3:=Tryd.underlying3
 a3:=Tryd.isAgg3
 z3:=Tryd.sizeOf3
 v3:=Tryd.zeroValue3
 t4:=Tryd.underlying4
 a4:=Tryd.isAgg4
 z4:=Tryd.sizeOf4
 v4:=Tryd.zeroValue4
 t9:=Tryd.underlying9
 a9:=Tryd.isAgg9
 z9:=Tryd.sizeOf9
 v9:=Tryd.zeroValue9 }
open Go.RowKit Go.Lib in
theorem Tryd.stringslite_TrimSuffix (s p:ByteArray) (w:World) (hs:s.size≤9223372036854775807) :
  Calls Tryd.prog 44 #[.string s,.string p] w fun e w'=>e=.returned (.string ⟨(Lib.trimSuffix s.data.toList p.data.toList).toArray⟩)∧w'=w:=Any.stringslite_TrimSuffix Tryd.lays209 s p w hs
def Tryd.lays102_ren:Go.Shelf.Ren:=⟨fun|102=>30|209=>44|207=>54|n=>n,fun|9=>9|4=>4|3=>3|n=>n,fun|n=>n⟩
theorem Tryd.lays102:Go.Proofs.Lays.n102 Tryd.prog Tryd.lays102_ren:={
 mixed:=by kernel_rfl
 f102:=Tryd.func30.trans (congrArg some (by kernel_rfl))
 f207:=Tryd.func54.trans (congrArg some (by kernel_rfl))
 f209:=Tryd.func44.trans (congrArg some (by kernel_rfl))
 t3:=Tryd.underlying3
 a3:=Tryd.isAgg3
 z3:=Tryd.sizeOf3
 v3:=Tryd.zeroValue3
 t4:=Tryd.underlying4
 a4:=Tryd.isAgg4
 z4:=Tryd.sizeOf4
 v4:=Tryd.zeroValue4
 t9:=Tryd.underlying9
 a9:=Tryd.isAgg9
 z9:=Tryd.sizeOf9
 v9:=Tryd.zeroValue9 }
open Go.RowKit Go.Lib in
theorem Tryd.strings_TrimSuffix (s p:ByteArray) (w:World) (hs:s.size≤9223372036854775807) :
  Calls Tryd.prog 30 #[.string s,.string p] w fun e w'=>e=.returned (.string ⟨(Lib.trimSuffix s.data.toList p.data.toList).toArray⟩)∧w'=w:=Any.strings_TrimSuffix Tryd.lays102 s p w hs
end Go.Proofs
end
section
namespace Go.Proofs.YthojbccgnlcblaaDoor.B
open Go.RowKit Go.Proofs.YthojbccgnlcblaaDoorW.PrintWords Go.Proofs.YthojbccgnlcblaaDoorW.PrintLast Go.Proofs.YthojbccgnlcblaaDoorW.PrintMore
set_option linter.unusedVariables false
set_option linter.unusedSimpArgs false
theorem w64 {n:Int} (h0:-9223372036854775808≤n) (h1:n < 9223372036854775808):wrap64 n=n:=by
 unfold wrap64;omega
abbrev L (s:ByteArray):List UInt8:=s.data.toList
theorem L_size (s:ByteArray):(L s).length=s.size:=(Lib.size_eq s).symm
theorem L_ext (s:ByteArray) (a b:Nat):L (s.extract a b)=((L s).drop a).take (b - a):=Lib.extract_data s a b
theorem L_inj {a b:ByteArray} (h:L a=L b):a=b:=by
 cases a;cases b;congr 1;exact Array.toList_inj.1 h
theorem toList_inj {a b:ByteArray}:a.toList=b.toList↔a=b:=by
 rw [Lib.toList_data,Lib.toList_data];exact ⟨fun h=>L_inj h,fun h=>by rw [h]⟩
theorem toList_nil {a:ByteArray}:a.toList=([]:List UInt8)↔a.size=0:=by
 rw [Lib.toList_data,Lib.size_eq];exact List.length_eq_zero_iff.symm
theorem bt_L (s:ByteArray) (i:Nat):bt s i=(((L s).getD i 0).toNat:Int):=by
 unfold bt
 simp only [Int.toNat_natCast]
 split
 ·rename_i h
  rw [List.getD_eq_getElem?_getD,List.getElem?_eq_getElem (by rw [L_size];exact h)]
  simp [L]
  rfl
 ·rename_i h
  rw [List.getD_eq_getElem?_getD,List.getElem?_eq_none (by rw [L_size];omega)]
  rfl
theorem Ev_succ {α:Type} {g:Nat→Option α} {r:α} (h:Ev (fun k=>g (k+1)) r):Ev g r:=Ev.step (f:=fun k=>g (k+1)) (fun _=>rfl) h
end Go.Proofs.YthojbccgnlcblaaDoor.B
end
section
namespace Go.Proofs.YthojbccgnlcblaaDoor.Ad
open Go.RowKit Go.Proofs.YthojbccgnlcblaaDoorW.PrintWords Go.Proofs.YthojbccgnlcblaaDoor.B
set_option linter.unusedVariables false
set_option linter.unusedSimpArgs false
abbrev ofL (l:List UInt8):ByteArray:=⟨l.toArray⟩
theorem L_of (l:List UInt8):L (ofL l)=l:=by simp [L]
theorem of_L (s:ByteArray):ofL (L s)=s:=by apply L_inj;simp [L]
theorem ofL_size (l:List UInt8):(ofL l).size=l.length:=by rw [← L_size,L_of]
def plainB (c:UInt8):Bool:=(decide (97≤c.toNat) && decide (c.toNat≤122)) || (decide (48≤c.toNat) && decide (c.toNat≤57)) || c.toNat == 46 || c.toNat == 45
def body:List ByteArray→ByteArray
 | []=>⟨#[47]⟩
 | p :: r=>r.foldl (fun a q=>(a++⟨#[47]⟩)++q) ((⟨#[47]⟩:ByteArray)++p)
def smallFrom (s:ByteArray):Nat→Nat→Bool
 | 0,_=>true
 | d+1,i=>if bt s i < 97 then false else if bt s i > 122 then false else smallFrom s d (i+1)
def isSmall (s:ByteArray):Bool:=smallFrom s s.size 0
end Go.Proofs.YthojbccgnlcblaaDoor.Ad
end
section
namespace Go.Proofs.YthojbccgnlcblaaDoor.P
open Go.RowKit Go.Proofs.YthojbccgnlcblaaDoorW.PrintWords Go.Proofs.YthojbccgnlcblaaDoorW.PrintLast Go.Proofs.YthojbccgnlcblaaDoorW.PrintMore Go.Proofs.YthojbccgnlcblaaDoor.B Go.Proofs.YthojbccgnlcblaaDoor.Ad
set_option linter.unusedVariables false
set_option linter.unusedSimpArgs false
set_option maxHeartbeats 8000000
set_option maxRecDepth 100000
def stringslite_Index.f (a0:ByteArray) (a1:ByteArray):Option (Int):=match L a1 with
 | [c]=>some (Lib.indexByte (L a0) c)
 | _=>none
theorem one_of_L {a:ByteArray} {c:UInt8} (h:L a=[c]):a=⟨#[c]⟩:=L_inj (by rw [h])
theorem stringslite_Index.calls (a0:ByteArray) (a1:ByteArray) (r:Int) (w:World) (h:stringslite_Index.f a0 a1=some r) :
  Calls Tryd.prog 58 #[.string a0,.string a1] w fun e w'=>e=.returned (.int .i64 r)∧Below w.heap.size w w':=by
 unfold stringslite_Index.f at h
 split at h
 ·rename_i c hc
  obtain rfl:=sI h;obtain rfl:=one_of_L hc;exact (Tryd.stringslite_Index_one a0 c w).mono fun e w' ⟨he,hw⟩=>⟨he,hw ▸ Below.refl _ _⟩
 ·cases h
def strings_Count.f (a0:ByteArray) (a1:ByteArray):Option (Int):=match L a1 with
 | [c]=>some (Lib.countByte (L a0) c)
 | _=>none
theorem strings_Count.calls (a0:ByteArray) (a1:ByteArray) (r:Int) (w:World) (h:strings_Count.f a0 a1=some r) :
  Calls Tryd.prog 49 #[.string a0,.string a1] w fun e w'=>e=.returned (.int .i64 r)∧Below w.heap.size w w':=by
 unfold strings_Count.f at h
 split at h
 ·rename_i c hc
  obtain rfl:=sI h;obtain rfl:=one_of_L hc;exact (Tryd.strings_Count_one a0 c w).mono fun e w' ⟨he,hw⟩=>⟨he,hw ▸ Below.refl _ _⟩
 ·cases h
end Go.Proofs.YthojbccgnlcblaaDoor.P
end
section
namespace Go.Proofs.YthojbccgnlcblaaDoor.P
open Go.RowKit Go.Proofs.YthojbccgnlcblaaDoorW.PrintWords Go.Proofs.YthojbccgnlcblaaDoorW.PrintLast Go.Proofs.YthojbccgnlcblaaDoorW.PrintMore
attribute [local go_sem] max2_int min2_int max_two min_two max_three min_three max_four min_four
set_option linter.unusedVariables false
set_option linter.unusedSimpArgs false
set_option maxHeartbeats 8000000
set_option maxRecDepth 100000
def stringslite_Cut.f (a0:ByteArray) (a1:ByteArray):Option (ByteArray×ByteArray×Bool):=(stringslite_Index.f a0 a1).bind fun t138=>(if t138 ≥ 0 then (if 0≤t138 then (if t138≤(a0.size:Int) then (if 0≤(wrap64 (t138+(a1.size:Int))) then (if (wrap64 (t138+(a1.size:Int)))≤(a0.size:Int) then (some (a0.extract 0 (t138:Int).toNat,a0.extract ((wrap64 (t138+(a1.size:Int))):Int).toNat a0.size,true)) else (none)) else (none)) else (none)) else (none)) else (some (a0,(⟨#[]⟩:ByteArray),false)))
theorem stringslite_Cut.calls (a0:ByteArray) (a1:ByteArray) (r1:ByteArray) (r2:ByteArray) (r3:Bool) (w:World) (h:stringslite_Cut.f a0 a1=some (r1,r2,r3)) :
  Calls Tryd.prog 51 #[.string a0,.string a1] w fun e w'=>e=.returned (.tuple #[.string r1,.string r2,.bool r3])∧Below w.heap.size w w':=by
 have HB:=A_ (Below.refl w.heap.size w);unfold stringslite_Cut.f at h
 have H:=h;clear h;replace H:=bindA H;obtain ⟨t138,A3,H⟩:=H;have HF4:=A_ H;clear H;go_enter Tryd.func51,Tryd.ntmps51;go_upto_if 12 with (first|(go_at_call 58;(with_reducible refine (stringslite_Index.calls a0 a1 t138 _ A3.out).mono ?_);rintro e w5 ⟨rfl,hb⟩;replace HB:=A_ (bS (zz1 HB) hb);(try clear hb)))
 repeat (go_quiet (first|(go_at_call 58;(with_reducible refine (stringslite_Index.calls a0 a1 t138 _ A3.out).mono ?_);rintro e w5 ⟨rfl,hb⟩;replace HB:=A_ (bS (zz1 HB) hb);(try clear hb)));go_upto_if 12 with (first|(go_at_call 58;(with_reducible refine (stringslite_Index.calls a0 a1 t138 _ A3.out).mono ?_);rintro e w5 ⟨rfl,hb⟩;replace HB:=A_ (bS (zz1 HB) hb);(try clear hb))))
 obtain ⟨H⟩:=HF4;replace H:=iteEe H;rcases H with ⟨c6b0,H⟩|⟨c6b0,H⟩
 ·(first|rw [c6b0]|(simp only [i64_w,i32_w];rw [c6b0])|skip)
  replace H:=iteN H;obtain ⟨c7,H⟩:=H;have c7b0:=eq_true c7;have c7b1:=dT c7;clear c7;replace H:=iteN H;obtain ⟨c8,H⟩:=H;have c8b0:=eq_true c8;have c8b1:=dT c8;clear c8;obtain ⟨ji9,hji9⟩:∃ j_:Int,(wrap64 (t138+(a1.size:Int)))=j_:=⟨_,rfl⟩;(first|rw [hji9] at H|simp only [hji9] at H)
  have hji9w:(IntKind.i64.wrap (t138+(a1.size:Int)))=ji9:=(i64_w _).trans hji9;replace H:=iteN H;obtain ⟨c10,H⟩:=H;have c10b0:=eq_true c10;have c10b1:=dT c10;clear c10;replace H:=iteN H;obtain ⟨c11,H⟩:=H;have c11b0:=eq_true c11;have c11b1:=dT c11;clear c11;simp only [Option.some.injEq,Prod.mk.injEq] at H
  obtain ⟨rfl,rfl,rfl⟩:=H;go_wp2
  repeat (go_quiet (fail);try go_wp2)
  go_ret3
  exact ⟨(by first|rfl|(simp [errW_none,errW_some] <;> rfl)|(simp only [← hji9];first|rfl|(simp [errW_none,errW_some] <;> rfl))|(simp [*,errW_none,errW_some] <;> rfl)),(zz1 HB)⟩
 ·(first|rw [c6b0]|(simp only [i64_w,i32_w];rw [c6b0])|skip)
  simp only [Option.some.injEq,Prod.mk.injEq] at H
  obtain ⟨rfl,rfl,rfl⟩:=H;go_wp2
  repeat (go_quiet (fail);try go_wp2)
  go_ret3
  exact ⟨zz3,(zz1 HB)⟩
def strings_Cut.f (a0:ByteArray) (a1:ByteArray):Option (ByteArray×ByteArray×Bool):=(stringslite_Cut.f a0 a1).bind fun bt139=>(some (bt139.1,bt139.2.1,bt139.2.2))
theorem strings_Cut.calls (a0:ByteArray) (a1:ByteArray) (r1:ByteArray) (r2:ByteArray) (r3:Bool) (w:World) (h:strings_Cut.f a0 a1=some (r1,r2,r3)) :
  Calls Tryd.prog 36 #[.string a0,.string a1] w fun e w'=>e=.returned (.tuple #[.string r1,.string r2,.bool r3])∧Below w.heap.size w w':=by
 have HB:=A_ (Below.refl w.heap.size w);unfold strings_Cut.f at h
 have H:=h;clear h;replace H:=bindA H;obtain ⟨⟨t139,t140,t141⟩,A3,H⟩:=H;try dsimp only at H
 simp only [Option.some.injEq,Prod.mk.injEq] at H
 obtain ⟨rfl,rfl,rfl⟩:=H;go_enter Tryd.func36,Tryd.ntmps36;go_wp2_with (first|(refine gR 51 (some 9) Tryd.func51 (stringslite_Cut.calls a0 a1 t139 t140 t141 _ A3.out) ?_;rintro w4 hb;replace HB:=A_ (bS (zz1 HB) hb);(try clear hb)))
 go_ret3
 exact ⟨zz3,(zz1 HB)⟩
def strings_Index.f (a0:ByteArray) (a1:ByteArray):Option (Int):=(stringslite_Index.f a0 a1).bind fun t117=>(some t117)
theorem strings_Index.calls (a0:ByteArray) (a1:ByteArray) (r:Int) (w:World) (h:strings_Index.f a0 a1=some r) :
  Calls Tryd.prog 50 #[.string a0,.string a1] w fun e w'=>e=.returned (.int .i64 r)∧Below w.heap.size w w':=by
 have HB:=A_ (Below.refl w.heap.size w);unfold strings_Index.f at h
 have H:=h;clear h;replace H:=bindA H;obtain ⟨t117,A3,H⟩:=H;obtain rfl:=sI H;go_enter Tryd.func50,Tryd.ntmps50;go_wp2_with (first|(refine gR 58 (some 7) Tryd.func58 (stringslite_Index.calls a0 a1 t117 _ A3.out) ?_;rintro w4 hb;replace HB:=A_ (bS (zz1 HB) hb);(try clear hb)))
 go_ret
 exact ⟨zz3,(zz1 HB)⟩
def impl_isName.f (k:Nat) (a0:ByteArray):Option (Bool):=if (a0.size:Int) ≥ 1 then (if (a0.size:Int)≤8 then ((impl_allSmallLetters.f k a0).bind fun t142=>(some t142)) else (some false)) else (some false)
theorem impl_isName.calls (k:Nat) (a0:ByteArray) (r:Bool) (w:World) (h:impl_isName.f k a0=some r) :
  Calls Tryd.prog 52 #[.string a0] w fun e w'=>e=.returned (.bool r)∧Drawn0 w w':=by
 unfold impl_isName.f at h
 have H:=h;clear h;replace H:=iteE H;rcases H with ⟨c2,H⟩|⟨c2,H⟩
 ·have c2b0:=geT c2
  have c2b1:decide (1≤a0.size)=true:=dT (by omega);clear c2;replace H:=iteE H;rcases H with ⟨c3,H⟩|⟨c3,H⟩
  ·have c3b0:=dT c3
   have c3b1:decide (a0.size≤8)=true:=dT (by omega);clear c3;replace H:=bindA H;obtain ⟨t142,A4,H⟩:=H;obtain rfl:=sI H;go_enter Tryd.func52,Tryd.ntmps52;go_wp2_with (first|(go_at_call 59;(with_reducible refine (impl_allSmallLetters.calls k a0 t142 _ A4.out).mono ?_);rintro e w' ⟨rfl,⟨nd,rfl⟩⟩))
   go_ret
   exact ⟨zz0,zz6⟩
  ·have c3b0:=dF c3
   have c3b1:decide (a0.size≤8)=false:=dF (by omega);clear c3;obtain rfl:=sI H;go_enter Tryd.func52,Tryd.ntmps52;go_wp2
   go_ret
   exact ⟨zz0,zz6⟩
 ·have c2b0:=geF c2
  have c2b1:decide (1≤a0.size)=false:=dF (by omega);clear c2;obtain rfl:=sI H;go_enter Tryd.func52,Tryd.ntmps52;go_wp2
  go_ret
  exact ⟨zz0,zz6⟩
def impl_isGroupName.f (k:Nat) (a0:ByteArray):Option (Bool):=if a0.toList=([42]:List UInt8) then (some true) else ((impl_isName.f k a0).bind fun t143=>(some t143))
theorem impl_isGroupName.calls (k:Nat) (a0:ByteArray) (r:Bool) (w:World) (h:impl_isGroupName.f k a0=some r) :
  Calls Tryd.prog 37 #[.string a0] w fun e w'=>e=.returned (.bool r)∧Drawn0 w w':=by
 unfold impl_isGroupName.f at h
 have H:=h;clear h;replace H:=iteEq H;rcases H with ⟨c2b0,c2b1,H⟩|⟨c2b0,c2b1,c2,H⟩
 ·obtain rfl:=sI H
  go_enter Tryd.func37,Tryd.ntmps37;go_wp2
  go_ret
  exact ⟨zz0,zz6⟩
 ·replace H:=bindA H
  obtain ⟨t143,A3,H⟩:=H;obtain rfl:=sI H;go_enter Tryd.func37,Tryd.ntmps37;go_wp2_with (first|(go_at_call 52;(with_reducible refine (impl_isName.calls k a0 t143 _ A3.out).mono ?_);rintro e w' ⟨rfl,⟨nd,rfl⟩⟩))
  go_ret
  exact ⟨zz0,zz6⟩
end Go.Proofs.YthojbccgnlcblaaDoor.P
end
section
namespace Go.Proofs.YthojbccgnlcblaaDoor.P
open Go.RowKit Go.Proofs.YthojbccgnlcblaaDoorW.PrintWords Go.Proofs.YthojbccgnlcblaaDoorW.PrintLast Go.Proofs.YthojbccgnlcblaaDoorW.PrintMore
set_option linter.unusedVariables false
inductive RL where
 | caller (name:ByteArray)
 | rule (lets:Bool) (path:ByteArray)
 | wait (n:Int)
@[reducible] def RL.v:RL→Value
 | .caller x=>.iface 63 (.agg #[.string x])
 | .rule b x=>.iface 65 (.agg #[.bool b,.string x])
 | .wait n=>.iface 68 (.agg #[.int .i64 n])
def impl_readLine.g (k:Nat) (x1 x2:ByteArray):Option (Option RL):=
 if x1.toList=([99,97,108,108,101,114]:List UInt8) then (impl_isGroupName.f k x2).bind fun b=>some (if b=true then some (.caller x2) else none)
 else if x1.toList=([108,101,116]:List UInt8) then (impl_RuleOk.f k x2).bind fun b=>some (if b=true then some (.rule true x2) else none)
 else if x1.toList=([98,97,114]:List UInt8) then (impl_RuleOk.f k x2).bind fun b=>some (if b=true then some (.rule false x2) else none)
 else if x1.toList=([119,97,105,116]:List UInt8) then (impl_readWait.f k x2).bind fun n=>some (some (.wait n))
 else some none
def impl_readLine.f (k:Nat) (a0:ByteArray):Option (Option RL):=(strings_Cut.f a0 (⟨#[32]⟩:ByteArray)).bind fun t=>impl_readLine.g k t.1 t.2.1
def Told (w:World) (r:Option RL) (e:Ending) (w':World):Prop:=∃ iv,e=.returned (.tuple #[iv,.bool r.isSome])∧(∀ x,r=some x→iv=RL.v x)∧Below w.heap.size w w'
theorem told_if {w w':World} {b:Bool} {x:RL} {r:Option RL} {iv:Value} {e:Ending} (hr:(if b=true then some x else none)=r) (he:e=.returned (.tuple #[iv,.bool b])) (hx:iv=x.v) (hb:Below w.heap.size w w'):Told w r e w':=by
 subst hr
 cases b with
 | true=>exact ⟨iv,he,(fun y hy=>by cases hy;exact hx),hb⟩
 | false=>exact ⟨iv,he,(fun y hy=>by cases hy),hb⟩
set_option maxHeartbeats 8000000 in
set_option maxRecDepth 100000 in
theorem impl_readLine.calls (k:Nat) (a0:ByteArray) (r:Option RL) (w:World) (h:impl_readLine.f k a0=some r) :
  Calls Tryd.prog 18 #[.string a0] w fun e w'=>Told w r e w':=by
 unfold impl_readLine.f at h
 obtain ⟨⟨x1,x2,x3⟩,hc,h2⟩:=Option.bind_eq_some_iff.mp h
 have HC:=Aside0.mk hc
 simp only at h2
 unfold impl_readLine.g at h2
 clear h hc
 by_cases c1:x1.toList=([99,97,108,108,101,114]:List UInt8)
 ·rw [if_pos c1] at h2
  have c1b:(x1.toList == ([99,97,108,108,101,114]:List UInt8))=true:=beq_iff_eq.mpr c1
  clear c1
  obtain ⟨b,hb,h3⟩:=Option.bind_eq_some_iff.mp h2
  have HR:=Aside0.mk (Option.some.inj h3)
  have HB:=Aside0.mk hb
  clear h2 hb h3
  go_enter Tryd.func18,Tryd.ntmps18
  go_wp2_with (first
   | (go_at_call 36;(with_reducible refine (strings_Cut.calls a0 (⟨#[32]⟩:ByteArray) x1 x2 x3 _ HC.out).mono ?_);rintro e w1 ⟨rfl,hb1⟩;have HB1:=Aside0.mk hb1;clear hb1)
   | (go_at_call 37;(with_reducible refine (impl_isGroupName.calls k x2 b _ HB.out).mono ?_);rintro e w' ⟨rfl,⟨nd,rfl⟩⟩))
  go_ret2
  exact told_if HR.out rfl rfl (pw_below_drewN HB1.out _)
 rw [if_neg c1] at h2
 have c1b:(x1.toList == ([99,97,108,108,101,114]:List UInt8))=false:=beq_eq_false_iff_ne.mpr c1
 clear c1
 by_cases c2:x1.toList=([108,101,116]:List UInt8)
 ·rw [if_pos c2] at h2
  have c2b:(x1.toList == ([108,101,116]:List UInt8))=true:=beq_iff_eq.mpr c2
  clear c2
  obtain ⟨b,hb,h3⟩:=Option.bind_eq_some_iff.mp h2
  have HR:=Aside0.mk (Option.some.inj h3)
  have HB:=Aside0.mk hb
  clear h2 hb h3
  go_enter Tryd.func18,Tryd.ntmps18
  go_wp2_with (first
   | (go_at_call 36;(with_reducible refine (strings_Cut.calls a0 (⟨#[32]⟩:ByteArray) x1 x2 x3 _ HC.out).mono ?_);rintro e w1 ⟨rfl,hb1⟩;have HB1:=Aside0.mk hb1;clear hb1)
   | (go_at_call 13;(with_reducible refine (impl_RuleOk.calls k x2 b _ HB.out).mono ?_);rintro e w' ⟨rfl,⟨nd,rfl⟩⟩))
  go_ret2
  exact told_if HR.out rfl rfl (pw_below_drewN HB1.out _)
 rw [if_neg c2] at h2
 have c2b:(x1.toList == ([108,101,116]:List UInt8))=false:=beq_eq_false_iff_ne.mpr c2
 clear c2
 by_cases c3:x1.toList=([98,97,114]:List UInt8)
 ·rw [if_pos c3] at h2
  have c3b:(x1.toList == ([98,97,114]:List UInt8))=true:=beq_iff_eq.mpr c3
  clear c3
  obtain ⟨b,hb,h3⟩:=Option.bind_eq_some_iff.mp h2
  have HR:=Aside0.mk (Option.some.inj h3)
  have HB:=Aside0.mk hb
  clear h2 hb h3
  go_enter Tryd.func18,Tryd.ntmps18
  go_wp2_with (first
   | (go_at_call 36;(with_reducible refine (strings_Cut.calls a0 (⟨#[32]⟩:ByteArray) x1 x2 x3 _ HC.out).mono ?_);rintro e w1 ⟨rfl,hb1⟩;have HB1:=Aside0.mk hb1;clear hb1)
   | (go_at_call 13;(with_reducible refine (impl_RuleOk.calls k x2 b _ HB.out).mono ?_);rintro e w' ⟨rfl,⟨nd,rfl⟩⟩))
  go_ret2
  exact told_if HR.out rfl rfl (pw_below_drewN HB1.out _)
 rw [if_neg c3] at h2
 have c3b:(x1.toList == ([98,97,114]:List UInt8))=false:=beq_eq_false_iff_ne.mpr c3
 clear c3
 by_cases c4:x1.toList=([119,97,105,116]:List UInt8)
 ·rw [if_pos c4] at h2
  have c4b:(x1.toList == ([119,97,105,116]:List UInt8))=true:=beq_iff_eq.mpr c4
  clear c4
  obtain ⟨n,hb,h3⟩:=Option.bind_eq_some_iff.mp h2
  have HR:=Aside0.mk (Option.some.inj h3)
  have HB:=Aside0.mk hb
  clear h2 hb h3
  go_enter Tryd.func18,Tryd.ntmps18
  go_wp2_with (first
   | (go_at_call 36;(with_reducible refine (strings_Cut.calls a0 (⟨#[32]⟩:ByteArray) x1 x2 x3 _ HC.out).mono ?_);rintro e w1 ⟨rfl,hb1⟩;have HB1:=Aside0.mk hb1;clear hb1)
   | (go_at_call 38;(with_reducible refine (impl_readWait.calls k x2 n _ HB.out).mono ?_);rintro e w2 ⟨rfl,hb2⟩;have HB2:=Aside0.mk (below_step HB1.out hb2);clear hb2))
  go_ret2
  have hr:=HR.out
  subst hr
  exact ⟨_,rfl,(fun x hx=>by cases hx;rfl),HB2.out⟩
 ·rw [if_neg c4] at h2
  have c4b:(x1.toList == ([119,97,105,116]:List UInt8))=false:=beq_eq_false_iff_ne.mpr c4
  clear c4
  obtain rfl:=Option.some.inj h2
  clear h2
  go_enter Tryd.func18,Tryd.ntmps18
  go_wp2_with (first
   | (go_at_call 36;(with_reducible refine (strings_Cut.calls a0 (⟨#[32]⟩:ByteArray) x1 x2 x3 _ HC.out).mono ?_);rintro e w1 ⟨rfl,hb1⟩;have HB1:=Aside0.mk hb1;clear hb1))
  go_ret2
  exact ⟨_,rfl,(fun x hx=>by cases hx),HB1.out⟩
end Go.Proofs.YthojbccgnlcblaaDoor.P
end
section
namespace Go.Proofs.YthojbccgnlcblaaDoor.P
open Go.RowKit Go.Proofs.YthojbccgnlcblaaDoorW.PrintWords Go.Proofs.YthojbccgnlcblaaDoorW.PrintLast Go.Proofs.YthojbccgnlcblaaDoorW.PrintMore
set_option linter.unusedVariables false
def takeF (gs:List Gp) (b:Bool):RL→List Gp×Bool
 | .caller x=>if b=true∨gs.length=0 then (gs++[⟨[x],[],0⟩],false) else (gs.set (gs.length - 1) ⟨(lastG gs).f0++[x],(lastG gs).f1,(lastG gs).f2⟩,b)
 | .rule l p=>if gs.length=0 then (gs,b) else (if (lastG gs).f1.length < 6 then gs.set (gs.length - 1) ⟨(lastG gs).f0,(lastG gs).f1++[⟨l,p⟩],(lastG gs).f2⟩ else gs,true)
 | .wait n=>if gs.length=0 then (gs,b) else (gs.set (gs.length - 1) ⟨(lastG gs).f0,(lastG gs).f1,n⟩,true)
structure Rd (w0 w wc:World) (base gr:Nat) (ok:Nat→Prop) (v:Value) (b:Bool) (gs:List Gp):Prop where
 S:Kd.S kGp 32 wc base ok v gs
 B:Below base w0 wc
 K:Kept w wc (fun k=>ok k∨k=gr)
 le:base≤gr
 ng:∀ k,ok k→k≠gr
 box:wc.heap[gr]?=some (.cells #[v,.bool b] 42 (0,0))
theorem Rd.lt {w0 w wc:World} {base gr:Nat} {ok:Nat→Prop} {v:Value} {b:Bool} {gs:List Gp} (h:Rd w0 w wc base gr ok v b gs):gr < wc.heap.size:=blk_lt h.box
theorem Rd.below {w0 w wc wd:World} {base gr:Nat} {ok:Nat→Prop} {v:Value} {b:Bool} {gs:List Gp} (h:Rd w0 w wc base gr ok v b gs) (hb:Below wc.heap.size wc wd):Rd w0 w wd base gr ok v b gs:=
 ⟨Kd.S_below h.S hb,h.B.trans (hb.mono (Nat.le_trans h.le (Nat.le_of_lt h.lt))),h.K.below hb,h.le,h.ng,(hb.block gr h.lt).trans h.box⟩
theorem Rd.cell0 {w0 w wc:World} {base gr:Nat} {ok:Nat→Prop} {v:Value} {b:Bool} {gs:List Gp} (h:Rd w0 w wc base gr ok v b gs):wc.cell? ⟨gr,0,none⟩=some v:=(blk_cell h.box 0).trans rfl
theorem Rd.cell1 {w0 w wc:World} {base gr:Nat} {ok:Nat→Prop} {v:Value} {b:Bool} {gs:List Gp} (h:Rd w0 w wc base gr ok v b gs):wc.cell? ⟨gr,1,none⟩=some (.bool b):=(blk_cell h.box 1).trans rfl
theorem Rd.flag {w0 w wc:World} {base gr:Nat} {ok:Nat→Prop} {v:Value} {b:Bool} {gs:List Gp} (h:Rd w0 w wc base gr ok v b gs) (b':Bool):Rd w0 w (wc.setCell ⟨gr,1,none⟩ (.bool b')) base gr ok v b' gs:=
 ⟨Kd.S_far (p:=⟨gr,1,none⟩) h.S h.ng _,h.B.setCell h.le _,h.K.setCell (.inl (.inr rfl)) _,h.le,h.ng,blk_put h.box 1 _ rfl⟩
theorem Rd.groups {w0 w wc:World} {base gr:Nat} {ok:Nat→Prop} {v u:Value} {b:Bool} {gs l:List Gp} (h:Rd w0 w wc base gr ok v b gs) {wd:World} {row:Option Nat} (hg:wc.grownBy wd row) (hrow:∀ k,row=some k→ok k)
  (hS:Kd.S kGp 32 wd base ok u l) (hB:Below base w0 wd):Rd w0 w (wd.setCell ⟨gr,0,none⟩ u) base gr ok u b l:=
 ⟨Kd.S_far (p:=⟨gr,0,none⟩) hS h.ng _,hB.setCell h.le _,(Kept.of_grown hg h.K (fun k hk=>.inl (.inl (hrow k hk)))).setCell (.inl (.inr rfl)) _,h.le,h.ng,blk_put (blk_grown h.box hg (fun e=>h.ng gr (hrow gr e.symm) rfl)) 0 _ rfl⟩
def Took (w0 w:World) (base gr:Nat) (ok:Nat→Prop) (r:List Gp×Bool) (e:Ending) (w':World):Prop:=e=.returned (.tuple #[])∧∃ v',Rd w0 w w' base gr ok v' r.2 r.1
theorem as_cc (v:Value) (w:World):(Instr.typeAssert (.iface 63 v) 45 63 true).run Tryd.prog w=.ok (.tuple #[v,.bool true]) w:=by kernel_rfl
theorem as_rc (v:Value) (w:World):(Instr.typeAssert (.iface 65 v) 45 63 true).run Tryd.prog w=.ok (.tuple #[.agg #[.string ByteArray.empty],.bool false]) w:=by kernel_rfl
theorem as_rr (v:Value) (w:World):(Instr.typeAssert (.iface 65 v) 45 65 true).run Tryd.prog w=.ok (.tuple #[v,.bool true]) w:=by kernel_rfl
theorem as_wc (v:Value) (w:World):(Instr.typeAssert (.iface 68 v) 45 63 true).run Tryd.prog w=.ok (.tuple #[.agg #[.string ByteArray.empty],.bool false]) w:=by kernel_rfl
theorem as_wr (v:Value) (w:World):(Instr.typeAssert (.iface 68 v) 45 65 true).run Tryd.prog w=.ok (.tuple #[.agg #[.bool false,.string ByteArray.empty],.bool false]) w:=by kernel_rfl
theorem as_ww (v:Value) (w:World):(Instr.typeAssert (.iface 68 v) 45 68 true).run Tryd.prog w=.ok (.tuple #[v,.bool true]) w:=by kernel_rfl
attribute [local go_sem] as_cc as_rc as_rr as_wc as_wr as_ww
section
variable {P:Program} {ops:Array Oper} {o:Oper} {a:Act} {Q:Exit→Act→World→Prop} {md:Region.Mode} {S:World→Prop} {ds:List Nat} {W:World}
theorem rgP (i:Nat) (N:Option Tmp) {v:Value} {fuel:Nat} {l:Array Bool} (l':Array Bool) {a':Act}
  (h:wpAnyLast P md ops Q S ds fuel l' a' W) (hi:ops[i]?=some o:=by rfl) (hN:o.dst=N:=by rfl) (hc:anyB md ops l l' i=true:=by kernel_rfl)
  (hQ:∀ c a w,Q (.panic c) (a.put o.dst v) w→Q (.panic c) a w:=by exact fun _ _ _ h=>h)
  (hy:Yields P ops o v a:=by exact Or.inl ⟨by rfl,by intro w';go_simp;with_reducible rfl⟩)
  (ha:a.put N v=a':=by (simp only [Act.put,List.setIfInBounds_toArray,List.set_cons_zero,List.set_cons_succ,i64_w,i32_w];rfl)):wpAnyLast P md ops Q S ds (fuel+1) l a W:=pure_ l' hi hN hc hQ hy ha h
theorem rgT (i:Nat) (N:Option Tmp) {v:Value} {fuel:Nat} {l:Array Bool} (l':Array Bool) (hS:S W) {a':Act}
  (h:wpAnyLast P md ops Q S ds fuel l' a' W) (hi:ops[i]?=some o:=by rfl) (hN:o.dst=N:=by rfl) (hc:takeB md ops ds l l' i=true:=by kernel_rfl)
  (hQ:∀ c a w,Q (.panic c) (a.put o.dst v) w→Q (.panic c) a w:=by exact fun _ _ _ h=>h)
  (hy:YieldsIf P ops S o v a:=by exact Or.inl ⟨by rfl,by rintro w' ⟨s0,s1⟩;go_simp;with_reducible rfl⟩)
  (ha:a.put N v=a':=by (simp only [Act.put,List.setIfInBounds_toArray,List.set_cons_zero,List.set_cons_succ,i64_w,i32_w];rfl)):wpAnyLast P md ops Q S ds (fuel+1) l a W:=take_ l' hi hN hc hQ hy hS ha h
theorem rgT3 (i:Nat) (N:Option Tmp) {v:Value} {fuel:Nat} {l:Array Bool} (l':Array Bool) (hS:S W) {a':Act}
  (h:wpAnyLast P md ops Q S ds fuel l' a' W) (hi:ops[i]?=some o:=by rfl) (hN:o.dst=N:=by rfl) (hc:takeB md ops ds l l' i=true:=by kernel_rfl)
  (hQ:∀ c a w,Q (.panic c) (a.put o.dst v) w→Q (.panic c) a w:=by exact fun _ _ _ h=>h)
  (hy:YieldsIf P ops S o v a:=by exact Or.inl ⟨by rfl,by rintro w' ⟨s0,s1,s2⟩;go_simp;with_reducible rfl⟩)
  (ha:a.put N v=a':=by (simp only [Act.put,List.setIfInBounds_toArray,List.set_cons_zero,List.set_cons_succ,i64_w,i32_w];rfl)):wpAnyLast P md ops Q S ds (fuel+1) l a W:=take_ l' hi hN hc hQ hy hS ha h
theorem rgN (N:Tmp) {fuel:Nat} {l:Array Bool} {b a':Act} {v:Value} (h:wpAnyLast P md ops Q S ds fuel l a' W) (hb:a=b.put (some N) v:=by rfl) (ha:b.put (some N) v=a':=by (simp only [Act.put,List.setIfInBounds_toArray,List.set_cons_zero,List.set_cons_succ,i64_w,i32_w];rfl)):wpAnyLast P md ops Q S ds fuel l a W:=norm_ (hb.trans ha) h
theorem rgO (i:Nat) (N:Tmp) (v:Value) (w1:World) {fuel:Nat} {l:Array Bool} (l':Array Bool) (hS:S w1) {a':Act} (h:S w1→wpAnyLast P md ops Q S ds fuel l' a' w1) (hi:ops[i]?=some o:=by rfl) (hN:o.dst=some N:=by rfl) (hc:readyB md ops l l' i=true:=by kernel_rfl) (hd:i ∉ ds:=by decide)
  (hw:Region.wanted o (yielded ops a.tmps)=true:=by rfl) (hrun:(execOp a.eval o).run P W=.ok (.value v) w1:=by first|(go_simp;done)|(go_simp;rfl))
  (ha:a.put (some N) v=a':=by (simp only [Act.put,List.setIfInBounds_toArray,List.set_cons_zero,List.set_cons_succ,i64_w,i32_w];rfl)):wpAnyLast P md ops Q S ds (fuel+1) l a W:=
 one_ l' hi hN hc hd fun K hK=>value_ hw hN hrun (hK.out _ _ hS (fun hs=>ha ▸ h hs))
theorem rgL (i:Nat) (w1:World) {fuel:Nat} {l:Array Bool} (l':Array Bool) (h:wpAnyLast P md ops Q S ds fuel l' a w1) (hi:ops[i]?=some o:=by rfl) (hN:o.dst=none:=by rfl) (hc:readyB md ops l l' i=true:=by kernel_rfl) (hd:i ∈ ds:=by decide)
  (hw:Region.wanted o (yielded ops a.tmps)=true:=by rfl) (hrun:(execOp a.eval o).run P W=.ok .skip w1:=by first|(go_simp;done)|(go_simp;rfl)):wpAnyLast P md ops Q S ds (fuel+1) l a W:=
 last_ l' hi hN hc hd fun K hK=>skip_ hw hN hrun (hK.out _ _ h)
end
theorem lit_string (w:World) (base:Nat) (hb:base≤w.heap.size) (x:ByteArray):Kd.string.R 9 (w.alloc (.cells #[.string x] 9)) base (fun _=>True) (.slice (some ⟨w.heap.size,0,none⟩) 1 1) [x]:=by
 refine ⟨fun _ _=>trivial,[.string x],?_,Reps.one rfl (Reps.none _ _)⟩
 have h2:=World.ownsRow_lit (base:=base) (e:=9) (size:=1) w #[.string x] 1 hb (by decide) rfl
 exact h2
theorem fresh_group {wc w3:World} {base:Nat} {ok:Nat→Prop} {u v0 v1:Value} {l:List Gp} {x:Gp} (hS:Kd.S kGp 32 wc base ok u l) (hfr:∀ k,wc.heap.size≤k→ok k)
  (hst:∀ k,k < wc.heap.size→w3.heap[k]?=wc.heap[k]?) (hle:wc.heap.size≤w3.heap.size)
  (r0:Kd.string.R 9 w3 base (fun _=>True) v0 x.f0) (r1:k34.R 34 w3 base (fun _=>True) v1 x.f1)
  (h0:∀ k,some k=v0.ownBlock→wc.heap.size≤k) (h1:∀ k,some k=v1.ownBlock→wc.heap.size≤k) :
  ∃ okp:Nat→Prop,kGp.M w3 base okp x [v0,v1,.int .i64 x.f2]∧(∀ k,okp k→ok k∧some k≠u.ownBlock)∧(∀ k,w3.heap.size≤k→ok k)∧Kd.S kGp 32 w3 base (fun k=>ok k∧¬ okp k) u l:=by
 have hold:∀ k,some k=v0.ownBlock∨some k=v1.ownBlock→wc.heap.size≤k:=fun k hk=>hk.elim (h0 k) (h1 k)
 refine ⟨fun k=>some k=v0.ownBlock∨some k=v1.ownBlock,k32_mkM _ _ _ x (Kd.R_mono (Kd.R_tight rfl r0) (fun k hk=>.inl hk)) (Kd.R_mono (Kd.R_tight rfl r1) (fun k hk=>.inr hk)),fun k hk=>⟨hfr k (hold k hk),fun he=>?_⟩,fun k hk=>hfr k (by omega),?_⟩
 ·have:=Kd.S_lt hS k he.symm
  have:=hold k hk
  omega
 ·refine Kd.S_step (Kd.S_mono (Kd.S_bound hS) (fun k hk=>⟨hk.1,fun h2=>?_⟩)) (fun k _ hlt=>hst k hlt)
  have:=hold k h2
  have:=hk.2.2.1
  omega
theorem Rd.newName {w0 w w5:World} {base gr g4:Nat} {ok:Nat→Prop} {v:Value} {b:Bool} {gs:List Gp} {x:ByteArray} (h:Rd w0 w w5 base gr ok v b gs) (hfr:∀ k,w5.heap.size≤k→ok k) (hk4:w5.heap[g4]?=some (.cells #[.string x] 63 (0,0))) :
  ∃ okp:Nat→Prop,kGp.M (w5.alloc (.cells #[.string x] 9)) base okp ⟨[x],[],0⟩ [.slice (some ⟨w5.heap.size,0,none⟩) 1 1,.slice none 0 0,.int .i64 0]∧(∀ k,okp k→ok k∧some k≠v.ownBlock)∧(∀ k,(w5.alloc (.cells #[.string x] 9)).heap.size≤k→ok k)∧Kd.S kGp 32 (w5.alloc (.cells #[.string x] 9)) base (fun k=>ok k∧¬ okp k) v gs ∧
   Rd w0 w (w5.alloc (.cells #[.string x] 9)) base gr ok v b gs∧(w5.alloc (.cells #[.string x] 9)).heap[g4]?=some (.cells #[.string x] 63 (0,0))∧base≤(w5.alloc (.cells #[.string x] 9)).heap.size:=by
 have hB:Below w5.heap.size w5 (w5.alloc (.cells #[.string x] 9)):=below_alloc (Below.refl _ _) _
 have hle:=Nat.le_trans h.le (Nat.le_of_lt h.lt)
 obtain ⟨okp,hM,hokp,hnew,hS⟩:=fresh_group (x:=⟨[x],[],0⟩) h.S hfr (fun k hk=>hB.block k hk) hB.size (lit_string w5 base hle x) (Kd.R_nil k34 _ _ _ _) (fun k hk=>by simp [Value.ownBlock] at hk;omega) (fun k hk=>by simp [Value.ownBlock] at hk)
 exact ⟨okp,hM,hokp,hnew,hS,h.below hB,(hB.block _ (blk_lt hk4)).trans hk4,Nat.le_trans hle hB.size⟩
theorem Rd.lines {w0 w wc:World} {base gr:Nat} {ok:Nat→Prop} {v:Value} {b:Bool} {gs:List Gp} (h:Rd w0 w wc base gr ok v b gs):Lines w0 wc wc base ok v gs:=⟨h.S,h.B,Kept.refl _ _,Nat.le_trans h.le (Nat.le_of_lt h.lt)⟩
theorem Rd.written {w0 w wc:World} {base gr:Nat} {ok:Nat→Prop} {v:Value} {b:Bool} {gs l:List Gp} (h:Rd w0 w wc base gr ok v b gs) {wd:World} (hk:Kept wc wd ok)
  (hS:Kd.S kGp 32 wd base ok v l) (hB:Below base w0 wd):Rd w0 w wd base gr ok v b l:=
 ⟨hS,hB,h.K.then_ hk (fun k hk=>.inl (.inl hk)),h.le,h.ng,(hk.2 gr h.lt (fun e=>h.ng gr e rfl)).trans h.box⟩
set_option maxHeartbeats 8000000 in
set_option maxRecDepth 100000 in
theorem take_caller (base gr:Nat) (ok:Nat→Prop) (v:Value) (b:Bool) (gs:List Gp) (x:ByteArray) (r:List Gp×Bool) (w0 w:World) (hr:Rd w0 w w base gr ok v b gs) (hfr:∀ k,w.heap.size≤k→ok k) (hsm:gs.length < 1000000) (hs2:(lastG gs).f0.length < 1000000) (hF:takeF gs b (.caller x)=r) :
  Calls Tryd.prog 19 #[.pointer (some ⟨gr,0,none⟩),.iface 63 (.agg #[.string x])] w fun e w'=>Took w0 w base gr ok r e w':=by
 obtain ⟨A,cc,hu⟩:=Kd.S_slice hr.S
 subst hu
 have HR:=Aside0.mk hr
 have HF:=Aside0.mk hfr
 have HT:=Aside0.mk hF
 clear hr hfr hF
 go_enter Tryd.func19,Tryd.ntmps19
 go_upto_region 1 with (first|((with_reducible refine gate_dst (N:=4) rfl ?_);refine box_event ?hg (N:=4) ?hd (cs:=#[.string ⟨#[]⟩]) (t:=63) ?hr ?_;(case hd=>rfl);(case hg=>rfl);(case hr=>first|(go_simp;done)|(go_simp;rfl));rintro g4 eg w4 hk4 hb4;have EG4:=Aside0.mk eg;have BK4:=Aside0.mk hk4;have HB4:=Aside0.mk hb4;have hc0:w4.cell? ⟨g4,0,none⟩=some (.string ⟨#[]⟩):=(blk_cell hk4 0).trans rfl;have hd0:=blk_frozen hk4 0;clear eg hk4 hb4))
 have HR4:=Aside0.mk (HR.out.below (below_set HB4.out (by rw [EG4.out];exact Nat.le_refl _)):Rd w0 w (w4.setCell ⟨g4,0,none⟩ (.string x)) base gr ok (.slice A gs.length cc) b gs)
 have BK5:=Aside0.mk (blk_put BK4.out 0 (.string x) rfl:(w4.setCell ⟨g4,0,none⟩ (.string x)).heap[g4]?=some (.cells #[.string x] 63 (0,0)))
 have SZ:=Aside0.mk (by have:=blk_lt BK4.out;have:=EG4.out;simp [World.setCell];omega:w.heap.size≤(w4.setCell ⟨g4,0,none⟩ (.string x)).heap.size)
 clear HR BK4 HB4 EG4 hc0 hd0
 generalize (w4.setCell ⟨g4,0,none⟩ (.string x))=w5 at HR4 BK5 SZ ⊢
 have hx0:=HR4.out.cell0
 have hx1:=HR4.out.cell1
 have hx4:w5.cell? ⟨g4,0,none⟩=some (.string x):=(blk_cell BK5.out 0).trans rfl
 have hf0:=blk_frozen HR4.out.box 0
 have hf1:=blk_frozen HR4.out.box 1
 by_cases c0:b=true∨gs.length=0
 ·have hF:=HT.out
  simp only [takeF] at hF
  rw [if_pos c0] at hF
  subst hF
  clear HT
  have c0':gs.length=0∨(gs.length≠0∧b=true):=by rcases c0 with h|h <;> by_cases h2:gs.length=0 <;> simp_all
  clear c0
  have n0:gs.length=0→((gs.length:Int) == 0)=true:=fun h=>by rw [h];rfl
  have n1:gs.length≠0→((gs.length:Int) == 0)=false:=fun h=>beq_eq_false_iff_ne.mpr (by omega)
  rcases c0' with h|⟨h,rfl⟩
  case' inl=>replace n0:=n0 h;clear n1 h
  case' inr=>replace n1:=n1 h;clear n0 h
  all_goals
   go_wp2
   have HR8:=Aside0.mk (HR4.out.below (below_drew (Below.refl _ _)))
   have BK8:=Aside0.mk (show w5.drew.heap[g4]?=some (.cells #[.string x] 63 (0,0)) from BK5.out)
   have SZ8:=Aside0.mk (show w.heap.size≤w5.drew.heap.size from SZ.out)
   refine start_ (n:=14) (S:=fun w'=>w'.cell? ⟨gr,0,none⟩=some (.slice A gs.length cc)∧w'.cell? ⟨g4,0,none⟩=some (.string x)) (ds:=[13]) #[false,false,false,false,false,false,false,false,false,false,false,false,false,false] (by kernel_rfl) rfl rfl ⟨hx0,hx4⟩ (fun hHeld=>?_)
   generalize w5.drew=w8 at HR8 BK8 SZ8 hHeld ⊢
   refine rgP 0 (some 30) #[true,false,false,false,false,false,false,false,false,false,false,false,false,false] ?_
   refine rgP 1 (some 31) #[true,true,false,false,false,false,false,false,false,false,false,false,false,false] ?_
   refine rgP 2 (some 32) #[true,true,true,false,false,false,false,false,false,false,false,false,false,false] ?_
   refine rgP 3 (some 33) #[true,true,true,true,false,false,false,false,false,false,false,false,false,false] ?_
   refine rgP 5 (some 35) #[true,true,true,true,false,true,false,false,false,false,false,false,false,false] ?_
   refine rgT 4 (some 34) #[true,true,true,true,true,true,false,false,false,false,false,false,false,false] hHeld ?_
   refine rgT 6 (some 36) #[true,true,true,true,true,true,true,false,false,false,false,false,false,false] hHeld ?_
   refine rgO 7 37 (.slice (some ⟨w8.heap.size,0,none⟩) 1 1) (w8.alloc (.cells #[.string x] 9)) #[true,true,true,true,true,true,true,true,false,false,false,false,false,false] ?_ (fun hHeld=>?_)
   ·exact ⟨(World.cell?_alloc_lt _ _ _ (World.block_lt_of_cell? _ _ hHeld.1)).trans hHeld.1,(World.cell?_alloc_lt _ _ _ (World.block_lt_of_cell? _ _ hHeld.2)).trans hHeld.2⟩
   refine rgP 8 (some 38) #[true,true,true,true,true,true,true,true,true,false,false,false,false,false] ?_
   refine rgO 9 39 (.slice (some ⟨w8.heap.size+1,0,none⟩) 1 1) ((w8.alloc (.cells #[.string x] 9)).alloc (.cells #[.slice (some ⟨w8.heap.size,0,none⟩) 1 1,.slice none 0 0,.int .i64 0] 32)) #[true,true,true,true,true,true,true,true,true,true,false,false,false,false] ?_ (fun hHeld=>?_)
   ·exact ⟨(World.cell?_alloc_lt _ _ _ (World.block_lt_of_cell? _ _ hHeld.1)).trans hHeld.1,(World.cell?_alloc_lt _ _ _ (World.block_lt_of_cell? _ _ hHeld.2)).trans hHeld.2⟩
   refine one_ (i:=10) (N:=some 40) #[true,true,true,true,true,true,true,true,true,true,true,false,false,false] rfl rfl (by kernel_rfl) (by decide) (fun K hK=>?_)
   obtain ⟨okp,hM,hokp,hnew,hS,hRW,hKW,hzW⟩:=HR8.out.newName (fun k hk=>HF.out k (Nat.le_trans SZ8.out hk)) BK8.out
   refine Kd.S_append_step kGp (w0:=w0) (W:=(w8.alloc (.cells #[.string x] 9))) base (by rfl) (.tmp 34) (.tmp 39) 22 32 (.agg #[.slice none 0 0,.slice none 0 0,.int .i64 0]) 56 (by rfl) Tryd.underlying22 infoGp rfl (by decide) (by omega) (.slice A gs.length cc) gs ⟨[x],[],0⟩ [.slice (some ⟨w8.heap.size,0,none⟩) 1 1,.slice none 0 0,.int .i64 0] ok okp (by rfl) (by have e:(w8.alloc (.cells #[.string x] 9)).heap.size=w8.heap.size+1:=(by simp);rw [e];rfl) hM hokp hnew hS hRW.B hzW (by omega) ?_
   intro v1 w1 hS1 hB1 hG1 hat
   obtain ⟨A1,c1,rfl⟩:=Kd.S_slice hS1
   have en:(gs++[(⟨[x],[],0⟩:Gp)]).length=gs.length+1:=by rw [List.length_append,List.length_singleton]
   rw [en] at hS1 ⊢
   have hne0:some gr≠(Value.slice A gs.length cc).ownBlock:=fun e=>hRW.ng gr ((Kd.S_R hRW.S).1 gr e.symm) rfl
   have hne4:some g4≠(Value.slice A gs.length cc).ownBlock:=Kd.S_ne hRW.S hKW (by decide)
   have hb1:=blk_grown hRW.box hG1 hne0
   have hx1:w1.cell? ⟨gr,0,none⟩=some (.slice A gs.length cc):=(blk_cell hb1 0).trans rfl
   have hz1:=blk_frozen hb1 0
   have HQ:=Aside0.mk (hRW.groups hG1 (fun k hk=>(Kd.S_R hRW.S).1 k hk) hS1 hB1)
   refine hK.out _ _ ⟨hx1,cell_grown hG1 ((blk_cell hKW 0).trans rfl) hne4⟩ (fun hHeld=>?_)
   clear hK K hM hokp hnew hS hS1 hB1 hG1 hat hb1 hRW hKW hzW hne0 hne4
   refine rgN 40 ?_
   refine rgP 11 (some 41) #[true,true,true,true,true,true,true,true,true,true,true,true,false,false] ?_
   refine rgP 12 (some 42) #[true,true,true,true,true,true,true,true,true,true,true,true,true,false] ?_
   refine rgL 13 (w1.setCell ⟨gr,0,none⟩ (.slice A1 (gs.length+1) c1)) #[true,true,true,true,true,true,true,true,true,true,true,true,true,true] ?_
   refine done_ (by kernel_rfl) ?_
   clear hx0 hx1 hx4 hf0 hf1 hz1 hHeld
   generalize (w1.setCell ⟨gr,0,none⟩ (.slice A1 (gs.length+1) c1))=w9 at HQ ⊢
   have hx1:=HQ.out.cell1
   have hf1:=blk_frozen HQ.out.box 1
   go_wp2
   (try simp only [Exit.inBlock,Exit.then])
   refine bodyPost_ret (results_none rfl _ _ _) rfl ?_
   exact ⟨rfl,_,HQ.out.flag false⟩
 ·have hF:=HT.out
  simp only [takeF] at hF
  rw [if_neg c0] at hF
  subst hF
  clear HT
  have c4:gs.length≠0:=fun h=>c0 (.inr h)
  obtain rfl:b=false:=by cases b <;> simp_all
  clear c0
  have n1:((gs.length:Int) == 0)=false:=beq_eq_false_iff_ne.mpr (by omega)
  obtain ⟨g,cap,_,_,_,eu,_⟩:=(HR4.out.lines).last (by omega)
  injection eu with eu1 eu2 eu3
  subst eu1
  clear eu2 eu3
  obtain ⟨j,hj⟩:∃ j,gs.length - 1=j:=⟨_,rfl⟩
  have ej:wrap64 ((gs.length:Int) - 1)=(j:Int):=by unfold wrap64;omega
  have p0:(0≤(j:Int))=True:=eq_true (by omega)
  have q0:((j:Int) < (gs.length:Int))=True:=eq_true (by omega)
  go_wp2
  refine start_ (n:=12) (S:=fun w'=>w'.cell? ⟨gr,0,none⟩=some (.slice (some ⟨g,0,none⟩) gs.length cc)∧True) (ds:=[]) #[false,false,false,false,false,false,false,false,false,false,false,false] (by kernel_rfl) rfl rfl ⟨hx0,trivial⟩ (fun hHeld=>?_)
  have HR6:=Aside0.mk (HR4.out.below (below_drew (Below.refl _ _)))
  have SZ6:=Aside0.mk (show w.heap.size≤w5.drew.heap.size from SZ.out)
  clear hx0 hx1 hx4 hf0 hf1
  generalize w5.drew=w6 at HR6 SZ6 hHeld ⊢
  refine rgP 0 (some 52) #[true,false,false,false,false,false,false,false,false,false,false,false] ?_
  refine rgP 1 (some 53) #[true,true,false,false,false,false,false,false,false,false,false,false] ?_
  refine rgP 2 (some 54) #[true,true,true,false,false,false,false,false,false,false,false,false] ?_
  refine rgP 4 (some 56) #[true,true,true,false,true,false,false,false,false,false,false,false] ?_
  refine rgP 5 (some 57) #[true,true,true,false,true,true,false,false,false,false,false,false] ?_
  refine rgP 6 (some 58) #[true,true,true,false,true,true,true,false,false,false,false,false] ?_
  refine rgT 3 (some 55) #[true,true,true,true,true,true,true,false,false,false,false,false] hHeld ?_
  refine rgT 7 (some 59) #[true,true,true,true,true,true,true,true,false,false,false,false] hHeld ?_
  refine rgP 8 (some 60) #[true,true,true,true,true,true,true,true,true,false,false,false] ?_
  refine rgP 9 (some 61) #[true,true,true,true,true,true,true,true,true,true,false,false] ?_
  rw [ej]
  refine rgP 10 (some 62) #[true,true,true,true,true,true,true,true,true,true,true,false] ?_
  refine rgP 11 (some 6) #[true,true,true,true,true,true,true,true,true,true,true,true] ?_
  refine done_ (by kernel_rfl) ?_
  clear hHeld HR4 BK5 SZ
  go_wp2_with (first|((with_reducible refine gate_dst (N:=7) rfl ?_);refine box_event ?hg (N:=7) ?hd (cs:=#[.string ⟨#[]⟩]) (t:=63) ?hr ?_;(case hd=>rfl);(case hg=>rfl);(case hr=>first|(go_simp;done)|(go_simp;rfl));rintro g7 eg w4 hk4 hb4;have EG4:=Aside0.mk eg;have BK4:=Aside0.mk hk4;have HB4:=Aside0.mk hb4;have hc0:w4.cell? ⟨g7,0,none⟩=some (.string ⟨#[]⟩):=(blk_cell hk4 0).trans rfl;have hd0:=blk_frozen hk4 0;clear eg hk4 hb4))
  have HR8:=Aside0.mk ((HR6.out.below (below_set HB4.out (by rw [EG4.out];exact Nat.le_refl _))).below (below_drew (Below.refl _ _)):Rd w0 w (w4.setCell ⟨g7,0,none⟩ (.string x)).drew base gr ok (.slice (some ⟨g,0,none⟩) gs.length cc) false gs)
  have BK8:=Aside0.mk (show (w4.setCell ⟨g7,0,none⟩ (.string x)).drew.heap[g7]?=some (.cells #[.string x] 63 (0,0)) from blk_put BK4.out 0 (.string x) rfl)
  have SZ8:=Aside0.mk (by have:=blk_lt BK4.out;have:=EG4.out;have:=SZ6.out;have:(w4.setCell ⟨g7,0,none⟩ (.string x)).drew.heap.size=w4.heap.size:=(by simp [World.setCell]);omega:w.heap.size≤(w4.setCell ⟨g7,0,none⟩ (.string x)).drew.heap.size)
  clear HR6 BK4 HB4 EG4 SZ6 hc0 hd0
  generalize (w4.setCell ⟨g7,0,none⟩ (.string x))=w7 at HR8 BK8 SZ8 ⊢
  obtain ⟨g_,cap_,v0,v1,oki,eu,g0,g1,⟨hy0,hy1,hy2⟩,hff,hoki,hH⟩:=(HR8.out.lines).last (by omega)
  injection eu with eu1 eu2 eu3
  injection eu1 with eu1
  injection eu1 with eg _ _
  subst eg
  subst eu3
  obtain ⟨A0,cc0,rfl⟩:=Kd.R_slice g0
  obtain ⟨A1,cc1,rfl⟩:=Kd.R_slice g1
  rw [hj] at hy0 hy1 hy2 hff hH
  have G0:=Aside0.mk g0
  have G1:=Aside0.mk g1
  have HH:=Aside0.mk hH
  clear g0 g1 hH
  refine start_ (n:=12) (S:=fun w'=>w'.cell? ⟨g,j * 3,none⟩=some (.slice A0 (lastG gs).f0.length cc0)∧w'.cell? ⟨g7,0,none⟩=some (.string x)) (ds:=[11]) #[false,false,false,false,false,false,false,false,false,false,false,false] (by kernel_rfl) rfl rfl ⟨hy0,(blk_cell BK8.out 0).trans rfl⟩ (fun hHeld=>?_)
  generalize w7.drew=w8 at HR8 BK8 SZ8 G0 G1 HH hHeld hy0 hy1 hy2 hff ⊢
  refine rgP 0 (some 67) #[true,false,false,false,false,false,false,false,false,false,false,false] ?_
  refine rgP 1 (some 68) #[true,true,false,false,false,false,false,false,false,false,false,false] ?_
  refine rgP 2 (some 69) #[true,true,true,false,false,false,false,false,false,false,false,false] ?_
  refine rgP 3 (some 70) #[true,true,true,true,false,false,false,false,false,false,false,false] ?_
  refine rgP 5 (some 72) #[true,true,true,true,false,true,false,false,false,false,false,false] ?_
  refine rgT 4 (some 71) #[true,true,true,true,true,true,false,false,false,false,false,false] hHeld ?_
  refine rgT 6 (some 73) #[true,true,true,true,true,true,true,false,false,false,false,false] hHeld ?_
  refine rgO 7 74 (.slice (some ⟨w8.heap.size,0,none⟩) 1 1) (w8.alloc (.cells #[.string x] 9)) #[true,true,true,true,true,true,true,true,false,false,false,false] ?_ (fun hHeld=>?_)
  ·exact ⟨(World.cell?_alloc_lt _ _ _ (World.block_lt_of_cell? _ _ hHeld.1)).trans hHeld.1,(World.cell?_alloc_lt _ _ _ (World.block_lt_of_cell? _ _ hHeld.2)).trans hHeld.2⟩
  refine one_ (i:=8) (N:=some 75) #[true,true,true,true,true,true,true,true,true,false,false,false] rfl rfl (by kernel_rfl) (by decide) (fun K hK=>?_)
  refine Kd.R_append_step Kd.string (w0:=w0) (W:=w8) base (by rfl) (.tmp 71) (.tmp 74) 29 9 (.string ⟨#[]⟩) 16 (by rfl) Tryd.underlying29 info9 rfl (by decide) (by omega) (.slice A0 (lastG gs).f0.length cc0) (lastG gs).f0 x [.string x] (fun k=>oki k∨(ok k∧w8.heap.size≤k)) (fun _=>False) (by rfl) (by rfl) rfl (fun _ hk=>hk.elim) (fun k hk=>.inr ⟨HF.out k (Nat.le_trans SZ8.out hk),hk⟩) (Kd.R_mono G0.out (fun _ hk=>.inl hk)) HR8.out.B (Nat.le_trans HR8.out.le (Nat.le_of_lt HR8.out.lt)) (by omega) ?_
  intro v3 w1 ho hb hg hat
  obtain ⟨A3,cc3,rfl⟩:=Kd.R_slice ho
  have en:((lastG gs).f0++[x]).length=(lastG gs).f0.length+1:=by rw [List.length_append,List.length_singleton]
  rw [en] at ho ⊢
  have hneg:some g≠(Value.slice A0 (lastG gs).f0.length cc0).ownBlock:=fun e=>(hoki g (G0.out.1 g e.symm)).2 rfl
  have hneb:some g7≠(Value.slice A0 (lastG gs).f0.length cc0).ownBlock:=Kd.R_ne G0.out BK8.out (by decide)
  have hz0:=cell_grown hg hy0 hneg
  have H1:=Aside0.mk (Kd.H_grown (Kd.H_widen HH.out) hg (fun k e=>.inl (G0.out.1 k e)))
  have R1:=Aside0.mk (Kd.R_over' (v:=.slice A0 (lastG gs).f0.length cc0) G1.out (Kd.R_typed G0.out) (by decide) hg)
  have R0:=Aside0.mk ho
  have K1:=Aside0.mk (Kept.of_grown (S:=ok) hg (Kept.refl w8 _) (fun k hk=>.inl (hoki k (G0.out.1 k hk)).1))
  have B1:=Aside0.mk hb
  have hzf:=(Kd.H_at H1.out (by omega) (by omega)).2 0
  rw [Int.toNat_natCast,show kGp.sz=3 from rfl,Nat.add_zero] at hzf
  have HP:=Aside0.mk (Kd.S_seg0 H1.out (by omega) (by omega) (seg:=[.slice A3 ((lastG gs).f0.length+1) cc3]) (j:=0) (show 0+1≤3 by decide) (x':=⟨(lastG gs).f0++[x],(lastG gs).f1,(lastG gs).f2⟩) (k32_mkM _ _ _ ⟨(lastG gs).f0++[x],(lastG gs).f1,(lastG gs).f2⟩ R0.out (Kd.R_mono R1.out (fun _ hk=>.inl hk))) (fun _ hk=>hk))
  refine hK.out _ _ ⟨hz0,cell_grown hg ((blk_cell BK8.out 0).trans rfl) hneb⟩ (fun hHeld=>?_)
  clear hK K ho hb hg hat hneg hneb hHeld hy0 hy1 hy2 hff
  refine rgN 75 ?_
  refine rgP 9 (some 76) #[true,true,true,true,true,true,true,true,true,true,false,false] ?_
  refine rgP 10 (some 77) #[true,true,true,true,true,true,true,true,true,true,true,false] ?_
  refine rgL 11 (w1.setCell ⟨g,j * 3,none⟩ (.slice A3 ((lastG gs).f0.length+1) cc3)) #[true,true,true,true,true,true,true,true,true,true,true,true] ?_
  refine done_ (by kernel_rfl) ?_
  have hp1:=HP.out.1
  have hp2:=HP.out.2
  rw [Int.toNat_natCast,show kGp.sz=3 from rfl,Nat.add_zero] at hp1 hp2
  have HQ:Aside0 (Rd w0 w (w1.setCell ⟨g,j * 3,none⟩ (.slice A3 ((lastG gs).f0.length+1) cc3)) base gr ok (.slice (some ⟨g,0,none⟩) gs.length cc) false (gs.set j ⟨(lastG gs).f0++[x],(lastG gs).f1,(lastG gs).f2⟩)):=Aside0.mk (HR8.out.written (wd:=w1.setCell ⟨g,j * 3,none⟩ (.slice A3 ((lastG gs).f0.length+1) cc3)) (Kept.of_grown hp2 K1.out (fun k hk=>.inl (by injection hk with hk;subst hk;exact (Kd.S_R HR8.out.S).1 _ rfl))) hp1 (B1.out.setCell (p:=⟨g,j * 3,none⟩) (Kd.S_base HR8.out.S _ rfl) _))
  clear hp1 hp2 HP hz0 hzf
  go_wp2
  (try simp only [Exit.inBlock,Exit.then])
  refine bodyPost_end (results_none rfl _ _ _) rfl ?_
  exact ⟨rfl,_,HQ.out⟩
set_option maxHeartbeats 8000000 in
set_option maxRecDepth 100000 in
theorem take_rule (base gr:Nat) (ok:Nat→Prop) (v:Value) (b:Bool) (gs:List Gp) (l:Bool) (p:ByteArray) (r:List Gp×Bool) (w0 w:World) (hr:Rd w0 w w base gr ok v b gs) (hfr:∀ k,w.heap.size≤k→ok k) (hsm:gs.length < 1000000) (hs2:(lastG gs).f0.length < 1000000) (hF:takeF gs b (.rule l p)=r) :
  Calls Tryd.prog 19 #[.pointer (some ⟨gr,0,none⟩),.iface 65 (.agg #[.bool l,.string p])] w fun e w'=>Took w0 w base gr ok r e w':=by
 obtain ⟨A,cc,hu⟩:=Kd.S_slice hr.S
 subst hu
 have HR:=Aside0.mk hr
 have HF:=Aside0.mk hfr
 have HT:=Aside0.mk hF
 clear hr hfr hF
 go_enter Tryd.func19,Tryd.ntmps19
 go_upto_region 1 with (first|((with_reducible refine gate_dst (N:=4) rfl ?_);refine box_event ?hg (N:=4) ?hd (cs:=#[.string ⟨#[]⟩]) (t:=63) ?hr ?_;(case hd=>rfl);(case hg=>rfl);(case hr=>first|(go_simp;done)|(go_simp;rfl));rintro g4 eg w4 hk4 hb4;have EG4:=Aside0.mk eg;have BK4:=Aside0.mk hk4;have HB4:=Aside0.mk hb4;have hc0:w4.cell? ⟨g4,0,none⟩=some (.string ⟨#[]⟩):=(blk_cell hk4 0).trans rfl;have hd0:=blk_frozen hk4 0;clear eg hk4 hb4))
 have HR4:=Aside0.mk (HR.out.below (below_set HB4.out (by rw [EG4.out];exact Nat.le_refl _)):Rd w0 w (w4.setCell ⟨g4,0,none⟩ (.string ByteArray.empty)) base gr ok (.slice A gs.length cc) b gs)
 have BK5:=Aside0.mk (blk_put BK4.out 0 (.string ByteArray.empty) rfl:(w4.setCell ⟨g4,0,none⟩ (.string ByteArray.empty)).heap[g4]?=some (.cells #[.string ByteArray.empty] 63 (0,0)))
 have SZ:=Aside0.mk (by have:=blk_lt BK4.out;have:=EG4.out;simp [World.setCell];omega:w.heap.size≤(w4.setCell ⟨g4,0,none⟩ (.string ByteArray.empty)).heap.size)
 clear HR BK4 HB4 EG4 hc0 hd0
 generalize (w4.setCell ⟨g4,0,none⟩ (.string ByteArray.empty))=w5 at HR4 BK5 SZ ⊢
 have hx0:=HR4.out.cell0
 have hx1:=HR4.out.cell1
 have hx4:w5.cell? ⟨g4,0,none⟩=some (.string ByteArray.empty):=(blk_cell BK5.out 0).trans rfl
 have hf0:=blk_frozen HR4.out.box 0
 have hf1:=blk_frozen HR4.out.box 1
 by_cases c4:gs.length=0
 ·have hF:=HT.out
  simp only [takeF] at hF
  rw [if_pos c4] at hF
  subst hF
  clear HT
  have n0:((gs.length:Int) == 0)=true:=by rw [c4];rfl
  clear c4
  go_wp2
  (try simp only [Exit.inBlock,Exit.then])
  refine bodyPost_ret (results_none rfl _ _ _) rfl ?_
  exact ⟨rfl,_,HR4.out⟩
 ·have hF:=HT.out
  simp only [takeF] at hF
  rw [if_neg c4] at hF
  clear HT
  have n1:((gs.length:Int) == 0)=false:=beq_eq_false_iff_ne.mpr (by omega)
  obtain ⟨g,cap,_,_,_,eu,_⟩:=(HR4.out.lines).last (by omega)
  injection eu with eu1 eu2 eu3
  subst eu1
  clear eu2 eu3
  obtain ⟨j,hj⟩:∃ j,gs.length - 1=j:=⟨_,rfl⟩
  have ej:wrap64 ((gs.length:Int) - 1)=(j:Int):=by unfold wrap64;omega
  have p0:(0≤(j:Int))=True:=eq_true (by omega)
  have q0:((j:Int) < (gs.length:Int))=True:=eq_true (by omega)
  go_wp2
  refine start_ (n:=12) (S:=fun w'=>w'.cell? ⟨gr,0,none⟩=some (.slice (some ⟨g,0,none⟩) gs.length cc)∧True) (ds:=[]) #[false,false,false,false,false,false,false,false,false,false,false,false] (by kernel_rfl) rfl rfl ⟨hx0,trivial⟩ (fun hHeld=>?_)
  have HR6:=Aside0.mk (HR4.out.below (below_drew (Below.refl _ _)))
  have SZ6:=Aside0.mk (show w.heap.size≤w5.drew.heap.size from SZ.out)
  clear hx0 hx1 hx4 hf0 hf1
  generalize w5.drew=w6 at HR6 SZ6 hHeld ⊢
  refine rgP 0 (some 52) #[true,false,false,false,false,false,false,false,false,false,false,false] ?_
  refine rgP 1 (some 53) #[true,true,false,false,false,false,false,false,false,false,false,false] ?_
  refine rgP 2 (some 54) #[true,true,true,false,false,false,false,false,false,false,false,false] ?_
  refine rgP 4 (some 56) #[true,true,true,false,true,false,false,false,false,false,false,false] ?_
  refine rgP 5 (some 57) #[true,true,true,false,true,true,false,false,false,false,false,false] ?_
  refine rgP 6 (some 58) #[true,true,true,false,true,true,true,false,false,false,false,false] ?_
  refine rgT 3 (some 55) #[true,true,true,true,true,true,true,false,false,false,false,false] hHeld ?_
  refine rgT 7 (some 59) #[true,true,true,true,true,true,true,true,false,false,false,false] hHeld ?_
  refine rgP 8 (some 60) #[true,true,true,true,true,true,true,true,true,false,false,false] ?_
  refine rgP 9 (some 61) #[true,true,true,true,true,true,true,true,true,true,false,false] ?_
  rw [ej]
  refine rgP 10 (some 62) #[true,true,true,true,true,true,true,true,true,true,true,false] ?_
  refine rgP 11 (some 6) #[true,true,true,true,true,true,true,true,true,true,true,true] ?_
  refine done_ (by kernel_rfl) ?_
  clear hHeld HR4 BK5 SZ
  go_upto_region 12 with (first|((with_reducible refine gate_dst (N:=8) rfl ?_);refine box_event ?hg (N:=8) ?hd (cs:=#[.bool false,.string ⟨#[]⟩]) (t:=65) ?hr ?_;(case hd=>rfl);(case hg=>rfl);(case hr=>first|(go_simp;done)|(go_simp;rfl));rintro g8 eg w4 hk4 hb4;have EG4:=Aside0.mk eg;have BK4:=Aside0.mk hk4;have HB4:=Aside0.mk hb4;have hc0:w4.cell? ⟨g8,0,none⟩=some (.bool false):=(blk_cell hk4 0).trans rfl;have hd0:=blk_frozen hk4 0;have hc1:w4.cell? ⟨g8,1,none⟩=some (.string ⟨#[]⟩):=(blk_cell hk4 1).trans rfl;have hd1:=blk_frozen hk4 1;clear eg hk4 hb4))
  have HB5:=Aside0.mk (show Below w6.heap.size w6 ((w4.setCell ⟨g8,0,none⟩ (.bool l)).setCell ⟨g8,1,none⟩ (.string p)) from (below_set (below_set HB4.out (by rw [EG4.out];exact Nat.le_refl _)) (by rw [EG4.out];exact Nat.le_refl _)))
  have BK5:=Aside0.mk (show ((w4.setCell ⟨g8,0,none⟩ (.bool l)).setCell ⟨g8,1,none⟩ (.string p)).heap[g8]?=some (.cells #[.bool l,.string p] 65 (0,0)) from (blk_put (blk_put BK4.out 0 (.bool l) rfl) 1 (.string p) rfl))
  have NE5:=Aside0.mk (show g8≠gr from by have:=EG4.out;have:=HR6.out.lt;omega)
  clear BK4 HB4 EG4 hc0 hd0 hc1 hd1
  generalize ((w4.setCell ⟨g8,0,none⟩ (.bool l)).setCell ⟨g8,1,none⟩ (.string p))=w5 at HB5 BK5 ⊢
  have HR5:=Aside0.mk (HR6.out.below HB5.out)
  have SZ5:=Aside0.mk (Nat.le_trans SZ6.out HB5.out.size)
  have hx1:=HR5.out.cell1
  have hf1:=blk_frozen HR5.out.box 1
  go_upto_region 13 with (fail)
  have HR7:=Aside0.mk (HR5.out.flag true)
  have BK7:=Aside0.mk (show (w5.setCell ⟨gr,1,none⟩ (.bool true)).heap[g8]?=some (.cells #[.bool l,.string p] 65 (0,0)) from blk_far BK5.out NE5.out _)
  have SZ7:=Aside0.mk (show w.heap.size≤(w5.setCell ⟨gr,1,none⟩ (.bool true)).heap.size from by simp [World.setCell];exact SZ5.out)
  clear HR6 SZ6 HB5 BK5 NE5 HR5 SZ5 hx1 hf1
  generalize (w5.setCell ⟨gr,1,none⟩ (.bool true))=w7 at HR7 BK7 SZ7 ⊢
  obtain ⟨g_,cap_,v0,v1,oki,eu,g0,g1,⟨hy0,hy1,hy2⟩,hff,hoki,hH⟩:=(HR7.out.lines).last (by omega)
  injection eu with eu1 eu2 eu3
  injection eu1 with eu1
  injection eu1 with eg _ _
  subst eg
  subst eu3
  obtain ⟨A0,cc0,rfl⟩:=Kd.R_slice g0
  obtain ⟨A1,cc1,rfl⟩:=Kd.R_slice g1
  rw [hj] at hy0 hy1 hy2 hff hH
  have G0:=Aside0.mk g0
  have G1:=Aside0.mk g1
  have HH:=Aside0.mk hH
  clear g0 g1 hH
  by_cases h6:(lastG gs).f1.length < 6
  ·rw [if_pos h6] at hF
   subst hF
   have e6:decide (((lastG gs).f1.length:Int) < 6)=true:=decide_eq_true (by omega)
   have e6n:decide ((lastG gs).f1.length < 6)=true:=decide_eq_true h6
   go_wp2
   have HR8:=Aside0.mk (HR7.out.below (below_drew (Below.refl _ _)))
   have BK8:=Aside0.mk (show w7.drew.heap[g8]?=some (.cells #[.bool l,.string p] 65 (0,0)) from BK7.out)
   have SZ8:=Aside0.mk (show w.heap.size≤w7.drew.heap.size from SZ7.out)
   replace G0:=Aside0.mk (Kd.R_drew G0.out)
   replace G1:=Aside0.mk (Kd.R_drew G1.out)
   replace HH:=Aside0.mk (Kd.H_drew HH.out)
   replace hy0:=show w7.drew.cell? _=_ from hy0
   replace hy1:=show w7.drew.cell? _=_ from hy1
   replace hy2:=show w7.drew.cell? _=_ from hy2
   replace hff:=show ∀ j_,w7.drew.frozen? ⟨g,j * 3+j_,none⟩=false from hff
   clear HR7 BK7 SZ7
   refine start_ (n:=12) (S:=fun w'=>w'.cell? ⟨g,j * 3+1,none⟩=some (.slice A1 (lastG gs).f1.length cc1)∧(w'.cell? ⟨g8,0,none⟩=some (.bool l)∧w'.cell? ⟨g8,1,none⟩=some (.string p))) (ds:=[11]) #[false,false,false,false,false,false,false,false,false,false,false,false] (by kernel_rfl) rfl rfl ⟨hy1,⟨(blk_cell BK8.out 0).trans rfl,(blk_cell BK8.out 1).trans rfl⟩⟩ (fun hHeld=>?_)
   generalize w7.drew=w8 at HR8 BK8 SZ8 G0 G1 HH hHeld hy0 hy1 hy2 hff ⊢
   refine rgP 0 (some 90) #[true,false,false,false,false,false,false,false,false,false,false,false] ?_
   refine rgP 1 (some 91) #[true,true,false,false,false,false,false,false,false,false,false,false] ?_
   refine rgP 2 (some 92) #[true,true,true,false,false,false,false,false,false,false,false,false] ?_
   refine rgP 3 (some 93) #[true,true,true,true,false,false,false,false,false,false,false,false] ?_
   refine rgP 5 (some 95) #[true,true,true,true,false,true,false,false,false,false,false,false] ?_
   refine rgT3 4 (some 94) #[true,true,true,true,true,true,false,false,false,false,false,false] hHeld ?_
   refine rgT3 6 (some 96) #[true,true,true,true,true,true,true,false,false,false,false,false] hHeld ?_
   refine rgO 7 97 (.slice (some ⟨w8.heap.size,0,none⟩) 1 1) (w8.alloc (.cells #[.bool l,.string p] 34)) #[true,true,true,true,true,true,true,true,false,false,false,false] ?_ (fun hHeld=>?_)
   ·exact ⟨(World.cell?_alloc_lt _ _ _ (World.block_lt_of_cell? _ _ hHeld.1)).trans hHeld.1,⟨(World.cell?_alloc_lt _ _ _ (World.block_lt_of_cell? _ _ hHeld.2.1)).trans hHeld.2.1,(World.cell?_alloc_lt _ _ _ (World.block_lt_of_cell? _ _ hHeld.2.2)).trans hHeld.2.2⟩⟩
   refine one_ (i:=8) (N:=some 98) #[true,true,true,true,true,true,true,true,true,false,false,false] rfl rfl (by kernel_rfl) (by decide) (fun K hK=>?_)
   refine Kd.R_append_step k34 (w0:=w0) (W:=w8) base (by rfl) (.tmp 94) (.tmp 97) 30 34 (.agg #[.bool false,.string ⟨#[]⟩]) 24 (by rfl) Tryd.underlying30 infoRu rfl (by decide) (by omega) (.slice A1 (lastG gs).f1.length cc1) (lastG gs).f1 ⟨l,p⟩ [.bool l,.string p] (fun k=>oki k∨(ok k∧w8.heap.size≤k)) (fun _=>False) (by rfl) (by rfl) (k34_mkM _ _ _ ⟨l,p⟩) (fun _ hk=>hk.elim) (fun k hk=>.inr ⟨HF.out k (Nat.le_trans SZ8.out hk),hk⟩) (Kd.R_mono G1.out (fun _ hk=>.inl hk)) HR8.out.B (Nat.le_trans HR8.out.le (Nat.le_of_lt HR8.out.lt)) (by omega) ?_
   intro v3 w1 ho hb hg hat
   obtain ⟨A3,cc3,rfl⟩:=Kd.R_slice ho
   have en:((lastG gs).f1++[(⟨l,p⟩:S34)]).length=(lastG gs).f1.length+1:=by rw [List.length_append,List.length_singleton]
   rw [en] at ho ⊢
   have hneg:some g≠(Value.slice A1 (lastG gs).f1.length cc1).ownBlock:=fun e=>(hoki g (G1.out.1 g e.symm)).2 rfl
   have hneb:some g8≠(Value.slice A1 (lastG gs).f1.length cc1).ownBlock:=Kd.R_ne G1.out BK8.out (by decide)
   have hz0:=cell_grown hg hy1 hneg
   have H1:=Aside0.mk (Kd.H_grown (Kd.H_widen HH.out) hg (fun k e=>.inl (G1.out.1 k e)))
   have R1:=Aside0.mk (Kd.R_over' (v:=.slice A1 (lastG gs).f1.length cc1) G0.out (Kd.R_typed G1.out) (by decide) hg)
   have R0:=Aside0.mk ho
   have K1:=Aside0.mk (Kept.of_grown (S:=ok) hg (Kept.refl w8 _) (fun k hk=>.inl (hoki k (G1.out.1 k hk)).1))
   have B1:=Aside0.mk hb
   have hzf:=(Kd.H_at H1.out (by omega) (by omega)).2 1
   rw [Int.toNat_natCast,show kGp.sz=3 from rfl] at hzf
   have HP:=Aside0.mk (Kd.S_seg0 H1.out (by omega) (by omega) (seg:=[.slice A3 ((lastG gs).f1.length+1) cc3]) (j:=1) (show 1+1≤3 by decide) (x':=⟨(lastG gs).f0,(lastG gs).f1++[⟨l,p⟩],(lastG gs).f2⟩) (k32_mkM _ _ _ ⟨(lastG gs).f0,(lastG gs).f1++[⟨l,p⟩],(lastG gs).f2⟩ (Kd.R_mono R1.out (fun _ hk=>.inl hk)) R0.out) (fun _ hk=>hk))
   refine hK.out _ _ ⟨hz0,⟨cell_grown hg ((blk_cell BK8.out 0).trans rfl) hneb,cell_grown hg ((blk_cell BK8.out 1).trans rfl) hneb⟩⟩ (fun hHeld=>?_)
   clear hK K ho hb hg hat hneg hneb hHeld hy0 hy1 hy2 hff
   refine rgN 98 ?_
   refine rgP 9 (some 99) #[true,true,true,true,true,true,true,true,true,true,false,false] ?_
   refine rgP 10 (some 100) #[true,true,true,true,true,true,true,true,true,true,true,false] ?_
   refine rgL 11 (w1.setCell ⟨g,j * 3+1,none⟩ (.slice A3 ((lastG gs).f1.length+1) cc3)) #[true,true,true,true,true,true,true,true,true,true,true,true] ?_
   refine done_ (by kernel_rfl) ?_
   have hp1:=HP.out.1
   have hp2:=HP.out.2
   rw [Int.toNat_natCast,show kGp.sz=3 from rfl] at hp1 hp2
   have HQ:Aside0 (Rd w0 w (w1.setCell ⟨g,j * 3+1,none⟩ (.slice A3 ((lastG gs).f1.length+1) cc3)) base gr ok (.slice (some ⟨g,0,none⟩) gs.length cc) true (gs.set j ⟨(lastG gs).f0,(lastG gs).f1++[⟨l,p⟩],(lastG gs).f2⟩)):=Aside0.mk (HR8.out.written (wd:=w1.setCell ⟨g,j * 3+1,none⟩ (.slice A3 ((lastG gs).f1.length+1) cc3)) (Kept.of_grown hp2 K1.out (fun k hk=>.inl (by injection hk with hk;subst hk;exact (Kd.S_R HR8.out.S).1 _ rfl))) hp1 (B1.out.setCell (p:=⟨g,j * 3+1,none⟩) (Kd.S_base HR8.out.S _ rfl) _))
   clear hp1 hp2 HP hz0 hzf
   go_wp2
   (try simp only [Exit.inBlock,Exit.then])
   refine bodyPost_end (results_none rfl _ _ _) rfl ?_
   exact ⟨rfl,.slice (some ⟨g,0,none⟩) gs.length cc,by rw [hj];exact HQ.out⟩
  ·rw [if_neg h6] at hF
   subst hF
   have e6:decide (((lastG gs).f1.length:Int) < 6)=false:=decide_eq_false (by omega)
   have e6n:decide ((lastG gs).f1.length < 6)=false:=decide_eq_false h6
   go_wp2
   (try simp only [Exit.inBlock,Exit.then])
   refine bodyPost_end (results_none rfl _ _ _) rfl ?_
   exact ⟨rfl,_,HR7.out⟩
set_option maxHeartbeats 8000000 in
set_option maxRecDepth 100000 in
theorem take_wait (base gr:Nat) (ok:Nat→Prop) (v:Value) (b:Bool) (gs:List Gp) (n:Int) (r:List Gp×Bool) (w0 w:World) (hr:Rd w0 w w base gr ok v b gs) (hfr:∀ k,w.heap.size≤k→ok k) (hsm:gs.length < 1000000) (hs2:(lastG gs).f0.length < 1000000) (hF:takeF gs b (.wait n)=r) :
  Calls Tryd.prog 19 #[.pointer (some ⟨gr,0,none⟩),.iface 68 (.agg #[.int .i64 n])] w fun e w'=>Took w0 w base gr ok r e w':=by
 obtain ⟨A,cc,hu⟩:=Kd.S_slice hr.S
 subst hu
 have HR:=Aside0.mk hr
 have HF:=Aside0.mk hfr
 have HT:=Aside0.mk hF
 clear hr hfr hF
 go_enter Tryd.func19,Tryd.ntmps19
 go_upto_region 1 with (first|((with_reducible refine gate_dst (N:=4) rfl ?_);refine box_event ?hg (N:=4) ?hd (cs:=#[.string ⟨#[]⟩]) (t:=63) ?hr ?_;(case hd=>rfl);(case hg=>rfl);(case hr=>first|(go_simp;done)|(go_simp;rfl));rintro g4 eg w4 hk4 hb4;have EG4:=Aside0.mk eg;have BK4:=Aside0.mk hk4;have HB4:=Aside0.mk hb4;have hc0:w4.cell? ⟨g4,0,none⟩=some (.string ⟨#[]⟩):=(blk_cell hk4 0).trans rfl;have hd0:=blk_frozen hk4 0;clear eg hk4 hb4))
 have HR4:=Aside0.mk (HR.out.below (below_set HB4.out (by rw [EG4.out];exact Nat.le_refl _)):Rd w0 w (w4.setCell ⟨g4,0,none⟩ (.string ByteArray.empty)) base gr ok (.slice A gs.length cc) b gs)
 have BK5:=Aside0.mk (blk_put BK4.out 0 (.string ByteArray.empty) rfl:(w4.setCell ⟨g4,0,none⟩ (.string ByteArray.empty)).heap[g4]?=some (.cells #[.string ByteArray.empty] 63 (0,0)))
 have SZ:=Aside0.mk (by have:=blk_lt BK4.out;have:=EG4.out;simp [World.setCell];omega:w.heap.size≤(w4.setCell ⟨g4,0,none⟩ (.string ByteArray.empty)).heap.size)
 clear HR BK4 HB4 EG4 hc0 hd0
 generalize (w4.setCell ⟨g4,0,none⟩ (.string ByteArray.empty))=w5 at HR4 BK5 SZ ⊢
 have hx0:=HR4.out.cell0
 have hx1:=HR4.out.cell1
 have hx4:w5.cell? ⟨g4,0,none⟩=some (.string ByteArray.empty):=(blk_cell BK5.out 0).trans rfl
 have hf0:=blk_frozen HR4.out.box 0
 have hf1:=blk_frozen HR4.out.box 1
 by_cases c4:gs.length=0
 ·have hF:=HT.out
  simp only [takeF] at hF
  rw [if_pos c4] at hF
  subst hF
  clear HT
  have n0:((gs.length:Int) == 0)=true:=by rw [c4];rfl
  clear c4
  go_wp2
  (try simp only [Exit.inBlock,Exit.then])
  refine bodyPost_ret (results_none rfl _ _ _) rfl ?_
  exact ⟨rfl,_,HR4.out⟩
 ·have hF:=HT.out
  simp only [takeF] at hF
  rw [if_neg c4] at hF
  clear HT
  have n1:((gs.length:Int) == 0)=false:=beq_eq_false_iff_ne.mpr (by omega)
  obtain ⟨g,cap,_,_,_,eu,_⟩:=(HR4.out.lines).last (by omega)
  injection eu with eu1 eu2 eu3
  subst eu1
  clear eu2 eu3
  obtain ⟨j,hj⟩:∃ j,gs.length - 1=j:=⟨_,rfl⟩
  have ej:wrap64 ((gs.length:Int) - 1)=(j:Int):=by unfold wrap64;omega
  have p0:(0≤(j:Int))=True:=eq_true (by omega)
  have q0:((j:Int) < (gs.length:Int))=True:=eq_true (by omega)
  go_wp2
  refine start_ (n:=12) (S:=fun w'=>w'.cell? ⟨gr,0,none⟩=some (.slice (some ⟨g,0,none⟩) gs.length cc)∧True) (ds:=[]) #[false,false,false,false,false,false,false,false,false,false,false,false] (by kernel_rfl) rfl rfl ⟨hx0,trivial⟩ (fun hHeld=>?_)
  have HR6:=Aside0.mk (HR4.out.below (below_drew (Below.refl _ _)))
  have SZ6:=Aside0.mk (show w.heap.size≤w5.drew.heap.size from SZ.out)
  clear hx0 hx1 hx4 hf0 hf1
  generalize w5.drew=w6 at HR6 SZ6 hHeld ⊢
  refine rgP 0 (some 52) #[true,false,false,false,false,false,false,false,false,false,false,false] ?_
  refine rgP 1 (some 53) #[true,true,false,false,false,false,false,false,false,false,false,false] ?_
  refine rgP 2 (some 54) #[true,true,true,false,false,false,false,false,false,false,false,false] ?_
  refine rgP 4 (some 56) #[true,true,true,false,true,false,false,false,false,false,false,false] ?_
  refine rgP 5 (some 57) #[true,true,true,false,true,true,false,false,false,false,false,false] ?_
  refine rgP 6 (some 58) #[true,true,true,false,true,true,true,false,false,false,false,false] ?_
  refine rgT 3 (some 55) #[true,true,true,true,true,true,true,false,false,false,false,false] hHeld ?_
  refine rgT 7 (some 59) #[true,true,true,true,true,true,true,true,false,false,false,false] hHeld ?_
  refine rgP 8 (some 60) #[true,true,true,true,true,true,true,true,true,false,false,false] ?_
  refine rgP 9 (some 61) #[true,true,true,true,true,true,true,true,true,true,false,false] ?_
  rw [ej]
  refine rgP 10 (some 62) #[true,true,true,true,true,true,true,true,true,true,true,false] ?_
  refine rgP 11 (some 6) #[true,true,true,true,true,true,true,true,true,true,true,true] ?_
  refine done_ (by kernel_rfl) ?_
  clear hHeld HR4 BK5 SZ
  go_upto_region 17 with (first|((with_reducible refine gate_dst (N:=9) rfl ?_);refine box_event ?hg (N:=9) ?hd (cs:=#[.int .i64 0]) (t:=68) ?hr ?_;(case hd=>rfl);(case hg=>rfl);(case hr=>first|(go_simp;done)|(go_simp;rfl));rintro g9 eg w4 hk4 hb4;have EG4:=Aside0.mk eg;have BK4:=Aside0.mk hk4;have HB4:=Aside0.mk hb4;have hc0:w4.cell? ⟨g9,0,none⟩=some (.int .i64 0):=(blk_cell hk4 0).trans rfl;have hd0:=blk_frozen hk4 0;clear eg hk4 hb4))
  have HB5:=Aside0.mk (show Below w6.heap.size w6 (w4.setCell ⟨g9,0,none⟩ (.int .i64 n)) from (below_set HB4.out (by rw [EG4.out];exact Nat.le_refl _)))
  have BK5:=Aside0.mk (show (w4.setCell ⟨g9,0,none⟩ (.int .i64 n)).heap[g9]?=some (.cells #[.int .i64 n] 68 (0,0)) from (blk_put BK4.out 0 (.int .i64 n) rfl))
  have NE5:=Aside0.mk (show g9≠gr from by have:=EG4.out;have:=HR6.out.lt;omega)
  clear BK4 HB4 EG4 hc0 hd0
  generalize (w4.setCell ⟨g9,0,none⟩ (.int .i64 n))=w5 at HB5 BK5 ⊢
  have HR5:=Aside0.mk (HR6.out.below HB5.out)
  have SZ5:=Aside0.mk (Nat.le_trans SZ6.out HB5.out.size)
  have hx1:=HR5.out.cell1
  have hf1:=blk_frozen HR5.out.box 1
  go_upto_region 18 with (fail)
  have HR7:=Aside0.mk (HR5.out.flag true)
  have BK7:=Aside0.mk (show (w5.setCell ⟨gr,1,none⟩ (.bool true)).heap[g9]?=some (.cells #[.int .i64 n] 68 (0,0)) from blk_far BK5.out NE5.out _)
  have SZ7:=Aside0.mk (show w.heap.size≤(w5.setCell ⟨gr,1,none⟩ (.bool true)).heap.size from by simp [World.setCell];exact SZ5.out)
  clear HR6 SZ6 HB5 BK5 NE5 HR5 SZ5 hx1 hf1
  generalize (w5.setCell ⟨gr,1,none⟩ (.bool true))=w7 at HR7 BK7 SZ7 ⊢
  obtain ⟨g_,cap_,v0,v1,oki,eu,g0,g1,⟨hy0,hy1,hy2⟩,hff,hoki,hH⟩:=(HR7.out.lines).last (by omega)
  injection eu with eu1 eu2 eu3
  injection eu1 with eu1
  injection eu1 with eg _ _
  subst eg
  subst eu3
  obtain ⟨A0,cc0,rfl⟩:=Kd.R_slice g0
  obtain ⟨A1,cc1,rfl⟩:=Kd.R_slice g1
  rw [hj] at hy0 hy1 hy2 hff hH
  have G0:=Aside0.mk g0
  have G1:=Aside0.mk g1
  have HH:=Aside0.mk hH
  clear g0 g1 hH
  subst hF
  have hx9:w7.cell? ⟨g9,0,none⟩=some (.int .i64 n):=(blk_cell BK7.out 0).trans rfl
  have hf2:=hff 2
  have HP:=Aside0.mk (Kd.S_seg0 HH.out (by omega) (by omega) (seg:=[.int .i64 n]) (j:=2) (show 2+1≤3 by decide) (x':=⟨(lastG gs).f0,(lastG gs).f1,n⟩) (k32_mkM _ _ _ ⟨(lastG gs).f0,(lastG gs).f1,n⟩ G0.out G1.out) (fun _ hk=>hk))
  have hp1:=HP.out.1
  have hp2:=HP.out.2
  rw [Int.toNat_natCast,show kGp.sz=3 from rfl] at hp1 hp2
  have HQ:Aside0 (Rd w0 w (w7.setCell ⟨g,j * 3+2,none⟩ (.int .i64 n)) base gr ok (.slice (some ⟨g,0,none⟩) gs.length cc) true (gs.set j ⟨(lastG gs).f0,(lastG gs).f1,n⟩)):=Aside0.mk (HR7.out.written (wd:=w7.setCell ⟨g,j * 3+2,none⟩ (.int .i64 n)) (Kept.of_grown hp2 (Kept.refl w7 _) (fun k hk=>.inl (by injection hk with hk;subst hk;exact (Kd.S_R HR7.out.S).1 _ rfl))) hp1 (HR7.out.B.setCell (p:=⟨g,j * 3+2,none⟩) (Kd.S_base HR7.out.S _ rfl) _))
  clear hp1 hp2 HP
  go_wp2
  (try simp only [Exit.inBlock,Exit.then])
  refine bodyPost_end (results_none rfl _ _ _) rfl ?_
  exact ⟨rfl,_,HQ.out⟩
theorem impl_take.calls (base gr:Nat) (ok:Nat→Prop) (v:Value) (b:Bool) (gs:List Gp) (x:RL) (w0 w:World) (hr:Rd w0 w w base gr ok v b gs) (hfr:∀ k,w.heap.size≤k→ok k) (hsm:gs.length < 1000000) (hs2:(lastG gs).f0.length < 1000000) :
  Calls Tryd.prog 19 #[.pointer (some ⟨gr,0,none⟩),x.v] w fun e w'=>Took w0 w base gr ok (takeF gs b x) e w':=by
 cases x with
 | caller x=>exact take_caller base gr ok v b gs x _ w0 w hr hfr hsm hs2 rfl
 | rule l p=>exact take_rule base gr ok v b gs l p _ w0 w hr hfr hsm hs2 rfl
 | wait n=>exact take_wait base gr ok v b gs n _ w0 w hr hfr hsm hs2 rfl
end Go.Proofs.YthojbccgnlcblaaDoor.P
end
section
namespace Go.Proofs.YthojbccgnlcblaaDoor.P
open Go.RowKit Go.Proofs.YthojbccgnlcblaaDoorW.PrintWords Go.Proofs.YthojbccgnlcblaaDoorW.PrintLast Go.Proofs.YthojbccgnlcblaaDoorW.PrintMore
attribute [local go_sem] max2_int min2_int max_two min_two max_three min_three max_four min_four
set_option linter.unusedVariables false
set_option linter.unusedSimpArgs false
set_option maxHeartbeats 8000000
set_option maxRecDepth 100000
mutual
def strings_genSplit.j0:Nat→ByteArray→ByteArray→Int→Int→Option (List ByteArray)
 | 0,_,_,_,_=>none
 | k+1,x0,x1,x2,x3=>if 0≤(mn x3 (wrap64 ((x0.size:Int)+1))) then (if (mn x3 (wrap64 ((x0.size:Int)+1)):Int).toNat≤17592186044416 then (strings_genSplit.l0 k x0 x1 x2 (wrap64 ((mn x3 (wrap64 ((x0.size:Int)+1))) - 1)) (List.replicate (mn x3 (wrap64 ((x0.size:Int)+1)):Int).toNat (⟨#[]⟩:ByteArray)) 0) else (none)) else (none)
def strings_genSplit.l0:Nat→ByteArray→ByteArray→Int→Int→List ByteArray→Int→Option (List ByteArray)
 | 0,_,_,_,_,_,_=>none
 | k+1,x0,x1,x2,x3,x9,x10=>if x10 < x3 then ((strings_Index.f x0 x1).bind fun t125=>(if t125 < 0 then (if 0≤x10 then (if x10 < (x9.length:Int) then (if 0≤(wrap64 (x10+1)) then (if (wrap64 (x10+1))≤(x9.length:Int) then (some ((x9.set (x10:Int).toNat x0).take ((wrap64 (x10+1)):Int).toNat)) else (none)) else (none)) else (none)) else (none)) else (if 0≤(wrap64 (t125+x2)) then (if (wrap64 (t125+x2))≤(x0.size:Int) then (if 0≤x10 then (if x10 < (x9.length:Int) then (if 0≤(wrap64 (t125+(x1.size:Int))) then (if (wrap64 (t125+(x1.size:Int)))≤(x0.size:Int) then (strings_genSplit.l0 k (x0.extract ((wrap64 (t125+(x1.size:Int))):Int).toNat x0.size) x1 x2 x3 (x9.set (x10:Int).toNat (x0.extract 0 ((wrap64 (t125+x2)):Int).toNat)) (wrap64 (x10+1))) else (none)) else (none)) else (none)) else (none)) else (none)) else (none)))) else (if 0≤x10 then (if x10 < (x9.length:Int) then (if 0≤(wrap64 (x10+1)) then (if (wrap64 (x10+1))≤(x9.length:Int) then (some ((x9.set (x10:Int).toNat x0).take ((wrap64 (x10+1)):Int).toNat)) else (none)) else (none)) else (none)) else (none))
end
def strings_genSplit.f (k:Nat) (a0:ByteArray) (a1:ByteArray) (a2:Int) (a3:Int):Option (List ByteArray):=if a3=0 then (some ([]:List ByteArray)) else (if a1.toList=([]:List UInt8) then ((strings_explode.f a0 a3).bind fun t118=>(some t118)) else (if a3 < 0 then ((strings_Count.f a0 a1).bind fun t121=>(strings_genSplit.j0 k a0 a1 a2 (wrap64 (t121+1)))) else (strings_genSplit.j0 k a0 a1 a2 a3)))
theorem strings_genSplit.calls (k:Nat) (a0:ByteArray) (a1:ByteArray) (a2:Int) (a3:Int) (r:List ByteArray) (w:World) (h:strings_genSplit.f k a0 a1 a2 a3=some r) :
  Calls Tryd.prog 35 #[.string a0,.string a1,.int .i64 a2,.int .i64 a3] w fun e w'=>∃ v0_:Value,e=.returned (v0_)∧Kd.R Kd.string 9 w' w.heap.size (fun _=>True) v0_ r∧Below w.heap.size w w':=by
 have HB:=A_ (Below.refl w.heap.size w);unfold strings_genSplit.f at h
 have H:=h;clear h;replace H:=iteEq H;rcases H with ⟨c5b0,c5b1,H⟩|⟨c5b0,c5b1,c5,H⟩
 ·obtain rfl:=sI H
  go_enter Tryd.func35,Tryd.ntmps35;go_wp2
  go_ret
  exact ⟨_,zz3,(by first|exact Kd.R_nil _ _ _ _ _|exact Kd.N_nil _ _ _ _ _|exact Kd.V_nil _ _ _ _ _|exact Kd.Q_nil _ _ _ _ _|exact Kd.S_nil _ _ _ _ _),(zz1 HB)⟩
 ·replace H:=iteEq H
  rcases H with ⟨c6b0,c6b1,H⟩|⟨c6b0,c6b1,c6,H⟩
  ·replace H:=bindA H
   obtain ⟨t118,A7,H⟩:=H;obtain rfl:=sI H;go_enter Tryd.func35,Tryd.ntmps35;go_wp2_with (first|(refine gV 48 (some 18) Tryd.func48 (strings_explode.calls a0 a3 t118 _ A7.out) ?_;rintro v119 w8 ⟨ho0,hb⟩;have HO120:=A_ (Kd.R_lower ho0 (below_size (zz1 HB)));replace HB:=A_ (bS (zz1 HB) hb);(try clear hb ho0)))
   go_ret
   exact ⟨_,zz3,(zz10 HO120),(zz1 HB)⟩
  ·have HC9:=A_ H
   clear H;go_enter Tryd.func35,Tryd.ntmps35;go_upto_if 20 with (fail)
   go_cut [3] (fun v3 wc=>∃ (kq:Nat) (x3_8:Int),v3=.int .i64 x3_8∧Aside0 (strings_genSplit.j0 kq a0 a1 a2 x3_8=some r)∧Aside0 (kq≤k)∧Aside0 (Below w.heap.size w wc))
   case first=>
    obtain ⟨H⟩:=HC9;replace H:=iteEd H;rcases H with ⟨c10b0,H⟩|⟨c10b0,H⟩
    ·(first|rw [c10b0]|(simp only [i64_w,i32_w];rw [c10b0])|skip)
     replace H:=bindA H;obtain ⟨t121,A11,H⟩:=H;have H':=A_ H;clear H;go_wp2_with (first|(refine gR 49 (some 23) Tryd.func49 (strings_Count.calls a0 a1 t121 _ A11.out) ?_;rintro w12 hb;replace HB:=A_ (bS (zz1 HB) hb);(try clear hb)))
     go_meet
     case rel=>exact ⟨_,(wrap64 (t121+1)),zz0,H',⟨zz34⟩,⟨(zz1 HB)⟩⟩
    ·(first|rw [c10b0]|(simp only [i64_w,i32_w];rw [c10b0])|skip)
     have H':=A_ H;clear H;go_wp2
     go_meet
     case rel=>exact ⟨_,(a3),zz0,H',⟨zz34⟩,⟨(zz1 HB)⟩⟩
   case rest=>
    clear HC9;obtain ⟨kq,x3_8,rfl,HA,HJ8,HB⟩:=hcut;cases kq with
    | zero=>exact absurd HA.out (by simp [strings_genSplit.j0])
    | succ kj8=>
     obtain ⟨H⟩:=HA;simp only [strings_genSplit.j0] at H
     obtain ⟨ji13,hji13⟩:∃ j_:Int,(mn x3_8 (wrap64 ((a0.size:Int)+1)))=j_:=⟨_,rfl⟩;(first|rw [hji13] at H|simp only [hji13] at H)
     have hji13_:(if (wrap64 ((a0.size:Int)+1)) < x3_8 then (wrap64 ((a0.size:Int)+1)) else x3_8)=ji13:=hji13;replace H:=iteE H;rcases H with ⟨c14,H⟩|⟨c14,H⟩
     ·have c14b0:=eq_true c14
      have c14b1:=dT c14;clear c14;replace H:=iteN H;obtain ⟨c15,H⟩:=H;have c15b0:=eq_true c15;have c15b1:=dT c15;clear c15;obtain ⟨y122,Ny122⟩:=toY (List.replicate (ji13:Int).toNat (⟨#[]⟩:ByteArray));(first|with_reducible replace H:=bindZ Ny122 H|rw [← Ny122.out] at H|skip)
      have H':=A_ H;clear H;go_wp2_with (first|((with_reducible refine gD (N:=31) rfl ?_);refine Kd.R_make Kd.string _ 9 rfl (N:=31) rfl 29 _ _ rfl ji13 rfl rfl Tryd.underlying29 (.string ⟨#[]⟩) 16 info9 rfl (by decide) (by omega) (⟨#[]⟩:ByteArray) (ok:=fun _=>True) (okp:=fun _=>True) rfl (fun _ hk=>hk) trivial ofD (Nat.le_trans (Nat.mul_le_mul_right _ (ofD:ji13.toNat≤17592186044416)) (by omega)) (Below.refl _ _) (Nat.le_refl _) ?_;intro v123 w16 ho17 hb hg_ hnew_;clear hg_ hnew_;(first|rw [← Ny122.out] at ho17|(simp only [Int.reduceToNat] at ho17;rw [← Ny122.out] at ho17));have HO124:=A_ (Kd.R_lower ho17 (below_size (zz1 HB)));replace HB:=A_ (bS (zz1 HB) hb);clear hb ho17))
      go_loopg [0,10] kj8 (fun kq v0 v10 w'=>∃ (x0_2:ByteArray) (x9_2:List ByteArray) (x10_2:Int),v0=.string x0_2∧v10=.int .i64 x10_2∧Aside0 (strings_genSplit.l0 kq x0_2 a1 a2 (wrap64 ((ji13) - 1)) x9_2 x10_2=some r)∧Aside0 (kq≤kj8)∧Aside0 (Kd.R Kd.string 9 w' w.heap.size (fun _=>True) v123 x9_2)∧Aside0 (Below w.heap.size w w'))
      case atStart=>exact ⟨(a0),(y122),(0),zz0,zz0,H',⟨Nat.le_refl _⟩,⟨(zz10 HO124)⟩,⟨(zz1 HB)⟩⟩
      case round=>
       clear H';obtain ⟨x0_2,x9_2,x10_2,rfl,rfl,HA,HK2,HO_9,HB⟩:=hrel;cases gk with
       | zero=>exact absurd HA.out (by simp [strings_genSplit.l0])
       | succ k2=>
        obtain ⟨H⟩:=HA;simp only [strings_genSplit.l0] at H
        replace H:=iteEd H;rcases H with ⟨c18b0,H⟩|⟨c18b0,H⟩
        ·replace H:=bindA H
         obtain ⟨t125,A19,H⟩:=H;have HF20:=A_ H;clear H;go_upto_if 41 with (first|(refine gR 50 (some 39) Tryd.func50 (strings_Index.calls x0_2 a1 t125 _ A19.out) ?_;rintro w21 hb;replace HO_9:=A_ (rB (zz10 HO_9) hb);replace HB:=A_ (bS (zz1 HB) hb);(try clear hb)))
         obtain ⟨H⟩:=HF20;replace H:=iteEd H;rcases H with ⟨c22b0,H⟩|⟨c22b0,H⟩
         ·(first|rw [c22b0]|(simp only [i64_w,i32_w];rw [c22b0])|skip)
          replace H:=iteNd H;obtain ⟨c23b0,H⟩:=H;replace H:=iteNd H;obtain ⟨c24b0,H⟩:=H;obtain ⟨y126,hy126⟩:∃ y_:List ByteArray,y_=(x9_2.set (x10_2:Int).toNat x0_2):=⟨_,rfl⟩;replace H:(if 0≤(wrap64 (x10_2+1)) then (if (wrap64 (x10_2+1))≤(x9_2.length:Int) then (some (y126.take ((wrap64 (x10_2+1)):Int).toNat)) else (none)) else (none))=some r:=by first|(rw [hy126];with_reducible exact H)|(have H2_:=(Option.bind_some _ _).symm.trans H;rw [hy126];with_reducible exact H2_)|(have H2_:=(Option.bind_some _ _).symm.trans H;with_reducible exact H2_)|with_reducible exact H|(rw [hy126];exact H)|exact H
          have Ny126:=A_ hy126;have Ly126:y126.length≤x9_2.length∧x9_2.length≤y126.length:=by rw [hy126,List.length_set];exact ⟨Nat.le_refl _,Nat.le_refl _⟩
          have My126:=Ly126.1;replace Ly126:=Ly126.2;clear hy126;obtain ⟨ji26,hji26⟩:∃ j_:Int,(wrap64 (x10_2+1))=j_:=⟨_,rfl⟩;(first|rw [hji26] at H|simp only [hji26] at H)
          have hji26w:(IntKind.i64.wrap (x10_2+1))=ji26:=(i64_w _).trans hji26;replace H:=iteN H;obtain ⟨c27,H⟩:=H;have c27b0:=eq_true c27;have c27b1:=dT c27;clear c27;replace H:=iteN H;obtain ⟨c28,H⟩:=H;have c28b0:=eq_true c28;have c28b1:=dT c28;clear c28;obtain ⟨y127,Ny127⟩:=toY (y126.take ((ji26):Int).toNat);(first|with_reducible replace H:=bindZ Ny127 H|rw [← Ny127.out] at H|skip)
          obtain rfl:=sI H;have p25:0≤(x10_2:Int):=ofD;have q25:(x10_2:Int) < ((x9_2.length:Int):Int):=ofD;obtain ⟨go25,co25,eo25,gb25,gl25,cl25,HG25⟩:=Kd.R_form HO_9.out (by omega);(first|cases eo25|(injection eo25 with ea_ en_ ec_;(first|subst ea_|(injection ea_ with ea_;subst ea_));subst ec_;clear en_))
          have GB25:=A_ gb25;have GG25:=A_ HG25;clear gb25 gl25 HG25;obtain ⟨hx25_0,hf25_0⟩:=Kd.R_celln (⟨#[]⟩:ByteArray) HO_9.out (x10_2:Int) p25 q25;replace p25:=eq_true p25;replace q25:=eq_true q25;have HP29:=Kd.R_putg HO_9.out (x10_2:Int) x0_2;go_wp2_with (first|((with_reducible refine gate_store (t:=9) (p:=61) rfl ?_);refine store_event (t:=9) (p:=61) (v:=?vo_w30) (w1:=(w21.setCell ⟨go25,(x10_2:Int).toNat,none⟩ (.string x0_2))) ?hg ?ho ?hn ?hr ?_;(case ho=>rfl);(case hg=>rfl);(case hn=>rfl);(case hr=>exact zz9);intro w30 hw;have hg:w21.grownBy w30 (some go25):=(by rw [hw];exact HP29.2);have hp_:Kd.R Kd.string 9 w30 w.heap.size (fun _=>True) (.slice (some ⟨go25,0,none⟩) x9_2.length co25) y126:=(by rw [hw,Ny126.out];exact HP29.1);clear HP29;replace HO_9:=A_ (hp_);replace HB:=A_ ((by rw [hw];exact below_set (HB.out) GB25.out:Below w.heap.size w w30));clear hg hw hp_;have q31:((ji26):Int)≤((x9_2.length:Int):Int):=ofD;obtain ⟨i031,hi031,_,hsz31,_⟩:=info_parts info9;have hcut31:=cut_to (P:=Tryd.prog) 29 9 .i64 Tryd.underlying29 hi031 (some ⟨go25,0,none⟩) x9_2.length co25 (ji26) ofD q31 (Kd.R_reads' HO_9.out).2.1;have hr31:=Kd.R_take (m:=((ji26):Int).toNat) HO_9.out (by omega);have hy31:y127.length=((ji26):Int).toNat:=(by rw [Ny127.out,List.length_take];omega);rw [← Ny127.out] at hr31;rw [← hy31] at hr31 hcut31;clear hy31 hi031 hsz31 HO_9;have HO129:=A_ hr31;clear hr31;replace q31:=eq_true q31))
          go_ret
          exact ⟨_,(by first|rfl|(simp [errW_none,errW_some] <;> rfl)|(simp only [← hji13,← hji26];first|rfl|(simp [errW_none,errW_some] <;> rfl))|(simp [*,errW_none,errW_some] <;> rfl)),(zz10 HO129),(zz1 HB)⟩
         ·(first|rw [c22b0]|(simp only [i64_w,i32_w];rw [c22b0])|skip)
          obtain ⟨ji32,hji32⟩:∃ j_:Int,(wrap64 (t125+a2))=j_:=⟨_,rfl⟩;(first|rw [hji32] at H|simp only [hji32] at H)
          have hji32w:(IntKind.i64.wrap (t125+a2))=ji32:=(i64_w _).trans hji32;replace H:=iteN H;obtain ⟨c33,H⟩:=H;have c33b0:=eq_true c33;have c33b1:=dT c33;clear c33;replace H:=iteN H;obtain ⟨c34,H⟩:=H;have c34b0:=eq_true c34;have c34b1:=dT c34;clear c34;replace H:=iteNd H;obtain ⟨c35b0,H⟩:=H;replace H:=iteNd H;obtain ⟨c36b0,H⟩:=H;obtain ⟨y130,hy130⟩:∃ y_:List ByteArray,y_=(x9_2.set (x10_2:Int).toNat (x0_2.extract 0 ((ji32):Int).toNat)):=⟨_,rfl⟩;replace H:(if 0≤(wrap64 (t125+(a1.size:Int))) then (if (wrap64 (t125+(a1.size:Int)))≤(x0_2.size:Int) then (strings_genSplit.l0 k2 (x0_2.extract ((wrap64 (t125+(a1.size:Int))):Int).toNat x0_2.size) a1 a2 (wrap64 ((ji13) - 1)) y130 (wrap64 (x10_2+1))) else (none)) else (none))=some r:=by first|(rw [hy130];with_reducible exact H)|(have H2_:=(Option.bind_some _ _).symm.trans H;rw [hy130];with_reducible exact H2_)|(have H2_:=(Option.bind_some _ _).symm.trans H;with_reducible exact H2_)|with_reducible exact H|(rw [hy130];exact H)|exact H
          have Ny130:=A_ hy130;have Ly130:y130.length≤x9_2.length∧x9_2.length≤y130.length:=by rw [hy130,List.length_set];exact ⟨Nat.le_refl _,Nat.le_refl _⟩
          have My130:=Ly130.1;replace Ly130:=Ly130.2;clear hy130;obtain ⟨ji38,hji38⟩:∃ j_:Int,(wrap64 (t125+(a1.size:Int)))=j_:=⟨_,rfl⟩;(first|rw [hji38] at H|simp only [hji38] at H)
          have hji38w:(IntKind.i64.wrap (t125+(a1.size:Int)))=ji38:=(i64_w _).trans hji38;replace H:=iteN H;obtain ⟨c39,H⟩:=H;have c39b0:=eq_true c39;have c39b1:=dT c39;clear c39;replace H:=iteN H;obtain ⟨c40,H⟩:=H;have c40b0:=eq_true c40;have c40b1:=dT c40;clear c40;have H':=A_ H;clear H;have p37:0≤(x10_2:Int):=ofD;have q37:(x10_2:Int) < ((x9_2.length:Int):Int):=ofD;obtain ⟨go37,co37,eo37,gb37,gl37,cl37,HG37⟩:=Kd.R_form HO_9.out (by omega);(first|cases eo37|(injection eo37 with ea_ en_ ec_;(first|subst ea_|(injection ea_ with ea_;subst ea_));subst ec_;clear en_))
          have GB37:=A_ gb37;have GG37:=A_ HG37;clear gb37 gl37 HG37;obtain ⟨hx37_0,hf37_0⟩:=Kd.R_celln (⟨#[]⟩:ByteArray) HO_9.out (x10_2:Int) p37 q37;replace p37:=eq_true p37;replace q37:=eq_true q37;have HP41:=Kd.R_putg HO_9.out (x10_2:Int) (x0_2.extract 0 ((ji32):Int).toNat);go_wp2_with (first|((with_reducible refine gate_store (t:=9) (p:=49) rfl ?_);refine store_event (t:=9) (p:=49) (v:=?vo_w42) (w1:=(w21.setCell ⟨go37,(x10_2:Int).toNat,none⟩ (.string (x0_2.extract 0 ((ji32):Int).toNat)))) ?hg ?ho ?hn ?hr ?_;(case ho=>rfl);(case hg=>rfl);(case hn=>rfl);(case hr=>exact zz9);intro w42 hw;have hg:w21.grownBy w42 (some go37):=(by rw [hw];exact HP41.2);have hp_:Kd.R Kd.string 9 w42 w.heap.size (fun _=>True) (.slice (some ⟨go37,0,none⟩) x9_2.length co37) y130:=(by rw [hw,Ny130.out];exact HP41.1);clear HP41;replace HO_9:=A_ (hp_);replace HB:=A_ ((by rw [hw];exact below_set (HB.out) GB37.out:Below w.heap.size w w42));clear hg hw hp_))
          go_roundg k2
          case measure=>have:=HJ8.out;have:=HK2.out;omega
          case rel=>exact ⟨(x0_2.extract ((ji38):Int).toNat x0_2.size),(y130),(wrap64 (x10_2+1)),(by first|rfl|(simp only [i64_w,i32_w];done)|(simp only [aid_isEmpty,aid_isEmpty2];done)|(simp;done)|((simp only [← hji38] <;> (first|rfl|simp));done)|(simp [*];done)),zz0,H',⟨(zz37 HJ8 HK2)⟩,⟨(zz10 HO_9)⟩,⟨(zz1 HB)⟩⟩
        ·replace H:=iteNd H
         obtain ⟨c43b0,H⟩:=H;replace H:=iteNd H;obtain ⟨c44b0,H⟩:=H;obtain ⟨y131,hy131⟩:∃ y_:List ByteArray,y_=(x9_2.set (x10_2:Int).toNat x0_2):=⟨_,rfl⟩;replace H:(if 0≤(wrap64 (x10_2+1)) then (if (wrap64 (x10_2+1))≤(x9_2.length:Int) then (some (y131.take ((wrap64 (x10_2+1)):Int).toNat)) else (none)) else (none))=some r:=by first|(rw [hy131];with_reducible exact H)|(have H2_:=(Option.bind_some _ _).symm.trans H;rw [hy131];with_reducible exact H2_)|(have H2_:=(Option.bind_some _ _).symm.trans H;with_reducible exact H2_)|with_reducible exact H|(rw [hy131];exact H)|exact H
         have Ny131:=A_ hy131;have Ly131:y131.length≤x9_2.length∧x9_2.length≤y131.length:=by rw [hy131,List.length_set];exact ⟨Nat.le_refl _,Nat.le_refl _⟩
         have My131:=Ly131.1;replace Ly131:=Ly131.2;clear hy131;obtain ⟨ji46,hji46⟩:∃ j_:Int,(wrap64 (x10_2+1))=j_:=⟨_,rfl⟩;(first|rw [hji46] at H|simp only [hji46] at H)
         have hji46w:(IntKind.i64.wrap (x10_2+1))=ji46:=(i64_w _).trans hji46;replace H:=iteN H;obtain ⟨c47,H⟩:=H;have c47b0:=eq_true c47;have c47b1:=dT c47;clear c47;replace H:=iteN H;obtain ⟨c48,H⟩:=H;have c48b0:=eq_true c48;have c48b1:=dT c48;clear c48;obtain ⟨y132,Ny132⟩:=toY (y131.take ((ji46):Int).toNat);(first|with_reducible replace H:=bindZ Ny132 H|rw [← Ny132.out] at H|skip)
         obtain rfl:=sI H;have p45:0≤(x10_2:Int):=ofD;have q45:(x10_2:Int) < ((x9_2.length:Int):Int):=ofD;obtain ⟨go45,co45,eo45,gb45,gl45,cl45,HG45⟩:=Kd.R_form HO_9.out (by omega);(first|cases eo45|(injection eo45 with ea_ en_ ec_;(first|subst ea_|(injection ea_ with ea_;subst ea_));subst ec_;clear en_))
         have GB45:=A_ gb45;have GG45:=A_ HG45;clear gb45 gl45 HG45;obtain ⟨hx45_0,hf45_0⟩:=Kd.R_celln (⟨#[]⟩:ByteArray) HO_9.out (x10_2:Int) p45 q45;replace p45:=eq_true p45;replace q45:=eq_true q45;have HP49:=Kd.R_putg HO_9.out (x10_2:Int) x0_2;go_wp2_with (first|((with_reducible refine gate_store (t:=9) (p:=61) rfl ?_);refine store_event (t:=9) (p:=61) (v:=?vo_w50) (w1:=(wr.setCell ⟨go45,(x10_2:Int).toNat,none⟩ (.string x0_2))) ?hg ?ho ?hn ?hr ?_;(case ho=>rfl);(case hg=>rfl);(case hn=>rfl);(case hr=>exact zz9);intro w50 hw;have hg:wr.grownBy w50 (some go45):=(by rw [hw];exact HP49.2);have hp_:Kd.R Kd.string 9 w50 w.heap.size (fun _=>True) (.slice (some ⟨go45,0,none⟩) x9_2.length co45) y131:=(by rw [hw,Ny131.out];exact HP49.1);clear HP49;replace HO_9:=A_ (hp_);replace HB:=A_ ((by rw [hw];exact below_set (HB.out) GB45.out:Below w.heap.size w w50));clear hg hw hp_;have q51:((ji46):Int)≤((x9_2.length:Int):Int):=ofD;obtain ⟨i051,hi051,_,hsz51,_⟩:=info_parts info9;have hcut51:=cut_to (P:=Tryd.prog) 29 9 .i64 Tryd.underlying29 hi051 (some ⟨go45,0,none⟩) x9_2.length co45 (ji46) ofD q51 (Kd.R_reads' HO_9.out).2.1;have hr51:=Kd.R_take (m:=((ji46):Int).toNat) HO_9.out (by omega);have hy51:y132.length=((ji46):Int).toNat:=(by rw [Ny132.out,List.length_take];omega);rw [← Ny132.out] at hr51;rw [← hy51] at hr51 hcut51;clear hy51 hi051 hsz51 HO_9;have HO134:=A_ hr51;clear hr51;replace q51:=eq_true q51))
         go_ret
         exact ⟨_,(by first|rfl|(simp [errW_none,errW_some] <;> rfl)|(simp only [← hji13,← hji46];first|rfl|(simp [errW_none,errW_some] <;> rfl))|(simp [*,errW_none,errW_some] <;> rfl)),(zz10 HO134),(zz1 HB)⟩
     ·exact absurd H (by simp)
def strings_Split.f (k:Nat) (a0:ByteArray) (a1:ByteArray):Option (List ByteArray):=(strings_genSplit.f k a0 a1 0 (-1)).bind fun t135=>(some t135)
theorem strings_Split.calls (k:Nat) (a0:ByteArray) (a1:ByteArray) (r:List ByteArray) (w:World) (h:strings_Split.f k a0 a1=some r) :
  Calls Tryd.prog 17 #[.string a0,.string a1] w fun e w'=>∃ v0_:Value,e=.returned (v0_)∧Kd.R Kd.string 9 w' w.heap.size (fun _=>True) v0_ r∧Below w.heap.size w w':=by
 have HB:=A_ (Below.refl w.heap.size w);unfold strings_Split.f at h
 have H:=h;clear h;replace H:=bindA H;obtain ⟨t135,A3,H⟩:=H;obtain rfl:=sI H;go_enter Tryd.func17,Tryd.ntmps17;go_wp2_with (first|(refine gV 35 (some 7) Tryd.func35 (strings_genSplit.calls k a0 a1 0 (-1) t135 _ A3.out) ?_;rintro v136 w4 ⟨ho0,hb⟩;have HO137:=A_ (Kd.R_lower ho0 (below_size (zz1 HB)));replace HB:=A_ (bS (zz1 HB) hb);(try clear hb ho0)))
 go_ret
 exact ⟨_,zz3,(zz10 HO137),(zz1 HB)⟩
end Go.Proofs.YthojbccgnlcblaaDoor.P
end
