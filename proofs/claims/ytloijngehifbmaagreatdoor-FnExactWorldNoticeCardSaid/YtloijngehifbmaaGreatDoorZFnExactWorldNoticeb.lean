/- Part 2 of the proof of FnExactWorldNotice: the plain functions of what it reaches, that Go comes to just their answers, what they answer, and the words that the walks use; conditions: each theorem's own. -/
import Derived.Test.YtloijngehifbmaaGreatDoorZFnExactWorldNoticea
import Derived.Laws.StructEq
import Derived.RowKit
import Derived.Test.YtloijngehifbmaaGreatDoorProg
import Derived.Below
import Derived.Deep.Draws
import Derived.Deep.AppendLies
import Derived.Maps.AppendAt
import Derived.OwnWalk
import Derived.Laws.BytesArg
import Derived.Laws.MakeOwn
import Derived.Laws.OwnMore
import Derived.Deep.OwnRows
import Derived.Tactics
import Derived.Lib.ConvBytes
import Derived.Laws.Slices
import Derived.WalkKit
import Derived.KernelRfl
import Derived.RowKit3
import Derived.Deep.LoopGhost
import Derived.Deep.QuietTactic
import Derived.BigQuiet
import Derived.WideLaws
import Derived.Deep.DeepCutAuto
import Derived.Deep.CutBlock
import Derived.Deep.RegionHeld3
import Derived.Laws.Rows
import Derived.Lib.AppendStr
import Derived.ArgAppend
import Derived.Laws.IdiomCopy
import Derived.OrdersHeld
import Derived.Laws.BitsLemmas
import Derived.Shelf.Strings.Builder1
import Derived.Shelf.Strings.Builder2
import Derived.Shelf.Strings.OnBuilder
import Derived.Shelf.Small.Utf8
import Derived.Shelf.Small.Strs
import Derived.Shelf.Small.Wraps
import Derived.Shelf.Strings.BuilderF
import Derived.Shelf.Strings.BuilderK
import Derived.Shelf.Strings.Builder2Cap
import Derived.Shelf.Strings.Search1
import Derived.Shelf.Strings.Search2
import Derived.Shelf.Strings.Search3
import Derived.Shelf.Strings.Cut
import Derived.Shelf.Strings.Count
import Derived.Shelf.LaysM
import Derived.Shelf.Strings.Shaped
import Derived.Shelf.Strings.Prefix
import Derived.Shelf.Strings.Runes
import Derived.Shelf.Strings.IndexAny
import Derived.Shelf.Strings.AsciiSet
import Derived.Shelf.Strings.IndexAnyAll
import Derived.Shelf.Unicode.DecodeSlow
import Derived.Shelf.Strings.BuilderCap
import Derived.Shelf.Slices.Turned
import Derived.Ground.Names2Prog
import Derived.Shelf.Slices.Clone

section
namespace Go.Proofs.YtloijngehifbmaaGreatDoorW.PrintWords
open Go.RowKit
section
variable {P:Program} {d:Nat} {xs ys:Array Value} {f:Field} {fs:List Field} {a b:Value} {r s:Bool} {w:World}
end
end Go.Proofs.YtloijngehifbmaaGreatDoorW.PrintWords
end
section
namespace Go.Proofs.YtloijngehifbmaaGreatDoor.P
theorem aid_isEmpty (l:List UInt8):(l != ([]:List UInt8)) = !l.isEmpty:=by cases l <;> rfl
theorem aid_isEmpty2 (l:List UInt8):(l == ([]:List UInt8))=l.isEmpty:=by cases l <;> rfl
end Go.Proofs.YtloijngehifbmaaGreatDoor.P
end
section
namespace Go.Proofs.YtloijngehifbmaaGreatDoor.P
open Go.RowKit Go.Proofs.YtloijngehifbmaaGreatDoorW.PrintWords
structure Undec (c:Prop):Prop where mk :: (out:True)
theorem Undec.y_ {c:Prop} (_:c):Undec c:=⟨trivial⟩
theorem Undec.n_ {c:Prop} (_:¬ c):Undec c:=⟨trivial⟩
theorem undecG {b:Bool} (h:Undec (b=true):=by (fail_if_success exact Undec.y_ rfl);(fail_if_success exact Undec.n_ (by decide));exact Undec.mk trivial):Undec (b=true):=h
theorem undecI {c:Prop} (h:Undec c:=by (fail_if_success exact Undec.y_ (by first|(with_reducible assumption)|((try simp only [decide_eq_true_eq,decide_eq_false_iff_not] at *);omega)|decide));(fail_if_success exact Undec.n_ (by first|(with_reducible assumption)|((try simp only [decide_eq_true_eq,decide_eq_false_iff_not] at *);omega)|decide));exact Undec.mk trivial):Undec c:=h
def MetP (J:Prop):Prop:=J
theorem atG {P:Program} {ops:Array Oper} {Q:Exit→Act→World→Prop} {a:Act} {w:World} {rest:List Oper} {d:Option Tmp} {op:Op} {ty:TypeId} {pos:String} {af:Array Edge} {j:Nat} {g b:Bool}
  (_hy:yielded ops a.tmps j=some b) (_nl:Undec (b=true)) (h:∀ K:Prop,Aside0 (K=wpList P ops Q (⟨d,op,ty,pos,af,some (j,g)⟩ :: rest) a w)→MetP K) :
  wpList P ops Q (⟨d,op,ty,pos,af,some (j,g)⟩ :: rest) a w:=h _ ⟨rfl⟩
theorem atI {c A B:Prop} [Decidable c] (_nl:Undec c) (h:∀ K:Prop,Aside0 (K=if c then A else B)→MetP K):if c then A else B:=h _ ⟨rfl⟩
theorem unG {A K:Prop} (hK:Aside0 (K=A)) (h:A):MetP K:=by rw [hK.out];exact h
theorem iteT {c A B:Prop} [Decidable c] (h:A) (hc:c:=by first|rfl|(with_reducible assumption)|omega|decide|exact List.length_eq_zero_iff.mp (by omega)|(intro h_;simp only [h_,List.length_nil] at *;omega)):if c then A else B:=by rw [if_pos hc];exact h
theorem iteF {c A B:Prop} [Decidable c] (h:B) (hc:¬ c:=by first|(with_reducible assumption)|decide|omega|exact fun h_=>h_ (List.length_eq_zero_iff.mp (by omega))|(intro h_;simp only [h_,List.length_nil] at *;omega)):if c then A else B:=by rw [if_neg hc];exact h
theorem upS {P:Program} {o:Oper} {a:Act} {next:Act→World→Prop} {Q:Exit→Act→World→Prop} {r:Result Next} (h:Oper.upon P o a next Q r):Oper.upon P o a next Q r:=h
end Go.Proofs.YtloijngehifbmaaGreatDoor.P
end
section
namespace Go.Proofs.YtloijngehifbmaaGreatDoor.P
open Go.RowKit Go.Proofs.YtloijngehifbmaaGreatDoorW.PrintWords Go.Proofs.YtloijngehifbmaaGreatDoorW.PrintLast Go.Proofs.YtloijngehifbmaaGreatDoorW.PrintMore
attribute [local go_sem] max2_int min2_int max_two min_two max_three min_three max_four min_four
set_option linter.unusedVariables false
set_option linter.unusedSimpArgs false
def errW:Option Int→Value
 | none=>.nilIface
 | some c=>.iface 0 (.int .i64 c)
theorem errW_none:errW none=.nilIface:=rfl
theorem errW_some (c:Int):errW (some c)=.iface 0 (.int .i64 c):=rfl
theorem info5:(Tryz.prog.info? 5).map (fun i=>(i.zero,i.size,i.bytes))=some (some (.int .u8 0),1,1):=by kernel_rfl
theorem info9:(Tryz.prog.info? 9).map (fun i=>(i.zero,i.size,i.bytes))=some (some (.string ⟨#[]⟩),1,16):=by kernel_rfl
theorem info57:(Tryz.prog.info? 57).map (fun i=>(i.zero,i.size,i.bytes))=some (some (.agg #[(.string ⟨#[]⟩),(.string ⟨#[]⟩),(.string ⟨#[]⟩),(.int .i64 0)]),4,56):=by kernel_rfl
theorem info93:(Tryz.prog.info? 93).map (fun i=>(i.zero,i.size,i.bytes))=some (some (.agg #[(.bool false),(.string ⟨#[]⟩)]),2,24):=by kernel_rfl
structure S49 where
 f0:ByteArray
 f1:ByteArray
 f2:ByteArray
 f3:Int
def z49:S49:=⟨(⟨#[]⟩:ByteArray),(⟨#[]⟩:ByteArray),(⟨#[]⟩:ByteArray),(0:Int)⟩
def k49:Kd S49:=Kd.iso (Kd.pair Kd.string (Kd.pair Kd.string (Kd.pair Kd.string (Kd.int .i64)))) (fun x:S49=>(x.f0,x.f1,x.f2,x.f3))
theorem k49_open {w:World} {x:S49} {cs:List Value} (h:k49.K w x cs):cs=[.string x.f0,.string x.f1,.string x.f2,.int .i64 x.f3]:=by
 obtain ⟨_,_,rfl,rfl,⟨_,_,rfl,rfl,⟨_,_,rfl,rfl,rfl⟩⟩⟩:=h
 exact rfl
theorem k49_mk (w:World) (x:S49)  : k49.K w x [.string x.f0,.string x.f1,.string x.f2,.int .i64 x.f3]:=⟨[.string x.f0],[.string x.f1,.string x.f2,.int .i64 x.f3],rfl,rfl,⟨[.string x.f1],[.string x.f2,.int .i64 x.f3],rfl,rfl,⟨[.string x.f2],[.int .i64 x.f3],rfl,rfl,rfl⟩⟩⟩
def rd_T49 (xs:List S49) (i:Int):S49:=xs.getD i.toNat z49
theorem at_T49 {w:World} {A:Option Addr} {n:Nat} {xs:List S49} (h:Kd.C k49 w A n xs) (i:Int) (h0:0≤i) (h1:i < n):∃ ad , A=some ad∧w.cell? (ad.add (i.toNat * 4))=some (.string (rd_T49 xs i).f0)∧w.cell? ⟨(ad.add (i.toNat * 4)).block,(ad.add (i.toNat * 4)).off+1,none⟩=some (.string (rd_T49 xs i).f1)∧w.cell? ⟨(ad.add (i.toNat * 4)).block,(ad.add (i.toNat * 4)).off+2,none⟩=some (.string (rd_T49 xs i).f2)∧w.cell? ⟨(ad.add (i.toNat * 4)).block,(ad.add (i.toNat * 4)).off+3,none⟩=some (.int .i64 (rd_T49 xs i).f3):=by
 obtain ⟨ad,c,e,_,hK,hc0⟩:=Kd.C_get h z49 i h0 h1
 have hc:∀ j u,c[j]?=some u→w.cell? (ad.add (i.toNat * 4+j))=some u:=hc0
 obtain rfl:=k49_open hK
 exact ⟨ad,e,hc 0 _ rfl,by rw [← add_field _ _ 1 (by omega)];exact hc 1 _ rfl,by rw [← add_field _ _ 2 (by omega)];exact hc 2 _ rfl,by rw [← add_field _ _ 3 (by omega)];exact hc 3 _ rfl⟩
structure S57 where
 f0:ByteArray
 f1:ByteArray
 f2:ByteArray
 f3:Int
def z57:S57:=⟨(⟨#[]⟩:ByteArray),(⟨#[]⟩:ByteArray),(⟨#[]⟩:ByteArray),(0:Int)⟩
def k57:Kd S57:=Kd.iso (Kd.pair Kd.string (Kd.pair Kd.string (Kd.pair Kd.string (Kd.int .i64)))) (fun x:S57=>(x.f0,x.f1,x.f2,x.f3))
theorem k57_open {w:World} {x:S57} {cs:List Value} (h:k57.K w x cs):cs=[.string x.f0,.string x.f1,.string x.f2,.int .i64 x.f3]:=by
 obtain ⟨_,_,rfl,rfl,⟨_,_,rfl,rfl,⟨_,_,rfl,rfl,rfl⟩⟩⟩:=h
 exact rfl
theorem k57_openM {w:World} {base:Nat} {ok:Nat→Prop} {x:S57} {cs:List Value} (h:k57.M w base ok x cs):cs=[.string x.f0,.string x.f1,.string x.f2,.int .i64 x.f3]:=by
 obtain ⟨_,_,rfl,rfl,⟨_,_,rfl,rfl,⟨_,_,rfl,rfl,rfl⟩⟩⟩:=h
 exact rfl
theorem k57_mkM (w:World) (base:Nat) (ok:Nat→Prop) (x:S57)  : k57.M w base ok x [.string x.f0,.string x.f1,.string x.f2,.int .i64 x.f3]:=⟨[.string x.f0],[.string x.f1,.string x.f2,.int .i64 x.f3],rfl,rfl,⟨[.string x.f1],[.string x.f2,.int .i64 x.f3],rfl,rfl,⟨[.string x.f2],[.int .i64 x.f3],rfl,rfl,rfl⟩⟩⟩
def rd_T57 (xs:List S57) (i:Int):S57:=xs.getD i.toNat z57
theorem at_T57 {w:World} {A:Option Addr} {n:Nat} {xs:List S57} (h:Kd.C k57 w A n xs) (i:Int) (h0:0≤i) (h1:i < n):∃ ad , A=some ad∧w.cell? (ad.add (i.toNat * 4))=some (.string (rd_T57 xs i).f0)∧w.cell? ⟨(ad.add (i.toNat * 4)).block,(ad.add (i.toNat * 4)).off+1,none⟩=some (.string (rd_T57 xs i).f1)∧w.cell? ⟨(ad.add (i.toNat * 4)).block,(ad.add (i.toNat * 4)).off+2,none⟩=some (.string (rd_T57 xs i).f2)∧w.cell? ⟨(ad.add (i.toNat * 4)).block,(ad.add (i.toNat * 4)).off+3,none⟩=some (.int .i64 (rd_T57 xs i).f3):=by
 obtain ⟨ad,c,e,_,hK,hc0⟩:=Kd.C_get h z57 i h0 h1
 have hc:∀ j u,c[j]?=some u→w.cell? (ad.add (i.toNat * 4+j))=some u:=hc0
 obtain rfl:=k57_open hK
 exact ⟨ad,e,hc 0 _ rfl,by rw [← add_field _ _ 1 (by omega)];exact hc 1 _ rfl,by rw [← add_field _ _ 2 (by omega)];exact hc 2 _ rfl,by rw [← add_field _ _ 3 (by omega)];exact hc 3 _ rfl⟩
structure S93 where
 f0:Bool
 f1:ByteArray
def z93:S93:=⟨false,(⟨#[]⟩:ByteArray)⟩
def k93:Kd S93:=Kd.iso (Kd.pair Kd.bool Kd.string) (fun x:S93=>(x.f0,x.f1))
theorem k93_open {w:World} {x:S93} {cs:List Value} (h:k93.K w x cs):cs=[.bool x.f0,.string x.f1]:=by
 obtain ⟨_,_,rfl,rfl,rfl⟩:=h
 exact rfl
theorem k93_openM {w:World} {base:Nat} {ok:Nat→Prop} {x:S93} {cs:List Value} (h:k93.M w base ok x cs):cs=[.bool x.f0,.string x.f1]:=by
 obtain ⟨_,_,rfl,rfl,rfl⟩:=h
 exact rfl
theorem k93_mkM (w:World) (base:Nat) (ok:Nat→Prop) (x:S93)  : k93.M w base ok x [.bool x.f0,.string x.f1]:=⟨[.bool x.f0],[.string x.f1],rfl,rfl,rfl⟩
def rd_T93 (xs:List S93) (i:Int):S93:=xs.getD i.toNat z93
theorem at_T93 {w:World} {A:Option Addr} {n:Nat} {xs:List S93} (h:Kd.C k93 w A n xs) (i:Int) (h0:0≤i) (h1:i < n):∃ ad , A=some ad∧w.cell? (ad.add (i.toNat * 2))=some (.bool (rd_T93 xs i).f0)∧w.cell? ⟨(ad.add (i.toNat * 2)).block,(ad.add (i.toNat * 2)).off+1,none⟩=some (.string (rd_T93 xs i).f1):=by
 obtain ⟨ad,c,e,_,hK,hc0⟩:=Kd.C_get h z93 i h0 h1
 have hc:∀ j u,c[j]?=some u→w.cell? (ad.add (i.toNat * 2+j))=some u:=hc0
 obtain rfl:=k93_open hK
 exact ⟨ad,e,hc 0 _ rfl,by rw [← add_field _ _ 1 (by omega)];exact hc 1 _ rfl⟩
structure S32 where
 f0:(List ByteArray)
 f1:(List S93)
 f2:Int
def z32:S32:=⟨([]:List ByteArray),([]:List S93),(0:Int)⟩
def k32:Kd S32:=Kd.iso (Kd.pair (Kd.slice 9 Kd.string) (Kd.pair (Kd.slice 93 k93) (Kd.int .i64))) (fun x:S32=>(x.f0,x.f1,x.f2))
theorem k32_open {w:World} {x:S32} {cs:List Value} (h:k32.K w x cs):∃ A0 c0 A1 c1,cs=[.slice A0 x.f0.length c0,.slice A1 x.f1.length c1,.int .i64 x.f2]∧x.f0.length≤c0∧Kd.string.C w A0 x.f0.length x.f0∧x.f1.length≤c1∧k93.C w A1 x.f1.length x.f1:=by
 obtain ⟨_,_,rfl,⟨A0,c0,rfl,l0,g0⟩,⟨_,_,rfl,⟨A1,c1,rfl,l1,g1⟩,rfl⟩⟩:=h
 exact ⟨A0,c0,A1,c1,rfl,l0,g0,l1,g1⟩
theorem k32_openM {w:World} {base:Nat} {ok:Nat→Prop} {x:S32} {cs:List Value} (h:k32.M w base ok x cs):∃ v0 v1,cs=[v0,v1,.int .i64 x.f2]∧Kd.string.R 9 w base ok v0 x.f0∧k93.R 93 w base ok v1 x.f1:=by
 obtain ⟨_,_,rfl,⟨v0,rfl,g0⟩,⟨_,_,rfl,⟨v1,rfl,g1⟩,rfl⟩⟩:=h
 exact ⟨v0,v1,rfl,g0,g1⟩
theorem k32_mkM (w:World) (base:Nat) (ok:Nat→Prop) (x:S32) {v0:Value} (g0:Kd.string.R 9 w base ok v0 x.f0) {v1:Value} (g1:k93.R 93 w base ok v1 x.f1):k32.M w base ok x [v0,v1,.int .i64 x.f2]:=⟨[v0],[v1,.int .i64 x.f2],rfl,⟨v0,rfl,g0⟩,⟨[v1],[.int .i64 x.f2],rfl,⟨v1,rfl,g1⟩,rfl⟩⟩
def rd_T32 (xs:List S32) (i:Int):S32:=xs.getD i.toNat z32
theorem at_T32 {w:World} {A:Option Addr} {n:Nat} {xs:List S32} (h:Kd.C k32 w A n xs) (i:Int) (h0:0≤i) (h1:i < n):∃ ad A0 c0 A1 c1,A=some ad∧w.cell? (ad.add (i.toNat * 3))=some (.slice A0 (rd_T32 xs i).f0.length c0)∧w.cell? ⟨(ad.add (i.toNat * 3)).block,(ad.add (i.toNat * 3)).off+1,none⟩=some (.slice A1 (rd_T32 xs i).f1.length c1)∧w.cell? ⟨(ad.add (i.toNat * 3)).block,(ad.add (i.toNat * 3)).off+2,none⟩=some (.int .i64 (rd_T32 xs i).f2)∧(rd_T32 xs i).f0.length≤c0∧Kd.string.C w A0 (rd_T32 xs i).f0.length (rd_T32 xs i).f0∧(rd_T32 xs i).f1.length≤c1∧k93.C w A1 (rd_T32 xs i).f1.length (rd_T32 xs i).f1:=by
 obtain ⟨ad,c,e,_,hK,hc0⟩:=Kd.C_get h z32 i h0 h1
 have hc:∀ j u,c[j]?=some u→w.cell? (ad.add (i.toNat * 3+j))=some u:=hc0
 obtain ⟨A0,c0,A1,c1,rfl,l0,g0,l1,g1⟩:=k32_open hK
 exact ⟨ad,A0,c0,A1,c1,e,hc 0 _ rfl,by rw [← add_field _ _ 1 (by omega)];exact hc 1 _ rfl,by rw [← add_field _ _ 2 (by omega)];exact hc 2 _ rfl,l0,g0,l1,g1⟩
end Go.Proofs.YtloijngehifbmaaGreatDoor.P
end
section
namespace Go.Proofs.YtloijngehifbmaaGreatDoor.P
open Go.RowKit Go.Proofs.YtloijngehifbmaaGreatDoorW.PrintWords Go.Proofs.YtloijngehifbmaaGreatDoorW.PrintLast Go.Proofs.YtloijngehifbmaaGreatDoorW.PrintMore
theorem viaP {B:Prop} (b:B:=by simp only [putAll,Act.put,List.setIfInBounds_toArray,List.set_cons_zero,List.set_cons_succ]):B:=b
theorem ofD {p:Prop} [Decidable p] (h:decide p=true:=by first|(with_reducible assumption)|assumption):p:=of_decide_eq_true h
theorem bindA {α β:Type} {x:Option α} {f:α→Option β} {r:β} (h:x.bind f=some r):∃ a,Aside0 (x=some a)∧f a=some r:=by
 obtain ⟨a,h1,h2⟩:=Option.bind_eq_some_iff.mp h
 exact ⟨a,⟨h1⟩,h2⟩
theorem bindY {α β:Type} {y:α} {f:α→Option β} {r:β} (h:(some y).bind f=some r):∃ z,Aside0 (z=y)∧f z=some r:=⟨y,⟨rfl⟩,h⟩
theorem bindZ {α β:Type} {y z:α} (hz:Aside0 (z=y)) {f:α→Option β} {r:β} (h:(some y).bind f=some r):f z=some r:=hz.out ▸ h
theorem toY {α:Type} (y:α):∃ z,Aside0 (z=y):=⟨y,⟨rfl⟩⟩
theorem cbl {w W:World} {a:Addr} {v:Value} (hb:Aside0 (Below w.heap.size w W)) (h:w.cell? a=some v):W.cell? a=some v:=(hb.out.cell (World.block_lt_of_cell? w _ h)).trans h
theorem geB {w W:World} {g:Nat} (hg:g=W.heap.size) (h:Below w.heap.size w W):Aside0 (w.heap.size≤g):=⟨by rw [hg];exact below_size h⟩
theorem rt {α:Type} {d:Kd α} {e:Nat} {w:World} {base:Nat} {ok:Nat→Prop} {v:Value} {xs:List α} {g t:Nat} {cells:Array Value} (a:Aside0 (d.R e w base ok v xs)) (b:Aside0 (w.heap[g]?=some (.cells cells t (0,0)))) (ht:∀ q,q ∈ e :: d.E→q≠t:=by decide):Aside0 (d.R e w base (fun k=>ok k∧k≠g) v xs):=⟨Kd.R_types a.out b.out ht⟩
section
variable {P:Program} {ops:Array Oper} {rest:List Oper} {o:Oper} {a:Act} {Q:Exit→Act→World→Prop} {md:Region.Mode} {S:World→Prop} {ds:List Nat} {W:World}
theorem boxE (N:Tmp) (cs:Array Value) (t:TypeId)
  (h:∀ g,g=W.heap.size→∀ w1,w1.heap[g]?=some (.cells cs t (0,0))→Below W.heap.size W w1→wpList P ops Q rest (a.put o.dst (.pointer (some ⟨g,0,none⟩))) w1)
  (hd:o.dst=some N:=by rfl) (hgd:o.guard=none:=by rfl)
  (hrun:(execOp a.eval o).run P W=.ok (.value (.pointer (some ⟨W.heap.size,0,none⟩))) (W.alloc (.cells cs t (0,0))):=by first|(go_simp;done)|(go_simp;rfl)):wpList P ops Q (o :: rest) a W:=box_event hgd hd hrun h
theorem gsL (N:Option Tmp) {f:FuncId} {fn:Func} {as_:Array Operand} {ts:Array TypeId} (hf:P.funcs[f]?=some fn) (args:Array Value)
  (h:Calls P f args W fun e w'=>∃ v,e=.returned v∧wpList P ops Q rest (a.put N v) w')
  (hd:o.dst=N:=by rfl) (hg:o.guard=none:=by rfl) (hname:(fn.name == "runtime.NumGoroutine")=false:=by kernel_rfl) (hb:fn.body.isSome=true:=by rfl)
  (hop:o.op=.call { callee:=.value (.func f),args:=as_,argTypes:=ts }:=by rfl)
  (hargs:as_.map a.eval=args:=by (try simp only [List.map_toArray,List.map_cons,List.map_nil]);first|done|rfl|(simp only [List.length_drop,List.length_take];rfl)):wpList P ops Q (o :: rest) a W:=goesL_ N hd hg hf hname hb args hop hargs h
theorem boxF (N:Tmp) (cs:Array Value) (t:TypeId)
  (h:∀ g,g=W.heap.size→∀ w1,Aside0 (w1.heap[g]?=some (.cells cs t (0,0)))→Below W.heap.size W w1→wpList P ops Q rest (a.put o.dst (.pointer (some ⟨g,0,none⟩))) w1)
  (hd:o.dst=some N:=by rfl) (hgd:o.guard=none:=by rfl)
  (hrun:(execOp a.eval o).run P W=.ok (.value (.pointer (some ⟨W.heap.size,0,none⟩))) (W.alloc (.cells cs t (0,0))):=by first|(go_simp;done)|(go_simp;rfl)):wpList P ops Q (o :: rest) a W:=box_event hgd hd hrun fun g hg w1 hb=>h g hg w1 ⟨hb⟩
theorem gR (f:FuncId) (N:Option Tmp) {fn:Func} {as_:Array Operand} {ts:Array TypeId} {args:Array Value} {v:Value} {R:World→Prop} (hf:P.funcs[f]?=some fn) (hc:Calls P f args W fun e w'=>e=.returned v∧R w')
  (h:∀ w',R w'→wpList P ops Q rest (a.put N v) w')
  (hd:o.dst=N:=by rfl) (hop:o.op=.call { callee:=.value (.func f),args:=as_,argTypes:=ts }:=by rfl) (hg:o.guard=none:=by rfl) (hname:(fn.name == "runtime.NumGoroutine")=false:=by kernel_rfl) (hb:fn.body.isSome=true:=by rfl)
  (hargs:as_.map a.eval=args:=by (try simp only [List.map_toArray,List.map_cons,List.map_nil]);first|done|rfl|(simp only [List.length_drop,List.length_take];rfl)):wpList P ops Q (o :: rest) a W:=
 goesL_ N hd hg hf hname hb args hop hargs (hc.mono fun _ w' z=>⟨v,z.1,h w' z.2⟩)
theorem gV (f:FuncId) (N:Option Tmp) {fn:Func} {as_:Array Operand} {ts:Array TypeId} {args:Array Value} {β:Type} {V:β→Value} {R:β→World→Prop} (hf:P.funcs[f]?=some fn) (hc:Calls P f args W fun e w'=>∃ v,e=.returned (V v)∧R v w')
  (h:∀ v w',R v w'→wpList P ops Q rest (a.put N (V v)) w')
  (hd:o.dst=N:=by rfl) (hop:o.op=.call { callee:=.value (.func f),args:=as_,argTypes:=ts }:=by rfl) (hg:o.guard=none:=by rfl) (hname:(fn.name == "runtime.NumGoroutine")=false:=by kernel_rfl) (hb:fn.body.isSome=true:=by rfl)
  (hargs:as_.map a.eval=args:=by (try simp only [List.map_toArray,List.map_cons,List.map_nil]);first|done|rfl|(simp only [List.length_drop,List.length_take];rfl)):wpList P ops Q (o :: rest) a W:=
 goesL_ N hd hg hf hname hb args hop hargs (hc.mono fun _ w' z=>by obtain ⟨v,z1,z2⟩:=z;exact ⟨V v,z1,h v w' z2⟩)
theorem oneZ (i:Nat) (N:Option Tmp) {oi:Oper} {fuel:Nat} {l:Array Bool} (l':Array Bool)
  (h:∀ K:Act→World→Prop,Shut (∀ a' w',S w'→(S w'→wpAnyLast P md ops Q S ds fuel l' a' w')→K a' w')→if Region.wanted oi (yielded ops a.tmps)=true then Oper.wp P oi a W K Q else K (a.put N undef) W)
  (hi:ops[i]?=some oi:=by rfl) (hN:oi.dst=N:=by rfl) (hc:readyB md ops l l' i=true:=by exact one_of HT_.out (by kernel_rfl)) (hd:i ∉ ds:=by decide):wpAnyLast P md ops Q S ds (fuel+1) l a W:=one_ l' hi hN hc hd h
theorem twoZ (i j:Nat) (Ni Nj:Option Tmp) {oi oj:Oper} {fuel:Nat} {l:Array Bool} (li lj:Array Bool)
  (h1:∀ K:Act→World→Prop,Shut (∀ a' w',S w'→(S w'→wpAnyLast P md ops Q S ds fuel li a' w')→K a' w')→if Region.wanted oi (yielded ops a.tmps)=true then Oper.wp P oi a W K Q else K (a.put Ni undef) W)
  (h2:∀ K:Act→World→Prop,Shut (∀ a' w',S w'→(S w'→wpAnyLast P md ops Q S ds fuel lj a' w')→K a' w')→if Region.wanted oj (yielded ops a.tmps)=true then Oper.wp P oj a W K Q else K (a.put Nj undef) W)
  (hi:ops[i]?=some oi:=by rfl) (hj:ops[j]?=some oj:=by rfl) (hNi:oi.dst=Ni:=by rfl) (hNj:oj.dst=Nj:=by rfl)
  (hc:(Region.ready md ops l == [i,j] && l.setIfInBounds i true == li && l.setIfInBounds j true == lj)=true:=by exact two_of HT_.out (by kernel_rfl)) (hdi:i ∉ ds:=by decide) (hdj:j ∉ ds:=by decide):wpAnyLast P md ops Q S ds (fuel+1) l a W:=two_ li lj hi hj hNi hNj hc hdi hdj h1 h2
theorem nZ (N:Tmp) {fuel:Nat} {l:Array Bool} {b a':Act} {v:Value} (h:wpAnyLast P md ops Q S ds fuel l a' W) (hb:a=b.put (some N) v:=by rfl) (ha:b.put (some N) v=a':=by (simp only [Act.put,List.setIfInBounds_toArray,List.set_cons_zero,List.set_cons_succ,i64_w,i32_w];rfl)):wpAnyLast P md ops Q S ds fuel l a W:=norm_ (hb.trans ha) h
theorem pureZ (i:Nat) (N:Option Tmp) {v:Value} {fuel:Nat} {l:Array Bool} (l':Array Bool) {a':Act}
  (h:wpAnyLast P md ops Q S ds fuel l' a' W) (hi:ops[i]?=some o:=by rfl) (hN:o.dst=N:=by rfl) (hc:anyB md ops l l' i=true:=by exact any_of HT_.out (by kernel_rfl))
  (hQ:∀ c a w,Q (.panic c) (a.put o.dst v) w→Q (.panic c) a w:=by exact fun _ _ _ h=>h)
  (hy:Yields P ops o v a:=by exact Or.inl ⟨by rfl,by intro w';go_simp;with_reducible rfl⟩)
  (ha:a.put N v=a':=by (simp only [Act.put,List.setIfInBounds_toArray,List.set_cons_zero,List.set_cons_succ,i64_w,i32_w];rfl)):wpAnyLast P md ops Q S ds (fuel+1) l a W:=pure_ l' hi hN hc hQ hy ha h
theorem pureY (i:Nat) (N:Option Tmp) {v:Value} {fuel:Nat} {l:Array Bool} (l':Array Bool) {a':Act}
  (h:wpAnyLast P md ops Q S ds fuel l' a' W) (hi:ops[i]?=some o:=by rfl) (hN:o.dst=N:=by rfl) (hc:anyB md ops l l' i=true:=by kernel_rfl)
  (hQ:∀ c a w,Q (.panic c) (a.put o.dst v) w→Q (.panic c) a w:=by exact fun _ _ _ h=>h)
  (hy:Yields P ops o v a:=by exact Or.inl ⟨by rfl,by intro w';go_simp;with_reducible rfl⟩)
  (ha:a.put N v=a':=by (simp only [Act.put,List.setIfInBounds_toArray,List.set_cons_zero,List.set_cons_succ,i64_w,i32_w];rfl)):wpAnyLast P md ops Q S ds (fuel+1) l a W:=pure_ l' hi hN hc hQ hy ha h
theorem takeZ2 (i:Nat) (N:Option Tmp) {v:Value} {fuel:Nat} {l:Array Bool} (l':Array Bool) (hS:S W) {a':Act}
  (h:wpAnyLast P md ops Q S ds fuel l' a' W) (hi:ops[i]?=some o:=by rfl) (hN:o.dst=N:=by rfl) (hc:takeB md ops ds l l' i=true:=by exact take_ofW HT_.out HW_.out (by kernel_rfl))
  (hQ:∀ c a w,Q (.panic c) (a.put o.dst v) w→Q (.panic c) a w:=by exact fun _ _ _ h=>h)
  (hy:YieldsIf P ops S o v a:=by exact Or.inl ⟨by rfl,by rintro w' ⟨s0,s1⟩;go_simp;with_reducible rfl⟩)
  (ha:a.put N v=a':=by (simp only [Act.put,List.setIfInBounds_toArray,List.set_cons_zero,List.set_cons_succ,i64_w,i32_w];rfl)):wpAnyLast P md ops Q S ds (fuel+1) l a W:=take_ l' hi hN hc hQ hy hS ha h
theorem takeZ4 (i:Nat) (N:Option Tmp) {v:Value} {fuel:Nat} {l:Array Bool} (l':Array Bool) (hS:S W) {a':Act}
  (h:wpAnyLast P md ops Q S ds fuel l' a' W) (hi:ops[i]?=some o:=by rfl) (hN:o.dst=N:=by rfl) (hc:takeB md ops ds l l' i=true:=by exact take_ofW HT_.out HW_.out (by kernel_rfl))
  (hQ:∀ c a w,Q (.panic c) (a.put o.dst v) w→Q (.panic c) a w:=by exact fun _ _ _ h=>h)
  (hy:YieldsIf P ops S o v a:=by exact Or.inl ⟨by rfl,by rintro w' ⟨s0,s1,s2,s3⟩;go_simp;with_reducible rfl⟩)
  (ha:a.put N v=a':=by (simp only [Act.put,List.setIfInBounds_toArray,List.set_cons_zero,List.set_cons_succ,i64_w,i32_w];rfl)):wpAnyLast P md ops Q S ds (fuel+1) l a W:=take_ l' hi hN hc hQ hy hS ha h
theorem takeY4 (i:Nat) (N:Option Tmp) {v:Value} {fuel:Nat} {l:Array Bool} (l':Array Bool) (hS:S W) {a':Act}
  (h:wpAnyLast P md ops Q S ds fuel l' a' W) (hi:ops[i]?=some o:=by rfl) (hN:o.dst=N:=by rfl) (hc:takeB md ops ds l l' i=true:=by kernel_rfl)
  (hQ:∀ c a w,Q (.panic c) (a.put o.dst v) w→Q (.panic c) a w:=by exact fun _ _ _ h=>h)
  (hy:YieldsIf P ops S o v a:=by exact Or.inl ⟨by rfl,by rintro w' ⟨s0,s1,s2,s3⟩;go_simp;with_reducible rfl⟩)
  (ha:a.put N v=a':=by (simp only [Act.put,List.setIfInBounds_toArray,List.set_cons_zero,List.set_cons_succ,i64_w,i32_w];rfl)):wpAnyLast P md ops Q S ds (fuel+1) l a W:=take_ l' hi hN hc hQ hy hS ha h
theorem takeZ6 (i:Nat) (N:Option Tmp) {v:Value} {fuel:Nat} {l:Array Bool} (l':Array Bool) (hS:S W) {a':Act}
  (h:wpAnyLast P md ops Q S ds fuel l' a' W) (hi:ops[i]?=some o:=by rfl) (hN:o.dst=N:=by rfl) (hc:takeB md ops ds l l' i=true:=by exact take_ofW HT_.out HW_.out (by kernel_rfl))
  (hQ:∀ c a w,Q (.panic c) (a.put o.dst v) w→Q (.panic c) a w:=by exact fun _ _ _ h=>h)
  (hy:YieldsIf P ops S o v a:=by exact Or.inl ⟨by rfl,by rintro w' ⟨s0,s1,s2,s3,s4,s5⟩;go_simp;with_reducible rfl⟩)
  (ha:a.put N v=a':=by (simp only [Act.put,List.setIfInBounds_toArray,List.set_cons_zero,List.set_cons_succ,i64_w,i32_w];rfl)):wpAnyLast P md ops Q S ds (fuel+1) l a W:=take_ l' hi hN hc hQ hy hS ha h
theorem takeZ8 (i:Nat) (N:Option Tmp) {v:Value} {fuel:Nat} {l:Array Bool} (l':Array Bool) (hS:S W) {a':Act}
  (h:wpAnyLast P md ops Q S ds fuel l' a' W) (hi:ops[i]?=some o:=by rfl) (hN:o.dst=N:=by rfl) (hc:takeB md ops ds l l' i=true:=by exact take_ofW HT_.out HW_.out (by kernel_rfl))
  (hQ:∀ c a w,Q (.panic c) (a.put o.dst v) w→Q (.panic c) a w:=by exact fun _ _ _ h=>h)
  (hy:YieldsIf P ops S o v a:=by exact Or.inl ⟨by rfl,by rintro w' ⟨s0,s1,s2,s3,s4,s5,s6,s7⟩;go_simp;with_reducible rfl⟩)
  (ha:a.put N v=a':=by (simp only [Act.put,List.setIfInBounds_toArray,List.set_cons_zero,List.set_cons_succ,i64_w,i32_w];rfl)):wpAnyLast P md ops Q S ds (fuel+1) l a W:=take_ l' hi hN hc hQ hy hS ha h
end
theorem cf2 {w:World} {g:Nat} {t:TypeId} {x0 x1:Value} (h:Aside0 (w.heap[g]?=some (.cells #[x0,x1] t (0,0)))):w.cell? ⟨g,0,none⟩=some x0∧w.cell? ⟨g,1,none⟩=some x1∧w.frozen? ⟨g,0,none⟩=false∧w.frozen? ⟨g,1,none⟩=false:=⟨(blk_cell h.out 0).trans rfl,(blk_cell h.out 1).trans rfl,blk_frozen h.out 0,blk_frozen h.out 1⟩
theorem cf3 {w:World} {g:Nat} {t:TypeId} {x0 x1 x2:Value} (h:Aside0 (w.heap[g]?=some (.cells #[x0,x1,x2] t (0,0)))):w.cell? ⟨g,0,none⟩=some x0∧w.cell? ⟨g,1,none⟩=some x1∧w.cell? ⟨g,2,none⟩=some x2∧w.frozen? ⟨g,0,none⟩=false∧w.frozen? ⟨g,1,none⟩=false∧w.frozen? ⟨g,2,none⟩=false:=⟨(blk_cell h.out 0).trans rfl,(blk_cell h.out 1).trans rfl,(blk_cell h.out 2).trans rfl,blk_frozen h.out 0,blk_frozen h.out 1,blk_frozen h.out 2⟩
theorem cf4 {w:World} {g:Nat} {t:TypeId} {x0 x1 x2 x3:Value} (h:Aside0 (w.heap[g]?=some (.cells #[x0,x1,x2,x3] t (0,0)))):w.cell? ⟨g,0,none⟩=some x0∧w.cell? ⟨g,1,none⟩=some x1∧w.cell? ⟨g,2,none⟩=some x2∧w.cell? ⟨g,3,none⟩=some x3∧w.frozen? ⟨g,0,none⟩=false∧w.frozen? ⟨g,1,none⟩=false∧w.frozen? ⟨g,2,none⟩=false∧w.frozen? ⟨g,3,none⟩=false:=⟨(blk_cell h.out 0).trans rfl,(blk_cell h.out 1).trans rfl,(blk_cell h.out 2).trans rfl,(blk_cell h.out 3).trans rfl,blk_frozen h.out 0,blk_frozen h.out 1,blk_frozen h.out 2,blk_frozen h.out 3⟩
abbrev yT:Bool:=true
abbrev yF:Bool:=false
theorem A_ {p:Prop} (h:p):Aside0 p:=⟨h⟩
abbrev bS:=@below_step
abbrev bB:=@blk_below
abbrev rB:=@Kd.R_below
abbrev gC:=@gate_callee
abbrev gD:=@gate_dst
abbrev sI:=@Option.some.inj
abbrev pR:=@bodyPost_ret
abbrev dT:=@decide_eq_true
abbrev dF:=@decide_eq_false
section
variable {α:Type} {r:α} {x y:Option α} {c:Prop} {i:Decidable c}
theorem iteN (h:(if c then x else none)=some r):c∧x=some r:=by
 by_cases hc:c
 ·rw [if_pos hc] at h;exact ⟨hc,h⟩
 ·rw [if_neg hc] at h;cases h
theorem iteE (h:(if c then x else y)=some r):(c∧x=some r)∨(¬ c∧y=some r):=by
 by_cases hc:c
 ·rw [if_pos hc] at h;exact .inl ⟨hc,h⟩
 ·rw [if_neg hc] at h;exact .inr ⟨hc,h⟩
theorem iteB {b:Bool} (h:(if b=true then x else y)=some r):(b=true∧x=some r)∨(b=false∧y=some r):=by cases b <;> simpa using h
theorem iteNd (h:(if c then x else none)=some r):decide c=true∧x=some r:=⟨decide_eq_true (iteN h).1,(iteN h).2⟩
theorem iteEd (h:(if c then x else y)=some r):(decide c=true∧x=some r)∨(decide c=false∧y=some r):=(iteE h).imp (fun z=>⟨decide_eq_true z.1,z.2⟩) (fun z=>⟨decide_eq_false z.1,z.2⟩)
end
section
variable {α:Type} {r:α} {x y:Option α} {a b:Int}
theorem gtT (h:a > b):decide (b < a)=true:=decide_eq_true h
theorem gtF (h:¬ a > b):decide (b < a)=false:=decide_eq_false h
theorem geT (h:a ≥ b):decide (b≤a)=true:=decide_eq_true h
theorem geF (h:¬ a ≥ b):decide (b≤a)=false:=decide_eq_false h
theorem iteEg {i:Decidable (a > b)} (h:(if a > b then x else y)=some r):(@decide (b < a) (Int.decLt b a)=true∧x=some r)∨(@decide (b < a) (Int.decLt b a)=false∧y=some r):=(iteE h).imp (fun z=>⟨gtT z.1,z.2⟩) (fun z=>⟨gtF z.1,z.2⟩)
theorem iteEe {i:Decidable (a ≥ b)} (h:(if a ≥ b then x else y)=some r):(@decide (b≤a) (Int.decLe b a)=true∧x=some r)∨(@decide (b≤a) (Int.decLe b a)=false∧y=some r):=(iteE h).imp (fun z=>⟨geT z.1,z.2⟩) (fun z=>⟨geF z.1,z.2⟩)
end
section
variable {α β:Type} [BEq β] [LawfulBEq β] {r:α} {x y:Option α} {a b:β}
theorem eqT (h:a=b):(a == b)=true∧(a != b)=false:=⟨beq_iff_eq.mpr h,bne_eq_false_iff_eq.mpr h⟩
theorem eqF (h:¬ a=b):(a == b)=false∧(a != b)=true:=⟨beq_eq_false_iff_ne.mpr h,bne_iff_ne.mpr h⟩
theorem iteEq {i:Decidable (a=b)} (h:(if a=b then x else y)=some r):((a == b)=true∧(a != b)=false∧x=some r)∨((a == b)=false∧(a != b)=true∧¬ a=b∧y=some r):=
 (iteE h).imp (fun z=>⟨(eqT z.1).1,(eqT z.1).2,z.2⟩) (fun z=>⟨(eqF z.1).1,(eqF z.1).2,z.1,z.2⟩)
end
theorem atB {P Q R:Prop} [Decidable P] [Decidable Q] (f:P→Q→R) (p:decide P=true:=by first|(with_reducible assumption)|assumption) (q:decide Q=true:=by first|(with_reducible assumption)|assumption):R∧(P=True)∧(Q=True):=
 ⟨f (of_decide_eq_true p) (of_decide_eq_true q),eq_true (of_decide_eq_true p),eq_true (of_decide_eq_true q)⟩
section
variable {P:Program} {f:FuncId} {args:Array Value} {w:World} {S:Value→World→Prop}
theorem mR {v:Value} {Q:World→Prop} (h:Calls P f args w fun e w'=>e=.returned v∧Q w') (k:∀ w',Q w'→S v w'):Calls P f args w fun e w'=>∃ u,e=.returned u∧S u w':=h.mono (fun _ w' z=>⟨v,z.1,k w' z.2⟩)
end
section
variable {w W:World} {a b c d:Addr} {s t u v:Value} (hb:Aside0 (Below w.heap.size w W)) (h1:w.cell? a=some s) (h2:w.cell? b=some t) (h3:w.cell? c=some u) (h4:w.cell? d=some v)
include hb h1 h2
theorem cb2:W.cell? a=some s∧W.cell? b=some t:=⟨cbl hb h1,cbl hb h2⟩
include h3
theorem cb3:W.cell? a=some s∧W.cell? b=some t∧W.cell? c=some u:=⟨cbl hb h1,cbl hb h2,cbl hb h3⟩
include h4
theorem cb4:W.cell? a=some s∧W.cell? b=some t∧W.cell? c=some u∧W.cell? d=some v:=⟨cbl hb h1,cbl hb h2,cbl hb h3,cbl hb h4⟩
end
theorem zz0 {B A0:Prop} (a0:Aside0 A0) (f:A0→B:=by intro g0_;repeat (first|(with_reducible first|exact g0_|apply below_alloc|apply pw_below_drewN|apply below_drew1)|exact g0_)):B:=f a0.out
theorem zz1 {B:Prop} (f:B:=by first|rfl|(simp [errW_none,errW_some] <;> rfl)|(simp [*,errW_none,errW_some] <;> rfl)):B:=f
theorem zz2 {B A0 A1:Prop} (a0:Aside0 A0) (a1:Aside0 A1) (f:A0→A1→B:=by intro g0_ g1_;repeat (first|(with_reducible first|exact g0_|apply below_alloc|apply pw_below_drewN|apply below_drew1|refine below_set ?_ g1_)|exact g0_)):B:=f a0.out a1.out
theorem zz3 {B:Prop} (f:B:=by first|rfl|(simp only [i64_w,i32_w];done)|(simp only [aid_isEmpty,aid_isEmpty2];done)|(simp;done)|(simp [*];done)):B:=f
theorem zz4 {B:Prop} (f:B:=by repeat (first|exact Drawn0.refl _|apply Drawn0.step)):B:=f
theorem zz6 {B:Prop} (f:B:=by first|(go_simp;done)|(go_simp;rfl)):B:=f
theorem zz7 {B A0:Prop} (a0:Aside0 A0) (f:A0→B:=by intro g0_;first|(with_reducible exact g0_)|((with_reducible repeat (first|apply blk_drewN|apply blk_drew|apply blk_alloc));exact g0_)):B:=f a0.out
theorem zz8 {B A0:Prop} (a0:Aside0 A0) (f:A0→B:=by intro g0_;first|(with_reducible exact g0_)|((with_reducible repeat (first|apply Kd.R_alloc|apply Kd.R_drewN|apply Kd.R_drew));exact g0_)):B:=f a0.out
theorem zz9 {B A0:Prop} (a0:Aside0 A0) (f:A0→B:=by intro g0_;first|((repeat (first|(with_reducible first|exact g0_|refine blk_drewN ?_ _|refine blk_drew ?_|refine blk_alloc ?_ _|apply blk_put)|exact g0_));all_goals rfl;done)|(apply blk_put (i:=2);apply blk_put (i:=1);apply blk_put (i:=0);exact g0_;all_goals rfl)):B:=f a0.out
theorem zz10 {B A0:Prop} (a0:Aside0 A0) (f:A0→B:=by intro g0_;apply Kd.R_mono;(focus ((repeat (first|(with_reducible first|exact g0_|apply Kd.R_alloc|apply Kd.R_drewN|apply Kd.R_drew|apply Kd.R_far)|exact g0_));all_goals (intro _ hk_;first|exact hk_.2|exact hk_.1.2|exact hk_.1.1.2|exact hk_.1.1.1.2|exact hk_.1.1.1.1.2|exact hk_.1.1.1.1.1.2|exact hk_.1.1.1.1.1.1.2)));intro _ hk_;first|exact trivial|(repeat' (with_reducible apply And.intro)) <;> first|exact hk_|exact hk_.2|exact hk_.1.2|exact hk_.1.1.2|exact hk_.1.1.1.2|exact hk_.1.1.1.1.2|exact hk_.1.1.1.1.1.2|exact hk_.1.1.1.1.1.1.2|exact hk_.1|exact hk_.1.1|exact hk_.1.1.1|exact hk_.1.1.1.1|exact hk_.1.1.1.1.1|exact hk_.1.1.1.1.1.1|exact hk_.2.2|exact hk_.1.2.2|exact hk_.1.1.2.2|exact hk_.1.1.1.2.2|exact hk_.1.1.1.1.2.2|exact hk_.1.1.1.1.1.2.2|exact hk_.1.1.1.1.1.1.2.2|exact hk_.2.2.2|exact hk_.1.2.2.2|exact hk_.1.1.2.2.2|exact hk_.1.1.1.2.2.2|exact hk_.1.1.1.1.2.2.2|exact hk_.1.1.1.1.1.2.2.2|exact hk_.1.1.1.1.1.1.2.2.2|exact hk_.2.2.2.2|exact hk_.1.2.2.2.2|exact hk_.1.1.2.2.2.2|exact hk_.1.1.1.2.2.2.2|exact hk_.1.1.1.1.2.2.2.2|exact hk_.1.1.1.1.1.2.2.2.2|exact hk_.1.1.1.1.1.1.2.2.2.2|exact hk_.2.2.2.2.2|exact hk_.1.2.2.2.2.2|exact hk_.1.1.2.2.2.2.2|exact hk_.1.1.1.2.2.2.2.2|exact hk_.1.1.1.1.2.2.2.2.2|exact hk_.1.1.1.1.1.2.2.2.2.2|exact hk_.1.1.1.1.1.1.2.2.2.2.2|exact hk_.2.1|exact hk_.1.2.1|exact hk_.1.1.2.1|exact hk_.1.1.1.2.1|exact hk_.1.1.1.1.2.1|exact hk_.1.1.1.1.1.2.1|exact hk_.2.2.1|exact hk_.1.2.2.1|exact hk_.1.1.2.2.1|exact hk_.1.1.1.2.2.1|exact hk_.1.1.1.1.2.2.1|exact hk_.1.1.1.1.1.2.2.1|exact hk_.2.2.2.1|exact hk_.1.2.2.2.1|exact hk_.1.1.2.2.2.1|exact hk_.1.1.1.2.2.2.1|exact hk_.1.1.1.1.2.2.2.1|exact hk_.1.1.1.1.1.2.2.2.1|exact hk_.2.2.2.2.1|exact hk_.1.2.2.2.2.1|exact hk_.1.1.2.2.2.2.1|exact hk_.1.1.1.2.2.2.2.1|exact hk_.1.1.1.1.2.2.2.2.1|exact hk_.1.1.1.1.1.2.2.2.2.1|exact hk_.2.2.2.2.2.1|exact hk_.1.2.2.2.2.2.1|exact hk_.1.1.2.2.2.2.2.1|exact hk_.1.1.1.2.2.2.2.2.1|exact hk_.1.1.1.1.2.2.2.2.2.1|exact hk_.1.1.1.1.1.2.2.2.2.2.1):B:=f a0.out
theorem zz11 {B A0 A1 A2:Prop} (a0:Aside0 A0) (a1:Aside0 A1) (a2:Aside0 A2) (f:A0→A1→A2→B:=by intro g0_ g1_ g2_;repeat (first|(with_reducible first|exact g0_|apply below_alloc|apply pw_below_drewN|apply below_drew1|refine below_set ?_ g1_|refine below_set ?_ g2_)|exact g0_)):B:=f a0.out a1.out a2.out
theorem zz12 {B A0 A1:Prop} (a0:Aside0 A0) (a1:Aside0 A1) (f:A0→A1→B:=by intro g0_ g1_;(repeat (first|(with_reducible first|exact g0_|refine blk_drewN ?_ _|refine blk_drew ?_|refine blk_alloc ?_ _|apply blk_put|apply blk_far)|exact g0_));all_goals first|rfl|exact g1_):B:=f a0.out a1.out
theorem zz13 {B A0 A1 A2 A3:Prop} (a0:Aside0 A0) (a1:Aside0 A1) (a2:Aside0 A2) (a3:Aside0 A3) (f:A0→A1→A2→A3→B:=by intro g0_ g1_ g2_ g3_;repeat (first|(with_reducible first|exact g0_|apply below_alloc|apply pw_below_drewN|apply below_drew1|refine below_set ?_ g1_|refine below_set ?_ g2_|refine below_set ?_ g3_)|exact g0_)):B:=f a0.out a1.out a2.out a3.out
theorem zz17 {B A0:Prop} (a0:Aside0 A0) (f:A0→B:=by intro g0_;have:=g0_;omega):B:=f a0.out
theorem zz20 {B:Prop} (f:B:=by first|rfl|(simp only [i64_w,i32_w];done)|(simp only [aid_isEmpty,aid_isEmpty2];done)|(simp;done)|((simp only [← hji9] <;> (first|rfl|simp));done)|(simp [*];done)):B:=f
theorem zz22 {B:Prop} (f:B:=by first|omega|exact Nat.le_refl _):B:=f
theorem zz24 {B A0:Prop} (a0:Aside0 A0) (f:A0→B:=by intro g0_;have:=g0_;first|omega|exact Nat.le_refl _):B:=f a0.out
theorem zz31 {B A0 A1:Prop} (a0:Aside0 A0) (a1:Aside0 A1) (f:A0→A1→B:=by intro g0_ g1_;have:=g0_;have:=g1_;omega):B:=f a0.out a1.out
theorem zz38 {B A0:Prop} (a0:Aside0 A0) (f:A0→B:=by intro g0_;first|((repeat (first|(with_reducible first|exact g0_|refine blk_drewN ?_ _|refine blk_drew ?_|refine blk_alloc ?_ _|apply blk_put)|exact g0_));all_goals rfl;done)|(apply blk_put (i:=3);apply blk_put (i:=2);apply blk_put (i:=1);apply blk_put (i:=0);exact g0_;all_goals rfl)):B:=f a0.out
theorem zz41 {B A0 A1:Prop} (a0:Aside0 A0) (a1:Aside0 A1) (f:A0→A1→B:=by intro g0_ g1_;repeat (first|exact (Kd.C_below g0_ g1_)|(with_reducible refine Kd.C_alloc ?_ _)|(with_reducible refine Kd.C_drewN ?_ _)|(with_reducible refine Kd.C_drew ?_))):B:=f a0.out a1.out
theorem zz52 {B:Prop} (f:B:=by (try simp only [List.map_toArray,List.map_cons,List.map_nil]);first|done|rfl|(simp only [List.length_drop,List.length_take];rfl)):B:=f
theorem zz56 {B A0:Prop} (a0:Aside0 A0) (f:A0→B:=by intro g0_;repeat (first|(with_reducible first|exact g0_|apply Kept.alloc|apply Kept.drewN|apply Kept.drew)|exact g0_)):B:=f a0.out
theorem zz71 {B A0 A1:Prop} (a0:Aside0 A0) (a1:Aside0 A1) (f:A0→A1→B:=by intro g0_ g1_;repeat (first|(with_reducible first|exact g0_|apply Kept.alloc|apply Kept.drewN|apply Kept.drew|refine Kept.setCell ?_ (.inr g1_) _)|exact g0_)):B:=f a0.out a1.out
theorem zz75 {B:Prop} (f:B:=by first|exact Kd.R_nil _ _ _ _ _|exact Kd.N_nil _ _ _ _ _|exact Kd.V_nil _ _ _ _ _|exact Kd.Q_nil _ _ _ _ _|exact Kd.S_nil _ _ _ _ _):B:=f
theorem zz81 {B A0:Prop} (a0:Aside0 A0) (f:A0→B:=by intro g0_;repeat (first|exact g0_|(with_reducible refine Kd.C_alloc ?_ _)|(with_reducible refine Kd.C_drewN ?_ _)|(with_reducible refine Kd.C_drew ?_))):B:=f a0.out
theorem zz107 {B A0:Prop} (a0:Aside0 A0) (f:A0→B:=by intro g0_;(with_reducible repeat (first|apply Kd.R_alloc|apply Kd.R_drewN|apply Kd.R_drew));exact Kd.R_mono g0_ (fun _ hk=>hk.2)):B:=f a0.out
theorem zz109 {B A0:Prop} (a0:Aside0 A0) (f:A0→B:=by intro g0_;(with_reducible repeat (first|apply Kd.R_alloc|apply Kd.R_drewN|apply Kd.R_drew));exact Kd.R_mono g0_ (fun _ hk=>⟨trivial,hk⟩)):B:=f a0.out
theorem zz110 {B A0:Prop} (a0:Aside0 A0) (f:A0→B:=by intro g0_;repeat (first|exact (Kd.R_reads' g0_).2.2|(with_reducible refine Kd.C_alloc ?_ _)|(with_reducible refine Kd.C_drewN ?_ _)|(with_reducible refine Kd.C_drew ?_))):B:=f a0.out
theorem zz111 {B A0:Prop} (a0:Aside0 A0) (f:A0→B:=by intro g0_;(with_reducible repeat (first|apply Kd.R_alloc|apply Kd.R_drewN|apply Kd.R_drew));exact Kd.R_mono g0_ (fun _ hk=>⟨hk.1.2,hk.2⟩)):B:=f a0.out
theorem zz112 {B A0:Prop} (a0:Aside0 A0) (f:A0→B:=by intro g0_;(with_reducible repeat (first|apply Kd.R_alloc|apply Kd.R_drewN|apply Kd.R_drew));exact Kd.R_mono g0_ (fun _ hk=>⟨hk.2,hk.1⟩)):B:=f a0.out
theorem zz113 {B A0:Prop} (a0:Aside0 A0) (f:A0→B:=by intro g0_;repeat (first|exact (Kd.S_reads' g0_).2.2|(with_reducible refine Kd.C_alloc ?_ _)|(with_reducible refine Kd.C_drewN ?_ _)|(with_reducible refine Kd.C_drew ?_))):B:=f a0.out
theorem zz138 {B:Prop} (f:B:=by first|rfl|(simp [errW_none,errW_some] <;> rfl)|(simp only [← hji4,← hji9];first|rfl|(simp [errW_none,errW_some] <;> rfl))|(simp [*,errW_none,errW_some] <;> rfl)):B:=f
theorem zz139 {B:Prop} (f:B:=by simp [intOf];omega):B:=f
theorem zz165 {B A0:Prop} (a0:Aside0 A0) (f:A0→B:=by intro g0_;(with_reducible repeat (first|apply Kd.R_alloc|apply Kd.R_drewN|apply Kd.R_drew));exact Kd.R_mono g0_ (fun _ hk=>trivial)):B:=f a0.out
theorem zz169 {B A0 A1:Prop} (a0:Aside0 A0) (a1:Aside0 A1) (f:A0→A1→B:=by intro g0_ g1_;(with_reducible repeat (first|apply Kd.R_alloc|apply Kd.R_drewN|apply Kd.R_drew));exact (Kd.R_mono (Kd.R_far (p:=⟨gb521,3,none⟩) (Kd.R_far (p:=⟨gb521,2,none⟩) (Kd.R_far (p:=⟨gb521,1,none⟩) (Kd.R_far (p:=⟨gb521,0,none⟩) (Kd.R_types g0_ g1_ (by decide)) (fun _ hk=>hk.2) (.string a0)) (fun _ hk=>hk.2) (.slice Ao31 t518.length co31)) (fun _ hk=>hk.2) (.bool t503)) (fun _ hk=>hk.2) (.string t504)) (fun _ h_=>h_.1))):B:=f a0.out a1.out
theorem zz171 {B:Prop} (f:B:=by (try simp only [List.map_toArray,List.map_cons,List.map_nil]);first|done|rfl|(simp only [List.length_drop,List.length_take];rfl)|(simp <;> repeat' (first|rfl|constructor))):B:=f
theorem zz199 {B A0 A1:Prop} (a0:Aside0 A0) (a1:Aside0 A1) (f:A0→A1→B:=by intro g0_ g1_;(with_reducible repeat (first|apply Kd.R_alloc|apply Kd.R_drewN|apply Kd.R_drew));exact (Kd.R_mono (Kd.R_far (p:=⟨gb647,2,none⟩) (Kd.R_far (p:=⟨gb647,1,none⟩) (Kd.R_far (p:=⟨gb647,0,none⟩) (Kd.R_types g0_ g1_ (by decide)) (fun _ hk=>hk.2) (.slice Ao20 t640.length co20)) (fun _ hk=>hk.2) (.slice Ao22 t643.length co22)) (fun _ hk=>hk.2) (.int .i64 t646)) (fun _ h_=>h_.1))):B:=f a0.out a1.out
theorem zz200 {B A0 A1:Prop} (a0:Aside0 A0) (a1:Aside0 A1) (f:A0→A1→B:=by intro g0_ g1_;(with_reducible repeat (first|apply Kd.R_alloc|apply Kd.R_drewN|apply Kd.R_drew));exact (Kd.R_mono (Kd.R_far (p:=⟨gb658,2,none⟩) (Kd.R_far (p:=⟨gb658,1,none⟩) (Kd.R_far (p:=⟨gb658,0,none⟩) (Kd.R_types g0_ g1_ (by decide)) (fun _ hk=>hk.2) (.slice Ao27 t651.length co27)) (fun _ hk=>hk.2) (.slice Ao30 t654.length co30)) (fun _ hk=>hk.2) (.int .i64 t657)) (fun _ h_=>h_.1))):B:=f a0.out a1.out
theorem zz206 {B A0 A1:Prop} (a0:Aside0 A0) (a1:Aside0 A1) (f:A0→A1→B:=by intro g0_ g1_;(try simp only [List.map_toArray,List.map_cons,List.map_nil]);first|done|(rw [show t668.length=t651.length from (Kd.R_reads' g0_).1.symm,show t669.length=t654.length from (Kd.R_reads' g1_).1.symm] <;> rfl)|rfl|(simp only [List.length_drop,List.length_take];rfl)):B:=f a0.out a1.out
theorem zz209 {B A0 A1:Prop} (a0:Aside0 A0) (a1:Aside0 A1) (f:A0→A1→B:=by intro g0_ g1_;(with_reducible repeat (first|apply Kd.R_alloc|apply Kd.R_drewN|apply Kd.R_drew));exact (Kd.R_mono (Kd.R_far (p:=⟨gb681,2,none⟩) (Kd.R_far (p:=⟨gb681,1,none⟩) (Kd.R_far (p:=⟨gb681,0,none⟩) (Kd.R_types g0_ g1_ (by decide)) (fun _ hk=>hk.2) (.slice Ao69 t674.length co69)) (fun _ hk=>hk.2) (.slice Ao73 t677.length co73)) (fun _ hk=>hk.2) (.int .i64 t680)) (fun _ h_=>h_.1))):B:=f a0.out a1.out
end Go.Proofs.YtloijngehifbmaaGreatDoor.P
end
section
namespace Go.Proofs
open Go.Shelf
def Tryz.lays156_ren:Go.Shelf.Ren:=⟨fun|156=>137|165=>161|166=>162|169=>163|240=>169|241=>170|276=>171|277=>172|n=>n,fun|31=>29|9=>9|3=>3|4=>4|0=>0|20=>20|72=>167|76=>171|70=>165|37=>37|75=>170|127=>179|164=>184|5=>5|80=>173|n=>n,fun|n=>n⟩
theorem Tryz.lays156:Go.Proofs.Lays.n156 Tryz.prog Tryz.lays156_ren:={
 mixed:=by kernel_rfl
 f156:=Tryz.func137.trans (congrArg some (by kernel_rfl))
 f165:=Tryz.func161.trans (congrArg some (by kernel_rfl))
 f166:=Tryz.func162.trans (congrArg some (by kernel_rfl))
 f169:=Tryz.func163.trans (congrArg some (by kernel_rfl))
 f240:=Tryz.func169.trans (congrArg some (by kernel_rfl))
 f241:=Tryz.func170.trans (congrArg some (by kernel_rfl))
 f276:=Tryz.func171.trans (congrArg some (by kernel_rfl))
 f277:=Tryz.func172.trans (congrArg some (by kernel_rfl))
 t0:=Tryz.underlying0
 a0:=Tryz.isAgg0
 z0:=Tryz.sizeOf0
 v0:=Tryz.zeroValue0
 t3:=Tryz.underlying3
 a3:=Tryz.isAgg3
 z3:=Tryz.sizeOf3
 v3:=Tryz.zeroValue3
 t4:=Tryz.underlying4
 a4:=Tryz.isAgg4
 z4:=Tryz.sizeOf4
 v4:=Tryz.zeroValue4
 t9:=Tryz.underlying9
 a9:=Tryz.isAgg9
 z9:=Tryz.sizeOf9
 v9:=Tryz.zeroValue9
 t20:=Tryz.underlying20
 a20:=Tryz.isAgg20
 z20:=Tryz.sizeOf20
 v20:=Tryz.zeroValue20
 t31:=Tryz.underlying29
 a31:=Tryz.isAgg29
 z31:=Tryz.sizeOf29
 v31:=Tryz.zeroValue29
 t37:=Tryz.underlying37
 a37:=Tryz.isAgg37
 z37:=Tryz.sizeOf37
 v37:=Tryz.zeroValue37
 t70:=Tryz.underlying165
 a70:=Tryz.isAgg165
 z70:=Tryz.sizeOf165
 v70:=Tryz.zeroValue165
 t72:=Tryz.underlying167
 a72:=Tryz.isAgg167
 z72:=Tryz.sizeOf167
 v72:=Tryz.zeroValue167
 t75:=Tryz.underlying170
 a75:=Tryz.isAgg170
 z75:=Tryz.sizeOf170
 v75:=Tryz.zeroValue170
 t76:=Tryz.underlying171
 a76:=Tryz.isAgg171
 z76:=Tryz.sizeOf171
 v76:=Tryz.zeroValue171
 t127:=Tryz.underlying179
 a127:=Tryz.isAgg179
 z127:=Tryz.sizeOf179
 v127:=Tryz.zeroValue179
 t164:=Tryz.underlying184
 a164:=Tryz.isAgg184
 z164:=Tryz.sizeOf184
 v164:=Tryz.zeroValue184 }
theorem Tryz.Builder_Extra_156:Builder.Extra Tryz.prog Tryz.lays156_ren:={
 sizeBuilder:=by kernel_rfl
 liesBuilder:=by kernel_rfl
 t5:=Tryz.underlying5
 a5:=Tryz.isAgg5
 z5:=Tryz.sizeOf5
 v5:=Tryz.zeroValue5
 infoByte:=by kernel_rfl
 cellsByte:=by kernel_rfl
 sizeByte:=by kernel_rfl
 neB5:=by decide }
open Go.RowKit in
theorem Tryz.strings_Join_none (a:Option Addr) (c:Nat) (sep:ByteArray) (w:World) :
  Calls Tryz.prog 137 #[.slice a 0 c,.string sep] w fun e w'=>e=.returned (.string ⟨#[]⟩)∧w'=w:=Any.strings_Join_none Tryz.lays156 Tryz.Builder_Extra_156 a c sep w
open Go.RowKit in
theorem Tryz.strings_Join (bk o c:Nat) (xs:List ByteArray) (sep:ByteArray) (w:World) (hcells:∀ (j:Nat) x,xs[j]?=some x→w.cell? ⟨bk,o+j,none⟩=some (.string x)) (hbk:bk < w.heap.size) (hN:xs.length≤140737488355328) (hcap:xs.length≤c) (hlen:(Lib.join (xs.map (·.data.toList)) sep.data.toList).length≤140737488355328) :
  Calls Tryz.prog 137 #[.slice (some ⟨bk,o,none⟩) xs.length c,.string sep] w fun e w'=>e=.returned (.string ⟨(Lib.join (xs.map (·.data.toList)) sep.data.toList).toArray⟩)∧Below w.heap.size w w':=Any.strings_Join Tryz.lays156 Tryz.Builder_Extra_156 bk o c xs sep w hcells hbk hN hcap hlen
def Tryz.lays119_ren:Go.Shelf.Ren:=⟨fun|119=>159|n=>n,fun|21=>21|4=>4|n=>n,fun|n=>n⟩
theorem Tryz.lays119:Go.Proofs.Lays.n119 Tryz.prog Tryz.lays119_ren:={
 mixed:=by kernel_rfl
 f119:=Tryz.func159.trans (congrArg some (by kernel_rfl))
 t4:=Tryz.underlying4
 a4:=Tryz.isAgg4
 z4:=Tryz.sizeOf4
 v4:=Tryz.zeroValue4
 t21:=Tryz.underlying21
 a21:=Tryz.isAgg21
 z21:=Tryz.sizeOf21
 v21:=Tryz.zeroValue21 }
theorem Tryz.utf8_ValidRune (r:Int) (w:World) :
  Calls Tryz.prog 159 #[.int .i32 r] w fun e w'=>e=.returned (.bool (Lib.validRune r))∧w'=w:=Any.utf8_ValidRune Tryz.lays119 r w
def Tryz.lays137_ren:Go.Shelf.Ren:=⟨fun|137=>158|217=>153|266=>166|n=>n,fun|9=>9|5=>5|3=>3|n=>n,fun|n=>n⟩
theorem Tryz.lays137:Go.Proofs.Lays.n137 Tryz.prog Tryz.lays137_ren:={
 mixed:=by kernel_rfl
 f137:=Tryz.func158.trans (congrArg some (by kernel_rfl))
 f217:=Tryz.func153.trans (congrArg some (by kernel_rfl))
 f266:=Tryz.func166.trans (congrArg some (by kernel_rfl))
 t3:=Tryz.underlying3
 a3:=Tryz.isAgg3
 z3:=Tryz.sizeOf3
 v3:=Tryz.zeroValue3
 t5:=Tryz.underlying5
 a5:=Tryz.isAgg5
 z5:=Tryz.sizeOf5
 v5:=Tryz.zeroValue5
 t9:=Tryz.underlying9
 a9:=Tryz.isAgg9
 z9:=Tryz.sizeOf9
 v9:=Tryz.zeroValue9 }
open Go.RowKit in
theorem Tryz.strings_IndexByte (s:ByteArray) (c:Int) (w:World) :
  Calls Tryz.prog 158 #[.string s,.int .u8 c] w fun e w'=>e=.returned (.int .i64 (Lib.indexByte s.data.toList c.toNat.toUInt8))∧w'=w:=Any.strings_IndexByte Tryz.lays137 s c w
def Tryz.lays210_ren:Go.Shelf.Ren:=⟨fun|210=>127|206=>157|n=>n,fun|9=>9|4=>4|3=>3|n=>n,fun|n=>n⟩
theorem Tryz.lays210:Go.Proofs.Lays.n210 Tryz.prog Tryz.lays210_ren:={
 mixed:=by kernel_rfl
 f206:=Tryz.func157.trans (congrArg some (by kernel_rfl))
 f210:=Tryz.func127.trans (congrArg some (by kernel_rfl))
 t3:=Tryz.underlying3
 a3:=Tryz.isAgg3
 z3:=Tryz.sizeOf3
 v3:=Tryz.zeroValue3
 t4:=Tryz.underlying4
 a4:=Tryz.isAgg4
 z4:=Tryz.sizeOf4
 v4:=Tryz.zeroValue4
 t9:=Tryz.underlying9
 a9:=Tryz.isAgg9
 z9:=Tryz.sizeOf9
 v9:=Tryz.zeroValue9 }
open Go.RowKit in
theorem Tryz.stringslite_CutPrefix (s p:ByteArray) (w:World) :
  Calls Tryz.prog 127 #[.string s,.string p] w fun e w'=>e=.returned (.tuple #[.string ⟨(Lib.trimPrefix s.data.toList p.data.toList).toArray⟩,.bool (Lib.hasPrefix s.data.toList p.data.toList)])∧w'=w:=Any.stringslite_CutPrefix Tryz.lays210 s p w
def Tryz.lays103_ren:Go.Shelf.Ren:=⟨fun|103=>97|210=>127|206=>157|n=>n,fun|9=>9|4=>4|24=>121|3=>3|n=>n,fun|n=>n⟩
theorem Tryz.lays103:Go.Proofs.Lays.n103 Tryz.prog Tryz.lays103_ren:={
 mixed:=by kernel_rfl
 f103:=Tryz.func97.trans (congrArg some (by kernel_rfl))
 f206:=Tryz.func157.trans (congrArg some (by kernel_rfl))
 f210:=Tryz.func127.trans (congrArg some (by kernel_rfl))
 t3:=Tryz.underlying3
 a3:=Tryz.isAgg3
 z3:=Tryz.sizeOf3
 v3:=Tryz.zeroValue3
 t4:=Tryz.underlying4
 a4:=Tryz.isAgg4
 z4:=Tryz.sizeOf4
 v4:=Tryz.zeroValue4
 t9:=Tryz.underlying9
 a9:=Tryz.isAgg9
 z9:=Tryz.sizeOf9
 v9:=Tryz.zeroValue9
 t24:=Tryz.underlying121
 a24:=Tryz.isAgg121
 z24:=Tryz.sizeOf121
 v24:=Tryz.zeroValue121 }
open Go.RowKit in
theorem Tryz.strings_CutPrefix (s p:ByteArray) (w:World) :
  Calls Tryz.prog 97 #[.string s,.string p] w fun e w'=>e=.returned (.tuple #[.string ⟨(Lib.trimPrefix s.data.toList p.data.toList).toArray⟩,.bool (Lib.hasPrefix s.data.toList p.data.toList)])∧w'=w:=Any.strings_CutPrefix Tryz.lays103 s p w
def Tryz.lays219_ren:Go.Shelf.Ren:=⟨fun|219=>126|217=>153|225=>154|224=>155|267=>156|266=>166|314=>167|n=>n,fun|9=>9|3=>3|4=>4|5=>5|46=>160|146=>175|51=>174|n=>n,fun|1=>0|n=>n⟩
theorem Tryz.lays219:Go.Proofs.Lays.n219 Tryz.prog Tryz.lays219_ren:={
 mixed:=by kernel_rfl
 f217:=Tryz.func153.trans (congrArg some (by kernel_rfl))
 f219:=Tryz.func126.trans (congrArg some (by kernel_rfl))
 f224:=Tryz.func155.trans (congrArg some (by kernel_rfl))
 f225:=Tryz.func154.trans (congrArg some (by kernel_rfl))
 f266:=Tryz.func166.trans (congrArg some (by kernel_rfl))
 f267:=Tryz.func156.trans (congrArg some (by kernel_rfl))
 f314:=Tryz.func167.trans (congrArg some (by kernel_rfl))
 t3:=Tryz.underlying3
 a3:=Tryz.isAgg3
 z3:=Tryz.sizeOf3
 v3:=Tryz.zeroValue3
 t4:=Tryz.underlying4
 a4:=Tryz.isAgg4
 z4:=Tryz.sizeOf4
 v4:=Tryz.zeroValue4
 t5:=Tryz.underlying5
 a5:=Tryz.isAgg5
 z5:=Tryz.sizeOf5
 v5:=Tryz.zeroValue5
 t9:=Tryz.underlying9
 a9:=Tryz.isAgg9
 z9:=Tryz.sizeOf9
 v9:=Tryz.zeroValue9
 t46:=Tryz.underlying160
 a46:=Tryz.isAgg160
 z46:=Tryz.sizeOf160
 v46:=Tryz.zeroValue160
 t51:=Tryz.underlying174
 a51:=Tryz.isAgg174
 z51:=Tryz.sizeOf174
 v51:=Tryz.zeroValue174
 t146:=Tryz.underlying175
 a146:=Tryz.isAgg175
 z146:=Tryz.sizeOf175
 v146:=Tryz.zeroValue175
 g1:=by kernel_rfl }
open Go.RowKit Go.Lib in
theorem Tryz.stringslite_Index_one (s:ByteArray) (c:UInt8) (w:World) :
  Calls Tryz.prog 126 #[.string s,.string ⟨#[c]⟩] w fun e w'=>e=.returned (.int .i64 (Lib.indexByte s.data.toList c))∧w'=w:=Any.stringslite_Index_one Tryz.lays219 s c w
open Go.RowKit Go.Lib in
theorem Tryz.stringslite_Index (s sub:ByteArray) (m:Int) (w:World) (hs:s.size < 4294967281) (hm:w.cell? ⟨0,0,none⟩=some (.int .i64 m)) :
  Calls Tryz.prog 126 #[.string s,.string sub] w fun e w'=>e=.returned (.int .i64 (Lib.index s.data.toList sub.data.toList))∧w'=w:=Any.stringslite_Index Tryz.lays219 s sub m w hs hm
def Tryz.lays143_ren:Go.Shelf.Ren:=⟨fun|143=>114|219=>126|217=>153|225=>154|224=>155|267=>156|266=>166|314=>167|n=>n,fun|9=>9|3=>3|4=>4|5=>5|46=>160|146=>175|51=>174|n=>n,fun|1=>0|n=>n⟩
theorem Tryz.lays143:Go.Proofs.Lays.n143 Tryz.prog Tryz.lays143_ren:={
 mixed:=by kernel_rfl
 f143:=Tryz.func114.trans (congrArg some (by kernel_rfl))
 f217:=Tryz.func153.trans (congrArg some (by kernel_rfl))
 f219:=Tryz.func126.trans (congrArg some (by kernel_rfl))
 f224:=Tryz.func155.trans (congrArg some (by kernel_rfl))
 f225:=Tryz.func154.trans (congrArg some (by kernel_rfl))
 f266:=Tryz.func166.trans (congrArg some (by kernel_rfl))
 f267:=Tryz.func156.trans (congrArg some (by kernel_rfl))
 f314:=Tryz.func167.trans (congrArg some (by kernel_rfl))
 t3:=Tryz.underlying3
 a3:=Tryz.isAgg3
 z3:=Tryz.sizeOf3
 v3:=Tryz.zeroValue3
 t4:=Tryz.underlying4
 a4:=Tryz.isAgg4
 z4:=Tryz.sizeOf4
 v4:=Tryz.zeroValue4
 t5:=Tryz.underlying5
 a5:=Tryz.isAgg5
 z5:=Tryz.sizeOf5
 v5:=Tryz.zeroValue5
 t9:=Tryz.underlying9
 a9:=Tryz.isAgg9
 z9:=Tryz.sizeOf9
 v9:=Tryz.zeroValue9
 t46:=Tryz.underlying160
 a46:=Tryz.isAgg160
 z46:=Tryz.sizeOf160
 v46:=Tryz.zeroValue160
 t51:=Tryz.underlying174
 a51:=Tryz.isAgg174
 z51:=Tryz.sizeOf174
 v51:=Tryz.zeroValue174
 t146:=Tryz.underlying175
 a146:=Tryz.isAgg175
 z146:=Tryz.sizeOf175
 v146:=Tryz.zeroValue175
 g1:=by kernel_rfl }
open Go.RowKit Go.Lib in
theorem Tryz.strings_Index (s sub:ByteArray) (m:Int) (w:World) (hs:s.size < 4294967281) (hm:w.cell? ⟨0,0,none⟩=some (.int .i64 m)) :
  Calls Tryz.prog 114 #[.string s,.string sub] w fun e w'=>e=.returned (.int .i64 (Lib.index s.data.toList sub.data.toList))∧w'=w:=Any.strings_Index Tryz.lays143 s sub m w hs hm
def Tryz.lays220_ren:Go.Shelf.Ren:=⟨fun|220=>96|219=>126|217=>153|225=>154|224=>155|267=>156|266=>166|314=>167|n=>n,fun|9=>9|4=>4|3=>3|5=>5|46=>160|146=>175|51=>174|n=>n,fun|1=>0|n=>n⟩
theorem Tryz.lays220:Go.Proofs.Lays.n220 Tryz.prog Tryz.lays220_ren:={
 mixed:=by kernel_rfl
 f217:=Tryz.func153.trans (congrArg some (by kernel_rfl))
 f219:=Tryz.func126.trans (congrArg some (by kernel_rfl))
 f220:=Tryz.func96.trans (congrArg some (by kernel_rfl))
 f224:=Tryz.func155.trans (congrArg some (by kernel_rfl))
 f225:=Tryz.func154.trans (congrArg some (by kernel_rfl))
 f266:=Tryz.func166.trans (congrArg some (by kernel_rfl))
 f267:=Tryz.func156.trans (congrArg some (by kernel_rfl))
 f314:=Tryz.func167.trans (congrArg some (by kernel_rfl))
 t3:=Tryz.underlying3
 a3:=Tryz.isAgg3
 z3:=Tryz.sizeOf3
 v3:=Tryz.zeroValue3
 t4:=Tryz.underlying4
 a4:=Tryz.isAgg4
 z4:=Tryz.sizeOf4
 v4:=Tryz.zeroValue4
 t5:=Tryz.underlying5
 a5:=Tryz.isAgg5
 z5:=Tryz.sizeOf5
 v5:=Tryz.zeroValue5
 t9:=Tryz.underlying9
 a9:=Tryz.isAgg9
 z9:=Tryz.sizeOf9
 v9:=Tryz.zeroValue9
 t46:=Tryz.underlying160
 a46:=Tryz.isAgg160
 z46:=Tryz.sizeOf160
 v46:=Tryz.zeroValue160
 t51:=Tryz.underlying174
 a51:=Tryz.isAgg174
 z51:=Tryz.sizeOf174
 v51:=Tryz.zeroValue174
 t146:=Tryz.underlying175
 a146:=Tryz.isAgg175
 z146:=Tryz.sizeOf175
 v146:=Tryz.zeroValue175
 g1:=by kernel_rfl }
open Go.RowKit Go.Lib in
theorem Tryz.stringslite_Cut (s sep:ByteArray) (m:Int) (w:World) (hs:s.size < 4294967281) (hm:w.cell? ⟨0,0,none⟩=some (.int .i64 m)) :
  Calls Tryz.prog 96 #[.string s,.string sep] w fun e w'=>e=.returned (.tuple #[.string ⟨(Lib.cut s.data.toList sep.data.toList).1.toArray⟩,.string ⟨(Lib.cut s.data.toList sep.data.toList).2.1.toArray⟩,.bool (Lib.cut s.data.toList sep.data.toList).2.2])∧∃ n,w'=w.drewN n:=Any.stringslite_Cut Tryz.lays220 s sep m w hs hm
def Tryz.lays145_ren:Go.Shelf.Ren:=⟨fun|145=>70|220=>96|219=>126|217=>153|225=>154|224=>155|267=>156|266=>166|314=>167|n=>n,fun|9=>9|4=>4|59=>95|3=>3|5=>5|46=>160|146=>175|51=>174|n=>n,fun|1=>0|n=>n⟩
theorem Tryz.lays145:Go.Proofs.Lays.n145 Tryz.prog Tryz.lays145_ren:={
 mixed:=by kernel_rfl
 f145:=Tryz.func70.trans (congrArg some (by kernel_rfl))
 f217:=Tryz.func153.trans (congrArg some (by kernel_rfl))
 f219:=Tryz.func126.trans (congrArg some (by kernel_rfl))
 f220:=Tryz.func96.trans (congrArg some (by kernel_rfl))
 f224:=Tryz.func155.trans (congrArg some (by kernel_rfl))
 f225:=Tryz.func154.trans (congrArg some (by kernel_rfl))
 f266:=Tryz.func166.trans (congrArg some (by kernel_rfl))
 f267:=Tryz.func156.trans (congrArg some (by kernel_rfl))
 f314:=Tryz.func167.trans (congrArg some (by kernel_rfl))
 t3:=Tryz.underlying3
 a3:=Tryz.isAgg3
 z3:=Tryz.sizeOf3
 v3:=Tryz.zeroValue3
 t4:=Tryz.underlying4
 a4:=Tryz.isAgg4
 z4:=Tryz.sizeOf4
 v4:=Tryz.zeroValue4
 t5:=Tryz.underlying5
 a5:=Tryz.isAgg5
 z5:=Tryz.sizeOf5
 v5:=Tryz.zeroValue5
 t9:=Tryz.underlying9
 a9:=Tryz.isAgg9
 z9:=Tryz.sizeOf9
 v9:=Tryz.zeroValue9
 t46:=Tryz.underlying160
 a46:=Tryz.isAgg160
 z46:=Tryz.sizeOf160
 v46:=Tryz.zeroValue160
 t51:=Tryz.underlying174
 a51:=Tryz.isAgg174
 z51:=Tryz.sizeOf174
 v51:=Tryz.zeroValue174
 t59:=Tryz.underlying95
 a59:=Tryz.isAgg95
 z59:=Tryz.sizeOf95
 v59:=Tryz.zeroValue95
 t146:=Tryz.underlying175
 a146:=Tryz.isAgg175
 z146:=Tryz.sizeOf175
 v146:=Tryz.zeroValue175
 g1:=by kernel_rfl }
open Go.RowKit Go.Lib in
theorem Tryz.strings_Cut (s sep:ByteArray) (m:Int) (w:World) (hs:s.size < 4294967281) (hm:w.cell? ⟨0,0,none⟩=some (.int .i64 m)) :
  Calls Tryz.prog 70 #[.string s,.string sep] w fun e w'=>e=.returned (.tuple #[.string ⟨(Lib.cut s.data.toList sep.data.toList).1.toArray⟩,.string ⟨(Lib.cut s.data.toList sep.data.toList).2.1.toArray⟩,.bool (Lib.cut s.data.toList sep.data.toList).2.2])∧∃ n,w'=w.drewN n:=Any.strings_Cut Tryz.lays145 s sep m w hs hm
def Tryz.lays138_ren:Go.Shelf.Ren:=⟨fun|138=>113|195=>142|218=>144|143=>114|219=>126|217=>153|225=>154|224=>155|267=>156|266=>166|314=>167|n=>n,fun|9=>9|3=>3|4=>4|5=>5|0=>0|46=>160|146=>175|51=>174|n=>n,fun|1=>0|n=>n⟩
theorem Tryz.lays138:Go.Proofs.Lays.n138 Tryz.prog Tryz.lays138_ren:={
 mixed:=by kernel_rfl
 f138:=Tryz.func113.trans (congrArg some (by kernel_rfl))
 f143:=Tryz.func114.trans (congrArg some (by kernel_rfl))
 f195:=Tryz.func142.trans (congrArg some (by kernel_rfl))
 f217:=Tryz.func153.trans (congrArg some (by kernel_rfl))
 f218:=Tryz.func144.trans (congrArg some (by kernel_rfl))
 f219:=Tryz.func126.trans (congrArg some (by kernel_rfl))
 f224:=Tryz.func155.trans (congrArg some (by kernel_rfl))
 f225:=Tryz.func154.trans (congrArg some (by kernel_rfl))
 f266:=Tryz.func166.trans (congrArg some (by kernel_rfl))
 f267:=Tryz.func156.trans (congrArg some (by kernel_rfl))
 f314:=Tryz.func167.trans (congrArg some (by kernel_rfl))
 t0:=Tryz.underlying0
 a0:=Tryz.isAgg0
 z0:=Tryz.sizeOf0
 v0:=Tryz.zeroValue0
 t3:=Tryz.underlying3
 a3:=Tryz.isAgg3
 z3:=Tryz.sizeOf3
 v3:=Tryz.zeroValue3
 t4:=Tryz.underlying4
 a4:=Tryz.isAgg4
 z4:=Tryz.sizeOf4
 v4:=Tryz.zeroValue4
 t5:=Tryz.underlying5
 a5:=Tryz.isAgg5
 z5:=Tryz.sizeOf5
 v5:=Tryz.zeroValue5
 t9:=Tryz.underlying9
 a9:=Tryz.isAgg9
 z9:=Tryz.sizeOf9
 v9:=Tryz.zeroValue9
 t46:=Tryz.underlying160
 a46:=Tryz.isAgg160
 z46:=Tryz.sizeOf160
 v46:=Tryz.zeroValue160
 t51:=Tryz.underlying174
 a51:=Tryz.isAgg174
 z51:=Tryz.sizeOf174
 v51:=Tryz.zeroValue174
 t146:=Tryz.underlying175
 a146:=Tryz.isAgg175
 z146:=Tryz.sizeOf175
 v146:=Tryz.zeroValue175
 g1:=by kernel_rfl }
open Go.RowKit Go.Lib in
theorem Tryz.strings_Count_one (s:ByteArray) (c:UInt8) (w:World) :
  Calls Tryz.prog 113 #[.string s,.string ⟨#[c]⟩] w fun e w'=>e=.returned (.int .i64 (Lib.countByte s.data.toList c))∧w'=w:=Any.strings_Count_one Tryz.lays138 s c w
open Go.RowKit Go.Lib in
theorem Tryz.strings_Count (s sub:ByteArray) (m:Int) (w:World) (hs:s.size < 4294967281) (hm:w.cell? ⟨0,0,none⟩=some (.int .i64 m)) (h2:2≤sub.size) :
  Calls Tryz.prog 113 #[.string s,.string sub] w fun e w'=>e=.returned (.int .i64 (Lib.countB s sub))∧w'=w:=Any.strings_Count Tryz.lays138 s sub m w hs hm h2
def Tryz.lays206_ren:Go.Shelf.Ren:=⟨fun|206=>157|n=>n,fun|9=>9|4=>4|3=>3|n=>n,fun|n=>n⟩
theorem Tryz.lays206:Go.Proofs.Lays.n206 Tryz.prog Tryz.lays206_ren:={
 mixed:=by kernel_rfl
 f206:=Tryz.func157.trans (congrArg some (by kernel_rfl))
 t3:=Tryz.underlying3
 a3:=Tryz.isAgg3
 z3:=Tryz.sizeOf3
 v3:=Tryz.zeroValue3
 t4:=Tryz.underlying4
 a4:=Tryz.isAgg4
 z4:=Tryz.sizeOf4
 v4:=Tryz.zeroValue4
 t9:=Tryz.underlying9
 a9:=Tryz.isAgg9
 z9:=Tryz.sizeOf9
 v9:=Tryz.zeroValue9 }
open Go.RowKit Go.Lib in
theorem Tryz.stringslite_HasPrefix (s p:ByteArray) (w:World) :
  Calls Tryz.prog 157 #[.string s,.string p] w fun e w'=>e=.returned (.bool (Lib.hasPrefix s.data.toList p.data.toList))∧w'=w:=Any.stringslite_HasPrefix Tryz.lays206 s p w
def Tryz.lays207_ren:Go.Shelf.Ren:=⟨fun|207=>147|n=>n,fun|9=>9|4=>4|3=>3|n=>n,fun|n=>n⟩
theorem Tryz.lays207:Go.Proofs.Lays.n207 Tryz.prog Tryz.lays207_ren:={
 mixed:=by kernel_rfl
 f207:=Tryz.func147.trans (congrArg some (by kernel_rfl))
 t3:=Tryz.underlying3
 a3:=Tryz.isAgg3
 z3:=Tryz.sizeOf3
 v3:=Tryz.zeroValue3
 t4:=Tryz.underlying4
 a4:=Tryz.isAgg4
 z4:=Tryz.sizeOf4
 v4:=Tryz.zeroValue4
 t9:=Tryz.underlying9
 a9:=Tryz.isAgg9
 z9:=Tryz.sizeOf9
 v9:=Tryz.zeroValue9 }
open Go.RowKit Go.Lib in
theorem Tryz.stringslite_HasSuffix (s p:ByteArray) (w:World) (hs:s.size≤9223372036854775807) :
  Calls Tryz.prog 147 #[.string s,.string p] w fun e w'=>e=.returned (.bool (Lib.hasSuffix s.data.toList p.data.toList))∧w'=w:=Any.stringslite_HasSuffix Tryz.lays207 s p w hs
def Tryz.lays209_ren:Go.Shelf.Ren:=⟨fun|209=>145|207=>147|n=>n,fun|9=>9|4=>4|3=>3|n=>n,fun|n=>n⟩
theorem Tryz.lays209:Go.Proofs.Lays.n209 Tryz.prog Tryz.lays209_ren:={
 mixed:=by kernel_rfl
 f207:=Tryz.func147.trans (congrArg some (by kernel_rfl))
 f209:=Tryz.func145.trans (congrArg some (by kernel_rfl))
 t3:=Tryz.underlying3
 a3:=Tryz.isAgg3
 z3:=Tryz.sizeOf3
 v3:=Tryz.zeroValue3
 t4:=Tryz.underlying4
 a4:=Tryz.isAgg4
 z4:=Tryz.sizeOf4
 v4:=Tryz.zeroValue4
 t9:=Tryz.underlying9
 a9:=Tryz.isAgg9
 z9:=Tryz.sizeOf9
 v9:=Tryz.zeroValue9 }
open Go.RowKit Go.Lib in
theorem Tryz.stringslite_TrimSuffix (s p:ByteArray) (w:World) (hs:s.size≤9223372036854775807) :
  Calls Tryz.prog 145 #[.string s,.string p] w fun e w'=>e=.returned (.string ⟨(Lib.trimSuffix s.data.toList p.data.toList).toArray⟩)∧w'=w:=Any.stringslite_TrimSuffix Tryz.lays209 s p w hs
def Tryz.lays102_ren:Go.Shelf.Ren:=⟨fun|102=>115|209=>145|207=>147|n=>n,fun|9=>9|4=>4|3=>3|n=>n,fun|n=>n⟩
theorem Tryz.lays102:Go.Proofs.Lays.n102 Tryz.prog Tryz.lays102_ren:={
 mixed:=by kernel_rfl
 f102:=Tryz.func115.trans (congrArg some (by kernel_rfl))
 f207:=Tryz.func147.trans (congrArg some (by kernel_rfl))
 f209:=Tryz.func145.trans (congrArg some (by kernel_rfl))
 t3:=Tryz.underlying3
 a3:=Tryz.isAgg3
 z3:=Tryz.sizeOf3
 v3:=Tryz.zeroValue3
 t4:=Tryz.underlying4
 a4:=Tryz.isAgg4
 z4:=Tryz.sizeOf4
 v4:=Tryz.zeroValue4
 t9:=Tryz.underlying9
 a9:=Tryz.isAgg9
 z9:=Tryz.sizeOf9
 v9:=Tryz.zeroValue9 }
open Go.RowKit Go.Lib in
theorem Tryz.strings_TrimSuffix (s p:ByteArray) (w:World) (hs:s.size≤9223372036854775807) :
  Calls Tryz.prog 115 #[.string s,.string p] w fun e w'=>e=.returned (.string ⟨(Lib.trimSuffix s.data.toList p.data.toList).toArray⟩)∧w'=w:=Any.strings_TrimSuffix Tryz.lays102 s p w hs
def Tryz.lays152_ren:Go.Shelf.Ren:=⟨fun|152=>128|137=>158|119=>159|224=>155|225=>154|217=>153|266=>166|n=>n,fun|9=>9|21=>21|3=>3|4=>4|5=>5|0=>0|46=>160|n=>n,fun|n=>n⟩
theorem Tryz.lays152:Go.Proofs.Lays.n152 Tryz.prog Tryz.lays152_ren:={
 mixed:=by kernel_rfl
 f119:=Tryz.func159.trans (congrArg some (by kernel_rfl))
 f137:=Tryz.func158.trans (congrArg some (by kernel_rfl))
 f152:=Tryz.func128.trans (congrArg some (by kernel_rfl))
 f217:=Tryz.func153.trans (congrArg some (by kernel_rfl))
 f224:=Tryz.func155.trans (congrArg some (by kernel_rfl))
 f225:=Tryz.func154.trans (congrArg some (by kernel_rfl))
 f266:=Tryz.func166.trans (congrArg some (by kernel_rfl))
 t0:=Tryz.underlying0
 a0:=Tryz.isAgg0
 z0:=Tryz.sizeOf0
 v0:=Tryz.zeroValue0
 t3:=Tryz.underlying3
 a3:=Tryz.isAgg3
 z3:=Tryz.sizeOf3
 v3:=Tryz.zeroValue3
 t4:=Tryz.underlying4
 a4:=Tryz.isAgg4
 z4:=Tryz.sizeOf4
 v4:=Tryz.zeroValue4
 t5:=Tryz.underlying5
 a5:=Tryz.isAgg5
 z5:=Tryz.sizeOf5
 v5:=Tryz.zeroValue5
 t9:=Tryz.underlying9
 a9:=Tryz.isAgg9
 z9:=Tryz.sizeOf9
 v9:=Tryz.zeroValue9
 t21:=Tryz.underlying21
 a21:=Tryz.isAgg21
 z21:=Tryz.sizeOf21
 v21:=Tryz.zeroValue21
 t46:=Tryz.underlying160
 a46:=Tryz.isAgg160
 z46:=Tryz.sizeOf160
 v46:=Tryz.zeroValue160 }
open Go.RowKit Go.Lib in
theorem Tryz.strings_IndexRune_ascii (s:ByteArray) (r:Int) (w:World) (h0:0≤r) (h1:r < 128) :
  Calls Tryz.prog 128 #[.string s,.int .i32 r] w fun e w'=>e=.returned (.int .i64 (Lib.indexByte s.data.toList r.toNat.toUInt8))∧w'=w:=Any.strings_IndexRune_ascii Tryz.lays152 s r w h0 h1
def Tryz.lays226_ren:Go.Shelf.Ren:=⟨fun|226=>129|n=>n,fun|3=>3|4=>4|n=>n,fun|n=>n⟩
theorem Tryz.lays226:Go.Proofs.Lays.n226 Tryz.prog Tryz.lays226_ren:={
 mixed:=by kernel_rfl
 f226:=Tryz.func129.trans (congrArg some (by kernel_rfl))
 t3:=Tryz.underlying3
 a3:=Tryz.isAgg3
 z3:=Tryz.sizeOf3
 v3:=Tryz.zeroValue3
 t4:=Tryz.underlying4
 a4:=Tryz.isAgg4
 z4:=Tryz.sizeOf4
 v4:=Tryz.zeroValue4 }
open Go.RowKit Go.Lib in
theorem Tryz.strings_shouldUseASCIISet (n:Int) (w:World) :
  Calls Tryz.prog 129 #[.int .i64 n] w fun e w'=>e=.returned (.bool (decide (8 < n)))∧w'=w:=Any.strings_shouldUseASCIISet Tryz.lays226 n w
def Tryz.lays153_ren:Go.Shelf.Ren:=⟨fun|153=>98|152=>128|226=>129|227=>130|228=>131|137=>158|119=>159|224=>155|225=>154|217=>153|266=>166|n=>n,fun|9=>9|3=>3|4=>4|5=>5|21=>21|117=>149|116=>148|0=>0|46=>160|124=>162|n=>n,fun|n=>n⟩
theorem Tryz.lays153:Go.Proofs.Lays.n153 Tryz.prog Tryz.lays153_ren:={
 mixed:=by kernel_rfl
 f119:=Tryz.func159.trans (congrArg some (by kernel_rfl))
 f137:=Tryz.func158.trans (congrArg some (by kernel_rfl))
 f152:=Tryz.func128.trans (congrArg some (by kernel_rfl))
 f153:=Tryz.func98.trans (congrArg some (by kernel_rfl))
 f217:=Tryz.func153.trans (congrArg some (by kernel_rfl))
 f224:=Tryz.func155.trans (congrArg some (by kernel_rfl))
 f225:=Tryz.func154.trans (congrArg some (by kernel_rfl))
 f226:=Tryz.func129.trans (congrArg some (by kernel_rfl))
 f227:=Tryz.func130.trans (congrArg some (by kernel_rfl))
 f228:=Tryz.func131.trans (congrArg some (by kernel_rfl))
 f266:=Tryz.func166.trans (congrArg some (by kernel_rfl))
 t0:=Tryz.underlying0
 a0:=Tryz.isAgg0
 z0:=Tryz.sizeOf0
 v0:=Tryz.zeroValue0
 t3:=Tryz.underlying3
 a3:=Tryz.isAgg3
 z3:=Tryz.sizeOf3
 v3:=Tryz.zeroValue3
 t4:=Tryz.underlying4
 a4:=Tryz.isAgg4
 z4:=Tryz.sizeOf4
 v4:=Tryz.zeroValue4
 t5:=Tryz.underlying5
 a5:=Tryz.isAgg5
 z5:=Tryz.sizeOf5
 v5:=Tryz.zeroValue5
 t9:=Tryz.underlying9
 a9:=Tryz.isAgg9
 z9:=Tryz.sizeOf9
 v9:=Tryz.zeroValue9
 t21:=Tryz.underlying21
 a21:=Tryz.isAgg21
 z21:=Tryz.sizeOf21
 v21:=Tryz.zeroValue21
 t46:=Tryz.underlying160
 a46:=Tryz.isAgg160
 z46:=Tryz.sizeOf160
 v46:=Tryz.zeroValue160
 t116:=Tryz.underlying148
 a116:=Tryz.isAgg148
 z116:=Tryz.sizeOf148
 t117:=Tryz.underlying149
 a117:=Tryz.isAgg149
 z117:=Tryz.sizeOf149
 v117:=Tryz.zeroValue149
 t124:=Tryz.underlying162
 a124:=Tryz.isAgg162
 z124:=Tryz.sizeOf162
 v124:=Tryz.zeroValue162 }
open Go.RowKit Go.Lib in
theorem Tryz.strings_IndexAny_long (hv116:∀ w,(zeroValue 148).run Tryz.prog w=.ok (.agg (Array.replicate 256 (.bool false))) w) (s chars:ByteArray) (w:World) (h2:2≤chars.size) (h8:8 < s.size) (hs:s.size < 4294967281) (hcs:chars.size < 4294967281) (hascii:∀ (j:Nat) b,chars.data.toList[j]?=some b→b.toNat < 128) :
  Calls Tryz.prog 98 #[.string s,.string chars] w fun e w'=>e=.returned (.int .i64 (Lib.indexAny s.data.toList chars.data.toList))∧w'=((w.alloc (.cells (Lib.setCells chars.data.toList) 148)).alloc (.cells (Lib.setCells chars.data.toList) 148)):=Any.strings_IndexAny_long Tryz.lays153 hv116 (by kernel_rfl) s chars w h2 h8 hs hcs hascii
open Go.RowKit Go.Lib in
theorem Tryz.strings_IndexAny (hv116:∀ w,(zeroValue 148).run Tryz.prog w=.ok (.agg (Array.replicate 256 (.bool false))) w) (s chars:ByteArray) (w:World) (hs:s.size < 4294967281) (hcs:chars.size < 4294967281) (has:∀ (j:Nat) b,s.data.toList[j]?=some b→b.toNat < 128) (hac:∀ (j:Nat) b,chars.data.toList[j]?=some b→b.toNat < 128) :
  Calls Tryz.prog 98 #[.string s,.string chars] w fun e w'=>e=.returned (.int .i64 (Lib.indexAny s.data.toList chars.data.toList))∧Below w.heap.size w w':=Any.strings_IndexAny Tryz.lays153 hv116 (by kernel_rfl) s chars w hs hcs has hac
def Tryz.lays110_ren:Go.Shelf.Ren:=⟨fun|110=>56|109=>83|n=>n,fun|31=>29|9=>9|4=>4|3=>3|0=>0|n=>n,fun|n=>n⟩
theorem Tryz.lays110:Go.Proofs.Lays.n110 Tryz.prog Tryz.lays110_ren:={
 mixed:=by kernel_rfl
 f109:=Tryz.func83.trans (congrArg some (by kernel_rfl))
 f110:=Tryz.func56.trans (congrArg some (by kernel_rfl))
 t0:=Tryz.underlying0
 a0:=Tryz.isAgg0
 z0:=Tryz.sizeOf0
 v0:=Tryz.zeroValue0
 t3:=Tryz.underlying3
 a3:=Tryz.isAgg3
 z3:=Tryz.sizeOf3
 v3:=Tryz.zeroValue3
 t4:=Tryz.underlying4
 a4:=Tryz.isAgg4
 z4:=Tryz.sizeOf4
 v4:=Tryz.zeroValue4
 t9:=Tryz.underlying9
 a9:=Tryz.isAgg9
 z9:=Tryz.sizeOf9
 v9:=Tryz.zeroValue9
 t31:=Tryz.underlying29
 a31:=Tryz.isAgg29
 z31:=Tryz.sizeOf29
 v31:=Tryz.zeroValue29 }
open Go.Lib in
theorem Tryz.slices_Contains_string (b off n c:Nat) (zs:List ByteArray) (x:ByteArray) (w:World) (hz:n≤zs.length) (hbig:n≤9223372036854775807) (hc:∀ j,j < zs.length→w.cell? ⟨b,off+j,none⟩=some (.string (zs.getD j ByteArray.empty))) :
  Calls Tryz.prog 56 #[.slice (some ⟨b,off,none⟩) n c,.string x] w fun e w'=>e=.returned (.bool (Lib.containsS (zs.take n) x))∧w'=w:=Any.slices_Contains_string Tryz.lays110 b off n c zs x w hz hbig hc
open Go.Lib in
theorem Tryz.slices_Contains_string_empty (a:Option Addr) (c:Nat) (x:ByteArray) (w:World) :
  Calls Tryz.prog 56 #[.slice a 0 c,.string x] w fun e w'=>e=.returned (.bool false)∧w'=w:=Any.slices_Contains_string_empty Tryz.lays110 a c x w
def Tryz.laysNm216_ren:Go.Shelf.Ren:=⟨fun|16=>133|n=>n,fun|24=>29|9=>9|4=>4|n=>n,fun|n=>n⟩
theorem Tryz.laysNm216:Go.Proofs.Lays2.n16 Tryz.prog Tryz.laysNm216_ren:={
 mixed:=by kernel_rfl
 f16:=Tryz.func133.trans (congrArg some (by kernel_rfl))
 t4:=Tryz.underlying4
 a4:=Tryz.isAgg4
 z4:=Tryz.sizeOf4
 v4:=Tryz.zeroValue4
 t9:=Tryz.underlying9
 a9:=Tryz.isAgg9
 z9:=Tryz.sizeOf9
 v9:=Tryz.zeroValue9
 t24:=Tryz.underlying29
 a24:=Tryz.isAgg29
 z24:=Tryz.sizeOf29
 v24:=Tryz.zeroValue29
 i9:=by kernel_rfl }
open Go.RowKit Go.Lib in
theorem Tryz.slices_Clone_string (b off n c:Nat) (zs:List ByteArray) (w:World) (hz:n≤zs.length) (hbig:n * 16≤140737488355328) (hc:∀ j,j < zs.length→w.cell? ⟨b,off+j,none⟩=some (.string (zs.getD j ByteArray.empty))) :
  Calls Tryz.prog 133 #[.slice (some ⟨b,off,none⟩) n c] w fun e w'=>∃ v',e=.returned v'∧w'.ownsRow w.heap.size 9 1 v' n ((zs.take n).map (Value.string))∧v'≠.slice none 0 0∧Below w.heap.size w w':=Any.slices_Clone_string Tryz.laysNm216 b off n c zs w hz hbig hc
open Go.RowKit Go.Lib in
theorem Tryz.slices_Clone_string_nil (n c:Nat) (w:World) :
  Calls Tryz.prog 133 #[.slice none n c] w fun e w'=>e=.returned (.slice none 0 0)∧w'=w:=Any.slices_Clone_string_nil Tryz.laysNm216 n c w
open Go.RowKit Go.Lib in
theorem Tryz.slices_Clone_string_zero (a:Addr) (c:Nat) (w:World) :
  Calls Tryz.prog 133 #[.slice (some a) 0 c] w fun e w'=>∃ v',e=.returned v'∧w'.ownsRow w.heap.size 9 1 v' 0 []∧v'≠.slice none 0 0∧Below w.heap.size w w':=Any.slices_Clone_string_zero Tryz.laysNm216 a c w
end Go.Proofs
end
section
namespace Go.Proofs.YtloijngehifbmaaGreatDoor.P
open Go.RowKit Go.Proofs.YtloijngehifbmaaGreatDoorW.PrintWords Go.Proofs.YtloijngehifbmaaGreatDoorW.PrintLast Go.Proofs.YtloijngehifbmaaGreatDoorW.PrintMore
attribute [local go_sem] max2_int min2_int max_two min_two max_three min_three max_four min_four
set_option linter.unusedVariables false
set_option linter.unusedSimpArgs false
set_option maxHeartbeats 8000000
set_option maxRecDepth 100000
def laws_szPage.f (a0_0:ByteArray) (a0_1:ByteArray) (a0_2:ByteArray) (a0_3:Int) (a1:Int):Option (Int):=if (wrap64 (a1 - (a0_0.size:Int))) < 0 then (some (-1)) else (if (wrap64 ((wrap64 (a1 - (a0_0.size:Int))) - (a0_1.size:Int))) < 0 then (some (-1)) else (if (wrap64 ((wrap64 ((wrap64 (a1 - (a0_0.size:Int))) - (a0_1.size:Int))) - (a0_2.size:Int))) < 0 then (some (-1)) else (some (wrap64 ((wrap64 ((wrap64 (a1 - (a0_0.size:Int))) - (a0_1.size:Int))) - (a0_2.size:Int))))))
theorem laws_szPage.calls (a0_0:ByteArray) (a0_1:ByteArray) (a0_2:ByteArray) (a0_3:Int) (a1:Int) (r:Int) (w:World) (h:laws_szPage.f a0_0 a0_1 a0_2 a0_3 a1=some r) :
  Calls Tryz.prog 23 #[.agg #[.string a0_0,.string a0_1,.string a0_2,.int .i64 a0_3],.int .i64 a1] w fun e w'=>e=.returned (.int .i64 r)∧Below w.heap.size w w':=by
 have hu49:=Tryz.underlying49;have HB:=A_ (Below.refl w.heap.size w);unfold laws_szPage.f at h
 have H:=h;clear h;have HF3:=A_ H;clear H;go_enter Tryz.func23,Tryz.ntmps23;go_upto_if 11 with (first|(refine boxF 2 #[.string a0_0,.string a0_1,.string a0_2,.int .i64 a0_3] 49 ?_;intro gb101 hg w4 BK101 hb;have GE101:=geB hg (zz0 HB);replace HB:=A_ (bS (zz0 HB) hb);clear hb hg;obtain ⟨_,_,_,_,_,_,_,_⟩:=cf4 BK101))
 obtain ⟨H⟩:=HF3;replace H:=iteEd H;rcases H with ⟨c6b0,H⟩|⟨c6b0,H⟩
 ·(first|rw [c6b0]|(simp only [i64_w,i32_w];rw [c6b0])|skip)
  obtain rfl:=sI H;go_wp2
  go_ret
  exact ⟨zz1,(zz2 HB GE101)⟩
 ·(first|rw [c6b0]|(simp only [i64_w,i32_w];rw [c6b0])|skip)
  replace H:=iteEd H;rcases H with ⟨c7b0,H⟩|⟨c7b0,H⟩
  ·obtain rfl:=sI H
   obtain ⟨_,_,_,_,_,_,_,_⟩:=cf4 BK101;go_wp2
   go_ret
   exact ⟨zz1,(zz2 HB GE101)⟩
  ·replace H:=iteEd H
   rcases H with ⟨c9b0,H⟩|⟨c9b0,H⟩
   ·obtain rfl:=sI H
    obtain ⟨_,_,_,_,_,_,_,_⟩:=cf4 BK101;go_wp2
    go_ret
    exact ⟨zz1,(zz2 HB GE101)⟩
   ·obtain rfl:=sI H
    obtain ⟨_,_,_,_,_,_,_,_⟩:=cf4 BK101;go_wp2
    go_ret
    exact ⟨zz1,(zz2 HB GE101)⟩
def spec_l6In.f (a0:Int) (a1:Int) (a2:Int):Option (Bool):=if a0 ≥ a1 then (some (decide (a0≤a2))) else (some false)
theorem spec_l6In.calls (a0:Int) (a1:Int) (a2:Int) (r:Bool) (w:World) (h:spec_l6In.f a0 a1 a2=some r) :
  Calls Tryz.prog 65 #[.int .i64 a0,.int .i64 a1,.int .i64 a2] w fun e w'=>e=.returned (.bool r)∧Drawn0 w w':=by
 unfold spec_l6In.f at h
 have H:=h;clear h;replace H:=iteEe H;rcases H with ⟨c4b0,H⟩|⟨c4b0,H⟩
 ·obtain rfl:=sI H
  go_enter Tryz.func65,Tryz.ntmps65;go_wp2
  go_ret
  exact ⟨zz3,zz4⟩
 ·obtain rfl:=sI H
  go_enter Tryz.func65,Tryz.ntmps65;go_wp2
  go_ret
  exact ⟨zz3,zz4⟩
def spec_l1Plain.f (a0:Int):Option (Bool):=if a0 ≥ 97 then (if a0≤122 then (some true) else (if a0 ≥ 48 then (if a0≤57 then (some true) else (if a0=46 then (some true) else (some (a0 == 45)))) else (if a0=46 then (some true) else (some (a0 == 45))))) else (if a0 ≥ 48 then (if a0≤57 then (some true) else (if a0=46 then (some true) else (some (a0 == 45)))) else (if a0=46 then (some true) else (some (a0 == 45))))
theorem spec_l1Plain.calls (a0:Int) (r:Bool) (w:World) (h:spec_l1Plain.f a0=some r) :
  Calls Tryz.prog 149 #[.int .u8 a0] w fun e w'=>e=.returned (.bool r)∧Drawn0 w w':=by
 unfold spec_l1Plain.f at h
 have H:=h;clear h;replace H:=iteEe H;rcases H with ⟨c2b0,H⟩|⟨c2b0,H⟩
 ·replace H:=iteEd H
  rcases H with ⟨c3b0,H⟩|⟨c3b0,H⟩
  ·obtain rfl:=sI H
   go_enter Tryz.func149,Tryz.ntmps149;go_wp2
   go_ret
   exact ⟨zz3,zz4⟩
  ·replace H:=iteEe H
   rcases H with ⟨c4b0,H⟩|⟨c4b0,H⟩
   ·replace H:=iteEd H
    rcases H with ⟨c5b0,H⟩|⟨c5b0,H⟩
    ·obtain rfl:=sI H
     go_enter Tryz.func149,Tryz.ntmps149;go_wp2
     go_ret
     exact ⟨zz3,zz4⟩
    ·replace H:=iteEq H
     rcases H with ⟨c6b0,c6b1,H⟩|⟨c6b0,c6b1,c6,H⟩
     ·obtain rfl:=sI H
      go_enter Tryz.func149,Tryz.ntmps149;go_wp2
      go_ret
      exact ⟨zz3,zz4⟩
     ·obtain rfl:=sI H
      go_enter Tryz.func149,Tryz.ntmps149;go_wp2
      go_ret
      exact ⟨zz3,zz4⟩
   ·replace H:=iteEq H
    rcases H with ⟨c7b0,c7b1,H⟩|⟨c7b0,c7b1,c7,H⟩
    ·obtain rfl:=sI H
     go_enter Tryz.func149,Tryz.ntmps149;go_wp2
     go_ret
     exact ⟨zz3,zz4⟩
    ·obtain rfl:=sI H
     go_enter Tryz.func149,Tryz.ntmps149;go_wp2
     go_ret
     exact ⟨zz3,zz4⟩
 ·replace H:=iteEe H
  rcases H with ⟨c8b0,H⟩|⟨c8b0,H⟩
  ·replace H:=iteEd H
   rcases H with ⟨c9b0,H⟩|⟨c9b0,H⟩
   ·obtain rfl:=sI H
    go_enter Tryz.func149,Tryz.ntmps149;go_wp2
    go_ret
    exact ⟨zz3,zz4⟩
   ·replace H:=iteEq H
    rcases H with ⟨c10b0,c10b1,H⟩|⟨c10b0,c10b1,c10,H⟩
    ·obtain rfl:=sI H
     go_enter Tryz.func149,Tryz.ntmps149;go_wp2
     go_ret
     exact ⟨zz3,zz4⟩
    ·obtain rfl:=sI H
     go_enter Tryz.func149,Tryz.ntmps149;go_wp2
     go_ret
     exact ⟨zz3,zz4⟩
  ·replace H:=iteEq H
   rcases H with ⟨c11b0,c11b1,H⟩|⟨c11b0,c11b1,c11,H⟩
   ·obtain rfl:=sI H
    go_enter Tryz.func149,Tryz.ntmps149;go_wp2
    go_ret
    exact ⟨zz3,zz4⟩
   ·obtain rfl:=sI H
    go_enter Tryz.func149,Tryz.ntmps149;go_wp2
    go_ret
    exact ⟨zz3,zz4⟩
def spec_l1Sign.f (a0:Int):Option (ByteArray):=if 0≤(wrap64 (Int.tdiv a0 16)) then (if (wrap64 (Int.tdiv a0 16))≤(wrap64 ((wrap64 (Int.tdiv a0 16))+1)) then (if (wrap64 ((wrap64 (Int.tdiv a0 16))+1))≤16 then (if 1+((⟨#[48,49,50,51,52,53,54,55,56,57,65,66,67,68,69,70]⟩:ByteArray).extract ((wrap64 (Int.tdiv a0 16)):Int).toNat ((wrap64 ((wrap64 (Int.tdiv a0 16))+1)):Int).toNat).size≤9223372036854775807 then (if 0≤(Int.tmod a0 16) then (if (Int.tmod a0 16)≤(wrap64 ((Int.tmod a0 16)+1)) then (if (wrap64 ((Int.tmod a0 16)+1))≤16 then (if 1+(((⟨#[48,49,50,51,52,53,54,55,56,57,65,66,67,68,69,70]⟩:ByteArray).extract ((wrap64 (Int.tdiv a0 16)):Int).toNat ((wrap64 ((wrap64 (Int.tdiv a0 16))+1)):Int).toNat).size)+((⟨#[48,49,50,51,52,53,54,55,56,57,65,66,67,68,69,70]⟩:ByteArray).extract ((Int.tmod a0 16):Int).toNat ((wrap64 ((Int.tmod a0 16)+1)):Int).toNat).size≤9223372036854775807 then (some (((⟨#[37]⟩:ByteArray)++((⟨#[48,49,50,51,52,53,54,55,56,57,65,66,67,68,69,70]⟩:ByteArray).extract ((wrap64 (Int.tdiv a0 16)):Int).toNat ((wrap64 ((wrap64 (Int.tdiv a0 16))+1)):Int).toNat))++((⟨#[48,49,50,51,52,53,54,55,56,57,65,66,67,68,69,70]⟩:ByteArray).extract ((Int.tmod a0 16):Int).toNat ((wrap64 ((Int.tmod a0 16)+1)):Int).toNat))) else (none)) else (none)) else (none)) else (none)) else (none)) else (none)) else (none)) else (none)
theorem spec_l1Sign.calls (a0:Int) (r:ByteArray) (w:World) (h:spec_l1Sign.f a0=some r) :
  Calls Tryz.prog 150 #[.int .i64 a0] w fun e w'=>e=.returned (.string r)∧Drawn0 w w':=by
 unfold spec_l1Sign.f at h
 have H:=h;clear h;obtain ⟨ji2,hji2⟩:∃ j_:Int,(wrap64 (Int.tdiv a0 16))=j_:=⟨_,rfl⟩;(first|rw [hji2] at H|simp only [hji2] at H)
 have hji2w:(IntKind.i64.wrap (Int.tdiv a0 16))=ji2:=(i64_w _).trans hji2;replace H:=iteE H;rcases H with ⟨c3,H⟩|⟨c3,H⟩
 ·have c3b0:=eq_true c3
  have c3b1:=dT c3;clear c3;replace H:=iteN H;obtain ⟨c4,H⟩:=H;have c4b0:=eq_true c4;have c4b1:=dT c4;replace H:=iteN H;obtain ⟨c5,H⟩:=H;have c5b0:=eq_true c5;have c5b1:=dT c5;replace H:=iteN H;obtain ⟨c6,H⟩:=H;have c6b0:=eq_true c6;have c6b1:=dT c6;try have c6b2:(9223372036854775807 < 1+((⟨#[48,49,50,51,52,53,54,55,56,57,65,66,67,68,69,70]⟩:ByteArray).extract ((ji2):Int).toNat ((wrap64 ((ji2)+1)):Int).toNat).size)=False:=eq_false (Nat.not_lt.2 c6)
  obtain ⟨ji7,hji7⟩:∃ j_:Int,(Int.tmod a0 16)=j_:=⟨_,rfl⟩;(first|rw [hji7] at H|simp only [hji7] at H)
  replace H:=iteN H;obtain ⟨c8,H⟩:=H;have c8b0:=eq_true c8;have c8b1:=dT c8;clear c8;replace H:=iteN H;obtain ⟨c9,H⟩:=H;have c9b0:=eq_true c9;have c9b1:=dT c9;replace H:=iteN H;obtain ⟨c10,H⟩:=H;have c10b0:=eq_true c10;have c10b1:=dT c10;replace H:=iteN H;obtain ⟨c11,H⟩:=H;have c11b0:=eq_true c11;have c11b1:=dT c11;try have c11b2:(9223372036854775807 < 1+(((⟨#[48,49,50,51,52,53,54,55,56,57,65,66,67,68,69,70]⟩:ByteArray).extract ((ji2):Int).toNat ((wrap64 ((ji2)+1)):Int).toNat).size)+((⟨#[48,49,50,51,52,53,54,55,56,57,65,66,67,68,69,70]⟩:ByteArray).extract ((ji7):Int).toNat ((wrap64 ((ji7)+1)):Int).toNat).size)=False:=eq_false (Nat.not_lt.2 c11)
  obtain rfl:=sI H;go_enter Tryz.func150,Tryz.ntmps150;go_wp2
  repeat (go_quiet (fail);try go_wp2)
  go_ret
  exact ⟨(by first|rfl|(simp only [i64_w,i32_w];done)|(simp only [aid_isEmpty,aid_isEmpty2];done)|(simp;done)|(simp only [← hji2,← hji7] <;> (first|rfl|simp))|(simp [*];done)),zz4⟩
 ·exact absurd H (by simp)
def spec_l11Door.f (a0:ByteArray):Option (ByteArray):=if 2+a0.size≤9223372036854775807 then (if 2+a0.size+7≤9223372036854775807 then (some (((⟨#[47,47]⟩:ByteArray)++a0)++(⟨#[47,110,111,116,105,99,101]⟩:ByteArray))) else (none)) else (none)
theorem spec_l11Door.calls (a0:ByteArray) (r:ByteArray) (w:World) (h:spec_l11Door.f a0=some r) :
  Calls Tryz.prog 36 #[.string a0] w fun e w'=>e=.returned (.string r)∧Drawn0 w w':=by
 unfold spec_l11Door.f at h
 have H:=h;clear h;replace H:=iteE H;rcases H with ⟨c2,H⟩|⟨c2,H⟩
 ·have c2b0:=eq_true c2
  have c2b1:=dT c2;try have c2b2:(9223372036854775807 < 2+a0.size)=False:=eq_false (Nat.not_lt.2 c2)
  replace H:=iteN H;obtain ⟨c3,H⟩:=H;have c3b0:=eq_true c3;have c3b1:=dT c3;try have c3b2:(9223372036854775807 < 2+a0.size+7)=False:=eq_false (Nat.not_lt.2 c3)
  obtain rfl:=sI H;go_enter Tryz.func36,Tryz.ntmps36;go_wp2
  go_ret
  exact ⟨zz3,zz4⟩
 ·exact absurd H (by simp)
end Go.Proofs.YtloijngehifbmaaGreatDoor.P
end
section
namespace Go.Proofs.YtloijngehifbmaaGreatDoor.P
open Go.RowKit Go.Proofs.YtloijngehifbmaaGreatDoorW.PrintWords Go.Proofs.YtloijngehifbmaaGreatDoorW.PrintLast Go.Proofs.YtloijngehifbmaaGreatDoorW.PrintMore
attribute [local go_sem] max2_int min2_int max_two min_two max_three min_three max_four min_four
set_option linter.unusedVariables false
set_option linter.unusedSimpArgs false
def spec_l11Barred.f (a0:ByteArray):Option (List ByteArray×(List (S93))×Int):=some ((([a0]:List ByteArray)),(([(⟨false,(⟨#[47]⟩:ByteArray)⟩:S93)]:List (S93))),0)
set_option maxHeartbeats 8000000 in
set_option maxRecDepth 100000 in
theorem spec_l11Barred.calls (a0:ByteArray) (r1:List ByteArray) (r2:List (S93)) (r3:Int) (w:World) (h:spec_l11Barred.f a0=some (r1,r2,r3)) :
  Calls Tryz.prog 76 #[.string a0] w fun e w'=>∃ v0_ v1_:Value,e=.returned (.agg #[v0_,v1_,.int .i64 r3])∧Kd.R Kd.string 9 w' w.heap.size (fun _=>True) v0_ r1∧Kd.R k93 93 w' w.heap.size (fun _=>True) v1_ r2∧Below w.heap.size w w':=by
 have hu32:=Tryz.underlying32
 have hu93:=Tryz.underlying93
 have HB:=Aside0.mk (Below.refl w.heap.size w)
 have H:(some ((([a0]:List ByteArray)),(([(⟨false,(⟨#[47]⟩:ByteArray)⟩:S93)]:List (S93))),0))=some (r1,r2,r3):=h
 clear h
 obtain ⟨y292,hy292⟩:∃ y_:List ByteArray,y_=(([a0]:List ByteArray)):=⟨_,rfl⟩
 replace H:(some (y292,(([(⟨false,(⟨#[47]⟩:ByteArray)⟩:S93)]:List (S93))),0))=some (r1,r2,r3):=by first|(rw [hy292];with_reducible exact H)|(have H2_:=(Option.bind_some _ _).symm.trans H;rw [hy292];with_reducible exact H2_)|(have H2_:=(Option.bind_some _ _).symm.trans H;with_reducible exact H2_)|with_reducible exact H|(rw [hy292];exact H)|exact H
 have Ny292:=Aside0.mk hy292
 clear hy292
 obtain ⟨y295,hy295⟩:∃ y_:List (S93),y_=(([(⟨false,(⟨#[47]⟩:ByteArray)⟩:S93)]:List (S93))):=⟨_,rfl⟩
 replace H:(some (y292,y295,0))=some (r1,r2,r3):=by first|(rw [hy295];with_reducible exact H)|(have H2_:=(Option.bind_some _ _).symm.trans H;rw [hy295];with_reducible exact H2_)|(have H2_:=(Option.bind_some _ _).symm.trans H;with_reducible exact H2_)|with_reducible exact H|(rw [hy295];exact H)|exact H
 have Ny295:=Aside0.mk hy295
 clear hy295
 simp only [Option.some.injEq,Prod.mk.injEq] at H
 obtain ⟨rfl,rfl,rfl⟩:=H
 go_enter Tryz.func76,Tryz.ntmps76
 go_wp2_with (first|((with_reducible refine gate_dst (N:=2) rfl ?_);refine box_event ?hg (N:=2) ?hd (cs:=#[.slice none 0 0,.slice none 0 0,.int .i64 0]) (t:=32) ?hr ?_;(case hd=>rfl);(case hg=>rfl);(case hr=>first|(go_simp;done)|(go_simp;rfl));intro gb291 hg w2 hbox hb;have n0_:=Aside0.mk (below_step (by repeat (first|(with_reducible first|exact HB.out|apply below_alloc|apply pw_below_drewN|apply below_drew1)|exact HB.out)) hb);have n1_:=Aside0.mk (hbox);have n2_:=Aside0.mk ((by rw [hg];exact (below_size (by repeat (first|(with_reducible first|exact HB.out|apply below_alloc|apply pw_below_drewN|apply below_drew1)|exact HB.out))):w.heap.size≤gb291));have n3_:=Aside0.mk ((by rw [hg];exact (below_size (by repeat (first|(with_reducible first|exact HB.out|apply below_alloc|apply pw_below_drewN|apply below_drew1)|exact HB.out))):w.heap.size≤gb291));clear HB;have HB:=n0_;have BK291:=n1_;have GW291:=n2_;have GE291:=n3_;clear n0_ n1_ n2_ n3_;clear hb hbox hg)|((with_reducible refine gate_dst (N:=4) rfl ?_);refine Kd.R_lit Kd.string _ 9 ?hg (N:=4) ?hd (xs:=([a0]:List ByteArray)) (inner:=[.string a0]) (ok:=fun _=>True) (okp:=fun _=>True) ?hr ?hp (fun _ hk=>hk) trivial (Below.refl _ _) (Nat.le_refl _) (by simp) ?_;(case hd=>rfl);(case hg=>rfl);(case hr=>first|(go_simp;done)|(go_simp;rfl));(case hp=>exact (Reps.one (show Kd.M Kd.string _ _ _ a0 [.string a0] from rfl) (Reps.none _ _)));intro v293 w3 ho4 hb hg_ hnew_;clear hg_ hnew_;(first|rw [← Ny292.out] at ho4|(simp only [Int.reduceToNat] at ho4;rw [← Ny292.out] at ho4));have n0_:=Aside0.mk (Kd.R_lower ho4 (below_size (by repeat (first|(with_reducible first|exact HB.out|apply below_alloc|apply pw_below_drewN|apply below_drew1|refine below_set ?_ GE291.out)|exact HB.out))));have n1_:=Aside0.mk (blk_below (g:=gb291) (o:=.cells #[.slice none 0 0,.slice none 0 0,.int .i64 0] 32 (0,0)) (by (with_reducible repeat (first|refine blk_drewN ?_ _|refine blk_drew ?_|refine blk_alloc ?_ _));exact BK291.out) hb);have n2_:=Aside0.mk (below_step (by repeat (first|(with_reducible first|exact HB.out|apply below_alloc|apply pw_below_drewN|apply below_drew1|refine below_set ?_ GE291.out)|exact HB.out)) hb);clear BK291;clear HB;have HO294:=n0_;have BK291:=n1_;have HB:=n2_;clear n0_ n1_ n2_;clear hb ho4)|((with_reducible refine gate_dst (N:=6) rfl ?_);refine Kd.R_lit k93 _ 93 ?hg (N:=6) ?hd (xs:=([(⟨false,(⟨#[47]⟩:ByteArray)⟩:S93)]:List (S93))) (inner:=[.bool false,.string (⟨#[47]⟩:ByteArray)]) (ok:=fun _=>True) (okp:=fun _=>True) ?hr ?hp (fun _ hk=>hk) trivial (Below.refl _ _) (Nat.le_refl _) (by simp) ?_;(case hd=>rfl);(case hg=>rfl);(case hr=>first|(go_simp;done)|(go_simp;rfl));(case hp=>exact (Reps.c2 (show Kd.M k93 _ _ _ (⟨false,(⟨#[47]⟩:ByteArray)⟩:S93) [.bool false,.string (⟨#[47]⟩:ByteArray)] from (k93_mkM _ _ _ (⟨false,(⟨#[47]⟩:ByteArray)⟩:S93) )) (Reps.none _ _)));intro v296 w5 ho6 hb hg_ hnew_;clear hg_ hnew_;(first|rw [← Ny295.out] at ho6|(simp only [Int.reduceToNat] at ho6;rw [← Ny295.out] at ho6));have n0_:=Aside0.mk (Kd.R_below (by (with_reducible repeat (first|apply Kd.R_alloc|apply Kd.R_drewN|apply Kd.R_drew));exact HO294.out) hb);have n1_:=Aside0.mk (Kd.R_lower ho6 (below_size (by repeat (first|(with_reducible first|exact HB.out|apply below_alloc|apply pw_below_drewN|apply below_drew1|refine below_set ?_ GE291.out)|exact HB.out))));have n2_:=Aside0.mk (blk_below (g:=gb291) (o:=.cells #[.slice none 0 0,.slice none 0 0,.int .i64 0] 32 (0,0)) (by (with_reducible repeat (first|refine blk_drewN ?_ _|refine blk_drew ?_|refine blk_alloc ?_ _));exact BK291.out) hb);have n3_:=Aside0.mk (below_step (by repeat (first|(with_reducible first|exact HB.out|apply below_alloc|apply pw_below_drewN|apply below_drew1|refine below_set ?_ GE291.out)|exact HB.out)) hb);clear HO294;clear BK291;clear HB;have HO294:=n0_;have HO297:=n1_;have BK291:=n2_;have HB:=n3_;clear n0_ n1_ n2_ n3_;clear hb ho6;obtain ⟨Ao7,co7,eo7⟩:=Kd.R_slice HO297.out;subst eo7;obtain ⟨Ao8,co8,eo8⟩:=Kd.R_slice HO294.out;subst eo8;have hcz9_0:w5.cell? ⟨gb291,0,none⟩=some (.slice none 0 0):=(blk_cell BK291.out 0).trans rfl;have hcz9_1:w5.cell? ⟨gb291,1,none⟩=some (.slice none 0 0):=(blk_cell BK291.out 1).trans rfl;have hcz9_2:w5.cell? ⟨gb291,2,none⟩=some (.int .i64 0):=(blk_cell BK291.out 2).trans rfl;have hfz9_0:=blk_frozen BK291.out 0;have hfz9_1:=blk_frozen BK291.out 1;have hfz9_2:=blk_frozen BK291.out 2))
 refine bodyPost_ret (results_cell_row rfl _ _ gb291 32 #[.slice Ao8 y292.length co8,.slice Ao7 y295.length co7,.int .i64 0] (0,0) _ rfl (by (with_reducible repeat (first|refine blk_drewN ?_ _|refine blk_drew ?_|refine blk_alloc ?_ _));refine blk_put (cs:=#[.slice Ao8 y292.length co8,.slice Ao7 y295.length co7,.int .i64 0]) ?_ 2 _ rfl;(with_reducible repeat (first|refine blk_drewN ?_ _|refine blk_drew ?_|refine blk_alloc ?_ _));refine blk_put (cs:=#[.slice Ao8 y292.length co8,.slice none 0 0,.int .i64 0]) ?_ 1 _ rfl;(with_reducible repeat (first|refine blk_drewN ?_ _|refine blk_drew ?_|refine blk_alloc ?_ _));refine blk_put (cs:=#[.slice none 0 0,.slice none 0 0,.int .i64 0]) ?_ 0 _ rfl;(with_reducible repeat (first|refine blk_drewN ?_ _|refine blk_drew ?_|refine blk_alloc ?_ _));exact BK291.out) Tryz.underlying32 rfl (by kernel_rfl)) rfl ?_
 exact ⟨_,_,by first|rfl|(simp [errW_none,errW_some] <;> rfl)|(simp [*,errW_none,errW_some] <;> rfl),by (with_reducible repeat (first|apply Kd.R_alloc|apply Kd.R_drewN|apply Kd.R_drew));exact Kd.R_mono (Kd.R_far (p:=⟨gb291,2,none⟩) (Kd.R_far (p:=⟨gb291,1,none⟩) (Kd.R_far (p:=⟨gb291,0,none⟩) (Kd.R_types HO294.out BK291.out (by decide)) (fun _ hk=>hk.2) (.slice Ao8 y292.length co8)) (fun _ hk=>hk.2) (.slice Ao7 y295.length co7)) (fun _ hk=>hk.2) (.int .i64 0)) (fun _ hk=>trivial),by (with_reducible repeat (first|apply Kd.R_alloc|apply Kd.R_drewN|apply Kd.R_drew));exact Kd.R_mono (Kd.R_far (p:=⟨gb291,2,none⟩) (Kd.R_far (p:=⟨gb291,1,none⟩) (Kd.R_far (p:=⟨gb291,0,none⟩) (Kd.R_types HO297.out BK291.out (by decide)) (fun _ hk=>hk.2) (.slice Ao8 y292.length co8)) (fun _ hk=>hk.2) (.slice Ao7 y295.length co7)) (fun _ hk=>hk.2) (.int .i64 0)) (fun _ hk=>trivial),by repeat (first|(with_reducible first|exact HB.out|apply below_alloc|apply pw_below_drewN|apply below_drew1|refine below_set ?_ GE291.out)|exact HB.out)⟩
end Go.Proofs.YtloijngehifbmaaGreatDoor.P
end
section
namespace Go.Proofs.YtloijngehifbmaaGreatDoor.P
open Go.RowKit Go.Proofs.YtloijngehifbmaaGreatDoorW.PrintWords Go.Proofs.YtloijngehifbmaaGreatDoorW.PrintLast Go.Proofs.YtloijngehifbmaaGreatDoorW.PrintMore
attribute [local go_sem] max2_int min2_int max_two min_two max_three min_three max_four min_four
set_option linter.unusedVariables false
set_option linter.unusedSimpArgs false
set_option maxHeartbeats 8000000
set_option maxRecDepth 100000
def laws_toPage.f (a0_0:ByteArray) (a0_1:ByteArray) (a0_2:ByteArray) (a0_3:Int):Option (ByteArray×ByteArray×ByteArray×Int):=some (a0_0,a0_1,a0_2,a0_3)
theorem laws_toPage.calls (a0_0:ByteArray) (a0_1:ByteArray) (a0_2:ByteArray) (a0_3:Int) (r1:ByteArray) (r2:ByteArray) (r3:ByteArray) (r4:Int) (w:World) (h:laws_toPage.f a0_0 a0_1 a0_2 a0_3=some (r1,r2,r3,r4)) :
  Calls Tryz.prog 28 #[.agg #[.string a0_0,.string a0_1,.string a0_2,.int .i64 a0_3]] w fun e w'=>e=.returned (.agg #[.string r1,.string r2,.string r3,.int .i64 r4])∧Below w.heap.size w w':=by
 have hu49:=Tryz.underlying49;have hu57:=Tryz.underlying57;have HB:=A_ (Below.refl w.heap.size w);unfold laws_toPage.f at h
 have H:=h;clear h;simp only [Option.some.injEq,Prod.mk.injEq] at H
 obtain ⟨rfl,rfl,rfl,rfl⟩:=H;go_enter Tryz.func28,Tryz.ntmps28;go_wp2_with (first|(refine boxF 1 #[.string a0_0,.string a0_1,.string a0_2,.int .i64 a0_3] 49 ?_;intro gb378 hg w2 BK378 hb;have GE378:=geB hg (zz0 HB);replace HB:=A_ (bS (zz0 HB) hb);clear hb hg)|(refine boxF 2 #[.string (⟨#[]⟩:ByteArray),.string (⟨#[]⟩:ByteArray),.string (⟨#[]⟩:ByteArray),.int .i64 0] 57 ?_;intro gb379 hg w3 BK379 hb;have GE379:=geB hg (zz2 HB GE378);replace HB:=A_ (bS (zz2 HB GE378) hb);have NB378_379:=A_ ((by rw [hg];exact Nat.ne_of_lt (blk_lt (zz7 BK378)):gb378≠gb379));have NB379_378:=A_ ((by rw [hg];exact Nat.ne_of_gt (blk_lt (zz7 BK378)):gb379≠gb378));replace BK378:=A_ (bB (zz7 BK378) hb);clear hb hg)|(refine boxF 3 #[.string (⟨#[]⟩:ByteArray),.string (⟨#[]⟩:ByteArray),.string (⟨#[]⟩:ByteArray),.int .i64 0] 57 ?_;intro gb380 hg w4 BK380 hb;have GE380:=geB hg (zz11 HB GE378 GE379);replace HB:=A_ (bS (zz11 HB GE378 GE379) hb);have NB378_380:=A_ ((by rw [hg];exact Nat.ne_of_lt (blk_lt (zz7 BK378)):gb378≠gb380));have NB380_378:=A_ ((by rw [hg];exact Nat.ne_of_gt (blk_lt (zz7 BK378)):gb380≠gb378));replace BK378:=A_ (bB (zz7 BK378) hb);have NB379_380:=A_ ((by rw [hg];exact Nat.ne_of_lt (blk_lt (zz7 BK379)):gb379≠gb380));have NB380_379:=A_ ((by rw [hg];exact Nat.ne_of_gt (blk_lt (zz7 BK379)):gb380≠gb379));replace BK379:=A_ (bB (zz7 BK379) hb);clear hb hg;have hnb5:=NB378_379.out;have hnc5:=NB379_378.out;have hnb6:=NB378_380.out;have hnc6:=NB380_378.out;obtain ⟨_,_,_,_,_,_,_,_⟩:=cf4 BK378;have hnb8:=NB380_379.out;have hnc8:=NB379_380.out;obtain ⟨_,_,_,_,_,_,_,_⟩:=cf4 BK380;obtain ⟨_,_,_,_,_,_,_,_⟩:=cf4 BK379))
 refine pR (results_cell_row rfl _ _ gb379 57 #[.string a0_0,.string a0_1,.string a0_2,.int .i64 a0_3] (0,0) _ rfl (zz12 BK379 NB379_380) Tryz.underlying57 rfl (by kernel_rfl)) rfl ?_;exact ⟨zz1,(zz13 HB GE378 GE379 GE380)⟩
def laws_eqPage.f (a0_0:ByteArray) (a0_1:ByteArray) (a0_2:ByteArray) (a0_3:Int) (a1_0:ByteArray) (a1_1:ByteArray) (a1_2:ByteArray) (a1_3:Int):Option (Bool):=if a0_0.toList=a1_0.toList then (if a0_1.toList=a1_1.toList then (if a0_2.toList=a1_2.toList then (if a0_3=a1_3 then (some true) else (some false)) else (some false)) else (some false)) else (some false)
theorem laws_eqPage.calls (a0_0:ByteArray) (a0_1:ByteArray) (a0_2:ByteArray) (a0_3:Int) (a1_0:ByteArray) (a1_1:ByteArray) (a1_2:ByteArray) (a1_3:Int) (r:Bool) (w:World) (h:laws_eqPage.f a0_0 a0_1 a0_2 a0_3 a1_0 a1_1 a1_2 a1_3=some r) :
  Calls Tryz.prog 33 #[.agg #[.string a0_0,.string a0_1,.string a0_2,.int .i64 a0_3],.agg #[.string a1_0,.string a1_1,.string a1_2,.int .i64 a1_3]] w fun e w'=>e=.returned (.bool r)∧Below w.heap.size w w':=by
 have hu57:=Tryz.underlying57;have HB:=A_ (Below.refl w.heap.size w);unfold laws_eqPage.f at h
 have H:=h;clear h;have HF3:=A_ H;clear H;go_enter Tryz.func33,Tryz.ntmps33;go_upto_if 9 with (first|(refine boxF 2 #[.string a0_0,.string a0_1,.string a0_2,.int .i64 a0_3] 57 ?_;intro gb579 hg w4 BK579 hb;have GE579:=geB hg (zz0 HB);replace HB:=A_ (bS (zz0 HB) hb);clear hb hg)|(refine boxF 3 #[.string a1_0,.string a1_1,.string a1_2,.int .i64 a1_3] 57 ?_;intro gb580 hg w5 BK580 hb;have GE580:=geB hg (zz2 HB GE579);replace HB:=A_ (bS (zz2 HB GE579) hb);have NB579_580:=A_ ((by rw [hg];exact Nat.ne_of_lt (blk_lt (zz7 BK579)):gb579≠gb580));have NB580_579:=A_ ((by rw [hg];exact Nat.ne_of_gt (blk_lt (zz7 BK579)):gb580≠gb579));replace BK579:=A_ (bB (zz7 BK579) hb);clear hb hg;have hnb6:=NB579_580.out;have hnc6:=NB580_579.out;obtain ⟨_,_,_,_,_,_,_,_⟩:=cf4 BK579;obtain ⟨_,_,_,_,_,_,_,_⟩:=cf4 BK580))
 obtain ⟨H⟩:=HF3;replace H:=iteEq H;rcases H with ⟨c9b0,c9b1,H⟩|⟨c9b0,c9b1,c9,H⟩
 ·(first|rw [c9b0]|(simp only [i64_w,i32_w];rw [c9b0])|skip)
  replace H:=iteEq H;rcases H with ⟨c10b0,c10b1,H⟩|⟨c10b0,c10b1,c10,H⟩
  ·replace H:=iteEq H
   rcases H with ⟨c11b0,c11b1,H⟩|⟨c11b0,c11b1,c11,H⟩
   ·replace H:=iteEq H
    rcases H with ⟨c12b0,c12b1,H⟩|⟨c12b0,c12b1,c12,H⟩
    ·obtain rfl:=sI H
     have hnb13:=NB579_580.out;have hnc13:=NB580_579.out;obtain ⟨_,_,_,_,_,_,_,_⟩:=cf4 BK579;obtain ⟨_,_,_,_,_,_,_,_⟩:=cf4 BK580;go_wp2
     go_ret
     exact ⟨zz1,(zz11 HB GE579 GE580)⟩
    ·obtain rfl:=sI H
     have hnb16:=NB579_580.out;have hnc16:=NB580_579.out;obtain ⟨_,_,_,_,_,_,_,_⟩:=cf4 BK579;obtain ⟨_,_,_,_,_,_,_,_⟩:=cf4 BK580;go_wp2
     go_ret
     exact ⟨zz1,(zz11 HB GE579 GE580)⟩
   ·obtain rfl:=sI H
    have hnb19:=NB579_580.out;have hnc19:=NB580_579.out;obtain ⟨_,_,_,_,_,_,_,_⟩:=cf4 BK579;obtain ⟨_,_,_,_,_,_,_,_⟩:=cf4 BK580;go_wp2
    go_ret
    exact ⟨zz1,(zz11 HB GE579 GE580)⟩
  ·obtain rfl:=sI H
   have hnb22:=NB579_580.out;have hnc22:=NB580_579.out;obtain ⟨_,_,_,_,_,_,_,_⟩:=cf4 BK579;obtain ⟨_,_,_,_,_,_,_,_⟩:=cf4 BK580;go_wp2
   go_ret
   exact ⟨zz1,(zz11 HB GE579 GE580)⟩
 ·(first|rw [c9b0]|(simp only [i64_w,i32_w];rw [c9b0])|skip)
  obtain rfl:=sI H;go_wp2
  go_ret
  exact ⟨zz1,(zz11 HB GE579 GE580)⟩
def laws_eqRule.f (a0_0:Bool) (a0_1:ByteArray) (a1_0:Bool) (a1_1:ByteArray):Option (Bool):=if (a0_0 != a1_0)=true then (some false) else (if a0_1.toList=a1_1.toList then (some true) else (some false))
theorem laws_eqRule.calls (a0_0:Bool) (a0_1:ByteArray) (a1_0:Bool) (a1_1:ByteArray) (r:Bool) (w:World) (h:laws_eqRule.f a0_0 a0_1 a1_0 a1_1=some r) :
  Calls Tryz.prog 79 #[.agg #[.bool a0_0,.string a0_1],.agg #[.bool a1_0,.string a1_1]] w fun e w'=>e=.returned (.bool r)∧Below w.heap.size w w':=by
 have hu93:=Tryz.underlying93;have HB:=A_ (Below.refl w.heap.size w);unfold laws_eqRule.f at h
 have H:=h;clear h;replace H:=iteE H;rcases H with ⟨c3,H⟩|⟨c3,H⟩
 ·have c3b0:(a0_0 != a1_0)=true:=c3
  (try (have c3b9:¬ ((!(a0_0 == a1_0))=false):=by cases hA_:a0_0 <;> cases hB_:a1_0 <;> simp [hA_,hB_] at c3b0 ⊢))
  (try (have c3b1:decide (a0_0=a1_0)=false:=by simpa using c3))
  (try (have c3b2:(a0_0 == a1_0)=false:=by simpa using c3))
  (try (have c3b3:¬ (a0_0=a1_0):=by simpa using c3))
  clear c3;obtain rfl:=sI H;go_enter Tryz.func79,Tryz.ntmps79;go_wp2_with (first|(refine boxF 2 #[.bool a0_0,.string a0_1] 93 ?_;intro gb599 hg w4 BK599 hb;have GE599:=geB hg (zz0 HB);replace HB:=A_ (bS (zz0 HB) hb);clear hb hg)|(refine boxF 3 #[.bool a1_0,.string a1_1] 93 ?_;intro gb600 hg w5 BK600 hb;have GE600:=geB hg (zz2 HB GE599);replace HB:=A_ (bS (zz2 HB GE599) hb);have NB599_600:=A_ ((by rw [hg];exact Nat.ne_of_lt (blk_lt (zz7 BK599)):gb599≠gb600));have NB600_599:=A_ ((by rw [hg];exact Nat.ne_of_gt (blk_lt (zz7 BK599)):gb600≠gb599));replace BK599:=A_ (bB (zz7 BK599) hb);clear hb hg;have hnb6:=NB599_600.out;have hnc6:=NB600_599.out;obtain ⟨_,_,_,_⟩:=cf2 BK599;obtain ⟨_,_,_,_⟩:=cf2 BK600))
  go_ret
  exact ⟨zz1,(zz11 HB GE599 GE600)⟩
 ·have c3b0:(a0_0 != a1_0)=false:=by simpa using c3
  (try (have c3b9:¬ ((!(a0_0 == a1_0))=true):=by cases hA_:a0_0 <;> cases hB_:a1_0 <;> simp [hA_,hB_] at c3b0 ⊢))
  (try (have c3b1:decide (a0_0=a1_0)=true:=by simpa using c3))
  (try (have c3b2:(a0_0 == a1_0)=true:=by simpa using c3))
  clear c3;replace H:=iteEq H;rcases H with ⟨c9b0,c9b1,H⟩|⟨c9b0,c9b1,c9,H⟩
  ·obtain rfl:=sI H
   go_enter Tryz.func79,Tryz.ntmps79;go_wp2_with (first|(refine boxF 2 #[.bool a0_0,.string a0_1] 93 ?_;intro gb599 hg w10 BK599 hb;have GE599:=geB hg (zz0 HB);replace HB:=A_ (bS (zz0 HB) hb);clear hb hg)|(refine boxF 3 #[.bool a1_0,.string a1_1] 93 ?_;intro gb600 hg w11 BK600 hb;have GE600:=geB hg (zz2 HB GE599);replace HB:=A_ (bS (zz2 HB GE599) hb);have NB599_600:=A_ ((by rw [hg];exact Nat.ne_of_lt (blk_lt (zz7 BK599)):gb599≠gb600));have NB600_599:=A_ ((by rw [hg];exact Nat.ne_of_gt (blk_lt (zz7 BK599)):gb600≠gb599));replace BK599:=A_ (bB (zz7 BK599) hb);clear hb hg;have hnb12:=NB599_600.out;have hnc12:=NB600_599.out;obtain ⟨_,_,_,_⟩:=cf2 BK599;obtain ⟨_,_,_,_⟩:=cf2 BK600))
   go_ret
   exact ⟨zz1,(zz11 HB GE599 GE600)⟩
  ·obtain rfl:=sI H
   go_enter Tryz.func79,Tryz.ntmps79;go_wp2_with (first|(refine boxF 2 #[.bool a0_0,.string a0_1] 93 ?_;intro gb599 hg w15 BK599 hb;have GE599:=geB hg (zz0 HB);replace HB:=A_ (bS (zz0 HB) hb);clear hb hg)|(refine boxF 3 #[.bool a1_0,.string a1_1] 93 ?_;intro gb600 hg w16 BK600 hb;have GE600:=geB hg (zz2 HB GE599);replace HB:=A_ (bS (zz2 HB GE599) hb);have NB599_600:=A_ ((by rw [hg];exact Nat.ne_of_lt (blk_lt (zz7 BK599)):gb599≠gb600));have NB600_599:=A_ ((by rw [hg];exact Nat.ne_of_gt (blk_lt (zz7 BK599)):gb600≠gb599));replace BK599:=A_ (bB (zz7 BK599) hb);clear hb hg;have hnb17:=NB599_600.out;have hnc17:=NB600_599.out;obtain ⟨_,_,_,_⟩:=cf2 BK599;obtain ⟨_,_,_,_⟩:=cf2 BK600))
   go_ret
   exact ⟨zz1,(zz11 HB GE599 GE600)⟩
def stringslite_HasPrefix.f (a0:ByteArray) (a1:ByteArray):Option (Bool):=if (a0.size:Int) ≥ (a1.size:Int) then (if 0≤(a1.size:Int) then (if (a1.size:Int)≤(a0.size:Int) then (some ((a0.extract 0 ((a1.size:Int):Int).toNat).toList == a1.toList)) else (none)) else (none)) else (some false)
theorem stringslite_HasPrefix.calls (a0:ByteArray) (a1:ByteArray) (r:Bool) (w:World) (h:stringslite_HasPrefix.f a0 a1=some r) :
  Calls Tryz.prog 157 #[.string a0,.string a1] w fun e w'=>e=.returned (.bool r)∧Drawn0 w w':=by
 unfold stringslite_HasPrefix.f at h
 have H:=h;clear h;replace H:=iteE H;rcases H with ⟨c3,H⟩|⟨c3,H⟩
 ·have c3b0:=geT c3
  have c3b1:decide (a1.size≤a0.size)=true:=dT (Int.ofNat_le.mp c3);clear c3;replace H:=iteN H;obtain ⟨c4,H⟩:=H;have c4b0:=eq_true c4;have c4b1:=dT c4;clear c4;replace H:=iteN H;obtain ⟨c5,H⟩:=H;have c5b0:=eq_true c5;have c5b1:=dT c5;clear c5;obtain rfl:=sI H;go_enter Tryz.func157,Tryz.ntmps157;go_wp2
  go_ret
  exact ⟨zz3,zz4⟩
 ·have c3b0:=geF c3
  have c3b1:decide (a1.size≤a0.size)=false:=dF (fun h=>c3 (Int.ofNat_le.mpr h));clear c3;obtain rfl:=sI H;go_enter Tryz.func157,Tryz.ntmps157;go_wp2
  go_ret
  exact ⟨zz3,zz4⟩
def stringslite_CutPrefix.f (a0:ByteArray) (a1:ByteArray):Option (ByteArray×Bool):=(stringslite_HasPrefix.f a0 a1).bind fun t429=>(if t429=true then (if 0≤(a1.size:Int) then (if (a1.size:Int)≤(a0.size:Int) then (some (a0.extract ((a1.size:Int):Int).toNat a0.size,true)) else (none)) else (none)) else (some (a0,false)))
theorem stringslite_CutPrefix.calls (a0:ByteArray) (a1:ByteArray) (r1:ByteArray) (r2:Bool) (w:World) (h:stringslite_CutPrefix.f a0 a1=some (r1,r2)) :
  Calls Tryz.prog 127 #[.string a0,.string a1] w fun e w'=>e=.returned (.tuple #[.string r1,.bool r2])∧Drawn0 w w':=by
 unfold stringslite_CutPrefix.f at h
 have H:=h;clear h;replace H:=bindA H;obtain ⟨t429,A3,H⟩:=H;have HF4:=A_ H;clear H;go_enter Tryz.func127,Tryz.ntmps127;go_upto_if 9 with (first|(refine gR 157 (some 8) Tryz.func157 (stringslite_HasPrefix.calls a0 a1 t429 _ A3.out) ?_;rintro w' ⟨nd,rfl⟩))
 obtain ⟨H⟩:=HF4;replace H:=iteB H;rcases H with ⟨rfl,H⟩|⟨rfl,H⟩
 ·replace H:=iteN H
  obtain ⟨c6,H⟩:=H;have c6b0:=eq_true c6;have c6b1:=dT c6;clear c6;replace H:=iteN H;obtain ⟨c7,H⟩:=H;have c7b0:=eq_true c7;have c7b1:=dT c7;clear c7;simp only [Option.some.injEq,Prod.mk.injEq] at H
  obtain ⟨rfl,rfl⟩:=H;go_wp2
  go_ret2
  exact ⟨zz3,zz4⟩
 ·simp only [Option.some.injEq,Prod.mk.injEq] at H
  obtain ⟨rfl,rfl⟩:=H;go_wp2
  go_ret2
  exact ⟨zz3,zz4⟩
def strings_CutPrefix.f (a0:ByteArray) (a1:ByteArray):Option (ByteArray×Bool):=(stringslite_CutPrefix.f a0 a1).bind fun bt430=>(some (bt430.1,bt430.2))
theorem strings_CutPrefix.calls (a0:ByteArray) (a1:ByteArray) (r1:ByteArray) (r2:Bool) (w:World) (h:strings_CutPrefix.f a0 a1=some (r1,r2)) :
  Calls Tryz.prog 97 #[.string a0,.string a1] w fun e w'=>e=.returned (.tuple #[.string r1,.bool r2])∧Drawn0 w w':=by
 unfold strings_CutPrefix.f at h
 have H:=h;clear h;replace H:=bindA H;obtain ⟨⟨t430,t431⟩,A3,H⟩:=H;try dsimp only at H
 simp only [Option.some.injEq,Prod.mk.injEq] at H
 obtain ⟨rfl,rfl⟩:=H;go_enter Tryz.func97,Tryz.ntmps97;go_wp2_with (first|(refine gR 127 (some 8) Tryz.func127 (stringslite_CutPrefix.calls a0 a1 t430 t431 _ A3.out) ?_;rintro w' ⟨nd,rfl⟩))
 go_ret2
 exact ⟨zz3,zz4⟩
def impl_standsForItself.f (a0:Int):Option (Bool):=if a0 ≥ 97 then (if a0≤122 then (some true) else (if a0 ≥ 48 then (if a0≤57 then (some true) else (if a0=46 then (some true) else (some (a0 == 45)))) else (if a0=46 then (some true) else (some (a0 == 45))))) else (if a0 ≥ 48 then (if a0≤57 then (some true) else (if a0=46 then (some true) else (some (a0 == 45)))) else (if a0=46 then (some true) else (some (a0 == 45))))
theorem impl_standsForItself.calls (a0:Int) (r:Bool) (w:World) (h:impl_standsForItself.f a0=some r) :
  Calls Tryz.prog 146 #[.int .u8 a0] w fun e w'=>e=.returned (.bool r)∧Drawn0 w w':=by
 unfold impl_standsForItself.f at h
 have H:=h;clear h;replace H:=iteEe H;rcases H with ⟨c2b0,H⟩|⟨c2b0,H⟩
 ·replace H:=iteEd H
  rcases H with ⟨c3b0,H⟩|⟨c3b0,H⟩
  ·obtain rfl:=sI H
   go_enter Tryz.func146,Tryz.ntmps146;go_wp2
   go_ret
   exact ⟨zz3,zz4⟩
  ·replace H:=iteEe H
   rcases H with ⟨c4b0,H⟩|⟨c4b0,H⟩
   ·replace H:=iteEd H
    rcases H with ⟨c5b0,H⟩|⟨c5b0,H⟩
    ·obtain rfl:=sI H
     go_enter Tryz.func146,Tryz.ntmps146;go_wp2
     go_ret
     exact ⟨zz3,zz4⟩
    ·replace H:=iteEq H
     rcases H with ⟨c6b0,c6b1,H⟩|⟨c6b0,c6b1,c6,H⟩
     ·obtain rfl:=sI H
      go_enter Tryz.func146,Tryz.ntmps146;go_wp2
      go_ret
      exact ⟨zz3,zz4⟩
     ·obtain rfl:=sI H
      go_enter Tryz.func146,Tryz.ntmps146;go_wp2
      go_ret
      exact ⟨zz3,zz4⟩
   ·replace H:=iteEq H
    rcases H with ⟨c7b0,c7b1,H⟩|⟨c7b0,c7b1,c7,H⟩
    ·obtain rfl:=sI H
     go_enter Tryz.func146,Tryz.ntmps146;go_wp2
     go_ret
     exact ⟨zz3,zz4⟩
    ·obtain rfl:=sI H
     go_enter Tryz.func146,Tryz.ntmps146;go_wp2
     go_ret
     exact ⟨zz3,zz4⟩
 ·replace H:=iteEe H
  rcases H with ⟨c8b0,H⟩|⟨c8b0,H⟩
  ·replace H:=iteEd H
   rcases H with ⟨c9b0,H⟩|⟨c9b0,H⟩
   ·obtain rfl:=sI H
    go_enter Tryz.func146,Tryz.ntmps146;go_wp2
    go_ret
    exact ⟨zz3,zz4⟩
   ·replace H:=iteEq H
    rcases H with ⟨c10b0,c10b1,H⟩|⟨c10b0,c10b1,c10,H⟩
    ·obtain rfl:=sI H
     go_enter Tryz.func146,Tryz.ntmps146;go_wp2
     go_ret
     exact ⟨zz3,zz4⟩
    ·obtain rfl:=sI H
     go_enter Tryz.func146,Tryz.ntmps146;go_wp2
     go_ret
     exact ⟨zz3,zz4⟩
  ·replace H:=iteEq H
   rcases H with ⟨c11b0,c11b1,H⟩|⟨c11b0,c11b1,c11,H⟩
   ·obtain rfl:=sI H
    go_enter Tryz.func146,Tryz.ntmps146;go_wp2
    go_ret
    exact ⟨zz3,zz4⟩
   ·obtain rfl:=sI H
    go_enter Tryz.func146,Tryz.ntmps146;go_wp2
    go_ret
    exact ⟨zz3,zz4⟩
def stringslite_HasSuffix.f (a0:ByteArray) (a1:ByteArray):Option (Bool):=if (a0.size:Int) ≥ (a1.size:Int) then (if 0≤(wrap64 ((a0.size:Int) - (a1.size:Int))) then (if (wrap64 ((a0.size:Int) - (a1.size:Int)))≤(a0.size:Int) then (some ((a0.extract ((wrap64 ((a0.size:Int) - (a1.size:Int))):Int).toNat a0.size).toList == a1.toList)) else (none)) else (none)) else (some false)
theorem stringslite_HasSuffix.calls (a0:ByteArray) (a1:ByteArray) (r:Bool) (w:World) (h:stringslite_HasSuffix.f a0 a1=some r) :
  Calls Tryz.prog 147 #[.string a0,.string a1] w fun e w'=>e=.returned (.bool r)∧Drawn0 w w':=by
 unfold stringslite_HasSuffix.f at h
 have H:=h;clear h;replace H:=iteE H;rcases H with ⟨c3,H⟩|⟨c3,H⟩
 ·have c3b0:=geT c3
  have c3b1:decide (a1.size≤a0.size)=true:=dT (Int.ofNat_le.mp c3);clear c3;obtain ⟨ji4,hji4⟩:∃ j_:Int,(wrap64 ((a0.size:Int) - (a1.size:Int)))=j_:=⟨_,rfl⟩;(first|rw [hji4] at H|simp only [hji4] at H)
  have hji4w:(IntKind.i64.wrap ((a0.size:Int) - (a1.size:Int)))=ji4:=(i64_w _).trans hji4;replace H:=iteN H;obtain ⟨c5,H⟩:=H;have c5b0:=eq_true c5;have c5b1:=dT c5;clear c5;replace H:=iteN H;obtain ⟨c6,H⟩:=H;have c6b0:=eq_true c6;have c6b1:=dT c6;clear c6;obtain rfl:=sI H;go_enter Tryz.func147,Tryz.ntmps147;go_wp2
  go_ret
  exact ⟨(by first|rfl|(simp only [i64_w,i32_w];done)|(simp only [aid_isEmpty,aid_isEmpty2];done)|(simp;done)|((simp only [← hji4] <;> (first|rfl|simp));done)|(simp [*];done)),zz4⟩
 ·have c3b0:=geF c3
  have c3b1:decide (a1.size≤a0.size)=false:=dF (fun h=>c3 (Int.ofNat_le.mpr h));clear c3;obtain rfl:=sI H;go_enter Tryz.func147,Tryz.ntmps147;go_wp2
  go_ret
  exact ⟨zz3,zz4⟩
def stringslite_TrimSuffix.f (a0:ByteArray) (a1:ByteArray):Option (ByteArray):=(stringslite_HasSuffix.f a0 a1).bind fun t390=>(if t390=true then (if 0≤(wrap64 ((a0.size:Int) - (a1.size:Int))) then (if (wrap64 ((a0.size:Int) - (a1.size:Int)))≤(a0.size:Int) then (some (a0.extract 0 ((wrap64 ((a0.size:Int) - (a1.size:Int))):Int).toNat)) else (none)) else (none)) else (some a0))
theorem stringslite_TrimSuffix.calls (a0:ByteArray) (a1:ByteArray) (r:ByteArray) (w:World) (h:stringslite_TrimSuffix.f a0 a1=some r) :
  Calls Tryz.prog 145 #[.string a0,.string a1] w fun e w'=>e=.returned (.string r)∧Drawn0 w w':=by
 unfold stringslite_TrimSuffix.f at h
 have H:=h;clear h;replace H:=bindA H;obtain ⟨t390,A3,H⟩:=H;have HF4:=A_ H;clear H;go_enter Tryz.func145,Tryz.ntmps145;go_upto_if 7 with (first|(refine gR 147 (some 7) Tryz.func147 (stringslite_HasSuffix.calls a0 a1 t390 _ A3.out) ?_;rintro w' ⟨nd,rfl⟩))
 obtain ⟨H⟩:=HF4;replace H:=iteB H;rcases H with ⟨rfl,H⟩|⟨rfl,H⟩
 ·obtain ⟨ji6,hji6⟩:∃ j_:Int,(wrap64 ((a0.size:Int) - (a1.size:Int)))=j_:=⟨_,rfl⟩
  (first|rw [hji6] at H|simp only [hji6] at H)
  have hji6w:(IntKind.i64.wrap ((a0.size:Int) - (a1.size:Int)))=ji6:=(i64_w _).trans hji6;replace H:=iteN H;obtain ⟨c7,H⟩:=H;have c7b0:=eq_true c7;have c7b1:=dT c7;clear c7;replace H:=iteN H;obtain ⟨c8,H⟩:=H;have c8b0:=eq_true c8;have c8b1:=dT c8;clear c8;obtain rfl:=sI H;go_wp2
  go_ret
  exact ⟨(by first|rfl|(simp only [i64_w,i32_w];done)|(simp only [aid_isEmpty,aid_isEmpty2];done)|(simp;done)|((simp only [← hji6] <;> (first|rfl|simp));done)|(simp [*];done)),zz4⟩
 ·obtain rfl:=sI H
  go_wp2
  go_ret
  exact ⟨zz3,zz4⟩
def strings_TrimSuffix.f (a0:ByteArray) (a1:ByteArray):Option (ByteArray):=(stringslite_TrimSuffix.f a0 a1).bind fun t391=>(some t391)
theorem strings_TrimSuffix.calls (a0:ByteArray) (a1:ByteArray) (r:ByteArray) (w:World) (h:strings_TrimSuffix.f a0 a1=some r) :
  Calls Tryz.prog 115 #[.string a0,.string a1] w fun e w'=>e=.returned (.string r)∧Drawn0 w w':=by
 unfold strings_TrimSuffix.f at h
 have H:=h;clear h;replace H:=bindA H;obtain ⟨t391,A3,H⟩:=H;obtain rfl:=sI H;go_enter Tryz.func115,Tryz.ntmps115;go_wp2_with (first|(refine gR 145 (some 7) Tryz.func145 (stringslite_TrimSuffix.calls a0 a1 t391 _ A3.out) ?_;rintro w' ⟨nd,rfl⟩))
 go_ret
 exact ⟨zz3,zz4⟩
def impl_isPatternByte.f (a0:Int):Option (Bool):=if a0=47 then (some true) else (if a0=42 then (some true) else (if a0=63 then (some true) else (if a0=37 then (some true) else ((impl_standsForItself.f a0).bind fun t392=>(if t392=true then (some true) else (if a0 ≥ 65 then (some (decide (a0≤70))) else (some false)))))))
theorem impl_isPatternByte.calls (a0:Int) (r:Bool) (w:World) (h:impl_isPatternByte.f a0=some r) :
  Calls Tryz.prog 116 #[.int .u8 a0] w fun e w'=>e=.returned (.bool r)∧Drawn0 w w':=by
 unfold impl_isPatternByte.f at h
 have H:=h;clear h;replace H:=iteEq H;rcases H with ⟨c2b0,c2b1,H⟩|⟨c2b0,c2b1,c2,H⟩
 ·obtain rfl:=sI H
  go_enter Tryz.func116,Tryz.ntmps116;go_wp2
  go_ret
  exact ⟨zz3,zz4⟩
 ·replace H:=iteEq H
  rcases H with ⟨c3b0,c3b1,H⟩|⟨c3b0,c3b1,c3,H⟩
  ·obtain rfl:=sI H
   go_enter Tryz.func116,Tryz.ntmps116;go_wp2
   go_ret
   exact ⟨zz3,zz4⟩
  ·replace H:=iteEq H
   rcases H with ⟨c4b0,c4b1,H⟩|⟨c4b0,c4b1,c4,H⟩
   ·obtain rfl:=sI H
    go_enter Tryz.func116,Tryz.ntmps116;go_wp2
    go_ret
    exact ⟨zz3,zz4⟩
   ·replace H:=iteEq H
    rcases H with ⟨c5b0,c5b1,H⟩|⟨c5b0,c5b1,c5,H⟩
    ·obtain rfl:=sI H
     go_enter Tryz.func116,Tryz.ntmps116;go_wp2
     go_ret
     exact ⟨zz3,zz4⟩
    ·replace H:=bindA H
     obtain ⟨t392,A6,H⟩:=H;have HF7:=A_ H;clear H;go_enter Tryz.func116,Tryz.ntmps116;go_wp2_with (first|(refine gR 146 (some 10) Tryz.func146 (impl_standsForItself.calls a0 t392 _ A6.out) ?_;rintro w' ⟨nd,rfl⟩)|((with_reducible refine atG ?_ ?_ fun K_ hK_=>?_);rfl;exact undecG)|((with_reducible refine atI ?_ fun K_ hK_=>?_);exact undecI))
     refine unG hK_ ?_;clear hK_ K_;obtain ⟨H⟩:=HF7;replace H:=iteB H;rcases H with ⟨rfl,H⟩|⟨rfl,H⟩
     ·(first|refine iteT ?_|refine iteF ?_|skip)
      obtain rfl:=sI H;(try ((with_reducible refine upS ?_);go_simp))
      go_wp2
      go_ret
      exact ⟨zz3,zz4⟩
     ·(first|refine iteT ?_|refine iteF ?_|skip)
      replace H:=iteEe H;rcases H with ⟨c9b0,H⟩|⟨c9b0,H⟩
      ·obtain rfl:=sI H
       go_wp2
       go_ret
       exact ⟨zz3,zz4⟩
      ·obtain rfl:=sI H
       go_wp2
       go_ret
       exact ⟨zz3,zz4⟩
def impl_noticeAddr.f (a0:ByteArray):Option (ByteArray):=if 2+a0.size≤9223372036854775807 then (if 2+a0.size+7≤9223372036854775807 then (some (((⟨#[47,47]⟩:ByteArray)++a0)++(⟨#[47,110,111,116,105,99,101]⟩:ByteArray))) else (none)) else (none)
theorem impl_noticeAddr.calls (a0:ByteArray) (r:ByteArray) (w:World) (h:impl_noticeAddr.f a0=some r) :
  Calls Tryz.prog 78 #[.string a0] w fun e w'=>e=.returned (.string r)∧Drawn0 w w':=by
 unfold impl_noticeAddr.f at h
 have H:=h;clear h;replace H:=iteE H;rcases H with ⟨c2,H⟩|⟨c2,H⟩
 ·have c2b0:=eq_true c2
  have c2b1:=dT c2;try have c2b2:(9223372036854775807 < 2+a0.size)=False:=eq_false (Nat.not_lt.2 c2)
  replace H:=iteN H;obtain ⟨c3,H⟩:=H;have c3b0:=eq_true c3;have c3b1:=dT c3;try have c3b2:(9223372036854775807 < 2+a0.size+7)=False:=eq_false (Nat.not_lt.2 c3)
  obtain rfl:=sI H;go_enter Tryz.func78,Tryz.ntmps78;go_wp2
  go_ret
  exact ⟨zz3,zz4⟩
 ·exact absurd H (by simp)
def laws_szPageS.l0:Nat→List (S49)→Int→Int→Option (Int)
 | 0,_,_,_=>none
 | k+1,x0,x1,x5=>if x5 < (x0.length:Int) then (if 0≤x5 then ((laws_szPage.f ((rd_T49 x0 x5).f0) ((rd_T49 x0 x5).f1) ((rd_T49 x0 x5).f2) ((rd_T49 x0 x5).f3) x1).bind fun t103=>(if t103 < 0 then (some (-1)) else (laws_szPageS.l0 k x0 t103 (wrap64 (x5+1))))) else (none)) else (some x1)
def laws_szPageS.f (k:Nat) (l0:List (S49)) (a1:Int):Option (Int):=if (wrap64 (a1 - (l0.length:Int))) < 0 then (some (-1)) else (laws_szPageS.l0 k l0 (wrap64 (a1 - (l0.length:Int))) 0)
theorem laws_szPageS.calls (k:Nat) (A0:Option Addr) (c0:Nat) (l0:List (S49)) (a1:Int) (r:Int) (w:World) (hr0:Kd.C k49 w A0 l0.length l0) (hc0:l0.length≤c0) (h:laws_szPageS.f k l0 a1=some r) :
  Calls Tryz.prog 6 #[.slice A0 l0.length c0,.int .i64 a1] w fun e w'=>e=.returned (.int .i64 r)∧Below w.heap.size w w':=by
 have hu49:=Tryz.underlying49;have HR0:=A_ hr0;have HC0:=A_ hc0;clear hr0 hc0;have HB:=A_ (Below.refl w.heap.size w);unfold laws_szPageS.f at h
 have H:=h;clear h;replace H:=iteEd H;rcases H with ⟨c3b0,H⟩|⟨c3b0,H⟩
 ·obtain rfl:=sI H
  go_enter Tryz.func6,Tryz.ntmps6;go_wp2
  go_ret
  exact ⟨zz1,(zz0 HB)⟩
 ·have H':=A_ H
  clear H;go_enter Tryz.func6,Tryz.ntmps6;go_wp2
  go_loopg [1,5] k (fun kq v1 v5 w'=>∃ (x1_1:Int) (x5_1:Int),v1=.int .i64 x1_1∧v5=.int .i64 x5_1∧Aside0 (laws_szPageS.l0 kq l0 x1_1 x5_1=some r)∧Aside0 (kq≤k)∧Aside0 (Below w.heap.size w w'))
  case atStart=>exact ⟨(wrap64 (a1 - (l0.length:Int))),(0),zz3,zz3,H',⟨Nat.le_refl _⟩,⟨(zz0 HB)⟩⟩
  case round=>
   clear H';obtain ⟨x1_1,x5_1,rfl,rfl,HA,HK1,HB⟩:=hrel;cases gk with
   | zero=>exact absurd HA.out (by simp [laws_szPageS.l0])
   | succ k1=>
    obtain ⟨H⟩:=HA;simp only [laws_szPageS.l0] at H
    replace H:=iteEd H;rcases H with ⟨c4b0,H⟩|⟨c4b0,H⟩
    ·replace H:=iteNd H
     obtain ⟨c5b0,H⟩:=H;replace H:=bindA H;obtain ⟨t103,A6,H⟩:=H;have HF7:=A_ H;clear H;obtain ⟨⟨ad102,e102,hx102_0,hx102_1,hx102_2,hx102_3⟩,p102,q102⟩:=atB (at_T49 HR0.out x5_1);cases e102
     obtain ⟨hx102_0,hx102_1,hx102_2,hx102_3⟩:=cb4 HB hx102_0 hx102_1 hx102_2 hx102_3;go_upto_if 25 with (first|(refine gR 23 (some 23) Tryz.func23 (laws_szPage.calls ((rd_T49 l0 x5_1).f0) ((rd_T49 l0 x5_1).f1) ((rd_T49 l0 x5_1).f2) ((rd_T49 l0 x5_1).f3) x1_1 t103 _ A6.out) ?_;rintro w8 hb;replace HB:=A_ (bS (zz0 HB) hb);(try clear hb)))
     obtain ⟨H⟩:=HF7;replace H:=iteEd H;rcases H with ⟨c9b0,H⟩|⟨c9b0,H⟩
     ·(first|rw [c9b0]|(simp only [i64_w,i32_w];rw [c9b0])|skip)
      obtain rfl:=sI H;go_wp2
      go_ret
      exact ⟨zz1,(zz0 HB)⟩
     ·(first|rw [c9b0]|(simp only [i64_w,i32_w];rw [c9b0])|skip)
      have H':=A_ H;clear H;go_wp2
      go_roundg k1
      case measure=>have:=HK1.out;omega
      case rel=>exact ⟨(t103),(wrap64 (x5_1+1)),zz3,zz3,H',⟨(zz17 HK1)⟩,⟨(zz0 HB)⟩⟩
    ·obtain rfl:=sI H
     go_wp2
     go_ret
     exact ⟨zz1,(zz0 HB)⟩
def spec_l1House.l0:Nat→ByteArray→Int→Option (Bool)
 | 0,_,_=>none
 | k+1,x0,x3=>if x3 < (x0.size:Int) then (if 0≤x3 then (if (bt x0 x3) < 97 then (some false) else (if (bt x0 x3) > 122 then (some false) else (spec_l1House.l0 k x0 (wrap64 (x3+1))))) else (none)) else ((spec_l6In.f (x0.size:Int) 1 5).bind fun t135=>(some t135))
def spec_l1House.f (k:Nat) (a0:ByteArray):Option (Bool):=spec_l1House.l0 k a0 0
theorem spec_l1House.mono_l:∀ k,(∀ y0 y1,LeO (spec_l1House.l0 k y0 y1) (spec_l1House.l0 (k+1) y0 y1))
 | 0=>by intros;intro r h;simp [spec_l1House.l0] at h
 | k+1=>by
  have ih0:=spec_l1House.mono_l k;intros;unfold spec_l1House.l0;repeat' first|(with_reducible first|exact ih0 _ _|exact LeO.refl _|exact LeO.none _|refine LeO.ite ?_ ?_|refine LeO.bind ?_ (fun _=>?_))|exact LeO.none _|refine LeO.ite ?_ ?_|refine LeO.bind ?_ (fun _=>?_)
theorem spec_l1House.mono:∀ a0 k,LeO (spec_l1House.f k a0) (spec_l1House.f (k+1) a0):=by
 intro a0 k;have ih0:=spec_l1House.mono_l k;unfold spec_l1House.f
 repeat' first|(with_reducible first|exact ih0 _ _|exact LeO.refl _|exact LeO.none _|refine LeO.ite ?_ ?_|refine LeO.bind ?_ (fun _=>?_))|exact LeO.none _|refine LeO.ite ?_ ?_|refine LeO.bind ?_ (fun _=>?_)
theorem spec_l1House.calls (k:Nat) (a0:ByteArray) (r:Bool) (w:World) (h:spec_l1House.f k a0=some r) :
  Calls Tryz.prog 34 #[.string a0] w fun e w'=>e=.returned (.bool r)∧Drawn0 w w':=by
 unfold spec_l1House.f at h
 have H:=h;clear h;have H':=A_ H;clear H;go_enter Tryz.func34,Tryz.ntmps34;go_wp2
 go_loopg [3] k (fun kq v3 w'=>∃ (x3_1:Int),v3=.int .i64 x3_1∧Aside0 (spec_l1House.l0 kq a0 x3_1=some r)∧Aside0 (kq≤k)∧Drawn0 w w')
 case atStart=>exact ⟨(0),zz3,H',⟨Nat.le_refl _⟩,zz4⟩
 case round=>
  clear H';obtain ⟨x3_1,rfl,HA,HK1,⟨m1,rfl⟩⟩:=hrel;cases gk with
  | zero=>exact absurd HA.out (by simp [spec_l1House.l0])
  | succ k1=>
   obtain ⟨H⟩:=HA;simp only [spec_l1House.l0] at H
   replace H:=iteEd H;rcases H with ⟨c2b0,H⟩|⟨c2b0,H⟩
   ·replace H:=iteNd H
    obtain ⟨c3b0,H⟩:=H;replace H:=iteEd H;rcases H with ⟨c5b0,H⟩|⟨c5b0,H⟩
    ·obtain rfl:=sI H
     have p4:0≤(x3_1:Int):=ofD;have q4:x3_1 < (a0.size:Int):=ofD;have hx4:=bt_at a0 x3_1;replace p4:=eq_true p4;replace q4:=eq_true q4;go_wp2
     go_ret
     exact ⟨zz3,zz4⟩
    ·replace H:=iteEg H
     rcases H with ⟨c7b0,H⟩|⟨c7b0,H⟩
     ·obtain rfl:=sI H
      have p4:0≤(x3_1:Int):=ofD;have q4:x3_1 < (a0.size:Int):=ofD;have hx4:=bt_at a0 x3_1;replace p4:=eq_true p4;replace q4:=eq_true q4;have p6:0≤(x3_1:Int):=ofD;have q6:x3_1 < (a0.size:Int):=ofD;have hx6:=bt_at a0 x3_1;replace p6:=eq_true p6;replace q6:=eq_true q6;go_wp2
      go_ret
      exact ⟨zz3,zz4⟩
     ·have H':=A_ H
      clear H;have p4:0≤(x3_1:Int):=ofD;have q4:x3_1 < (a0.size:Int):=ofD;have hx4:=bt_at a0 x3_1;replace p4:=eq_true p4;replace q4:=eq_true q4;have p6:0≤(x3_1:Int):=ofD;have q6:x3_1 < (a0.size:Int):=ofD;have hx6:=bt_at a0 x3_1;replace p6:=eq_true p6;replace q6:=eq_true q6;go_wp2
      go_roundg k1
      case measure=>have:=HK1.out;omega
      case rel=>exact ⟨(wrap64 (x3_1+1)),zz3,H',⟨(zz17 HK1)⟩,zz4⟩
   ·replace H:=bindA H
    obtain ⟨t135,A8,H⟩:=H;obtain rfl:=sI H;go_wp2_with (first|(refine gR 65 (some 22) Tryz.func65 (spec_l6In.calls (a0.size:Int) 1 5 t135 _ A8.out) ?_;rintro w' ⟨nd,rfl⟩))
    go_ret
    exact ⟨zz3,zz4⟩
def spec_l1Cut.l0:Nat→ByteArray→Int→Int→Option (ByteArray×ByteArray×Bool)
 | 0,_,_,_=>none
 | k+1,x0,x1,x7=>if x7 < (x0.size:Int) then (if 0≤x7 then (if (bt x0 x7)=x1 then (if x7≤(x0.size:Int) then (if 0≤(wrap64 (x7+1)) then (if (wrap64 (x7+1))≤(x0.size:Int) then (some (x0.extract 0 (x7:Int).toNat,x0.extract ((wrap64 (x7+1)):Int).toNat x0.size,true)) else (none)) else (none)) else (none)) else (spec_l1Cut.l0 k x0 x1 (wrap64 (x7+1)))) else (none)) else (some (x0,(⟨#[]⟩:ByteArray),false))
def spec_l1Cut.f (k:Nat) (a0:ByteArray) (a1:Int):Option (ByteArray×ByteArray×Bool):=spec_l1Cut.l0 k a0 a1 0
theorem spec_l1Cut.calls (k:Nat) (a0:ByteArray) (a1:Int) (r1:ByteArray) (r2:ByteArray) (r3:Bool) (w:World) (h:spec_l1Cut.f k a0 a1=some (r1,r2,r3)) :
  Calls Tryz.prog 62 #[.string a0,.int .u8 a1] w fun e w'=>e=.returned (.tuple #[.string r1,.string r2,.bool r3])∧Drawn0 w w':=by
 unfold spec_l1Cut.f at h
 have H:=h;clear h;have H':=A_ H;clear H;go_enter Tryz.func62,Tryz.ntmps62;go_wp2
 repeat (go_quiet (fail);try go_wp2)
 go_loopg [7] k (fun kq v7 w'=>∃ (x7_1:Int),v7=.int .i64 x7_1∧Aside0 (spec_l1Cut.l0 kq a0 a1 x7_1=some (r1,r2,r3))∧Aside0 (kq≤k)∧Drawn0 w w')
 case atStart=>exact ⟨(0),zz3,H',⟨Nat.le_refl _⟩,zz4⟩
 case round=>
  clear H';obtain ⟨x7_1,rfl,HA,HK1,⟨m1,rfl⟩⟩:=hrel;cases gk with
  | zero=>exact absurd HA.out (by simp [spec_l1Cut.l0])
  | succ k1=>
   obtain ⟨H⟩:=HA;simp only [spec_l1Cut.l0] at H
   replace H:=iteEd H;rcases H with ⟨c3b0,H⟩|⟨c3b0,H⟩
   ·replace H:=iteNd H
    obtain ⟨c4b0,H⟩:=H;replace H:=iteEq H;rcases H with ⟨c6b0,c6b1,H⟩|⟨c6b0,c6b1,c6,H⟩
    ·have c7b0:=eq_true (ofD:0≤x7_1)
     replace H:=iteN H;obtain ⟨c8,H⟩:=H;have c8b0:=eq_true c8;have c8b1:=dT c8;clear c8;obtain ⟨ji9,hji9⟩:∃ j_:Int,(wrap64 (x7_1+1))=j_:=⟨_,rfl⟩;(first|rw [hji9] at H|simp only [hji9] at H)
     have hji9w:(IntKind.i64.wrap (x7_1+1))=ji9:=(i64_w _).trans hji9;replace H:=iteN H;obtain ⟨c10,H⟩:=H;have c10b0:=eq_true c10;have c10b1:=dT c10;clear c10;replace H:=iteN H;obtain ⟨c11,H⟩:=H;have c11b0:=eq_true c11;have c11b1:=dT c11;clear c11;simp only [Option.some.injEq,Prod.mk.injEq] at H
     obtain ⟨rfl,rfl,rfl⟩:=H;have p5:0≤(x7_1:Int):=ofD;have q5:x7_1 < (a0.size:Int):=ofD;have hx5:=bt_at a0 x7_1;replace p5:=eq_true p5;replace q5:=eq_true q5;go_wp2
     repeat (go_quiet (fail);try go_wp2)
     go_ret3
     exact ⟨zz20,zz4⟩
    ·have H':=A_ H
     clear H;have p5:0≤(x7_1:Int):=ofD;have q5:x7_1 < (a0.size:Int):=ofD;have hx5:=bt_at a0 x7_1;replace p5:=eq_true p5;replace q5:=eq_true q5;go_wp2
     repeat (go_quiet (fail);try go_wp2)
     go_roundg k1
     case measure=>have:=HK1.out;omega
     case rel=>exact ⟨(wrap64 (x7_1+1)),zz3,H',⟨(zz17 HK1)⟩,zz4⟩
   ·simp only [Option.some.injEq,Prod.mk.injEq] at H
    obtain ⟨rfl,rfl,rfl⟩:=H;go_wp2
    repeat (go_quiet (fail);try go_wp2)
    go_ret3
    exact ⟨zz3,zz4⟩
def spec_l1Split.l0:Nat→Int→List ByteArray→ByteArray→Bool→Option (List ByteArray)
 | 0,_,_,_,_=>none
 | k+1,x1,x5,x6,x7=>if x7=true then ((spec_l1Cut.f k x6 x1).bind fun bt107=>(if x5.length < 8796093022208 then (spec_l1Split.l0 k x1 (x5++[bt107.1]) bt107.2.1 bt107.2.2) else (none))) else (some x5)
def spec_l1Split.f (k:Nat) (a0:ByteArray) (a1:Int):Option (List ByteArray):=spec_l1Split.l0 k a1 (([]:List ByteArray)) a0 true
theorem spec_l1Split.calls (k:Nat) (a0:ByteArray) (a1:Int) (r:List ByteArray) (w:World) (h:spec_l1Split.f k a0 a1=some r) :
  Calls Tryz.prog 105 #[.string a0,.int .u8 a1] w fun e w'=>∃ v0_:Value,e=.returned (v0_)∧Kd.R Kd.string 9 w' w.heap.size (fun _=>True) v0_ r∧Below w.heap.size w w':=by
 have HB:=A_ (Below.refl w.heap.size w);unfold spec_l1Split.f at h
 have H:=h;clear h;obtain ⟨y104,Ny104⟩:=toY (([]:List ByteArray));(first|with_reducible replace H:=bindZ Ny104 H|rw [← Ny104.out] at H|skip)
 have H':=A_ H;clear H;go_enter Tryz.func105,Tryz.ntmps105;go_wp2_with (first|((with_reducible refine gD (N:=9) rfl ?_);refine Kd.R_lit Kd.string _ 9 ?hg (N:=9) ?hd (xs:=([]:List ByteArray)) (inner:=[]) (ok:=fun _=>True) (okp:=fun _=>True) ?hr ?hp (fun _ hk=>hk) trivial (Below.refl _ _) (Nat.le_refl _) (by simp) ?_;(case hd=>rfl);(case hg=>rfl);(case hr=>exact zz6);(case hp=>exact (Reps.none _ _));intro v105 w3 ho4 hb hg_ hnew_;clear hg_ hnew_;(first|rw [← Ny104.out] at ho4|(simp only [Int.reduceToNat] at ho4;rw [← Ny104.out] at ho4));have HO106:=A_ (Kd.R_lower ho4 (below_size (zz0 HB)));replace HB:=A_ (bS (zz0 HB) hb);clear hb ho4))
 go_loopg [5,6,7] k (fun kq v5 v6 v7 w'=>∃ (x5_1:List ByteArray) (x6_1:ByteArray) (x7_1:Bool),v6=.string x6_1∧v7=.bool x7_1∧Aside0 (spec_l1Split.l0 kq a1 x5_1 x6_1 x7_1=some r)∧Aside0 (kq≤k)∧Aside0 (Kd.R Kd.string 9 w' w.heap.size (fun _=>True) v5 x5_1)∧Aside0 (Below w.heap.size w w'))
 case atStart=>exact ⟨(y104),(a0),(true),zz3,zz3,H',⟨Nat.le_refl _⟩,⟨(zz8 HO106)⟩,⟨(zz0 HB)⟩⟩
 case round=>
  clear H';obtain ⟨x5_1,x6_1,x7_1,rfl,rfl,HA,HK1,HO_5,HB⟩:=hrel;cases gk with
  | zero=>exact absurd HA.out (by simp [spec_l1Split.l0])
  | succ k1=>
   obtain ⟨H⟩:=HA;simp only [spec_l1Split.l0] at H
   replace H:=iteB H;rcases H with ⟨rfl,H⟩|⟨rfl,H⟩
   ·replace H:=bindA H
    obtain ⟨⟨t107,t108,t109⟩,A6,H⟩:=H;try dsimp only at H
    replace H:=iteN H;obtain ⟨c7,H⟩:=H;have LMc7:=A_ c7;clear c7;obtain ⟨y110,Ny110⟩:=toY (x5_1++[t107]);(first|with_reducible replace H:=bindZ Ny110 H|rw [← Ny110.out] at H|skip)
    have H':=A_ H;clear H;go_wp2_with (first|(refine gR 62 (some 15) Tryz.func62 (spec_l1Cut.calls k1 x6_1 a1 t107 t108 t109 _ A6.out) ?_;rintro w' ⟨nd,rfl⟩)|((with_reducible refine gate_builtin (b:=.append) (xs:=#[.tmp 19,.tmp 21]) rfl ?_);at_builtin;refine Kd.R_append Kd.string (w0:=w) w.heap.size rfl (.tmp 19) (.tmp 21) 29 9 (.string ⟨#[]⟩) 16 rfl Tryz.underlying29 info9 rfl (by decide) (by omega) u5 x5_1 t107 [.string t107] (fun _=>True) (fun _=>False) rfl rfl ?aP (fun _ hk=>hk.elim) ?aF ?aO ?aB ?aS ?aL ?_;(case aP=>exact rfl);(case aB=>exact (zz0 HB));(case aF=>exact (fun _ _=>trivial));(case aO=>exact (zz8 HO_5));(case aS=>exact (below_size (zz0 HB)));(case aL=>exact (zz17 LMc7));intro v111 w8 ho hb hg hat;rw [← Ny110.out] at ho;replace HB:=A_ (hb);have HO112:=A_ (ho);clear HO_5;clear ho hb hg hat))
    go_roundg k1
    case measure=>have:=HK1.out;omega
    case rel=>exact ⟨(y110),(t108),(t109),zz3,zz3,H',⟨(zz17 HK1)⟩,⟨(zz8 HO112)⟩,⟨(zz0 HB)⟩⟩
   ·obtain rfl:=sI H
    go_wp2
    go_ret
    exact ⟨_,zz1,(zz8 HO_5),(zz0 HB)⟩
mutual
def spec_l1Hex.j0:Nat→Int→Bool→Option (Int)
 | 0,_,_=>none
 | k+1,x0,x3=>if x3=true then (some ((x0 - 48) % 256)) else (if x0 ≥ 97 then (spec_l1Hex.j1 k x0 (decide (x0≤102))) else (spec_l1Hex.j1 k x0 false))
def spec_l1Hex.j1:Nat→Int→Bool→Option (Int)
 | 0,_,_=>none
 | k+1,x0,x13=>if x13=true then (some (((x0 - 97) % 256)+10)) else (if x0 ≥ 65 then (if x0≤70 then (some (((x0 - 65) % 256)+10)) else (some (-1))) else (some (-1)))
end
def spec_l1Hex.f (k:Nat) (a0:Int):Option (Int):=if a0 ≥ 48 then (spec_l1Hex.j0 k a0 (decide (a0≤57))) else (spec_l1Hex.j0 k a0 false)
theorem spec_l1Hex.mono_l:∀ k,(∀ y0 y1,LeO (spec_l1Hex.j0 k y0 y1) (spec_l1Hex.j0 (k+1) y0 y1))∧(∀ y0 y1,LeO (spec_l1Hex.j1 k y0 y1) (spec_l1Hex.j1 (k+1) y0 y1))
 | 0=>by refine ⟨?_,?_⟩ <;> (intros;intro r h;simp [spec_l1Hex.j0,spec_l1Hex.j1] at h)
 | k+1=>by
  obtain ⟨ih0,ih1⟩:=spec_l1Hex.mono_l k;refine ⟨?_,?_⟩ <;> intros <;> (first|unfold spec_l1Hex.j0|unfold spec_l1Hex.j1) <;>
  repeat' first|(with_reducible first|exact ih0 _ _|exact ih1 _ _|exact LeO.refl _|exact LeO.none _|refine LeO.ite ?_ ?_|refine LeO.bind ?_ (fun _=>?_))|exact LeO.none _|refine LeO.ite ?_ ?_|refine LeO.bind ?_ (fun _=>?_)
theorem spec_l1Hex.mono:∀ a0 k,LeO (spec_l1Hex.f k a0) (spec_l1Hex.f (k+1) a0):=by
 intro a0 k;obtain ⟨ih0,ih1⟩:=spec_l1Hex.mono_l k;unfold spec_l1Hex.f
 repeat' first|(with_reducible first|exact ih0 _ _|exact ih1 _ _|exact LeO.refl _|exact LeO.none _|refine LeO.ite ?_ ?_|refine LeO.bind ?_ (fun _=>?_))|exact LeO.none _|refine LeO.ite ?_ ?_|refine LeO.bind ?_ (fun _=>?_)
theorem spec_l1Hex.calls (k:Nat) (a0:Int) (r:Int) (w:World) (h:spec_l1Hex.f k a0=some r) :
  Calls Tryz.prog 148 #[.int .u8 a0] w fun e w'=>e=.returned (.int .i64 r)∧Drawn0 w w':=by
 unfold spec_l1Hex.f at h
 have H:=h;clear h;have HC2:=A_ H;clear H;go_enter Tryz.func148,Tryz.ntmps148;go_upto_region 1 with (fail)
 go_cut [3] (fun v3 wc=>∃ (kq:Nat) (x3_1:Bool),v3=.bool x3_1∧Aside0 (spec_l1Hex.j0 kq a0 x3_1=some r)∧Aside0 (kq≤k)∧Drawn0 w wc)
 case first=>
  obtain ⟨H⟩:=HC2;replace H:=iteEe H;rcases H with ⟨c3b0,H⟩|⟨c3b0,H⟩
  ·(first|rw [c3b0]|(simp only [i64_w,i32_w];rw [c3b0])|skip)
   have H':=A_ H;clear H;go_wp2
   go_meet
   case rel=>exact ⟨_,(decide (a0≤57)),zz3,H',⟨zz22⟩,zz4⟩
  ·(first|rw [c3b0]|(simp only [i64_w,i32_w];rw [c3b0])|skip)
   have H':=A_ H;clear H;go_wp2
   go_meet
   case rel=>exact ⟨_,(false),zz3,H',⟨zz22⟩,zz4⟩
 case rest=>
  clear HC2;obtain ⟨kq,x3_1,rfl,HA,HJ1,⟨mc1,rfl⟩⟩:=hcut;cases kq with
  | zero=>exact absurd HA.out (by simp [spec_l1Hex.j0])
  | succ kj1=>
   obtain ⟨H⟩:=HA;simp only [spec_l1Hex.j0] at H
   replace H:=iteB H;rcases H with ⟨rfl,H⟩|⟨rfl,H⟩
   ·obtain rfl:=sI H
    go_wp2
    go_ret
    exact ⟨zz3,zz4⟩
   ·have HC5:=A_ H
    clear H;go_upto_region 3 with (fail)
    go_cut [13] (fun v13 wc=>∃ (kq:Nat) (x13_4:Bool),v13=.bool x13_4∧Aside0 (spec_l1Hex.j1 kq a0 x13_4=some r)∧Aside0 (kq≤kj1)∧Drawn0 w wc)
    case first=>
     obtain ⟨H⟩:=HC5;replace H:=iteEe H;rcases H with ⟨c6b0,H⟩|⟨c6b0,H⟩
     ·(first|rw [c6b0]|(simp only [i64_w,i32_w];rw [c6b0])|skip)
      have H':=A_ H;clear H;go_wp2
      go_meet
      case rel=>exact ⟨_,(decide (a0≤102)),zz3,H',⟨(zz24 HJ1)⟩,zz4⟩
     ·(first|rw [c6b0]|(simp only [i64_w,i32_w];rw [c6b0])|skip)
      have H':=A_ H;clear H;go_wp2
      go_meet
      case rel=>exact ⟨_,(false),zz3,H',⟨(zz24 HJ1)⟩,zz4⟩
    case rest=>
     clear HC5;obtain ⟨kq,x13_4,rfl,HA,HJ4,⟨mc4,rfl⟩⟩:=hcut;cases kq with
     | zero=>exact absurd HA.out (by simp [spec_l1Hex.j1])
     | succ kj4=>
      obtain ⟨H⟩:=HA;simp only [spec_l1Hex.j1] at H
      replace H:=iteB H;rcases H with ⟨rfl,H⟩|⟨rfl,H⟩
      ·obtain rfl:=sI H
       go_wp2
       go_ret
       exact ⟨zz3,zz4⟩
      ·replace H:=iteE H
       rcases H with ⟨c8,H⟩|⟨c8,H⟩
       ·have c8b0:=geT c8
        clear c8;replace H:=iteEd H;rcases H with ⟨c9b0,H⟩|⟨c9b0,H⟩
        ·obtain rfl:=sI H
         go_wp2
         go_ret
         exact ⟨zz3,zz4⟩
        ·obtain rfl:=sI H
         go_wp2
         go_ret
         exact ⟨zz3,zz4⟩
       ·have c8b0:=geF c8
        clear c8;obtain rfl:=sI H;go_wp2
        go_ret
        exact ⟨zz3,zz4⟩
mutual
def spec_EscNorm.l0:Nat→ByteArray→ByteArray→Int→Option (ByteArray×Bool)
 | 0,_,_,_=>none
 | k+1,x0,x4,x5=>if x5 < (x0.size:Int) then (if 0≤x5 then (if (bt x0 x5)=37 then (if (wrap64 (x5+2)) ≥ (x0.size:Int) then (spec_EscNorm.j1 k x0 x4 x5 true) else (if 0≤(wrap64 (x5+1)) then (if (wrap64 (x5+1)) < (x0.size:Int) then ((spec_l1Hex.f k (bt x0 (wrap64 (x5+1)))).bind fun t113=>(if t113 < 0 then (spec_EscNorm.j1 k x0 x4 x5 true) else (if 0≤(wrap64 (x5+2)) then (if (wrap64 (x5+2)) < (x0.size:Int) then ((spec_l1Hex.f k (bt x0 (wrap64 (x5+2)))).bind fun t114=>(spec_EscNorm.j1 k x0 x4 x5 (decide (t114 < 0)))) else (none)) else (none)))) else (none)) else (none))) else (spec_EscNorm.j2 k x0 x4 x5 (wrap64 (bt x0 x5)))) else (none)) else (some (x4,true))
def spec_EscNorm.j2:Nat→ByteArray→ByteArray→Int→Int→Option (ByteArray×Bool)
 | 0,_,_,_,_=>none
 | k+1,x0,x4,x5,x6=>(spec_l1Plain.f ((x6) % 256)).bind fun t117=>(if t117=true then ((some (([(x6) % 256]:List Int):List Int)).bind fun y118=>(if x4.size+(strOfNums y118).size≤9223372036854775807 then (spec_EscNorm.l0 k x0 (x4++(strOfNums y118)) (wrap64 (x5+1))) else (none))) else ((spec_l1Sign.f x6).bind fun t121=>(if x4.size+t121.size≤9223372036854775807 then (spec_EscNorm.l0 k x0 (x4++t121) (wrap64 (x5+1))) else (none))))
def spec_EscNorm.j1:Nat→ByteArray→ByteArray→Int→Bool→Option (ByteArray×Bool)
 | 0,_,_,_,_=>none
 | k+1,x0,x4,x5,x44=>if x44=true then (some ((⟨#[]⟩:ByteArray),false)) else (if 0≤(wrap64 (x5+1)) then (if (wrap64 (x5+1)) < (x0.size:Int) then ((spec_l1Hex.f k (bt x0 (wrap64 (x5+1)))).bind fun t115=>(if 0≤(wrap64 (x5+2)) then (if (wrap64 (x5+2)) < (x0.size:Int) then ((spec_l1Hex.f k (bt x0 (wrap64 (x5+2)))).bind fun t116=>(spec_EscNorm.j2 k x0 x4 (wrap64 (x5+2)) (wrap64 ((wrap64 (t115 * 16))+t116)))) else (none)) else (none))) else (none)) else (none))
end
def spec_EscNorm.f (k:Nat) (a0:ByteArray):Option (ByteArray×Bool):=if (a0.size:Int) > 60 then (some ((⟨#[]⟩:ByteArray),false)) else (spec_EscNorm.l0 k a0 (⟨#[]⟩:ByteArray) 0)
theorem spec_EscNorm.mono_l:∀ k,(∀ y0 y1 y2,LeO (spec_EscNorm.l0 k y0 y1 y2) (spec_EscNorm.l0 (k+1) y0 y1 y2))∧(∀ y0 y1 y2 y3,LeO (spec_EscNorm.j2 k y0 y1 y2 y3) (spec_EscNorm.j2 (k+1) y0 y1 y2 y3))∧(∀ y0 y1 y2 y3,LeO (spec_EscNorm.j1 k y0 y1 y2 y3) (spec_EscNorm.j1 (k+1) y0 y1 y2 y3))
 | 0=>by refine ⟨?_,?_,?_⟩ <;> (intros;intro r h;simp [spec_EscNorm.l0,spec_EscNorm.j2,spec_EscNorm.j1] at h)
 | k+1=>by
  obtain ⟨ih0,ih1,ih2⟩:=spec_EscNorm.mono_l k;refine ⟨?_,?_,?_⟩ <;> intros <;> (first|unfold spec_EscNorm.l0|unfold spec_EscNorm.j2|unfold spec_EscNorm.j1) <;>
  repeat' first|(with_reducible first|exact ih0 _ _ _|exact ih1 _ _ _ _|exact ih2 _ _ _ _|exact spec_l1Hex.mono _ _|exact LeO.refl _|exact LeO.none _|refine LeO.ite ?_ ?_|refine LeO.bind ?_ (fun _=>?_))|exact LeO.none _|refine LeO.ite ?_ ?_|refine LeO.bind ?_ (fun _=>?_)
theorem spec_EscNorm.mono:∀ a0 k,LeO (spec_EscNorm.f k a0) (spec_EscNorm.f (k+1) a0):=by
 intro a0 k;obtain ⟨ih0,ih1,ih2⟩:=spec_EscNorm.mono_l k;unfold spec_EscNorm.f
 repeat' first|(with_reducible first|exact ih0 _ _ _|exact ih1 _ _ _ _|exact ih2 _ _ _ _|exact spec_l1Hex.mono _ _|exact LeO.refl _|exact LeO.none _|refine LeO.ite ?_ ?_|refine LeO.bind ?_ (fun _=>?_))|exact LeO.none _|refine LeO.ite ?_ ?_|refine LeO.bind ?_ (fun _=>?_)
theorem spec_EscNorm.calls (k:Nat) (a0:ByteArray) (r1:ByteArray) (r2:Bool) (w:World) (h:spec_EscNorm.f k a0=some (r1,r2)) :
  Calls Tryz.prog 119 #[.string a0] w fun e w'=>e=.returned (.tuple #[.string r1,.bool r2])∧Below w.heap.size w w':=by
 have HB:=A_ (Below.refl w.heap.size w);unfold spec_EscNorm.f at h
 have H:=h;clear h;replace H:=iteE H;rcases H with ⟨c2,H⟩|⟨c2,H⟩
 ·have c2b0:=gtT c2
  have c2b1:decide (60 < a0.size)=true:=dT (by omega);clear c2;simp only [Option.some.injEq,Prod.mk.injEq] at H
  obtain ⟨rfl,rfl⟩:=H;go_enter Tryz.func119,Tryz.ntmps119;go_wp2
  repeat (go_quiet (fail);try go_wp2)
  go_ret2
  exact ⟨zz1,(zz0 HB)⟩
 ·have c2b0:=gtF c2
  have c2b1:decide (60 < a0.size)=false:=dF (by omega);clear c2;have H':=A_ H;clear H;go_enter Tryz.func119,Tryz.ntmps119;go_wp2
  repeat (go_quiet (fail);try go_wp2)
  go_loopg [4,5] k (fun kq v4 v5 w'=>∃ (x4_1:ByteArray) (x5_1:Int),v4=.string x4_1∧v5=.int .i64 x5_1∧Aside0 (spec_EscNorm.l0 kq a0 x4_1 x5_1=some (r1,r2))∧Aside0 (kq≤k)∧Aside0 (Below w.heap.size w w'))
  case atStart=>exact ⟨((⟨#[]⟩:ByteArray)),(0),zz3,zz3,H',⟨Nat.le_refl _⟩,⟨(zz0 HB)⟩⟩
  case round=>
   clear H';obtain ⟨x4_1,x5_1,rfl,rfl,HA,HK1,HB⟩:=hrel;cases gk with
   | zero=>exact absurd HA.out (by simp [spec_EscNorm.l0])
   | succ k1=>
    obtain ⟨H⟩:=HA;simp only [spec_EscNorm.l0] at H
    replace H:=iteEd H;rcases H with ⟨c3b0,H⟩|⟨c3b0,H⟩
    ·replace H:=iteNd H
     obtain ⟨c4b0,H⟩:=H;have HC7:=A_ H;clear H;have p5:0≤(x5_1:Int):=ofD;have q5:x5_1 < (a0.size:Int):=ofD;have hx5:=bt_at a0 x5_1;replace p5:=eq_true p5;replace q5:=eq_true q5;have p6:0≤(x5_1:Int):=ofD;have q6:x5_1 < (a0.size:Int):=ofD;have hx6:=bt_at a0 x5_1;replace p6:=eq_true p6;replace q6:=eq_true q6;go_upto_if 23 with (fail)
     repeat (go_quiet (fail);go_upto_if 23 with (fail))
     go_cut [5,6] (fun v5 v6 wc=>∃ (kq:Nat) (x5_6:Int) (x6_6:Int),v5=.int .i64 x5_6∧v6=.int .i64 x6_6∧Aside0 (spec_EscNorm.j2 kq a0 x4_1 x5_6 x6_6=some (r1,r2))∧Aside0 (kq≤k1)∧Aside0 (Below w.heap.size w wc))
     case first=>
      obtain ⟨H⟩:=HC7;replace H:=iteEq H;rcases H with ⟨c8b0,c8b1,H⟩|⟨c8b0,c8b1,c8,H⟩
      ·(first|rw [c8b0]|(simp only [i64_w,i32_w];rw [c8b0])|skip)
       have HC9:=A_ H;clear H;go_upto_region 9 with (fail)
       repeat (go_quiet (fail);go_upto_region 9 with (fail))
       go_cut [44] (fun v44 wc=>∃ (kq:Nat) (x44_8:Bool),v44=.bool x44_8∧Aside0 (spec_EscNorm.j1 kq a0 x4_1 x5_1 x44_8=some (r1,r2))∧Aside0 (kq≤k1)∧Aside0 (Below w.heap.size w wc))
       case first=>
        obtain ⟨H⟩:=HC9;replace H:=iteEe H;rcases H with ⟨c10b0,H⟩|⟨c10b0,H⟩
        ·(first|rw [c10b0]|(simp only [i64_w,i32_w];rw [c10b0])|skip)
         have H':=A_ H;clear H;go_wp2
         repeat (go_quiet (fail);try go_wp2)
         go_meet
         case rel=>exact ⟨_,(true),zz3,H',⟨(zz24 HK1)⟩,⟨(zz0 HB)⟩⟩
        ·(first|rw [c10b0]|(simp only [i64_w,i32_w];rw [c10b0])|skip)
         obtain ⟨ji11,hji11⟩:∃ j_:Int,(wrap64 (x5_1+1))=j_:=⟨_,rfl⟩;(first|rw [hji11] at H|simp only [hji11] at H)
         have hji11w:(IntKind.i64.wrap (x5_1+1))=ji11:=(i64_w _).trans hji11;replace H:=iteNd H;obtain ⟨c12b0,H⟩:=H;replace H:=iteNd H;obtain ⟨c13b0,H⟩:=H;replace H:=bindA H;obtain ⟨t113,A15,H⟩:=H;have HF16:=A_ H;clear H;have p14:0≤((ji11):Int):=ofD;have q14:(ji11) < (a0.size:Int):=ofD;have hx14:=bt_at a0 (ji11);replace p14:=eq_true p14;replace q14:=eq_true q14;go_wp2_with (first|(go_at_call 148;(with_reducible refine (spec_l1Hex.calls k1 (bt a0 (ji11)) t113 _ A15.out).mono ?_);rintro e w' ⟨rfl,⟨nd,rfl⟩⟩;(try first|exact ⟨rfl,_,World.drewN_drewN _ _ _⟩|exact ⟨rfl,_,Eq.trans (World.drewN_drewN _ _ _) (congrArg (World.drewN _) (Nat.add_assoc _ _ _))⟩))|((with_reducible refine atG ?_ ?_ fun K_ hK_=>?_);rfl;exact undecG)|((with_reducible refine atI ?_ fun K_ hK_=>?_);exact undecI))
         repeat (go_quiet (first|(go_at_call 148;(with_reducible refine (spec_l1Hex.calls k1 (bt a0 (ji11)) t113 _ A15.out).mono ?_);rintro e w' ⟨rfl,⟨nd,rfl⟩⟩;(try first|exact ⟨rfl,_,World.drewN_drewN _ _ _⟩|exact ⟨rfl,_,Eq.trans (World.drewN_drewN _ _ _) (congrArg (World.drewN _) (Nat.add_assoc _ _ _))⟩))|((with_reducible refine atG ?_ ?_ fun K_ hK_=>?_);rfl;exact undecG)|((with_reducible refine atI ?_ fun K_ hK_=>?_);exact undecI));go_wp2_with (first|(go_at_call 148;(with_reducible refine (spec_l1Hex.calls k1 (bt a0 (ji11)) t113 _ A15.out).mono ?_);rintro e w' ⟨rfl,⟨nd,rfl⟩⟩;(try first|exact ⟨rfl,_,World.drewN_drewN _ _ _⟩|exact ⟨rfl,_,Eq.trans (World.drewN_drewN _ _ _) (congrArg (World.drewN _) (Nat.add_assoc _ _ _))⟩))|((with_reducible refine atG ?_ ?_ fun K_ hK_=>?_);rfl;exact undecG)|((with_reducible refine atI ?_ fun K_ hK_=>?_);exact undecI)))
         refine unG hK_ ?_;clear hK_ K_;obtain ⟨H⟩:=HF16;replace H:=iteE H;rcases H with ⟨c17,H⟩|⟨c17,H⟩
         ·have c17b0:=dT c17
          (first|refine iteT ?_|refine iteF ?_|skip)
          clear c17;(first|rw [c17b0]|(simp only [i64_w,i32_w];rw [c17b0])|skip)
          have H':=A_ H;clear H;(try ((with_reducible refine upS ?_);go_simp))
          go_wp2
          repeat (go_quiet (fail);try go_wp2)
          go_meet
          case rel=>exact ⟨_,(true),zz3,H',⟨(zz24 HK1)⟩,⟨(zz0 HB)⟩⟩
         ·have c17b0:=dF c17
          (first|refine iteT ?_|refine iteF ?_|skip)
          clear c17;(first|rw [c17b0]|(simp only [i64_w,i32_w];rw [c17b0])|skip)
          obtain ⟨ji18,hji18⟩:∃ j_:Int,(wrap64 (x5_1+2))=j_:=⟨_,rfl⟩;(first|rw [hji18] at H|simp only [hji18] at H)
          (try rw [hji18] at c10b0)
          have hji18w:(IntKind.i64.wrap (x5_1+2))=ji18:=(i64_w _).trans hji18;replace H:=iteNd H;obtain ⟨c19b0,H⟩:=H;replace H:=iteNd H;obtain ⟨c20b0,H⟩:=H;replace H:=bindA H;obtain ⟨t114,A22,H⟩:=H;have H':=A_ H;clear H;have p21:0≤((ji18):Int):=ofD;have q21:(ji18) < (a0.size:Int):=ofD;have hx21:=bt_at a0 (ji18);replace p21:=eq_true p21;replace q21:=eq_true q21;go_wp2_with (first|(go_at_call 148;(with_reducible refine (spec_l1Hex.calls k1 (bt a0 (ji18)) t114 _ A22.out).mono ?_);rintro e w' ⟨rfl,⟨nd,rfl⟩⟩;(try first|exact ⟨rfl,_,World.drewN_drewN _ _ _⟩|exact ⟨rfl,_,Eq.trans (World.drewN_drewN _ _ _) (congrArg (World.drewN _) (Nat.add_assoc _ _ _))⟩)))
          repeat (go_quiet (first|(go_at_call 148;(with_reducible refine (spec_l1Hex.calls k1 (bt a0 (ji18)) t114 _ A22.out).mono ?_);rintro e w' ⟨rfl,⟨nd,rfl⟩⟩;(try first|exact ⟨rfl,_,World.drewN_drewN _ _ _⟩|exact ⟨rfl,_,Eq.trans (World.drewN_drewN _ _ _) (congrArg (World.drewN _) (Nat.add_assoc _ _ _))⟩)));try go_wp2_with (first|(go_at_call 148;(with_reducible refine (spec_l1Hex.calls k1 (bt a0 (ji18)) t114 _ A22.out).mono ?_);rintro e w' ⟨rfl,⟨nd,rfl⟩⟩;(try first|exact ⟨rfl,_,World.drewN_drewN _ _ _⟩|exact ⟨rfl,_,Eq.trans (World.drewN_drewN _ _ _) (congrArg (World.drewN _) (Nat.add_assoc _ _ _))⟩))))
          go_meet
          case rel=>exact ⟨_,(decide (t114 < 0)),zz3,H',⟨(zz24 HK1)⟩,⟨(zz0 HB)⟩⟩
       case rest=>
        clear HC9;obtain ⟨kq,x44_8,rfl,HA,HJ8,HB⟩:=hcut;cases kq with
        | zero=>exact absurd HA.out (by simp [spec_EscNorm.j1])
        | succ kj8=>
         obtain ⟨H⟩:=HA;simp only [spec_EscNorm.j1] at H
         replace H:=iteB H;rcases H with ⟨rfl,H⟩|⟨rfl,H⟩
         ·simp only [Option.some.injEq,Prod.mk.injEq] at H
          obtain ⟨rfl,rfl⟩:=H;go_wp2
          repeat (go_quiet (fail);try go_wp2)
          go_ret2
          exact ⟨zz1,(zz0 HB)⟩
         ·obtain ⟨ji24,hji24⟩:∃ j_:Int,(wrap64 (x5_1+1))=j_:=⟨_,rfl⟩
          (first|rw [hji24] at H|simp only [hji24] at H)
          have hji24w:(IntKind.i64.wrap (x5_1+1))=ji24:=(i64_w _).trans hji24;replace H:=iteNd H;obtain ⟨c25b0,H⟩:=H;replace H:=iteNd H;obtain ⟨c26b0,H⟩:=H;replace H:=bindA H;obtain ⟨t115,A28,H⟩:=H;obtain ⟨ji29,hji29⟩:∃ j_:Int,(wrap64 (x5_1+2))=j_:=⟨_,rfl⟩;(first|rw [hji29] at H|simp only [hji29] at H)
          (try rw [hji29] at A28)
          have hji29w:(IntKind.i64.wrap (x5_1+2))=ji29:=(i64_w _).trans hji29;replace H:=iteNd H;obtain ⟨c30b0,H⟩:=H;replace H:=iteNd H;obtain ⟨c31b0,H⟩:=H;replace H:=bindA H;obtain ⟨t116,A33,H⟩:=H;have H':=A_ H;clear H;have p27:0≤((ji24):Int):=ofD;have q27:(ji24) < (a0.size:Int):=ofD;have hx27:=bt_at a0 (ji24);replace p27:=eq_true p27;replace q27:=eq_true q27;go_wp2_with (first|(go_at_call 148;(with_reducible refine (spec_l1Hex.calls kj8 (bt a0 (ji24)) t115 _ A28.out).mono ?_);rintro e w' ⟨rfl,⟨nd,rfl⟩⟩;(try first|exact ⟨rfl,_,World.drewN_drewN _ _ _⟩|exact ⟨rfl,_,Eq.trans (World.drewN_drewN _ _ _) (congrArg (World.drewN _) (Nat.add_assoc _ _ _))⟩);have p32:0≤((ji29):Int):=ofD;have q32:(ji29) < (a0.size:Int):=ofD;have hx32:=bt_at a0 (ji29);replace p32:=eq_true p32;replace q32:=eq_true q32)|(go_at_call 148;(with_reducible refine (spec_l1Hex.calls kj8 (bt a0 (ji29)) t116 _ A33.out).mono ?_);rintro e w' ⟨rfl,⟨nd,rfl⟩⟩;(try first|exact ⟨rfl,_,World.drewN_drewN _ _ _⟩|exact ⟨rfl,_,Eq.trans (World.drewN_drewN _ _ _) (congrArg (World.drewN _) (Nat.add_assoc _ _ _))⟩)))
          repeat (go_quiet (first|(go_at_call 148;(with_reducible refine (spec_l1Hex.calls kj8 (bt a0 (ji24)) t115 _ A28.out).mono ?_);rintro e w' ⟨rfl,⟨nd,rfl⟩⟩;(try first|exact ⟨rfl,_,World.drewN_drewN _ _ _⟩|exact ⟨rfl,_,Eq.trans (World.drewN_drewN _ _ _) (congrArg (World.drewN _) (Nat.add_assoc _ _ _))⟩);have p32:0≤((ji29):Int):=ofD;have q32:(ji29) < (a0.size:Int):=ofD;have hx32:=bt_at a0 (ji29);replace p32:=eq_true p32;replace q32:=eq_true q32)|(go_at_call 148;(with_reducible refine (spec_l1Hex.calls kj8 (bt a0 (ji29)) t116 _ A33.out).mono ?_);rintro e w' ⟨rfl,⟨nd,rfl⟩⟩;(try first|exact ⟨rfl,_,World.drewN_drewN _ _ _⟩|exact ⟨rfl,_,Eq.trans (World.drewN_drewN _ _ _) (congrArg (World.drewN _) (Nat.add_assoc _ _ _))⟩)));try go_wp2_with (first|(go_at_call 148;(with_reducible refine (spec_l1Hex.calls kj8 (bt a0 (ji24)) t115 _ A28.out).mono ?_);rintro e w' ⟨rfl,⟨nd,rfl⟩⟩;(try first|exact ⟨rfl,_,World.drewN_drewN _ _ _⟩|exact ⟨rfl,_,Eq.trans (World.drewN_drewN _ _ _) (congrArg (World.drewN _) (Nat.add_assoc _ _ _))⟩);have p32:0≤((ji29):Int):=ofD;have q32:(ji29) < (a0.size:Int):=ofD;have hx32:=bt_at a0 (ji29);replace p32:=eq_true p32;replace q32:=eq_true q32)|(go_at_call 148;(with_reducible refine (spec_l1Hex.calls kj8 (bt a0 (ji29)) t116 _ A33.out).mono ?_);rintro e w' ⟨rfl,⟨nd,rfl⟩⟩;(try first|exact ⟨rfl,_,World.drewN_drewN _ _ _⟩|exact ⟨rfl,_,Eq.trans (World.drewN_drewN _ _ _) (congrArg (World.drewN _) (Nat.add_assoc _ _ _))⟩))))
          go_meet
          case rel=>exact ⟨_,(ji29),(wrap64 ((wrap64 (t115 * 16))+t116)),(by first|rfl|(simp only [i64_w,i32_w];done)|(simp only [aid_isEmpty,aid_isEmpty2];done)|(simp;done)|((simp only [← hji29] <;> (first|rfl|simp));done)|(simp [*];done)),zz3,H',⟨(by have:=HK1.out;have:=HJ8.out;first|omega|exact Nat.le_refl _)⟩,⟨(zz0 HB)⟩⟩
      ·(first|rw [c8b0]|(simp only [i64_w,i32_w];rw [c8b0])|skip)
       have H':=A_ H;clear H;go_wp2
       repeat (go_quiet (fail);try go_wp2)
       go_meet
       case rel=>exact ⟨_,(x5_1),(wrap64 (bt a0 x5_1)),zz3,zz3,H',⟨(zz24 HK1)⟩,⟨(zz0 HB)⟩⟩
     case rest=>
      clear HC7;obtain ⟨kq,x5_6,x6_6,rfl,rfl,HA,HJ6,HB⟩:=hcut;cases kq with
      | zero=>exact absurd HA.out (by simp [spec_EscNorm.j2])
      | succ kj6=>
       obtain ⟨H⟩:=HA;simp only [spec_EscNorm.j2] at H
       replace H:=bindA H;obtain ⟨t117,A34,H⟩:=H;have HF35:=A_ H;clear H;go_upto_if 61 with (first|(go_at_call 149;(with_reducible refine (spec_l1Plain.calls ((x6_6) % 256) t117 _ A34.out).mono ?_);rintro e w' ⟨rfl,⟨nd,rfl⟩⟩;(try first|exact ⟨rfl,_,World.drewN_drewN _ _ _⟩|exact ⟨rfl,_,Eq.trans (World.drewN_drewN _ _ _) (congrArg (World.drewN _) (Nat.add_assoc _ _ _))⟩)))
       repeat (go_quiet (first|(go_at_call 149;(with_reducible refine (spec_l1Plain.calls ((x6_6) % 256) t117 _ A34.out).mono ?_);rintro e w' ⟨rfl,⟨nd,rfl⟩⟩;(try first|exact ⟨rfl,_,World.drewN_drewN _ _ _⟩|exact ⟨rfl,_,Eq.trans (World.drewN_drewN _ _ _) (congrArg (World.drewN _) (Nat.add_assoc _ _ _))⟩)));go_upto_if 61 with (first|(go_at_call 149;(with_reducible refine (spec_l1Plain.calls ((x6_6) % 256) t117 _ A34.out).mono ?_);rintro e w' ⟨rfl,⟨nd,rfl⟩⟩;(try first|exact ⟨rfl,_,World.drewN_drewN _ _ _⟩|exact ⟨rfl,_,Eq.trans (World.drewN_drewN _ _ _) (congrArg (World.drewN _) (Nat.add_assoc _ _ _))⟩))))
       obtain ⟨H⟩:=HF35;replace H:=iteB H;rcases H with ⟨rfl,H⟩|⟨rfl,H⟩
       ·obtain ⟨y118,Ny118,H⟩:=bindY H
        replace H:=iteN H;obtain ⟨c37,H⟩:=H;have c37b0:=eq_true c37;have c37b1:=dT c37;try have c37b2:(9223372036854775807 < x4_1.size+(strOfNums y118).size)=False:=eq_false (Nat.not_lt.2 c37)
        have H':=A_ H;clear H;go_wp2_with (first|((with_reducible refine gD (N:=65) rfl ?_);refine Kd.R_lit (Kd.int .u8) _ 5 ?hg (N:=65) ?hd (xs:=([(x6_6) % 256]:List Int)) (inner:=[.int .u8 ((x6_6) % 256)]) (ok:=fun _=>True) (okp:=fun _=>True) ?hr ?hp (fun _ hk=>hk) trivial (Below.refl _ _) (Nat.le_refl _) (by simp) ?_;(case hd=>rfl);(case hg=>rfl);(case hr=>exact zz6);(case hp=>exact (Reps.one (show Kd.M (Kd.int .u8) _ _ _ ((x6_6) % 256) [.int .u8 ((x6_6) % 256)] from rfl) (Reps.none _ _)));intro v119 w38 ho39 hb hg_ hnew_;clear hg_ hnew_;(first|rw [← Ny118.out] at ho39|(simp only [Int.reduceToNat] at ho39;rw [← Ny118.out] at ho39));have HO120:=A_ (Kd.R_lower ho39 (below_size (zz0 HB)));replace HB:=A_ (bS (zz0 HB) hb);clear hb ho39;have hcv40:=own_string (P:=Tryz.prog) Tryz.underlying37 Tryz.underlying5 Tryz.underlying9 (Kd.own_of_R HO120.out)))
        repeat (go_quiet (first|((with_reducible refine gD (N:=65) rfl ?_);refine Kd.R_lit (Kd.int .u8) _ 5 ?hg (N:=65) ?hd (xs:=([(x6_6) % 256]:List Int)) (inner:=[.int .u8 ((x6_6) % 256)]) (ok:=fun _=>True) (okp:=fun _=>True) ?hr ?hp (fun _ hk=>hk) trivial (Below.refl _ _) (Nat.le_refl _) (by simp) ?_;(case hd=>rfl);(case hg=>rfl);(case hr=>exact zz6);(case hp=>exact (Reps.one (show Kd.M (Kd.int .u8) _ _ _ ((x6_6) % 256) [.int .u8 ((x6_6) % 256)] from rfl) (Reps.none _ _)));intro v119 w38 ho39 hb hg_ hnew_;clear hg_ hnew_;(first|rw [← Ny118.out] at ho39|(simp only [Int.reduceToNat] at ho39;rw [← Ny118.out] at ho39));have HO120:=A_ (Kd.R_lower ho39 (below_size (zz0 HB)));replace HB:=A_ (bS (zz0 HB) hb);clear hb ho39;have hcv40:=own_string (P:=Tryz.prog) Tryz.underlying37 Tryz.underlying5 Tryz.underlying9 (Kd.own_of_R HO120.out)));try go_wp2_with (first|((with_reducible refine gD (N:=65) rfl ?_);refine Kd.R_lit (Kd.int .u8) _ 5 ?hg (N:=65) ?hd (xs:=([(x6_6) % 256]:List Int)) (inner:=[.int .u8 ((x6_6) % 256)]) (ok:=fun _=>True) (okp:=fun _=>True) ?hr ?hp (fun _ hk=>hk) trivial (Below.refl _ _) (Nat.le_refl _) (by simp) ?_;(case hd=>rfl);(case hg=>rfl);(case hr=>exact zz6);(case hp=>exact (Reps.one (show Kd.M (Kd.int .u8) _ _ _ ((x6_6) % 256) [.int .u8 ((x6_6) % 256)] from rfl) (Reps.none _ _)));intro v119 w38 ho39 hb hg_ hnew_;clear hg_ hnew_;(first|rw [← Ny118.out] at ho39|(simp only [Int.reduceToNat] at ho39;rw [← Ny118.out] at ho39));have HO120:=A_ (Kd.R_lower ho39 (below_size (zz0 HB)));replace HB:=A_ (bS (zz0 HB) hb);clear hb ho39;have hcv40:=own_string (P:=Tryz.prog) Tryz.underlying37 Tryz.underlying5 Tryz.underlying9 (Kd.own_of_R HO120.out))))
        go_roundg kj6
        case measure=>have:=HK1.out;have:=HJ6.out;omega
        case rel=>exact ⟨(x4_1++(strOfNums y118)),(wrap64 (x5_6+1)),zz3,zz3,H',⟨(zz31 HK1 HJ6)⟩,⟨(zz0 HB)⟩⟩
       ·replace H:=bindA H
        obtain ⟨t121,A41,H⟩:=H;replace H:=iteN H;obtain ⟨c42,H⟩:=H;have c42b0:=eq_true c42;have c42b1:=dT c42;try have c42b2:(9223372036854775807 < x4_1.size+t121.size)=False:=eq_false (Nat.not_lt.2 c42)
        have H':=A_ H;clear H;go_wp2_with (first|(go_at_call 150;(with_reducible refine (spec_l1Sign.calls x6_6 t121 _ A41.out).mono ?_);rintro e w' ⟨rfl,⟨nd,rfl⟩⟩;(try first|exact ⟨rfl,_,World.drewN_drewN _ _ _⟩|exact ⟨rfl,_,Eq.trans (World.drewN_drewN _ _ _) (congrArg (World.drewN _) (Nat.add_assoc _ _ _))⟩)))
        repeat (go_quiet (first|(go_at_call 150;(with_reducible refine (spec_l1Sign.calls x6_6 t121 _ A41.out).mono ?_);rintro e w' ⟨rfl,⟨nd,rfl⟩⟩;(try first|exact ⟨rfl,_,World.drewN_drewN _ _ _⟩|exact ⟨rfl,_,Eq.trans (World.drewN_drewN _ _ _) (congrArg (World.drewN _) (Nat.add_assoc _ _ _))⟩)));try go_wp2_with (first|(go_at_call 150;(with_reducible refine (spec_l1Sign.calls x6_6 t121 _ A41.out).mono ?_);rintro e w' ⟨rfl,⟨nd,rfl⟩⟩;(try first|exact ⟨rfl,_,World.drewN_drewN _ _ _⟩|exact ⟨rfl,_,Eq.trans (World.drewN_drewN _ _ _) (congrArg (World.drewN _) (Nat.add_assoc _ _ _))⟩))))
        go_roundg kj6
        case measure=>have:=HK1.out;have:=HJ6.out;omega
        case rel=>exact ⟨(x4_1++t121),(wrap64 (x5_6+1)),zz3,zz3,H',⟨(zz31 HK1 HJ6)⟩,⟨(zz0 HB)⟩⟩
    ·simp only [Option.some.injEq,Prod.mk.injEq] at H
     obtain ⟨rfl,rfl⟩:=H;go_wp2
     repeat (go_quiet (fail);try go_wp2)
     go_ret2
     exact ⟨zz1,(zz0 HB)⟩
mutual
def spec_PathClean.l0:Nat→List ByteArray→List ByteArray→Int→Option (List ByteArray)
 | 0,_,_,_=>none
 | k+1,x0,x3,x4=>if x4 < (x0.length:Int) then (if 0≤x4 then (if (rdOf ByteArray.empty x0 x4).toList=([]:List UInt8) then (spec_PathClean.j1 k x0 x3 x4 true) else (spec_PathClean.j1 k x0 x3 x4 ((rdOf ByteArray.empty x0 x4).toList == ([46]:List UInt8)))) else (none)) else (some x3)
def spec_PathClean.j1:Nat→List ByteArray→List ByteArray→Int→Bool→Option (List ByteArray)
 | 0,_,_,_,_=>none
 | k+1,x0,x3,x4,x19=>if x19=true then (spec_PathClean.l0 k x0 x3 (wrap64 (x4+1))) else (if 0≤x4 then (if x4 < (x0.length:Int) then (if (rdOf ByteArray.empty x0 x4).toList=([46,46]:List UInt8) then (if 0≤(mx (wrap64 ((x3.length:Int) - 1)) 0) then (if (mx (wrap64 ((x3.length:Int) - 1)) 0)≤(x3.length:Int) then (spec_PathClean.l0 k x0 (x3.take ((mx (wrap64 ((x3.length:Int) - 1)) 0):Int).toNat) (wrap64 (x4+1))) else (none)) else (none)) else (if x3.length < 8796093022208 then (spec_PathClean.l0 k x0 (x3++[rdOf ByteArray.empty x0 x4]) (wrap64 (x4+1))) else (none))) else (none)) else (none))
end
def spec_PathClean.f (k:Nat) (l0:List ByteArray):Option (List ByteArray):=spec_PathClean.l0 k l0 (([]:List ByteArray)) 0
theorem spec_PathClean.calls (k:Nat) (A0:Option Addr) (c0:Nat) (l0:List ByteArray) (r:List ByteArray) (w:World) (hr0:Kd.C Kd.string w A0 l0.length l0) (hc0:l0.length≤c0) (h:spec_PathClean.f k l0=some r) :
  Calls Tryz.prog 120 #[.slice A0 l0.length c0] w fun e w'=>∃ v0_:Value,e=.returned (v0_)∧Kd.R Kd.string 9 w' w.heap.size (fun _=>True) v0_ r∧Below w.heap.size w w':=by
 have HR0:=A_ hr0;have HC0:=A_ hc0;clear hr0 hc0;have HB:=A_ (Below.refl w.heap.size w);unfold spec_PathClean.f at h
 have H:=h;clear h;obtain ⟨y122,Ny122⟩:=toY (([]:List ByteArray));(first|with_reducible replace H:=bindZ Ny122 H|rw [← Ny122.out] at H|skip)
 have H':=A_ H;clear H;go_enter Tryz.func120,Tryz.ntmps120;go_wp2_with (first|((with_reducible refine gD (N:=5) rfl ?_);refine Kd.R_lit Kd.string _ 9 ?hg (N:=5) ?hd (xs:=([]:List ByteArray)) (inner:=[]) (ok:=fun _=>True) (okp:=fun _=>True) ?hr ?hp (fun _ hk=>hk) trivial (Below.refl _ _) (Nat.le_refl _) (by simp) ?_;(case hd=>rfl);(case hg=>rfl);(case hr=>exact zz6);(case hp=>exact (Reps.none _ _));intro v123 w2 ho3 hb hg_ hnew_;clear hg_ hnew_;(first|rw [← Ny122.out] at ho3|(simp only [Int.reduceToNat] at ho3;rw [← Ny122.out] at ho3));have HO124:=A_ (Kd.R_lower ho3 (below_size (zz0 HB)));replace HB:=A_ (bS (zz0 HB) hb);clear hb ho3))
 go_loopg [3,4] k (fun kq v3 v4 w'=>∃ (x3_1:List ByteArray) (x4_1:Int),v4=.int .i64 x4_1∧Aside0 (spec_PathClean.l0 kq l0 x3_1 x4_1=some r)∧Aside0 (kq≤k)∧Aside0 (Kd.R Kd.string 9 w' w.heap.size (fun _=>True) v3 x3_1)∧Aside0 (Below w.heap.size w w'))
 case atStart=>exact ⟨(y122),(0),zz3,H',⟨Nat.le_refl _⟩,⟨(zz8 HO124)⟩,⟨(zz0 HB)⟩⟩
 case round=>
  clear H';obtain ⟨x3_1,x4_1,rfl,HA,HK1,HO_3,HB⟩:=hrel;cases gk with
  | zero=>exact absurd HA.out (by simp [spec_PathClean.l0])
  | succ k1=>
   obtain ⟨H⟩:=HA;simp only [spec_PathClean.l0] at H
   replace H:=iteEd H;rcases H with ⟨c4b0,H⟩|⟨c4b0,H⟩
   ·have HC5:=A_ H
    clear H;go_upto_region 6 with (fail)
    go_cut [19] (fun v19 wc=>∃ (kq:Nat) (x19_4:Bool),v19=.bool x19_4∧Aside0 (spec_PathClean.j1 kq l0 x3_1 x4_1 x19_4=some r)∧Aside0 (kq≤k1)∧Aside0 (Kd.R Kd.string 9 wc w.heap.size (fun _=>True) u3 x3_1)∧Aside0 (Below w.heap.size w wc))
    case first=>
     obtain ⟨H⟩:=HC5;replace H:=iteNd H;obtain ⟨c6b0,H⟩:=H;(first|rw [c6b0]|(simp only [i64_w,i32_w];rw [c6b0])|skip)
     replace H:=iteEq H;rcases H with ⟨c7b0,c7b1,H⟩|⟨c7b0,c7b1,c7,H⟩
     ·have H':=A_ H
      clear H;obtain ⟨⟨ad125,e125,hx125_0⟩,p125,q125⟩:=atB (Kd.at_string HR0.out x4_1);cases e125
      replace hx125_0:=cbl HB hx125_0;go_wp2
      go_meet
      case rel=>exact ⟨_,(true),zz3,H',⟨(zz24 HK1)⟩,⟨(zz8 HO_3)⟩,⟨(zz0 HB)⟩⟩
     ·have H':=A_ H
      clear H;obtain ⟨⟨ad125,e125,hx125_0⟩,p125,q125⟩:=atB (Kd.at_string HR0.out x4_1);cases e125
      replace hx125_0:=cbl HB hx125_0;obtain ⟨⟨ad126,e126,hx126_0⟩,p126,q126⟩:=atB (Kd.at_string HR0.out x4_1);obtain rfl:ad125=ad126:=(by injection e126);replace hx126_0:=cbl HB hx126_0;go_wp2
      go_meet
      case rel=>exact ⟨_,(((rdOf ByteArray.empty l0 x4_1).toList == ([46]:List UInt8))),zz3,H',⟨(zz24 HK1)⟩,⟨(zz8 HO_3)⟩,⟨(zz0 HB)⟩⟩
    case rest=>
     clear HC5;obtain ⟨kq,x19_4,rfl,HA,HJ4,HO_3,HB⟩:=hcut;cases kq with
     | zero=>exact absurd HA.out (by simp [spec_PathClean.j1])
     | succ kj4=>
      obtain ⟨H⟩:=HA;simp only [spec_PathClean.j1] at H
      replace H:=iteB H;rcases H with ⟨rfl,H⟩|⟨rfl,H⟩
      ·have H':=A_ H
       clear H;go_wp2
       go_roundg kj4
       case measure=>have:=HK1.out;have:=HJ4.out;omega
       case rel=>exact ⟨(x3_1),(wrap64 (x4_1+1)),zz3,H',⟨(zz31 HK1 HJ4)⟩,⟨(zz8 HO_3)⟩,⟨(zz0 HB)⟩⟩
      ·replace H:=iteN H
       obtain ⟨c9,H⟩:=H;have c9b0:=dT c9;clear c9;replace H:=iteNd H;obtain ⟨c10b0,H⟩:=H;replace H:=iteEq H;rcases H with ⟨c11b0,c11b1,H⟩|⟨c11b0,c11b1,c11,H⟩
       ·obtain ⟨ji12,hji12⟩:∃ j_:Int,(mx (wrap64 ((x3_1.length:Int) - 1)) 0)=j_:=⟨_,rfl⟩
        (first|rw [hji12] at H|simp only [hji12] at H)
        have hji12_:(if (wrap64 ((x3_1.length:Int) - 1)) < 0 then 0 else (wrap64 ((x3_1.length:Int) - 1)))=ji12:=hji12;replace H:=iteN H;obtain ⟨c13,H⟩:=H;have c13b0:=eq_true c13;have c13b1:=dT c13;clear c13;replace H:=iteN H;obtain ⟨c14,H⟩:=H;have c14b0:=eq_true c14;have c14b1:=dT c14;clear c14;obtain ⟨y128,Ny128⟩:=toY (x3_1.take ((ji12):Int).toNat);(first|with_reducible replace H:=bindZ Ny128 H|rw [← Ny128.out] at H|skip)
        have H':=A_ H;clear H;obtain ⟨⟨ad127,e127,hx127_0⟩,p127,q127⟩:=atB (Kd.at_string HR0.out x4_1);cases e127
        replace hx127_0:=cbl HB hx127_0;obtain ⟨Ao15,co15,eo15⟩:=Kd.R_slice HO_3.out;subst eo15;have q16:((ji12):Int)≤((x3_1.length:Int):Int):=ofD;obtain ⟨i016,hi016,_,hsz16,_⟩:=info_parts info9;have hcut16:=cut_to (P:=Tryz.prog) 29 9 .i64 Tryz.underlying29 hi016 Ao15 x3_1.length co15 (ji12) ofD q16 (Kd.R_reads' HO_3.out).2.1;have hr16:=Kd.R_take (m:=((ji12):Int).toNat) HO_3.out (by omega);have hy16:y128.length=((ji12):Int).toNat:=(by rw [Ny128.out,List.length_take];omega);rw [← Ny128.out] at hr16;rw [← hy16] at hr16 hcut16;clear hy16 hi016 hsz16 HO_3;have HO130:=A_ hr16;clear hr16;replace q16:=eq_true q16;go_wp2
        go_roundg kj4
        case measure=>have:=HK1.out;have:=HJ4.out;omega
        case rel=>exact ⟨(y128),(wrap64 (x4_1+1)),zz3,H',⟨(zz31 HK1 HJ4)⟩,⟨(zz8 HO130)⟩,⟨(zz0 HB)⟩⟩
       ·replace H:=iteN H
        obtain ⟨c17,H⟩:=H;have LMc17:=A_ c17;clear c17;obtain ⟨y132,Ny132⟩:=toY (x3_1++[rdOf ByteArray.empty l0 x4_1]);(first|with_reducible replace H:=bindZ Ny132 H|rw [← Ny132.out] at H|skip)
        have H':=A_ H;clear H;obtain ⟨⟨ad127,e127,hx127_0⟩,p127,q127⟩:=atB (Kd.at_string HR0.out x4_1);cases e127
        replace hx127_0:=cbl HB hx127_0;obtain ⟨⟨ad131,e131,hx131_0⟩,p131,q131⟩:=atB (Kd.at_string HR0.out x4_1);obtain rfl:ad127=ad131:=(by injection e131);replace hx131_0:=cbl HB hx131_0;go_wp2_with (first|((with_reducible refine gate_builtin (b:=.append) (xs:=#[.tmp 12,.tmp 17]) rfl ?_);at_builtin;refine Kd.R_append Kd.string (w0:=w) w.heap.size rfl (.tmp 12) (.tmp 17) 29 9 (.string ⟨#[]⟩) 16 rfl Tryz.underlying29 info9 rfl (by decide) (by omega) u3 x3_1 (rdOf ByteArray.empty l0 x4_1) [.string (rdOf ByteArray.empty l0 x4_1)] (fun _=>True) (fun _=>False) rfl rfl ?aP (fun _ hk=>hk.elim) ?aF ?aO ?aB ?aS ?aL ?_;(case aP=>exact rfl);(case aB=>exact (zz0 HB));(case aF=>exact (fun _ _=>trivial));(case aO=>exact (zz8 HO_3));(case aS=>exact (below_size (zz0 HB)));(case aL=>exact (zz17 LMc17));intro v133 w18 ho hb hg hat;rw [← Ny132.out] at ho;replace HB:=A_ (hb);have HO134:=A_ (ho);clear HO_3;clear ho hb hg hat))
        go_roundg kj4
        case measure=>have:=HK1.out;have:=HJ4.out;omega
        case rel=>exact ⟨(y132),(wrap64 (x4_1+1)),zz3,H',⟨(zz31 HK1 HJ4)⟩,⟨(zz8 HO134)⟩,⟨(zz0 HB)⟩⟩
   ·obtain rfl:=sI H
    go_wp2
    go_ret
    exact ⟨_,zz1,(zz8 HO_3),(zz0 HB)⟩
def spec_l1Path.l0:Nat→ByteArray→Int→ByteArray→List ByteArray→Bool→ByteArray→Option (ByteArray)
 | 0,_,_,_,_,_,_=>none
 | k+1,x3,x4,x137000,x137001,x137002,x137003=>if x4 < (x137001.length:Int) then (if x4 > 0 then (if x3.size+1≤9223372036854775807 then (if 0≤x4 then (if x3.size+1+(rdOf ByteArray.empty x137001 x4).size≤9223372036854775807 then (spec_l1Path.l0 k ((x3++(⟨#[47]⟩:ByteArray))++(rdOf ByteArray.empty x137001 x4)) (wrap64 (x4+1)) x137000 x137001 x137002 x137003) else (none)) else (none)) else (none)) else (if 0≤x4 then (if x3.size+(rdOf ByteArray.empty x137001 x4).size≤9223372036854775807 then (spec_l1Path.l0 k (x3++(rdOf ByteArray.empty x137001 x4)) (wrap64 (x4+1)) x137000 x137001 x137002 x137003) else (none)) else (none))) else (if x137002=true then (if x3.size+1≤9223372036854775807 then (if x3.size+1+x137003.size≤9223372036854775807 then (some ((x3++(⟨#[63]⟩:ByteArray))++x137003)) else (none)) else (none)) else (some x3))
def spec_l1Path.f (k:Nat) (a0_0:ByteArray) (l0_1:List ByteArray) (a0_2:Bool) (a0_3:ByteArray):Option (ByteArray):=spec_l1Path.l0 k (⟨#[47]⟩:ByteArray) 0 a0_0 l0_1 a0_2 a0_3
theorem spec_l1Path.mono_l:∀ k,(∀ y0 y1 y2 y3 y4 y5,LeO (spec_l1Path.l0 k y0 y1 y2 y3 y4 y5) (spec_l1Path.l0 (k+1) y0 y1 y2 y3 y4 y5))
 | 0=>by intros;intro r h;simp [spec_l1Path.l0] at h
 | k+1=>by
  have ih0:=spec_l1Path.mono_l k;intros;unfold spec_l1Path.l0;repeat' first|(with_reducible first|exact ih0 _ _ _ _ _ _|exact LeO.refl _|exact LeO.none _|refine LeO.ite ?_ ?_|refine LeO.bind ?_ (fun _=>?_))|exact LeO.none _|refine LeO.ite ?_ ?_|refine LeO.bind ?_ (fun _=>?_)
theorem spec_l1Path.mono:∀ a0 a1 a2 a3 k,LeO (spec_l1Path.f k a0 a1 a2 a3) (spec_l1Path.f (k+1) a0 a1 a2 a3):=by
 intro a0 a1 a2 a3 k;have ih0:=spec_l1Path.mono_l k;unfold spec_l1Path.f
 repeat' first|(with_reducible first|exact ih0 _ _ _ _ _ _|exact LeO.refl _|exact LeO.none _|refine LeO.ite ?_ ?_|refine LeO.bind ?_ (fun _=>?_))|exact LeO.none _|refine LeO.ite ?_ ?_|refine LeO.bind ?_ (fun _=>?_)
theorem spec_l1Path.calls (k:Nat) (a0_0:ByteArray) (A0_1:Option Addr) (c0_1:Nat) (l0_1:List ByteArray) (a0_2:Bool) (a0_3:ByteArray) (r:ByteArray) (w:World) (hr0_1:Kd.C Kd.string w A0_1 l0_1.length l0_1) (hc0_1:l0_1.length≤c0_1) (h:spec_l1Path.f k a0_0 l0_1 a0_2 a0_3=some r) :
  Calls Tryz.prog 67 #[.agg #[.string a0_0,.slice A0_1 l0_1.length c0_1,.bool a0_2,.string a0_3]] w fun e w'=>e=.returned (.string r)∧Below w.heap.size w w':=by
 have hu51:=Tryz.underlying51;have HR0_1:=A_ hr0_1;have HC0_1:=A_ hc0_1;clear hr0_1 hc0_1;have HB:=A_ (Below.refl w.heap.size w);unfold spec_l1Path.f at h
 have H:=h;clear h;have H':=A_ H;clear H;go_enter Tryz.func67,Tryz.ntmps67;go_wp2_with (first|(refine boxF 1 #[.string a0_0,.slice A0_1 l0_1.length c0_1,.bool a0_2,.string a0_3] 51 ?_;intro gb136 hg w2 BK136 hb;have GE136:=geB hg (zz0 HB);replace HB:=A_ (bS (zz0 HB) hb);clear hb hg))
 go_loopg [3,4] k (fun kq v3 v4 w'=>∃ (x3_1:ByteArray) (x4_1:Int),v3=.string x3_1∧v4=.int .i64 x4_1∧Aside0 (spec_l1Path.l0 kq x3_1 x4_1 a0_0 l0_1 a0_2 a0_3=some r)∧Aside0 (kq≤k)∧Aside0 (w'.heap[gb136]?=some (.cells #[.string a0_0,(.slice A0_1 l0_1.length c0_1),.bool a0_2,.string a0_3] 51 (0,0)))∧Aside0 (Below w.heap.size w w'))
 case atStart=>exact ⟨((⟨#[47]⟩:ByteArray)),(0),zz3,zz3,H',⟨Nat.le_refl _⟩,⟨(zz7 BK136)⟩,⟨(zz2 HB GE136)⟩⟩
 case round=>
  clear H';obtain ⟨x3_1,x4_1,rfl,rfl,HA,HK1,BK136,HB⟩:=hrel;cases gk with
  | zero=>exact absurd HA.out (by simp [spec_l1Path.l0])
  | succ k1=>
   obtain ⟨H⟩:=HA;simp only [spec_l1Path.l0] at H
   replace H:=iteEd H;rcases H with ⟨c3b0,H⟩|⟨c3b0,H⟩
   ·replace H:=iteEg H
    rcases H with ⟨c4b0,H⟩|⟨c4b0,H⟩
    ·replace H:=iteN H
     obtain ⟨c5,H⟩:=H;have c5b0:=eq_true c5;have c5b1:=dT c5;try have c5b2:(9223372036854775807 < x3_1.size+1)=False:=eq_false (Nat.not_lt.2 c5)
     replace H:=iteNd H;obtain ⟨c6b0,H⟩:=H;replace H:=iteN H;obtain ⟨c7,H⟩:=H;have c7b0:=eq_true c7;have c7b1:=dT c7;try have c7b2:(9223372036854775807 < x3_1.size+1+(rdOf ByteArray.empty l0_1 x4_1).size)=False:=eq_false (Nat.not_lt.2 c7)
     have H':=A_ H;clear H;obtain ⟨_,_,_,_,_,_,_,_⟩:=cf4 BK136;obtain ⟨⟨ad137,e137,hx137_0⟩,p137,q137⟩:=atB (Kd.at_string HR0_1.out x4_1);cases e137
     replace hx137_0:=cbl HB hx137_0;go_wp2
     go_roundg k1
     case measure=>have:=HK1.out;omega
     case rel=>exact ⟨((x3_1++(⟨#[47]⟩:ByteArray))++(rdOf ByteArray.empty l0_1 x4_1)),(wrap64 (x4_1+1)),zz3,zz3,H',⟨(zz17 HK1)⟩,⟨(zz7 BK136)⟩,⟨(zz2 HB GE136)⟩⟩
    ·replace H:=iteNd H
     obtain ⟨c9b0,H⟩:=H;replace H:=iteN H;obtain ⟨c10,H⟩:=H;have c10b0:=eq_true c10;have c10b1:=dT c10;try have c10b2:(9223372036854775807 < x3_1.size+(rdOf ByteArray.empty l0_1 x4_1).size)=False:=eq_false (Nat.not_lt.2 c10)
     have H':=A_ H;clear H;obtain ⟨_,_,_,_,_,_,_,_⟩:=cf4 BK136;obtain ⟨⟨ad138,e138,hx138_0⟩,p138,q138⟩:=atB (Kd.at_string HR0_1.out x4_1);cases e138
     replace hx138_0:=cbl HB hx138_0;go_wp2
     go_roundg k1
     case measure=>have:=HK1.out;omega
     case rel=>exact ⟨(x3_1++(rdOf ByteArray.empty l0_1 x4_1)),(wrap64 (x4_1+1)),zz3,zz3,H',⟨(zz17 HK1)⟩,⟨(zz7 BK136)⟩,⟨(zz2 HB GE136)⟩⟩
   ·replace H:=iteB H
    rcases H with ⟨rfl,H⟩|⟨rfl,H⟩
    ·replace H:=iteN H
     obtain ⟨c13,H⟩:=H;have c13b0:=eq_true c13;have c13b1:=dT c13;try have c13b2:(9223372036854775807 < x3_1.size+1)=False:=eq_false (Nat.not_lt.2 c13)
     replace H:=iteN H;obtain ⟨c14,H⟩:=H;have c14b0:=eq_true c14;have c14b1:=dT c14;try have c14b2:(9223372036854775807 < x3_1.size+1+a0_3.size)=False:=eq_false (Nat.not_lt.2 c14)
     obtain rfl:=sI H;obtain ⟨_,_,_,_,_,_,_,_⟩:=cf4 BK136;go_wp2
     go_ret
     exact ⟨zz1,(zz2 HB GE136)⟩
    ·obtain rfl:=sI H
     obtain ⟨_,_,_,_,_,_,_,_⟩:=cf4 BK136;go_wp2
     go_ret
     exact ⟨zz1,(zz2 HB GE136)⟩
def spec_l2Name.l0:Nat→ByteArray→Int→Option (Bool)
 | 0,_,_=>none
 | k+1,x0,x3=>if x3 < (x0.size:Int) then (if 0≤x3 then (if (bt x0 x3) < 97 then (some false) else (if (bt x0 x3) > 122 then (some false) else (spec_l2Name.l0 k x0 (wrap64 (x3+1))))) else (none)) else ((spec_l6In.f (x0.size:Int) 1 8).bind fun t238=>(some t238))
def spec_l2Name.f (k:Nat) (a0:ByteArray):Option (Bool):=spec_l2Name.l0 k a0 0
theorem spec_l2Name.mono_l:∀ k,(∀ y0 y1,LeO (spec_l2Name.l0 k y0 y1) (spec_l2Name.l0 (k+1) y0 y1))
 | 0=>by intros;intro r h;simp [spec_l2Name.l0] at h
 | k+1=>by
  have ih0:=spec_l2Name.mono_l k;intros;unfold spec_l2Name.l0;repeat' first|(with_reducible first|exact ih0 _ _|exact LeO.refl _|exact LeO.none _|refine LeO.ite ?_ ?_|refine LeO.bind ?_ (fun _=>?_))|exact LeO.none _|refine LeO.ite ?_ ?_|refine LeO.bind ?_ (fun _=>?_)
theorem spec_l2Name.mono:∀ a0 k,LeO (spec_l2Name.f k a0) (spec_l2Name.f (k+1) a0):=by
 intro a0 k;have ih0:=spec_l2Name.mono_l k;unfold spec_l2Name.f
 repeat' first|(with_reducible first|exact ih0 _ _|exact LeO.refl _|exact LeO.none _|refine LeO.ite ?_ ?_|refine LeO.bind ?_ (fun _=>?_))|exact LeO.none _|refine LeO.ite ?_ ?_|refine LeO.bind ?_ (fun _=>?_)
theorem spec_l2Name.calls (k:Nat) (a0:ByteArray) (r:Bool) (w:World) (h:spec_l2Name.f k a0=some r) :
  Calls Tryz.prog 26 #[.string a0] w fun e w'=>e=.returned (.bool r)∧Drawn0 w w':=by
 unfold spec_l2Name.f at h
 have H:=h;clear h;have H':=A_ H;clear H;go_enter Tryz.func26,Tryz.ntmps26;go_wp2
 go_loopg [3] k (fun kq v3 w'=>∃ (x3_1:Int),v3=.int .i64 x3_1∧Aside0 (spec_l2Name.l0 kq a0 x3_1=some r)∧Aside0 (kq≤k)∧Drawn0 w w')
 case atStart=>exact ⟨(0),zz3,H',⟨Nat.le_refl _⟩,zz4⟩
 case round=>
  clear H';obtain ⟨x3_1,rfl,HA,HK1,⟨m1,rfl⟩⟩:=hrel;cases gk with
  | zero=>exact absurd HA.out (by simp [spec_l2Name.l0])
  | succ k1=>
   obtain ⟨H⟩:=HA;simp only [spec_l2Name.l0] at H
   replace H:=iteEd H;rcases H with ⟨c2b0,H⟩|⟨c2b0,H⟩
   ·replace H:=iteNd H
    obtain ⟨c3b0,H⟩:=H;replace H:=iteEd H;rcases H with ⟨c5b0,H⟩|⟨c5b0,H⟩
    ·obtain rfl:=sI H
     have p4:0≤(x3_1:Int):=ofD;have q4:x3_1 < (a0.size:Int):=ofD;have hx4:=bt_at a0 x3_1;replace p4:=eq_true p4;replace q4:=eq_true q4;go_wp2
     go_ret
     exact ⟨zz3,zz4⟩
    ·replace H:=iteEg H
     rcases H with ⟨c7b0,H⟩|⟨c7b0,H⟩
     ·obtain rfl:=sI H
      have p4:0≤(x3_1:Int):=ofD;have q4:x3_1 < (a0.size:Int):=ofD;have hx4:=bt_at a0 x3_1;replace p4:=eq_true p4;replace q4:=eq_true q4;have p6:0≤(x3_1:Int):=ofD;have q6:x3_1 < (a0.size:Int):=ofD;have hx6:=bt_at a0 x3_1;replace p6:=eq_true p6;replace q6:=eq_true q6;go_wp2
      go_ret
      exact ⟨zz3,zz4⟩
     ·have H':=A_ H
      clear H;have p4:0≤(x3_1:Int):=ofD;have q4:x3_1 < (a0.size:Int):=ofD;have hx4:=bt_at a0 x3_1;replace p4:=eq_true p4;replace q4:=eq_true q4;have p6:0≤(x3_1:Int):=ofD;have q6:x3_1 < (a0.size:Int):=ofD;have hx6:=bt_at a0 x3_1;replace p6:=eq_true p6;replace q6:=eq_true q6;go_wp2
      go_roundg k1
      case measure=>have:=HK1.out;omega
      case rel=>exact ⟨(wrap64 (x3_1+1)),zz3,H',⟨(zz17 HK1)⟩,zz4⟩
   ·replace H:=bindA H
    obtain ⟨t238,A8,H⟩:=H;obtain rfl:=sI H;go_wp2_with (first|(refine gR 65 (some 22) Tryz.func65 (spec_l6In.calls (a0.size:Int) 1 8 t238 _ A8.out) ?_;rintro w' ⟨nd,rfl⟩))
    go_ret
    exact ⟨zz3,zz4⟩
def spec_l11At.l0:Nat→List (S57)→ByteArray→Int→Option (ByteArray×ByteArray×ByteArray×Int×Bool)
 | 0,_,_,_=>none
 | k+1,x0,x1,x6=>if x6 < (x0.length:Int) then (if 0≤x6 then (if ((rd_T57 x0 x6).f0).toList=x1.toList then (some ((rd_T57 x0 x6).f0,(rd_T57 x0 x6).f1,(rd_T57 x0 x6).f2,(rd_T57 x0 x6).f3,true)) else (spec_l11At.l0 k x0 x1 (wrap64 (x6+1)))) else (none)) else (some ((⟨#[]⟩:ByteArray),(⟨#[]⟩:ByteArray),(⟨#[]⟩:ByteArray),0,false))
def spec_l11At.f (k:Nat) (l0:List (S57)) (a1:ByteArray):Option (ByteArray×ByteArray×ByteArray×Int×Bool):=spec_l11At.l0 k l0 a1 0
theorem spec_l11At.calls (k:Nat) (A0:Option Addr) (c0:Nat) (l0:List (S57)) (a1:ByteArray) (r1:ByteArray) (r2:ByteArray) (r3:ByteArray) (r4:Int) (r5:Bool) (w:World) (hr0:Kd.C k57 w A0 l0.length l0) (hc0:l0.length≤c0) (h:spec_l11At.f k l0 a1=some (r1,r2,r3,r4,r5)) :
  Calls Tryz.prog 103 #[.slice A0 l0.length c0,.string a1] w fun e w'=>e=.returned (.tuple #[.agg #[.string r1,.string r2,.string r3,.int .i64 r4],.bool r5])∧Below w.heap.size w w':=by
 have hu57:=Tryz.underlying57;have HR0:=A_ hr0;have HC0:=A_ hc0;clear hr0 hc0;have HB:=A_ (Below.refl w.heap.size w);unfold spec_l11At.f at h
 have H:=h;clear h;have H':=A_ H;clear H;go_enter Tryz.func103,Tryz.ntmps103;go_wp2_with (first|(refine boxF 4 #[.string (⟨#[]⟩:ByteArray),.string (⟨#[]⟩:ByteArray),.string (⟨#[]⟩:ByteArray),.int .i64 0] 57 ?_;intro gb239 hg w3 BK239 hb;have GE239:=geB hg (zz0 HB);replace HB:=A_ (bS (zz0 HB) hb);clear hb hg))
 go_loopg [6] k (fun kq v6 w'=>∃ (x6_1:Int) (x240000_1:ByteArray) (x240001_1:ByteArray) (x240002_1:ByteArray) (x240003_1:Int),v6=.int .i64 x6_1∧Aside0 (spec_l11At.l0 kq l0 a1 x6_1=some (r1,r2,r3,r4,r5))∧Aside0 (kq≤k)∧Aside0 (w'.heap[gb239]?=some (.cells #[.string x240000_1,.string x240001_1,.string x240002_1,.int .i64 x240003_1] 57 (0,0)))∧Aside0 (Below w.heap.size w w'))
 case atStart=>exact ⟨(0),((⟨#[]⟩:ByteArray)),((⟨#[]⟩:ByteArray)),((⟨#[]⟩:ByteArray)),(0),zz3,H',⟨Nat.le_refl _⟩,⟨(zz7 BK239)⟩,⟨(zz2 HB GE239)⟩⟩
 case round=>
  clear H';obtain ⟨x6_1,x240000_1,x240001_1,x240002_1,x240003_1,rfl,HA,HK1,BK239,HB⟩:=hrel;cases gk with
  | zero=>exact absurd HA.out (by simp [spec_l11At.l0])
  | succ k1=>
   obtain ⟨H⟩:=HA;simp only [spec_l11At.l0] at H
   replace H:=iteEd H;rcases H with ⟨c4b0,H⟩|⟨c4b0,H⟩
   ·replace H:=iteNd H
    obtain ⟨c5b0,H⟩:=H;replace H:=iteEq H;rcases H with ⟨c6b0,c6b1,H⟩|⟨c6b0,c6b1,c6,H⟩
    ·simp only [Option.some.injEq,Prod.mk.injEq] at H
     obtain ⟨rfl,rfl,rfl,rfl,rfl⟩:=H;obtain ⟨⟨ad240,e240,hx240_0,hx240_1,hx240_2,hx240_3⟩,p240,q240⟩:=atB (at_T57 HR0.out x6_1);cases e240
     obtain ⟨hx240_0,hx240_1,hx240_2,hx240_3⟩:=cb4 HB hx240_0 hx240_1 hx240_2 hx240_3;obtain ⟨⟨ad241,e241,hx241_0,hx241_1,hx241_2,hx241_3⟩,p241,q241⟩:=atB (at_T57 HR0.out x6_1);obtain rfl:ad240=ad241:=(by injection e241);obtain ⟨hx241_0,hx241_1,hx241_2,hx241_3⟩:=cb4 HB hx241_0 hx241_1 hx241_2 hx241_3;obtain ⟨_,_,_,_,_,_,_,_⟩:=cf4 BK239;go_wp2
     refine pR (results_ct rfl _ _ gb239 57 #[.string ((rd_T57 l0 x6_1).f0),.string ((rd_T57 l0 x6_1).f1),.string ((rd_T57 l0 x6_1).f2),.int .i64 ((rd_T57 l0 x6_1).f3)] (0,0) _ rfl (zz38 BK239) Tryz.underlying57 rfl (by kernel_rfl)) rfl ?_;exact ⟨zz1,(zz2 HB GE239)⟩
    ·have H':=A_ H
     clear H;obtain ⟨⟨ad240,e240,hx240_0,hx240_1,hx240_2,hx240_3⟩,p240,q240⟩:=atB (at_T57 HR0.out x6_1);cases e240
     obtain ⟨hx240_0,hx240_1,hx240_2,hx240_3⟩:=cb4 HB hx240_0 hx240_1 hx240_2 hx240_3;go_wp2
     go_roundg k1
     case measure=>have:=HK1.out;omega
     case rel=>exact ⟨(wrap64 (x6_1+1)),(x240000_1),(x240001_1),(x240002_1),(x240003_1),zz3,H',⟨(zz17 HK1)⟩,⟨(zz7 BK239)⟩,⟨(zz2 HB GE239)⟩⟩
   ·simp only [Option.some.injEq,Prod.mk.injEq] at H
    obtain ⟨rfl,rfl,rfl,rfl,rfl⟩:=H;obtain ⟨_,_,_,_,_,_,_,_⟩:=cf4 BK239;go_wp2
    refine pR (results_ct rfl _ _ gb239 57 #[.string (⟨#[]⟩:ByteArray),.string (⟨#[]⟩:ByteArray),.string (⟨#[]⟩:ByteArray),.int .i64 0] (0,0) _ rfl (zz38 BK239) Tryz.underlying57 rfl (by kernel_rfl)) rfl ?_;exact ⟨zz1,(zz2 HB GE239)⟩
mutual
def spec_l2Of.l0:Nat→List (S32)→ByteArray→Bool→Int→List ByteArray→List (S93)→Int→Option (List ByteArray×(List (S93))×Int×Bool)
 | 0,_,_,_,_,_,_,_=>none
 | k+1,x0,x1,x7,x8,x258000,x258001,x258002=>if x8 < (x0.length:Int) then (spec_l2Of.l1 k x0 x1 x7 x8 false 0 x258000 x258001 x258002) else (some (x258000,x258001,x258002,x7))
def spec_l2Of.l1:Nat→List (S32)→ByteArray→Bool→Int→Bool→Int→List ByteArray→List (S93)→Int→Option (List ByteArray×(List (S93))×Int×Bool)
 | 0,_,_,_,_,_,_,_,_,_=>none
 | k+1,x0,x1,x7,x8,x9,x10,x258000,x258001,x258002=>if 0≤x8 then (if x8 < (x0.length:Int) then (if x10 < (((rd_T32 x0 x8).f0).length:Int) then (if x9=true then (spec_l2Of.l1 k x0 x1 x7 x8 true (wrap64 (x10+1)) x258000 x258001 x258002) else (if 0≤x10 then (spec_l2Of.l1 k x0 x1 x7 x8 ((rdOf ByteArray.empty ((rd_T32 x0 x8).f0) x10).toList == x1.toList) (wrap64 (x10+1)) x258000 x258001 x258002) else (none))) else (if x9=true then (if x258001.length+((rd_T32 x0 x8).f1).length < 5864062014805 then (spec_l2Of.l0 k x0 x1 true (wrap64 (x8+1)) x258000 (x258001++((rd_T32 x0 x8).f1)) (mx x258002 ((rd_T32 x0 x8).f2))) else (none)) else (spec_l2Of.l0 k x0 x1 x7 (wrap64 (x8+1)) x258000 x258001 x258002))) else (none)) else (none)
end
def spec_l2Of.f (k:Nat) (l0:List (S32)) (a1:ByteArray):Option (List ByteArray×(List (S93))×Int×Bool):=spec_l2Of.l0 k l0 a1 false 0 (([a1]:List ByteArray)) (([]:List (S93))) 0
def spec_l2Of.T13:Bool×List (List Nat×List Nat):=(true,[([],[]),([0],[0]),([],[]),([],[]),([2,3],[2,3]),([4],[4]),([5],[5]),([1,6],[1,6]),([0,1,2,3,4,5,6,7],[]),([8,7,7,0,1,2,3,4,5,6,7],[7,8])])
def spec_l2Of.B13:List Nat:=[0,1,0,0,12,28,60,127,255,511]
theorem spec_l2Of.tab13:rtab .any (opsOf Tryz.f104 13)=spec_l2Of.T13:=by kernel_rfl
theorem spec_l2Of.bits13:waitsOk spec_l2Of.T13.2 spec_l2Of.B13=true:=by kernel_rfl
def spec_l2Of.T14:Bool×List (List Nat×List Nat):=(true,[([],[]),([0],[0]),([],[]),([],[]),([2,3],[2,3]),([4],[4]),([5],[5]),([1,6],[1,6]),([0,1,2,3,4,5,6,7],[]),([8,7,0,1,2,3,4,5,6,7],[7,8])])
def spec_l2Of.B14:List Nat:=[0,1,0,0,12,28,60,127,255,511]
theorem spec_l2Of.tab14:rtab .any (opsOf Tryz.f104 14)=spec_l2Of.T14:=by kernel_rfl
theorem spec_l2Of.bits14:waitsOk spec_l2Of.T14.2 spec_l2Of.B14=true:=by kernel_rfl
theorem spec_l2Of.calls (k:Nat) (A0:Option Addr) (c0:Nat) (l0:List (S32)) (a1:ByteArray) (r1:List ByteArray) (r2:List (S93)) (r3:Int) (r4:Bool) (w:World) (hr0:Kd.C k32 w A0 l0.length l0) (hc0:l0.length≤c0) (h:spec_l2Of.f k l0 a1=some (r1,r2,r3,r4)) :
  Calls Tryz.prog 104 #[.slice A0 l0.length c0,.string a1] w fun e w'=>∃ v0_ v1_:Value,e=.returned (.tuple #[.agg #[v0_,v1_,.int .i64 r3],.bool r4])∧Kd.R Kd.string 9 w' w.heap.size (fun _=>True) v0_ r1∧Kd.R k93 93 w' w.heap.size (fun _=>True) v1_ r2∧Below w.heap.size w w':=by
 have hu32:=Tryz.underlying32;have HR0:=A_ hr0;have HC0:=A_ hc0;clear hr0 hc0;have HB:=A_ (Below.refl w.heap.size w);unfold spec_l2Of.f at h
 have H:=h;clear h;obtain ⟨y251,Ny251⟩:=toY (([a1]:List ByteArray));(first|with_reducible replace H:=bindZ Ny251 H|rw [← Ny251.out] at H|skip)
 obtain ⟨y254,Ny254⟩:=toY (([]:List (S93)));(first|with_reducible replace H:=bindZ Ny254 H|rw [← Ny254.out] at H|skip)
 have H':=A_ H;clear H;go_enter Tryz.func104,Tryz.ntmps104;go_wp2_with (first|(refine boxF 4 #[.slice none 0 0,.slice none 0 0,.int .i64 0] 32 ?_;intro gb250 hg w3 BK250 hb;have GE250:=geB hg (zz0 HB);replace HB:=A_ (bS (zz0 HB) hb);clear hb hg)|((with_reducible refine gD (N:=12) rfl ?_);refine Kd.R_lit Kd.string _ 9 ?hg (N:=12) ?hd (xs:=([a1]:List ByteArray)) (inner:=[.string a1]) (ok:=fun _=>True) (okp:=fun _=>True) ?hr ?hp (fun _ hk=>hk) trivial (Below.refl _ _) (Nat.le_refl _) (by simp) ?_;(case hd=>rfl);(case hg=>rfl);(case hr=>exact zz6);(case hp=>exact (Reps.one (show Kd.M Kd.string _ _ _ a1 [.string a1] from rfl) (Reps.none _ _)));intro v252 w4 ho5 hb hg_ hnew_;clear hg_ hnew_;(first|rw [← Ny251.out] at ho5|(simp only [Int.reduceToNat] at ho5;rw [← Ny251.out] at ho5));have HO253:=A_ (Kd.R_lower ho5 (below_size (zz2 HB GE250)));replace BK250:=A_ (bB (zz7 BK250) hb);replace HB:=A_ (bS (zz2 HB GE250) hb);clear hb ho5)|((with_reducible refine gD (N:=13) rfl ?_);refine Kd.R_lit k93 _ 93 ?hg (N:=13) ?hd (xs:=([]:List (S93))) (inner:=[]) (ok:=fun _=>True) (okp:=fun _=>True) ?hr ?hp (fun _ hk=>hk) trivial (Below.refl _ _) (Nat.le_refl _) (by simp) ?_;(case hd=>rfl);(case hg=>rfl);(case hr=>exact zz6);(case hp=>exact (Reps.none _ _));intro v255 w6 ho7 hb hg_ hnew_;clear hg_ hnew_;(first|rw [← Ny254.out] at ho7|(simp only [Int.reduceToNat] at ho7;rw [← Ny254.out] at ho7));replace HO253:=A_ (rB (zz8 HO253) hb);have HO256:=A_ (Kd.R_lower ho7 (below_size (zz2 HB GE250)));replace BK250:=A_ (bB (zz7 BK250) hb);replace HB:=A_ (bS (zz2 HB GE250) hb);clear hb ho7;obtain ⟨Ao8,co8,eo8⟩:=Kd.R_slice HO256.out;subst eo8;obtain ⟨Ao9,co9,eo9⟩:=Kd.R_slice HO253.out;subst eo9)|(refine boxF 6 #[.slice none 0 0,.slice none 0 0,.int .i64 0] 32 ?_;intro gb257 hg w10 BK257 hb;replace HO253:=A_ (rB (zz8 HO253) hb);replace HO256:=A_ (rB (zz8 HO256) hb);have GE257:=geB hg (zz2 HB GE250);replace HB:=A_ (bS (zz2 HB GE250) hb);have NB250_257:=A_ ((by rw [hg];exact Nat.ne_of_lt (blk_lt (zz7 BK250)):gb250≠gb257));have NB257_250:=A_ ((by rw [hg];exact Nat.ne_of_gt (blk_lt (zz7 BK250)):gb257≠gb250));replace BK250:=A_ (bB (zz7 BK250) hb);clear hb hg;have hnb11:=NB257_250.out;have hnc11:=NB250_257.out;obtain ⟨_,_,_,_,_,_⟩:=cf3 BK257))
 go_loopg [7,8] k (fun kq v7 v8 w'=>∃ (x7_1:Bool) (x8_1:Int) (x258001_1:List (S93)) (x258002_1:Int) (u258001:Value),v7=.bool x7_1∧v8=.int .i64 x8_1∧Aside0 (spec_l2Of.l0 kq l0 a1 x7_1 x8_1 y251 x258001_1 x258002_1=some (r1,r2,r3,r4))∧Aside0 (kq≤k)∧Aside0 (Kd.R Kd.string 9 w' w.heap.size (fun _=>True) (.slice Ao9 y251.length co9) y251)∧Aside0 (Kd.R k93 93 w' w.heap.size (fun _=>True) u258001 x258001_1)∧Aside0 (w'.heap[gb250]?=some (.cells #[(.slice none 0 0),(.slice none 0 0),.int .i64 0] 32 (0,0)))∧Aside0 (w'.heap[gb257]?=some (.cells #[(.slice Ao9 y251.length co9),u258001,.int .i64 x258002_1] 32 (0,0)))∧Aside0 (Below w.heap.size w w'))
 case atStart=>exact ⟨(false),(0),(y254),(0),(.slice Ao8 y254.length co8),zz3,zz3,H',⟨Nat.le_refl _⟩,⟨(zz10 (rt HO253 BK257))⟩,⟨(zz10 (rt HO256 BK257))⟩,⟨(zz12 BK250 NB250_257)⟩,⟨(zz9 BK257)⟩,⟨(zz11 HB GE250 GE257)⟩⟩
 case round=>
  clear H';obtain ⟨x7_1,x8_1,x258001_1,x258002_1,u258001,rfl,rfl,HA,HK1,HO_258000,HO_258001,BK250,BK257,HB⟩:=hrel;cases gk with
  | zero=>exact absurd HA.out (by simp [spec_l2Of.l0])
  | succ k1=>
   obtain ⟨H⟩:=HA;simp only [spec_l2Of.l0] at H
   replace H:=iteEd H;rcases H with ⟨c13b0,H⟩|⟨c13b0,H⟩
   ·have H':=A_ H
    clear H;go_wp2
    go_loopg [9,10] k1 (fun kq v9 v10 w'=>∃ (x9_2:Bool) (x10_2:Int),v9=.bool x9_2∧v10=.int .i64 x10_2∧Aside0 (spec_l2Of.l1 kq l0 a1 x7_1 x8_1 x9_2 x10_2 y251 x258001_1 x258002_1=some (r1,r2,r3,r4))∧Aside0 (kq≤k1)∧Aside0 (Kd.R Kd.string 9 w' w.heap.size (fun _=>True) (.slice Ao9 y251.length co9) y251)∧Aside0 (Kd.R k93 93 w' w.heap.size (fun _=>True) u258001 x258001_1)∧Aside0 (w'.heap[gb250]?=some (.cells #[(.slice none 0 0),(.slice none 0 0),.int .i64 0] 32 (0,0)))∧Aside0 (w'.heap[gb257]?=some (.cells #[(.slice Ao9 y251.length co9),u258001,.int .i64 x258002_1] 32 (0,0)))∧Aside0 (Below w.heap.size w w'))
    case atStart=>exact ⟨(false),(0),zz3,zz3,H',⟨Nat.le_refl _⟩,⟨(zz8 HO_258000)⟩,⟨(zz8 HO_258001)⟩,⟨(zz7 BK250)⟩,⟨(zz7 BK257)⟩,⟨(zz11 HB GE250 GE257)⟩⟩
    case round=>
     clear H';obtain ⟨x9_2,x10_2,rfl,rfl,HA,HK2,HO_258000,HO_258001,BK250,BK257,HB⟩:=hrel;cases gk with
     | zero=>exact absurd HA.out (by simp [spec_l2Of.l1])
     | succ k2=>
      obtain ⟨H⟩:=HA;simp only [spec_l2Of.l1] at H
      replace H:=iteNd H;obtain ⟨c14b0,H⟩:=H;replace H:=iteNd H;obtain ⟨c15b0,H⟩:=H;replace H:=iteEd H;rcases H with ⟨c16b0,H⟩|⟨c16b0,H⟩
      ·replace H:=iteB H
       rcases H with ⟨rfl,H⟩|⟨rfl,H⟩
       ·have H':=A_ H
        clear H;obtain ⟨⟨ad258,A258_0,c258_0,A258_1,c258_1,e258,hx258_0,hx258_1,hx258_2,hl258_0,hi258_0,hl258_1,hi258_1⟩,p258,q258⟩:=atB (at_T32 HR0.out x8_1);cases e258
        obtain ⟨hx258_0,hx258_1,hx258_2⟩:=cb3 HB hx258_0 hx258_1 hx258_2;have HR258_0:=A_ hi258_0;have HC258_0:=A_ hl258_0;clear hi258_0 hl258_0;have HR258_1:=A_ hi258_1;have HC258_1:=A_ hl258_1;clear hi258_1 hl258_1;go_wp2
        go_roundg k2
        case measure=>have:=HK1.out;have:=HK2.out;omega
        case rel=>exact ⟨(true),(wrap64 (x10_2+1)),zz3,zz3,H',⟨(zz31 HK1 HK2)⟩,⟨(zz8 HO_258000)⟩,⟨(zz8 HO_258001)⟩,⟨(zz7 BK250)⟩,⟨(zz7 BK257)⟩,⟨(zz11 HB GE250 GE257)⟩⟩
       ·replace H:=iteN H
        obtain ⟨c18,H⟩:=H;have c18b0:=dT c18;clear c18;have H':=A_ H;clear H;obtain ⟨⟨ad258,A258_0,c258_0,A258_1,c258_1,e258,hx258_0,hx258_1,hx258_2,hl258_0,hi258_0,hl258_1,hi258_1⟩,p258,q258⟩:=atB (at_T32 HR0.out x8_1);cases e258
        obtain ⟨hx258_0,hx258_1,hx258_2⟩:=cb3 HB hx258_0 hx258_1 hx258_2;have HR258_0:=A_ hi258_0;have HC258_0:=A_ hl258_0;clear hi258_0 hl258_0;have HR258_1:=A_ hi258_1;have HC258_1:=A_ hl258_1;clear hi258_1 hl258_1;obtain ⟨⟨ad259,A259_0,c259_0,A259_1,c259_1,e259,hx259_0,hx259_1,hx259_2,hl259_0,hi259_0,hl259_1,hi259_1⟩,p259,q259⟩:=atB (at_T32 HR0.out x8_1);obtain rfl:ad258=ad259:=(by injection e259);obtain ⟨hx259_0,hx259_1,hx259_2⟩:=cb3 HB hx259_0 hx259_1 hx259_2;have HR259_0:=A_ hi259_0;have HC259_0:=A_ hl259_0;clear hi259_0 hl259_0;have HR259_1:=A_ hi259_1;have HC259_1:=A_ hl259_1;clear hi259_1 hl259_1;have ea_:=sI (hx258_0.symm.trans hx259_0);injection ea_ with ea_ en_ ec_
        subst ea_;subst ec_;clear en_;have ea_:=sI (hx258_1.symm.trans hx259_1);injection ea_ with ea_ en_ ec_
        subst ea_;subst ec_;clear en_;obtain ⟨⟨ad260,e260,hx260_0⟩,p260,q260⟩:=atB (Kd.at_string HR259_0.out x10_2);cases e260
        replace hx260_0:=cbl HB hx260_0;go_wp2
        go_roundg k2
        case measure=>have:=HK1.out;have:=HK2.out;omega
        case rel=>exact ⟨(((rdOf ByteArray.empty ((rd_T32 l0 x8_1).f0) x10_2).toList == a1.toList)),(wrap64 (x10_2+1)),zz3,zz3,H',⟨(zz31 HK1 HK2)⟩,⟨(zz8 HO_258000)⟩,⟨(zz8 HO_258001)⟩,⟨(zz7 BK250)⟩,⟨(zz7 BK257)⟩,⟨(zz11 HB GE250 GE257)⟩⟩
      ·replace H:=iteB H
       rcases H with ⟨rfl,H⟩|⟨rfl,H⟩
       ·replace H:=iteN H
        obtain ⟨c20,H⟩:=H;have LMc20:=A_ c20;clear c20;obtain ⟨y262,Ny262⟩:=toY (x258001_1++((rd_T32 l0 x8_1).f1));(first|with_reducible replace H:=bindZ Ny262 H|rw [← Ny262.out] at H|skip)
        obtain ⟨ji21,hji21⟩:∃ j_:Int,(mx x258002_1 ((rd_T32 l0 x8_1).f2))=j_:=⟨_,rfl⟩;(first|rw [hji21] at H|simp only [hji21] at H)
        have hji21_:(if x258002_1 < ((rd_T32 l0 x8_1).f2) then ((rd_T32 l0 x8_1).f2) else x258002_1)=ji21:=hji21;have H':=A_ H;clear H;obtain ⟨⟨ad258,A258_0,c258_0,A258_1,c258_1,e258,hx258_0,hx258_1,hx258_2,hl258_0,hi258_0,hl258_1,hi258_1⟩,p258,q258⟩:=atB (at_T32 HR0.out x8_1);cases e258
        obtain ⟨hx258_0,hx258_1,hx258_2⟩:=cb3 HB hx258_0 hx258_1 hx258_2;have HR258_0:=A_ hi258_0;have HC258_0:=A_ hl258_0;clear hi258_0 hl258_0;have HR258_1:=A_ hi258_1;have HC258_1:=A_ hl258_1;clear hi258_1 hl258_1;try go_wp2
        replace HO_258000:=A_ (Kd.R_drew HO_258000.out);replace HO_258001:=A_ (Kd.R_drew HO_258001.out);replace BK250:=A_ (blk_drew BK250.out);replace BK257:=A_ (blk_drew BK257.out);replace HB:=A_ (below_drew1 HB.out);obtain ⟨⟨ad261,A261_0,c261_0,A261_1,c261_1,e261,hx261_0,hx261_1,hx261_2,hl261_0,hi261_0,hl261_1,hi261_1⟩,p261,q261⟩:=atB (at_T32 HR0.out x8_1);have hw261_2:=hx261_2;have hw261_1:=hx261_1;have hw261_0:=hx261_0;obtain rfl:ad258=ad261:=(by injection e261);obtain ⟨hx261_0,hx261_1,hx261_2⟩:=cb3 HB hx261_0 hx261_1 hx261_2;have HR261_0:=A_ hi261_0;have HC261_0:=A_ hl261_0;clear hi261_0 hl261_0;have HR261_1:=A_ hi261_1;have HC261_1:=A_ hl261_1;clear hi261_1 hl261_1;refine start_ (n:=10) (S:=fun w'=>w'.cell? ⟨gb257,0,none⟩=some (.slice Ao9 y251.length co9)∧w'.cell? ⟨gb257,1,none⟩=some (u258001)∧w'.cell? ⟨gb257,2,none⟩=some (.int .i64 x258002_1)∧w'.cell? (ad258.add ((x8_1).toNat * 3))=some (.slice A261_0 ((rd_T32 l0 x8_1).f0).length c261_0)∧w'.cell? ⟨(ad258.add ((x8_1).toNat * 3)).block,(ad258.add ((x8_1).toNat * 3)).off+1,none⟩=some (.slice A261_1 ((rd_T32 l0 x8_1).f1).length c261_1)∧w'.cell? ⟨(ad258.add ((x8_1).toNat * 3)).block,(ad258.add ((x8_1).toNat * 3)).off+2,none⟩=some (.int .i64 ((rd_T32 l0 x8_1).f2))) (ds:=[9]) #[yF,yF,yF,yF,yF,yF,yF,yF,yF,yF] (by kernel_rfl) rfl rfl ⟨(blk_cell BK257.out 0).trans rfl,(blk_cell BK257.out 1).trans rfl,(blk_cell BK257.out 2).trans rfl,((HB.out.cell (World.block_lt_of_cell? w _ hw261_0)).trans hw261_0),((HB.out.cell (World.block_lt_of_cell? w _ hw261_1)).trans hw261_1),((HB.out.cell (World.block_lt_of_cell? w _ hw261_2)).trans hw261_2)⟩ (fun hHeld=>?_);refine with_tabW spec_l2Of.tab13 spec_l2Of.bits13 (fun HT_ HW_=>?_);generalize wr.drew=w22 at HO_258000 HO_258001 BK250 BK257 HB HR261_0 HR261_1 hx261_0 hx261_1 hx261_2 hHeld ⊢;refine pureZ 0 (some 45) #[yT,yF,yF,yF,yF,yF,yF,yF,yF,yF] ?_;refine pureZ 2 (some 47) #[yT,yF,yT,yF,yF,yF,yF,yF,yF,yF] ?_;refine pureZ 3 (some 48) #[yT,yF,yT,yT,yF,yF,yF,yF,yF,yF] ?_;refine pureZ 4 (some 49) #[yT,yF,yT,yT,yT,yF,yF,yF,yF,yF] ?_;refine pureZ 5 (some 50) #[yT,yF,yT,yT,yT,yT,yF,yF,yF,yF] ?_;refine takeZ6 1 (some 46) #[yT,yT,yT,yT,yT,yT,yF,yF,yF,yF] hHeld ?_;refine takeZ6 6 (some 51) #[yT,yT,yT,yT,yT,yT,yT,yF,yF,yF] hHeld ?_;refine oneZ 7 (some 52) #[yT,yT,yT,yT,yT,yT,yT,yT,yF,yF] (fun K hK=>?_);refine Kd.R_append_rows_step k93 (w0:=w) w.heap.size (by rfl) (.tmp 46) (.tmp 51) 30 93 (.agg #[(.bool false),(.string ⟨#[]⟩)]) 24 rfl Tryz.underlying30 info93 rfl (by decide) (by omega) u258001 x258001_1 ((rd_T32 l0 x8_1).f1) _ _ _ (fun _=>True) (fun _=>False) rfl rfl ?aO ?aR (fun _ _ h=>h) (fun _ h=>h.elim) ?aF ?aB ?aS ?aL ?_;(case aR=>exact (zz41 HR261_1 HB))
        (case aB=>exact (zz11 HB GE250 GE257))
        (case aF=>exact (fun _ _=>trivial))
        (case aO=>exact (zz8 HO_258001))
        (case aS=>exact (below_size (zz11 HB GE250 GE257)))
        (case aL=>exact (zz17 LMc20))
        intro v263 w23 ho hb hg hat;rw [← Ny262.out] at ho;replace HO_258000:=A_ (Kd.R_over' (zz8 HO_258000) (Kd.R_typed (zz8 HO_258001)) (by decide) hg);replace BK250:=A_ (blk_grown (zz7 BK250) hg (Kd.R_ne HO_258001.out BK250.out (by decide)));replace BK257:=A_ (blk_grown (zz7 BK257) hg (Kd.R_ne HO_258001.out BK257.out (by decide)));replace HB:=A_ (hb);have HO264:=A_ (ho);clear HO_258001;clear ho hb hg hat;obtain ⟨Ao24,co24,eo24⟩:=Kd.R_slice HO264.out;(first|subst eo24|(injection eo24 with f1_ f2_ f3_;have f4_:=f1_.symm;have f5_:=f3_.symm;clear f1_ f2_ f3_;subst f4_;subst f5_))
        refine hK.out _ _ ⟨(blk_cell BK257.out 0).trans rfl,(blk_cell BK257.out 1).trans rfl,(blk_cell BK257.out 2).trans rfl,((HB.out.cell (World.block_lt_of_cell? w _ hw261_0)).trans hw261_0),((HB.out.cell (World.block_lt_of_cell? w _ hw261_1)).trans hw261_1),((HB.out.cell (World.block_lt_of_cell? w _ hw261_2)).trans hw261_2)⟩ (fun hHeld=>?_);clear hK K;refine nZ 52 ?_;refine pureZ 8 (some 53) #[yT,yT,yT,yT,yT,yT,yT,yT,yT,yF] ?_;refine last_ (i:=9) (N:=none) #[yT,yT,yT,yT,yT,yT,yT,yT,yT,yT] rfl rfl (one_of HT_.out (by kernel_rfl)) (by decide) (fun K hK=>?_);have hs25:w23.cell? ⟨gb257,1,none⟩=some (u258001):=(blk_cell BK257.out 1).trans rfl;have hfs25:=blk_frozen BK257.out 1;have hns25_0:=NB250_257.out;have hms25_0:=NB257_250.out;refine skip_ (w1:=?_) (by rfl) rfl ?_ ?_;rotate_left
        ·go_simp
         rfl
        refine hK.out _ _ ?_;clear hK K;refine done_ (done_of HT_.out (by kernel_rfl)) ?_;try go_wp2
        have n0_:Aside0 (Kd.R Kd.string 9 (w23.setCell ⟨gb257,1,none⟩ (.slice Ao24 y262.length co24)) w.heap.size (fun _=>True) (.slice Ao9 y251.length co9) y251):=⟨(zz10 (rt HO_258000 BK257))⟩;have n1_:Aside0 (Kd.R k93 93 (w23.setCell ⟨gb257,1,none⟩ (.slice Ao24 y262.length co24)) w.heap.size (fun _=>True) (.slice Ao24 y262.length co24) y262):=⟨(zz10 (rt HO264 BK257))⟩;have n2_:Aside0 ((w23.setCell ⟨gb257,1,none⟩ (.slice Ao24 y262.length co24)).heap[gb250]?=some (.cells #[.slice none 0 0,.slice none 0 0,.int .i64 0] 32 (0,0))):=⟨(zz12 BK250 NB250_257)⟩;have n3_:Aside0 ((w23.setCell ⟨gb257,1,none⟩ (.slice Ao24 y262.length co24)).heap[gb257]?=some (.cells #[.slice Ao9 y251.length co9,.slice Ao24 y262.length co24,.int .i64 x258002_1] 32 (0,0))):=⟨(by first|((repeat (first|(with_reducible first|exact BK257.out|refine blk_drewN ?_ _|refine blk_drew ?_|refine blk_alloc ?_ _|apply blk_put)|exact BK257.out));all_goals rfl;done)|(apply blk_put (i:=1);exact BK257.out;all_goals rfl))⟩;have n4_:Aside0 (Below w.heap.size w (w23.setCell ⟨gb257,1,none⟩ (.slice Ao24 y262.length co24))):=⟨(zz11 HB GE250 GE257)⟩;(try clear HO_258000)
        (try clear HO264)
        (try clear BK250)
        (try clear BK257)
        (try clear HB)
        generalize (w23.setCell ⟨gb257,1,none⟩ (.slice Ao24 y262.length co24))=w26 at n0_ n1_ n2_ n3_ n4_ ⊢;have HO_258000:=n0_;have HO264:=n1_;have BK250:=n2_;have BK257:=n3_;have HB:=n4_;clear n0_ n1_ n2_ n3_ n4_;replace HO_258000:=A_ (Kd.R_drew HO_258000.out);replace HO264:=A_ (Kd.R_drew HO264.out);replace BK250:=A_ (blk_drew BK250.out);replace BK257:=A_ (blk_drew BK257.out);replace HB:=A_ (below_drew1 HB.out);obtain ⟨⟨ad265,A265_0,c265_0,A265_1,c265_1,e265,hx265_0,hx265_1,hx265_2,hl265_0,hi265_0,hl265_1,hi265_1⟩,p265,q265⟩:=atB (at_T32 HR0.out x8_1);have hw265_2:=hx265_2;have hw265_1:=hx265_1;have hw265_0:=hx265_0;obtain rfl:ad258=ad265:=(by injection e265);obtain ⟨hx265_0,hx265_1,hx265_2⟩:=cb3 HB hx265_0 hx265_1 hx265_2;have HR265_0:=A_ hi265_0;have HC265_0:=A_ hl265_0;clear hi265_0 hl265_0;have HR265_1:=A_ hi265_1;have HC265_1:=A_ hl265_1;clear hi265_1 hl265_1;refine start_ (n:=10) (S:=fun w'=>w'.cell? ⟨gb257,0,none⟩=some (.slice Ao9 y251.length co9)∧w'.cell? ⟨gb257,1,none⟩=some (.slice Ao24 y262.length co24)∧w'.cell? ⟨gb257,2,none⟩=some (.int .i64 x258002_1)∧w'.cell? (ad258.add ((x8_1).toNat * 3))=some (.slice A265_0 ((rd_T32 l0 x8_1).f0).length c265_0)∧w'.cell? ⟨(ad258.add ((x8_1).toNat * 3)).block,(ad258.add ((x8_1).toNat * 3)).off+1,none⟩=some (.slice A265_1 ((rd_T32 l0 x8_1).f1).length c265_1)∧w'.cell? ⟨(ad258.add ((x8_1).toNat * 3)).block,(ad258.add ((x8_1).toNat * 3)).off+2,none⟩=some (.int .i64 ((rd_T32 l0 x8_1).f2))) (ds:=[9]) #[yF,yF,yF,yF,yF,yF,yF,yF,yF,yF] (by kernel_rfl) rfl rfl ⟨(blk_cell BK257.out 0).trans rfl,(blk_cell BK257.out 1).trans rfl,(blk_cell BK257.out 2).trans rfl,((HB.out.cell (World.block_lt_of_cell? w _ hw265_0)).trans hw265_0),((HB.out.cell (World.block_lt_of_cell? w _ hw265_1)).trans hw265_1),((HB.out.cell (World.block_lt_of_cell? w _ hw265_2)).trans hw265_2)⟩ (fun hHeld=>?_);refine with_tabW spec_l2Of.tab14 spec_l2Of.bits14 (fun HT_ HW_=>?_);generalize w26.drew=w27 at HO_258000 HO264 BK250 BK257 HB HR265_0 HR265_1 hx265_0 hx265_1 hx265_2 hHeld ⊢;refine pureZ 0 (some 54) #[yT,yF,yF,yF,yF,yF,yF,yF,yF,yF] ?_;refine pureZ 2 (some 56) #[yT,yF,yT,yF,yF,yF,yF,yF,yF,yF] ?_;refine pureZ 3 (some 57) #[yT,yF,yT,yT,yF,yF,yF,yF,yF,yF] ?_;refine pureZ 4 (some 58) #[yT,yF,yT,yT,yT,yF,yF,yF,yF,yF] ?_;refine pureZ 5 (some 59) #[yT,yF,yT,yT,yT,yT,yF,yF,yF,yF] ?_;refine takeZ6 1 (some 55) #[yT,yT,yT,yT,yT,yT,yF,yF,yF,yF] hHeld ?_;refine takeZ6 6 (some 60) #[yT,yT,yT,yT,yT,yT,yT,yF,yF,yF] hHeld ?_;refine pureZ 7 (some 61) #[yT,yT,yT,yT,yT,yT,yT,yT,yF,yF] ?_;refine pureZ 8 (some 62) #[yT,yT,yT,yT,yT,yT,yT,yT,yT,yF] ?_;refine last_ (i:=9) (N:=none) #[yT,yT,yT,yT,yT,yT,yT,yT,yT,yT] rfl rfl (one_of HT_.out (by kernel_rfl)) (by decide) (fun K hK=>?_);have hs28:w27.cell? ⟨gb257,2,none⟩=some (.int .i64 x258002_1):=(blk_cell BK257.out 2).trans rfl;have hfs28:=blk_frozen BK257.out 2;have hns28_0:=NB250_257.out;have hms28_0:=NB257_250.out;refine skip_ (w1:=?_) (by rfl) rfl ?_ ?_;rotate_left
        ·go_simp
         rfl
        refine hK.out _ _ ?_;clear hK K;refine done_ (done_of HT_.out (by kernel_rfl)) ?_;try go_wp2
        go_roundg k2
        case measure=>have:=HK1.out;have:=HK2.out;omega
        case rel=>exact ⟨(true),(wrap64 (x8_1+1)),(y262),(ji21),(.slice Ao24 y262.length co24),zz3,zz3,H',⟨(zz31 HK1 HK2)⟩,⟨(zz10 (rt HO_258000 BK257))⟩,⟨(zz10 (rt HO264 BK257))⟩,⟨(zz12 BK250 NB250_257)⟩,⟨(by first|((repeat (first|(with_reducible first|exact BK257.out|refine blk_drewN ?_ _|refine blk_drew ?_|refine blk_alloc ?_ _|apply blk_put)|exact BK257.out));all_goals rfl;done)|(apply blk_put (i:=2);exact BK257.out;all_goals rfl))⟩,⟨(zz11 HB GE250 GE257)⟩⟩
       ·have H':=A_ H
        clear H;obtain ⟨⟨ad258,A258_0,c258_0,A258_1,c258_1,e258,hx258_0,hx258_1,hx258_2,hl258_0,hi258_0,hl258_1,hi258_1⟩,p258,q258⟩:=atB (at_T32 HR0.out x8_1);cases e258
        obtain ⟨hx258_0,hx258_1,hx258_2⟩:=cb3 HB hx258_0 hx258_1 hx258_2;have HR258_0:=A_ hi258_0;have HC258_0:=A_ hl258_0;clear hi258_0 hl258_0;have HR258_1:=A_ hi258_1;have HC258_1:=A_ hl258_1;clear hi258_1 hl258_1;go_wp2
        go_roundg k2
        case measure=>have:=HK1.out;have:=HK2.out;omega
        case rel=>exact ⟨(x7_1),(wrap64 (x8_1+1)),(x258001_1),(x258002_1),(u258001),zz3,zz3,H',⟨(zz31 HK1 HK2)⟩,⟨(zz8 HO_258000)⟩,⟨(zz8 HO_258001)⟩,⟨(zz7 BK250)⟩,⟨(zz7 BK257)⟩,⟨(zz11 HB GE250 GE257)⟩⟩
   ·simp only [Option.some.injEq,Prod.mk.injEq] at H
    obtain ⟨rfl,rfl,rfl,rfl⟩:=H;have hnb29:=NB257_250.out;have hnc29:=NB250_257.out;obtain ⟨_,_,_,_,_,_⟩:=cf3 BK257;obtain ⟨_,_,_,_,_,_⟩:=cf3 BK250;obtain ⟨Ao32,co32,eo32⟩:=Kd.R_slice HO_258001.out;subst eo32;go_wp2
    refine pR (results_ct rfl _ _ gb250 32 #[.slice Ao9 y251.length co9,.slice Ao32 x258001_1.length co32,.int .i64 x258002_1] (0,0) _ rfl (zz9 BK250) Tryz.underlying32 rfl (by kernel_rfl)) rfl ?_;exact ⟨_,_,zz1,(zz10 (rt HO_258000 BK250)),(zz10 (rt HO_258001 BK250)),(zz11 HB GE250 GE257)⟩
mutual
def spec_RuleOk.j0:Nat→ByteArray→Bool→Option (Bool)
 | 0,_,_=>none
 | k+1,x0,x16=>if x16=true then (some false) else (spec_RuleOk.l0 k x0 0)
def spec_RuleOk.l0:Nat→ByteArray→Int→Option (Bool)
 | 0,_,_=>none
 | k+1,x0,x3=>if x3 < (x0.size:Int) then (if 0≤x3 then ((spec_l1Plain.f (bt x0 x3)).bind fun t290=>(if t290=true then (spec_RuleOk.l0 k x0 (wrap64 (x3+1))) else (if (bt x0 x3)=47 then (spec_RuleOk.l0 k x0 (wrap64 (x3+1))) else (if (bt x0 x3)=42 then (spec_RuleOk.l0 k x0 (wrap64 (x3+1))) else (if (bt x0 x3)=63 then (spec_RuleOk.l0 k x0 (wrap64 (x3+1))) else (if (bt x0 x3)=37 then (spec_RuleOk.l0 k x0 (wrap64 (x3+1))) else (if (bt x0 x3) ≥ 65 then (if ((bt x0 x3)≤70) then (spec_RuleOk.l0 k x0 (wrap64 (x3+1))) else (if (bt x0 x3)=36 then (if (x3=(wrap64 ((x0.size:Int) - 1))) then (spec_RuleOk.l0 k x0 (wrap64 (x3+1))) else (some false)) else (some false))) else (if (bt x0 x3)=36 then (if (x3=(wrap64 ((x0.size:Int) - 1))) then (spec_RuleOk.l0 k x0 (wrap64 (x3+1))) else (some false)) else (some false))))))))) else (none)) else (some true)
end
def spec_RuleOk.f (k:Nat) (a0:ByteArray):Option (Bool):=if (a0.size:Int) > 16 then (spec_RuleOk.j0 k a0 true) else (if a0.toList=([]:List UInt8) then (spec_RuleOk.j0 k a0 true) else (if 0 < (a0.size:Int) then (spec_RuleOk.j0 k a0 ((bt a0 0) != 47)) else (none)))
theorem spec_RuleOk.calls (k:Nat) (a0:ByteArray) (r:Bool) (w:World) (h:spec_RuleOk.f k a0=some r) :
  Calls Tryz.prog 123 #[.string a0] w fun e w'=>e=.returned (.bool r)∧Drawn0 w w':=by
 unfold spec_RuleOk.f at h
 have H:=h;clear h;have HC2:=A_ H;clear H;go_enter Tryz.func123,Tryz.ntmps123;go_upto_region 1 with (fail)
 go_cut [16] (fun v16 wc=>∃ (kq:Nat) (x16_1:Bool),v16=.bool x16_1∧Aside0 (spec_RuleOk.j0 kq a0 x16_1=some r)∧Aside0 (kq≤k)∧Drawn0 w wc)
 case first=>
  obtain ⟨H⟩:=HC2;replace H:=iteE H;rcases H with ⟨c3,H⟩|⟨c3,H⟩
  ·have c3b0:=gtT c3
   have c3b1:decide (16 < a0.size)=true:=dT (by omega);clear c3;(first|rw [c3b0]|(simp only [i64_w,i32_w];rw [c3b0])|skip)
   have H':=A_ H;clear H;go_wp2
   go_meet
   case rel=>exact ⟨_,(true),zz3,H',⟨zz22⟩,zz4⟩
  ·have c3b0:=gtF c3
   have c3b1:decide (16 < a0.size)=false:=dF (by omega);clear c3;(first|rw [c3b0]|(simp only [i64_w,i32_w];rw [c3b0])|skip)
   replace H:=iteEq H;rcases H with ⟨c4b0,c4b1,H⟩|⟨c4b0,c4b1,c4,H⟩
   ·have H':=A_ H
    clear H;go_wp2
    go_meet
    case rel=>exact ⟨_,(true),zz3,H',⟨zz22⟩,zz4⟩
   ·replace H:=iteN H
    obtain ⟨c5,H⟩:=H;have c5b0:=dT c5;have c5b1:decide (0 < a0.size)=true:=dT (by omega);clear c5;have H':=A_ H;clear H;have p6:0≤(0:Int):=(by omega);have q6:0 < a0.size:=(by have:(0:Int) < (a0.size:Int):=ofD;omega);have hx6:∀ h:0 < a0.size,((a0[0]'h).toNat:Int)=bt a0 0:=bt_at a0 0;clear p6;have qi6:(0 < (a0.size:Int))=True:=eq_true ofD;replace q6:=eq_true q6;go_wp2
    go_meet
    case rel=>exact ⟨_,(((bt a0 0) != 47)),zz3,H',⟨zz22⟩,zz4⟩
 case rest=>
  clear HC2;obtain ⟨kq,x16_1,rfl,HA,HJ1,⟨mc1,rfl⟩⟩:=hcut;cases kq with
  | zero=>exact absurd HA.out (by simp [spec_RuleOk.j0])
  | succ kj1=>
   obtain ⟨H⟩:=HA;simp only [spec_RuleOk.j0] at H
   replace H:=iteB H;rcases H with ⟨rfl,H⟩|⟨rfl,H⟩
   ·obtain rfl:=sI H
    go_wp2
    go_ret
    exact ⟨zz3,zz4⟩
   ·have H':=A_ H
    clear H;go_wp2
    go_loopg [3] kj1 (fun kq v3 w'=>∃ (x3_2:Int),v3=.int .i64 x3_2∧Aside0 (spec_RuleOk.l0 kq a0 x3_2=some r)∧Aside0 (kq≤kj1)∧Drawn0 w w')
    case atStart=>exact ⟨(0),zz3,H',⟨Nat.le_refl _⟩,zz4⟩
    case round=>
     clear H';obtain ⟨x3_2,rfl,HA,HK2,⟨m2,rfl⟩⟩:=hrel;cases gk with
     | zero=>exact absurd HA.out (by simp [spec_RuleOk.l0])
     | succ k2=>
      obtain ⟨H⟩:=HA;simp only [spec_RuleOk.l0] at H
      replace H:=iteEd H;rcases H with ⟨c8b0,H⟩|⟨c8b0,H⟩
      ·replace H:=iteNd H
       obtain ⟨c9b0,H⟩:=H;replace H:=bindA H;obtain ⟨t290,A11,H⟩:=H;have HF12:=A_ H;clear H;have p10:0≤(x3_2:Int):=ofD;have q10:x3_2 < (a0.size:Int):=ofD;have hx10:=bt_at a0 x3_2;replace p10:=eq_true p10;replace q10:=eq_true q10;go_wp2_with (first|(refine gR 149 (some 27) Tryz.func149 (spec_l1Plain.calls (bt a0 x3_2) t290 _ A11.out) ?_;rintro w' ⟨nd,rfl⟩)|((with_reducible refine atG ?_ ?_ fun K_ hK_=>?_);rfl;exact undecG)|((with_reducible refine atI ?_ fun K_ hK_=>?_);exact undecI))
       refine unG hK_ ?_;clear hK_ K_;obtain ⟨H⟩:=HF12;replace H:=iteB H;rcases H with ⟨rfl,H⟩|⟨rfl,H⟩
       ·(first|refine iteT ?_|refine iteF ?_|skip)
        have H':=A_ H;clear H;(try ((with_reducible refine upS ?_);go_simp))
        go_wp2
        go_roundg k2
        case measure=>have:=HJ1.out;have:=HK2.out;omega
        case rel=>exact ⟨(wrap64 (x3_2+1)),zz3,H',⟨(zz31 HJ1 HK2)⟩,zz4⟩
       ·(first|refine iteT ?_|refine iteF ?_|skip)
        replace H:=iteEq H;rcases H with ⟨c14b0,c14b1,H⟩|⟨c14b0,c14b1,c14,H⟩
        ·have H':=A_ H
         clear H;go_wp2
         go_roundg k2
         case measure=>have:=HJ1.out;have:=HK2.out;omega
         case rel=>exact ⟨(wrap64 (x3_2+1)),zz3,H',⟨(zz31 HJ1 HK2)⟩,zz4⟩
        ·replace H:=iteEq H
         rcases H with ⟨c15b0,c15b1,H⟩|⟨c15b0,c15b1,c15,H⟩
         ·have H':=A_ H
          clear H;go_wp2
          go_roundg k2
          case measure=>have:=HJ1.out;have:=HK2.out;omega
          case rel=>exact ⟨(wrap64 (x3_2+1)),zz3,H',⟨(zz31 HJ1 HK2)⟩,zz4⟩
         ·replace H:=iteEq H
          rcases H with ⟨c16b0,c16b1,H⟩|⟨c16b0,c16b1,c16,H⟩
          ·have H':=A_ H
           clear H;go_wp2
           go_roundg k2
           case measure=>have:=HJ1.out;have:=HK2.out;omega
           case rel=>exact ⟨(wrap64 (x3_2+1)),zz3,H',⟨(zz31 HJ1 HK2)⟩,zz4⟩
          ·replace H:=iteEq H
           rcases H with ⟨c17b0,c17b1,H⟩|⟨c17b0,c17b1,c17,H⟩
           ·have H':=A_ H
            clear H;go_wp2
            go_roundg k2
            case measure=>have:=HJ1.out;have:=HK2.out;omega
            case rel=>exact ⟨(wrap64 (x3_2+1)),zz3,H',⟨(zz31 HJ1 HK2)⟩,zz4⟩
           ·replace H:=iteEe H
            rcases H with ⟨c18b0,H⟩|⟨c18b0,H⟩
            ·replace H:=iteE H
             rcases H with ⟨c19,H⟩|⟨c19,H⟩
             ·have c19b0:decide ((bt a0 x3_2)≤70)=true:=dT c19
              clear c19;have H':=A_ H;clear H;go_wp2
              go_roundg k2
              case measure=>have:=HJ1.out;have:=HK2.out;omega
              case rel=>exact ⟨(wrap64 (x3_2+1)),zz3,H',⟨(zz31 HJ1 HK2)⟩,zz4⟩
             ·have c19b0:decide ((bt a0 x3_2)≤70)=false:=dF c19
              clear c19;replace H:=iteEq H;rcases H with ⟨c20b0,c20b1,H⟩|⟨c20b0,c20b1,c20,H⟩
              ·replace H:=iteEq H
               rcases H with ⟨c21b0,c21b1,H⟩|⟨c21b0,c21b1,c21,H⟩
               ·have H':=A_ H
                clear H;go_wp2
                go_roundg k2
                case measure=>have:=HJ1.out;have:=HK2.out;omega
                case rel=>exact ⟨(wrap64 (x3_2+1)),zz3,H',⟨(zz31 HJ1 HK2)⟩,zz4⟩
               ·obtain rfl:=sI H
                go_wp2
                go_ret
                exact ⟨zz3,zz4⟩
              ·obtain rfl:=sI H
               go_wp2
               go_ret
               exact ⟨zz3,zz4⟩
            ·replace H:=iteEq H
             rcases H with ⟨c22b0,c22b1,H⟩|⟨c22b0,c22b1,c22,H⟩
             ·replace H:=iteEq H
              rcases H with ⟨c23b0,c23b1,H⟩|⟨c23b0,c23b1,c23,H⟩
              ·have H':=A_ H
               clear H;go_wp2
               go_roundg k2
               case measure=>have:=HJ1.out;have:=HK2.out;omega
               case rel=>exact ⟨(wrap64 (x3_2+1)),zz3,H',⟨(zz31 HJ1 HK2)⟩,zz4⟩
              ·obtain rfl:=sI H
               go_wp2
               go_ret
               exact ⟨zz3,zz4⟩
             ·obtain rfl:=sI H
              go_wp2
              go_ret
              exact ⟨zz3,zz4⟩
      ·obtain rfl:=sI H
       go_wp2
       go_ret
       exact ⟨zz3,zz4⟩
def spec_l2Num.l0:Nat→ByteArray→Int→Int→Int→Option (Int)
 | 0,_,_,_,_=>none
 | k+1,x0,x1,x5,x6=>if x6 < (x0.size:Int) then (if 0≤x6 then (if (bt x0 x6) < 48 then (some 0) else (if (bt x0 x6) > 57 then (some 0) else (spec_l2Num.l0 k x0 x1 (mn (wrap64 ((wrap64 (x5 * 10))+(((bt x0 x6) - 48) % 256))) x1) (wrap64 (x6+1))))) else (none)) else (some x5)
def spec_l2Num.f (k:Nat) (a0:ByteArray) (a1:Int):Option (Int):=spec_l2Num.l0 k a0 a1 0 0
theorem spec_l2Num.mono_l:∀ k,(∀ y0 y1 y2 y3,LeO (spec_l2Num.l0 k y0 y1 y2 y3) (spec_l2Num.l0 (k+1) y0 y1 y2 y3))
 | 0=>by intros;intro r h;simp [spec_l2Num.l0] at h
 | k+1=>by
  have ih0:=spec_l2Num.mono_l k;intros;unfold spec_l2Num.l0;repeat' first|(with_reducible first|exact ih0 _ _ _ _|exact LeO.refl _|exact LeO.none _|refine LeO.ite ?_ ?_|refine LeO.bind ?_ (fun _=>?_))|exact LeO.none _|refine LeO.ite ?_ ?_|refine LeO.bind ?_ (fun _=>?_)
theorem spec_l2Num.mono:∀ a0 a1 k,LeO (spec_l2Num.f k a0 a1) (spec_l2Num.f (k+1) a0 a1):=by
 intro a0 a1 k;have ih0:=spec_l2Num.mono_l k;unfold spec_l2Num.f
 repeat' first|(with_reducible first|exact ih0 _ _ _ _|exact LeO.refl _|exact LeO.none _|refine LeO.ite ?_ ?_|refine LeO.bind ?_ (fun _=>?_))|exact LeO.none _|refine LeO.ite ?_ ?_|refine LeO.bind ?_ (fun _=>?_)
theorem spec_l2Num.calls (k:Nat) (a0:ByteArray) (a1:Int) (r:Int) (w:World) (h:spec_l2Num.f k a0 a1=some r) :
  Calls Tryz.prog 138 #[.string a0,.int .i64 a1] w fun e w'=>e=.returned (.int .i64 r)∧Below w.heap.size w w':=by
 have HB:=A_ (Below.refl w.heap.size w);unfold spec_l2Num.f at h
 have H:=h;clear h;have H':=A_ H;clear H;go_enter Tryz.func138,Tryz.ntmps138;go_wp2
 go_loopg [5,6] k (fun kq v5 v6 w'=>∃ (x5_1:Int) (x6_1:Int),v5=.int .i64 x5_1∧v6=.int .i64 x6_1∧Aside0 (spec_l2Num.l0 kq a0 a1 x5_1 x6_1=some r)∧Aside0 (kq≤k)∧Aside0 (Below w.heap.size w w'))
 case atStart=>exact ⟨(0),(0),zz3,zz3,H',⟨Nat.le_refl _⟩,⟨(zz0 HB)⟩⟩
 case round=>
  clear H';obtain ⟨x5_1,x6_1,rfl,rfl,HA,HK1,HB⟩:=hrel;cases gk with
  | zero=>exact absurd HA.out (by simp [spec_l2Num.l0])
  | succ k1=>
   obtain ⟨H⟩:=HA;simp only [spec_l2Num.l0] at H
   replace H:=iteEd H;rcases H with ⟨c3b0,H⟩|⟨c3b0,H⟩
   ·replace H:=iteNd H
    obtain ⟨c4b0,H⟩:=H;replace H:=iteEd H;rcases H with ⟨c6b0,H⟩|⟨c6b0,H⟩
    ·obtain rfl:=sI H
     have p5:0≤(x6_1:Int):=ofD;have q5:x6_1 < (a0.size:Int):=ofD;have hx5:=bt_at a0 x6_1;replace p5:=eq_true p5;replace q5:=eq_true q5;go_wp2
     go_ret
     exact ⟨zz1,(zz0 HB)⟩
    ·replace H:=iteEg H
     rcases H with ⟨c8b0,H⟩|⟨c8b0,H⟩
     ·obtain rfl:=sI H
      have p5:0≤(x6_1:Int):=ofD;have q5:x6_1 < (a0.size:Int):=ofD;have hx5:=bt_at a0 x6_1;replace p5:=eq_true p5;replace q5:=eq_true q5;have p7:0≤(x6_1:Int):=ofD;have q7:x6_1 < (a0.size:Int):=ofD;have hx7:=bt_at a0 x6_1;replace p7:=eq_true p7;replace q7:=eq_true q7;go_wp2
      go_ret
      exact ⟨zz1,(zz0 HB)⟩
     ·obtain ⟨ji10,hji10⟩:∃ j_:Int,(mn (wrap64 ((wrap64 (x5_1 * 10))+(((bt a0 x6_1) - 48) % 256))) a1)=j_:=⟨_,rfl⟩
      (first|rw [hji10] at H|simp only [hji10] at H)
      have hji10_:(if a1 < (wrap64 ((wrap64 (x5_1 * 10))+(((bt a0 x6_1) - 48) % 256))) then a1 else (wrap64 ((wrap64 (x5_1 * 10))+(((bt a0 x6_1) - 48) % 256))))=ji10:=hji10;have H':=A_ H;clear H;have p5:0≤(x6_1:Int):=ofD;have q5:x6_1 < (a0.size:Int):=ofD;have hx5:=bt_at a0 x6_1;replace p5:=eq_true p5;replace q5:=eq_true q5;have p7:0≤(x6_1:Int):=ofD;have q7:x6_1 < (a0.size:Int):=ofD;have hx7:=bt_at a0 x6_1;replace p7:=eq_true p7;replace q7:=eq_true q7;have p9:0≤(x6_1:Int):=ofD;have q9:x6_1 < (a0.size:Int):=ofD;have hx9:=bt_at a0 x6_1;replace p9:=eq_true p9;replace q9:=eq_true q9;go_wp2
      go_roundg k1
      case measure=>have:=HK1.out;omega
      case rel=>exact ⟨(ji10),(wrap64 (x6_1+1)),(by first|rfl|(simp only [i64_w,i32_w];done)|(simp only [aid_isEmpty,aid_isEmpty2];done)|(simp;done)|((simp only [← hji10] <;> (first|rfl|simp));done)|(simp [*];done)),zz3,H',⟨(zz17 HK1)⟩,⟨(zz0 HB)⟩⟩
   ·obtain rfl:=sI H
    go_wp2
    go_ret
    exact ⟨zz1,(zz0 HB)⟩
def laws_toPageS.l0:Nat→List (S49)→List (S57)→Int→Option ((List (S57)))
 | 0,_,_,_=>none
 | k+1,x0,x3,x4=>if x4 < (x0.length:Int) then (if 0≤x4 then ((laws_toPage.f ((rd_T49 x0 x4).f0) ((rd_T49 x0 x4).f1) ((rd_T49 x0 x4).f2) ((rd_T49 x0 x4).f3)).bind fun bt385=>(if x4 < (x3.length:Int) then (laws_toPageS.l0 k x0 (x3.set (x4:Int).toNat (⟨bt385.1,bt385.2.1,bt385.2.2.1,bt385.2.2.2⟩:S57)) (wrap64 (x4+1))) else (none))) else (none)) else (some x3)
def laws_toPageS.f (k:Nat) (l0:List (S49)):Option ((List (S57))):=if 0≤(l0.length:Int) then (if ((l0.length:Int):Int).toNat≤5026338869833 then (laws_toPageS.l0 k l0 (List.replicate ((l0.length:Int):Int).toNat z57) 0) else (none)) else (none)
theorem laws_toPageS.calls (k:Nat) (A0:Option Addr) (c0:Nat) (l0:List (S49)) (r:List (S57)) (w:World) (hr0:Kd.C k49 w A0 l0.length l0) (hc0:l0.length≤c0) (h:laws_toPageS.f k l0=some r) :
  Calls Tryz.prog 8 #[.slice A0 l0.length c0] w fun e w'=>∃ v0_:Value,e=.returned (v0_)∧Kd.R k57 57 w' w.heap.size (fun _=>True) v0_ r∧Below w.heap.size w w':=by
 have hu49:=Tryz.underlying49;have hu57:=Tryz.underlying57;have HR0:=A_ hr0;have HC0:=A_ hc0;clear hr0 hc0;have HB:=A_ (Below.refl w.heap.size w);unfold laws_toPageS.f at h
 have H:=h;clear h;replace H:=iteE H;rcases H with ⟨c2,H⟩|⟨c2,H⟩
 ·have c2b0:=eq_true c2
  have c2b1:=dT c2;clear c2;replace H:=iteN H;obtain ⟨c3,H⟩:=H;have c3b0:=eq_true c3;have c3b1:=dT c3;clear c3;obtain ⟨y381,Ny381⟩:=toY (List.replicate ((l0.length:Int):Int).toNat z57);(first|with_reducible replace H:=bindZ Ny381 H|rw [← Ny381.out] at H|skip)
  have H':=A_ H;clear H;go_enter Tryz.func8,Tryz.ntmps8;go_wp2_with (first|((with_reducible refine gD (N:=7) rfl ?_);refine Kd.R_make k57 _ 57 rfl (N:=7) rfl 25 _ _ rfl (l0.length:Int) rfl rfl Tryz.underlying25 (.agg #[(.string ⟨#[]⟩),(.string ⟨#[]⟩),(.string ⟨#[]⟩),(.int .i64 0)]) 56 info57 rfl (by decide) (by omega) z57 (ok:=fun _=>True) (okp:=fun _=>True) (k57_mkM _ _ _ z57 ) (fun _ hk=>hk) trivial ofD (Nat.le_trans (Nat.mul_le_mul_right _ (ofD:(l0.length:Int).toNat≤5026338869833)) (by omega)) (Below.refl _ _) (Nat.le_refl _) ?_;intro v382 w4 ho5 hb hg_ hnew_;clear hg_ hnew_;(first|rw [← Ny381.out] at ho5|(simp only [Int.reduceToNat] at ho5;rw [← Ny381.out] at ho5));have HO383:=A_ (Kd.R_lower ho5 (below_size (zz0 HB)));replace HB:=A_ (bS (zz0 HB) hb);clear hb ho5))
  go_loopg [4] k (fun kq v4 w'=>∃ (x3_1:List (S57)) (x4_1:Int),v4=.int .i64 x4_1∧Aside0 (laws_toPageS.l0 kq l0 x3_1 x4_1=some r)∧Aside0 (kq≤k)∧Aside0 (Kd.R k57 57 w' w.heap.size (fun _=>True) v382 x3_1)∧Aside0 (Below w.heap.size w w'))
  case atStart=>exact ⟨(y381),(0),zz3,H',⟨Nat.le_refl _⟩,⟨(zz8 HO383)⟩,⟨(zz0 HB)⟩⟩
  case round=>
   clear H';obtain ⟨x3_1,x4_1,rfl,HA,HK1,HO_3,HB⟩:=hrel;cases gk with
   | zero=>exact absurd HA.out (by simp [laws_toPageS.l0])
   | succ k1=>
    obtain ⟨H⟩:=HA;simp only [laws_toPageS.l0] at H
    replace H:=iteEd H;rcases H with ⟨c6b0,H⟩|⟨c6b0,H⟩
    ·replace H:=iteNd H
     obtain ⟨c7b0,H⟩:=H;replace H:=bindA H;obtain ⟨⟨t385,t386,t387,t388⟩,A8,H⟩:=H;try dsimp only at H
     replace H:=iteNd H;obtain ⟨c9b0,H⟩:=H;obtain ⟨y389,Ny389⟩:=toY (x3_1.set (x4_1:Int).toNat (⟨t385,t386,t387,t388⟩:S57));(first|with_reducible replace H:=bindZ Ny389 H|rw [← Ny389.out] at H|skip)
     have H':=A_ H;clear H;obtain ⟨⟨ad384,e384,hx384_0,hx384_1,hx384_2,hx384_3⟩,p384,q384⟩:=atB (at_T49 HR0.out x4_1);cases e384
     obtain ⟨hx384_0,hx384_1,hx384_2,hx384_3⟩:=cb4 HB hx384_0 hx384_1 hx384_2 hx384_3;go_wp2_with (first|(refine gR 28 (some 20) Tryz.func28 (laws_toPage.calls ((rd_T49 l0 x4_1).f0) ((rd_T49 l0 x4_1).f1) ((rd_T49 l0 x4_1).f2) ((rd_T49 l0 x4_1).f3) t385 t386 t387 t388 _ A8.out) ?_;rintro w11 hb;replace HO_3:=A_ (rB (zz8 HO_3) hb);replace HB:=A_ (bS (zz0 HB) hb);(try clear hb);have p10:0≤(x4_1:Int):=ofD;have q10:(x4_1:Int) < ((x3_1.length:Int):Int):=ofD;obtain ⟨go10,co10,eo10,gb10,gl10,cl10,HG10⟩:=Kd.R_form HO_3.out (by omega);(first|cases eo10|(injection eo10 with ea_ en_ ec_;(first|subst ea_|(injection ea_ with ea_;subst ea_));subst ec_;clear en_));have GB10:=A_ gb10;have GG10:=A_ HG10;clear gb10 gl10 HG10;obtain ⟨ce10,hcl10,hM10,hcc10,hfr10⟩:=Kd.R_elem HO_3.out z57 (x4_1:Int) p10 q10;obtain rfl:=k57_openM hM10;have hx10_0:w11.cell? ⟨go10,(x4_1:Int).toNat * 4,none⟩=some (.string ((rd_T57 x3_1 x4_1).f0)):=hcc10 0 _ rfl;have hx10_1:w11.cell? ⟨go10,(x4_1:Int).toNat * 4+1,none⟩=some (.string ((rd_T57 x3_1 x4_1).f1)):=hcc10 1 _ rfl;have hx10_2:w11.cell? ⟨go10,(x4_1:Int).toNat * 4+2,none⟩=some (.string ((rd_T57 x3_1 x4_1).f2)):=hcc10 2 _ rfl;have hx10_3:w11.cell? ⟨go10,(x4_1:Int).toNat * 4+3,none⟩=some (.int .i64 ((rd_T57 x3_1 x4_1).f3)):=hcc10 3 _ rfl;have hf10_0:w11.frozen? ⟨go10,(x4_1:Int).toNat * 4,none⟩=false:=hfr10 0;have hf10_1:w11.frozen? ⟨go10,(x4_1:Int).toNat * 4+1,none⟩=false:=hfr10 1;have hf10_2:w11.frozen? ⟨go10,(x4_1:Int).toNat * 4+2,none⟩=false:=hfr10 2;have hf10_3:w11.frozen? ⟨go10,(x4_1:Int).toNat * 4+3,none⟩=false:=hfr10 3;clear hcl10 hcc10 hfr10 hM10;replace p10:=eq_true p10;replace q10:=eq_true q10;have HX12:=A_ (show Kd.R k57 57 w11 w.heap.size (fun _=>True) (.slice (some ⟨go10,0,none⟩) x3_1.length co10) x3_1 from (zz8 HO_3));obtain ⟨ce12,hcl12,hM12,hcc12,hfr12⟩:=Kd.R_elem HX12.out z57 (x4_1:Int) ofD (by have h_:(x4_1:Int) < ((x3_1.length:Int):Int):=ofD;first|exact h_|(have e_:=(Kd.R_reads' HO_3.out).1;omega)|simpa using h_);obtain rfl:=k57_openM hM12;have HP12:=Kd.R_seg HX12.out (x4_1:Int) ofD (by have h_:(x4_1:Int) < ((x3_1.length:Int):Int):=ofD;first|exact h_|(have e_:=(Kd.R_reads' HO_3.out).1;omega)|simpa using h_) (seg:=[.string t385,.string t386,.string t387,.int .i64 t388]) (j:=0) hcl12 hcc12 (show 4≤4 from by decide) (x':=(⟨t385,t386,t387,t388⟩:S57)) (k57_mkM _ _ _ (⟨t385,t386,t387,t388⟩:S57) ) (fun _ hk=>hk);have hx12_0:=hcc12 0 _ rfl;(try simp only [show (k57).sz=4 from rfl,Nat.mul_one,Nat.add_zero] at hx12_0);have hf12_0:=hfr12 0;(try simp only [show (k57).sz=4 from rfl,Nat.mul_one,Nat.add_zero] at hf12_0);have hx12_1:=hcc12 1 _ rfl;(try simp only [show (k57).sz=4 from rfl,Nat.mul_one,Nat.add_zero] at hx12_1);have hf12_1:=hfr12 1;(try simp only [show (k57).sz=4 from rfl,Nat.mul_one,Nat.add_zero] at hf12_1);have hx12_2:=hcc12 2 _ rfl;(try simp only [show (k57).sz=4 from rfl,Nat.mul_one,Nat.add_zero] at hx12_2);have hf12_2:=hfr12 2;(try simp only [show (k57).sz=4 from rfl,Nat.mul_one,Nat.add_zero] at hf12_2);have hx12_3:=hcc12 3 _ rfl;(try simp only [show (k57).sz=4 from rfl,Nat.mul_one,Nat.add_zero] at hx12_3);have hf12_3:=hfr12 3;(try simp only [show (k57).sz=4 from rfl,Nat.mul_one,Nat.add_zero] at hf12_3);clear hcl12 hcc12 hfr12 hM12)|((with_reducible refine gate_store (t:=57) (p:=21) rfl ?_);refine store_event (t:=57) (p:=21) (v:=?vo_w13) (w1:=((((w11.setCell ⟨go10,(x4_1:Int).toNat * 4,none⟩ (.string t385)).setCell ⟨go10,(x4_1:Int).toNat * 4+1,none⟩ (.string t386)).setCell ⟨go10,(x4_1:Int).toNat * 4+2,none⟩ (.string t387)).setCell ⟨go10,(x4_1:Int).toNat * 4+3,none⟩ (.int .i64 t388))) ?hg ?ho ?hn ?hr ?_;(case ho=>rfl);(case hg=>rfl);(case hn=>rfl);(case hr=>exact zz6);intro w13 hw;have hg:w11.grownBy w13 (some go10):=(by rw [hw];exact HP12.2);have hp_:Kd.R k57 57 w13 w.heap.size (fun _=>True) (.slice (some ⟨go10,0,none⟩) x3_1.length co10) y389:=(by rw [hw,Ny389.out];exact HP12.1);clear HP12;replace HO_3:=A_ (hp_);replace HB:=A_ ((by rw [hw];exact below_set (below_set (below_set (below_set (HB.out) GB10.out) GB10.out) GB10.out) GB10.out:Below w.heap.size w w13));clear hg hw hp_))
     go_roundg k1
     case measure=>have:=HK1.out;omega
     case rel=>exact ⟨(y389),(wrap64 (x4_1+1)),zz3,H',⟨(zz17 HK1)⟩,⟨(zz8 HO_3)⟩,⟨(zz0 HB)⟩⟩
    ·obtain rfl:=sI H
     go_wp2
     go_ret
     exact ⟨_,zz1,(zz8 HO_3),(zz0 HB)⟩
 ·exact absurd H (by simp)
def laws_eqPageS.l0:Nat→List (S57)→List (S57)→Int→Option (Bool)
 | 0,_,_,_=>none
 | k+1,x0,x1,x5=>if x5 < (x0.length:Int) then (if 0≤x5 then (if x5 < (x1.length:Int) then ((laws_eqPage.f ((rd_T57 x0 x5).f0) ((rd_T57 x0 x5).f1) ((rd_T57 x0 x5).f2) ((rd_T57 x0 x5).f3) ((rd_T57 x1 x5).f0) ((rd_T57 x1 x5).f1) ((rd_T57 x1 x5).f2) ((rd_T57 x1 x5).f3)).bind fun t583=>(if t583=true then (laws_eqPageS.l0 k x0 x1 (wrap64 (x5+1))) else (some false))) else (none)) else (none)) else (some true)
def laws_eqPageS.f (k:Nat) (l0:List (S57)) (l1:List (S57)):Option (Bool):=if (l0.length:Int)=(l1.length:Int) then (laws_eqPageS.l0 k l0 l1 0) else (some false)
def laws_eqPageS.T6:Bool×List (List Nat×List Nat):=(true,[([],[]),([],[]),([0,1],[0,1]),([2],[2]),([],[]),([],[]),([4,5],[4,5]),([6],[6]),([3,7],[3,7]),([8],[8])])
def laws_eqPageS.B6:List Nat:=[0,0,3,7,0,0,48,112,255,511]
theorem laws_eqPageS.tab6:rtab .any (opsOf Tryz.f10 6)=laws_eqPageS.T6:=by kernel_rfl
theorem laws_eqPageS.bits6:waitsOk laws_eqPageS.T6.2 laws_eqPageS.B6=true:=by kernel_rfl
theorem laws_eqPageS.calls (k:Nat) (A0:Option Addr) (c0:Nat) (l0:List (S57)) (A1:Option Addr) (c1:Nat) (l1:List (S57)) (r:Bool) (w:World) (hr0:Kd.C k57 w A0 l0.length l0) (hc0:l0.length≤c0) (hr1:Kd.C k57 w A1 l1.length l1) (hc1:l1.length≤c1) (h:laws_eqPageS.f k l0 l1=some r) :
  Calls Tryz.prog 10 #[.slice A0 l0.length c0,.slice A1 l1.length c1] w fun e w'=>e=.returned (.bool r)∧Below w.heap.size w w':=by
 have hu57:=Tryz.underlying57;have HR0:=A_ hr0;have HC0:=A_ hc0;clear hr0 hc0;have HR1:=A_ hr1;have HC1:=A_ hc1;clear hr1 hc1;have HB:=A_ (Below.refl w.heap.size w);unfold laws_eqPageS.f at h
 have H:=h;clear h;replace H:=iteE H;rcases H with ⟨c3,H⟩|⟨c3,H⟩
 ·obtain ⟨c3b0,c3b1⟩:=eqT c3
  have c3b2:(l0.length == l1.length)=true:=by first|simpa using c3|(simp at c3 ⊢;omega)
  clear c3;have H':=A_ H;clear H;go_enter Tryz.func10,Tryz.ntmps10;go_wp2
  go_loopg [5] k (fun kq v5 w'=>∃ (x5_1:Int),v5=.int .i64 x5_1∧Aside0 (laws_eqPageS.l0 kq l0 l1 x5_1=some r)∧Aside0 (kq≤k)∧Aside0 (Below w.heap.size w w'))
  case atStart=>exact ⟨(0),zz3,H',⟨Nat.le_refl _⟩,⟨(zz0 HB)⟩⟩
  case round=>
   clear H';obtain ⟨x5_1,rfl,HA,HK1,HB⟩:=hrel;cases gk with
   | zero=>exact absurd HA.out (by simp [laws_eqPageS.l0])
   | succ k1=>
    obtain ⟨H⟩:=HA;simp only [laws_eqPageS.l0] at H
    replace H:=iteEd H;rcases H with ⟨c4b0,H⟩|⟨c4b0,H⟩
    ·replace H:=iteNd H
     obtain ⟨c5b0,H⟩:=H;replace H:=iteNd H;obtain ⟨c6b0,H⟩:=H;replace H:=bindA H;obtain ⟨t583,A7,H⟩:=H;have HF8:=A_ H;clear H;try go_wp2
     replace HB:=A_ (below_drew1 HB.out);obtain ⟨⟨ad581,e581,hx581_0,hx581_1,hx581_2,hx581_3⟩,p581,q581⟩:=atB (at_T57 HR0.out x5_1);have hw581_3:=hx581_3;have hw581_2:=hx581_2;have hw581_1:=hx581_1;have hw581_0:=hx581_0;cases e581
     obtain ⟨hx581_0,hx581_1,hx581_2,hx581_3⟩:=cb4 HB hx581_0 hx581_1 hx581_2 hx581_3;obtain ⟨⟨ad582,e582,hx582_0,hx582_1,hx582_2,hx582_3⟩,p582,q582⟩:=atB (at_T57 HR1.out x5_1);have hw582_3:=hx582_3;have hw582_2:=hx582_2;have hw582_1:=hx582_1;have hw582_0:=hx582_0;cases e582
     obtain ⟨hx582_0,hx582_1,hx582_2,hx582_3⟩:=cb4 HB hx582_0 hx582_1 hx582_2 hx582_3;refine start_ (n:=10) (S:=fun w'=>w'.cell? (ad581.add ((x5_1).toNat * 4))=some (.string ((rd_T57 l0 x5_1).f0))∧w'.cell? ⟨(ad581.add ((x5_1).toNat * 4)).block,(ad581.add ((x5_1).toNat * 4)).off+1,none⟩=some (.string ((rd_T57 l0 x5_1).f1))∧w'.cell? ⟨(ad581.add ((x5_1).toNat * 4)).block,(ad581.add ((x5_1).toNat * 4)).off+2,none⟩=some (.string ((rd_T57 l0 x5_1).f2))∧w'.cell? ⟨(ad581.add ((x5_1).toNat * 4)).block,(ad581.add ((x5_1).toNat * 4)).off+3,none⟩=some (.int .i64 ((rd_T57 l0 x5_1).f3))∧w'.cell? (ad582.add ((x5_1).toNat * 4))=some (.string ((rd_T57 l1 x5_1).f0))∧w'.cell? ⟨(ad582.add ((x5_1).toNat * 4)).block,(ad582.add ((x5_1).toNat * 4)).off+1,none⟩=some (.string ((rd_T57 l1 x5_1).f1))∧w'.cell? ⟨(ad582.add ((x5_1).toNat * 4)).block,(ad582.add ((x5_1).toNat * 4)).off+2,none⟩=some (.string ((rd_T57 l1 x5_1).f2))∧w'.cell? ⟨(ad582.add ((x5_1).toNat * 4)).block,(ad582.add ((x5_1).toNat * 4)).off+3,none⟩=some (.int .i64 ((rd_T57 l1 x5_1).f3))) (ds:=[]) #[yF,yF,yF,yF,yF,yF,yF,yF,yF,yF] (by kernel_rfl) rfl rfl ⟨((HB.out.cell (World.block_lt_of_cell? w _ hw581_0)).trans hw581_0),((HB.out.cell (World.block_lt_of_cell? w _ hw581_1)).trans hw581_1),((HB.out.cell (World.block_lt_of_cell? w _ hw581_2)).trans hw581_2),((HB.out.cell (World.block_lt_of_cell? w _ hw581_3)).trans hw581_3),((HB.out.cell (World.block_lt_of_cell? w _ hw582_0)).trans hw582_0),((HB.out.cell (World.block_lt_of_cell? w _ hw582_1)).trans hw582_1),((HB.out.cell (World.block_lt_of_cell? w _ hw582_2)).trans hw582_2),((HB.out.cell (World.block_lt_of_cell? w _ hw582_3)).trans hw582_3)⟩ (fun hHeld=>?_);refine with_tabW laws_eqPageS.tab6 laws_eqPageS.bits6 (fun HT_ HW_=>?_);generalize wr.drew=w9 at HB hx581_0 hx581_1 hx581_2 hx581_3 hx582_0 hx582_1 hx582_2 hx582_3 hHeld ⊢;refine pureZ 0 (some 17) #[yT,yF,yF,yF,yF,yF,yF,yF,yF,yF] ?_;refine pureZ 1 (some 18) #[yT,yT,yF,yF,yF,yF,yF,yF,yF,yF] ?_;refine pureZ 2 (some 19) #[yT,yT,yT,yF,yF,yF,yF,yF,yF,yF] ?_;refine pureZ 4 (some 21) #[yT,yT,yT,yF,yT,yF,yF,yF,yF,yF] ?_;refine pureZ 5 (some 22) #[yT,yT,yT,yF,yT,yT,yF,yF,yF,yF] ?_;refine pureZ 6 (some 23) #[yT,yT,yT,yF,yT,yT,yT,yF,yF,yF] ?_;refine takeZ8 3 (some 20) #[yT,yT,yT,yT,yT,yT,yT,yF,yF,yF] hHeld ?_;refine takeZ8 7 (some 24) #[yT,yT,yT,yT,yT,yT,yT,yT,yF,yF] hHeld ?_;refine oneZ 8 (some 25) #[yT,yT,yT,yT,yT,yT,yT,yT,yT,yF] (fun K hK=>?_);refine goes_ Tryz.func33 (by kernel_rfl) rfl #[.agg #[.string ((rd_T57 l0 x5_1).f0),.string ((rd_T57 l0 x5_1).f1),.string ((rd_T57 l0 x5_1).f2),.int .i64 ((rd_T57 l0 x5_1).f3)],.agg #[.string ((rd_T57 l1 x5_1).f0),.string ((rd_T57 l1 x5_1).f1),.string ((rd_T57 l1 x5_1).f2),.int .i64 ((rd_T57 l1 x5_1).f3)]] (by rfl) rfl rfl zz52 ?_;with_reducible refine (laws_eqPage.calls ((rd_T57 l0 x5_1).f0) ((rd_T57 l0 x5_1).f1) ((rd_T57 l0 x5_1).f2) ((rd_T57 l0 x5_1).f3) ((rd_T57 l1 x5_1).f0) ((rd_T57 l1 x5_1).f1) ((rd_T57 l1 x5_1).f2) ((rd_T57 l1 x5_1).f3) t583 _ A7.out).mono ?_
     rintro e w10 ⟨rfl,hb⟩;refine ⟨_,rfl,?_⟩;replace HB:=A_ (bS (zz0 HB) hb);(try clear hb)
     (try clear hb2)
     (try clear hk)
     (try clear hi)
     refine hK.out _ _ ⟨((HB.out.cell (World.block_lt_of_cell? w _ hw581_0)).trans hw581_0),((HB.out.cell (World.block_lt_of_cell? w _ hw581_1)).trans hw581_1),((HB.out.cell (World.block_lt_of_cell? w _ hw581_2)).trans hw581_2),((HB.out.cell (World.block_lt_of_cell? w _ hw581_3)).trans hw581_3),((HB.out.cell (World.block_lt_of_cell? w _ hw582_0)).trans hw582_0),((HB.out.cell (World.block_lt_of_cell? w _ hw582_1)).trans hw582_1),((HB.out.cell (World.block_lt_of_cell? w _ hw582_2)).trans hw582_2),((HB.out.cell (World.block_lt_of_cell? w _ hw582_3)).trans hw582_3)⟩ (fun hHeld=>?_);clear hK K;refine nZ 25 ?_;refine pureZ 9 (some 26) #[yT,yT,yT,yT,yT,yT,yT,yT,yT,yT] ?_;refine done_ (done_of HT_.out (by kernel_rfl)) ?_;go_upto_if 26 with (fail)
     obtain ⟨H⟩:=HF8;replace H:=iteB H;rcases H with ⟨rfl,H⟩|⟨rfl,H⟩
     ·have H':=A_ H
      clear H;go_wp2
      go_roundg k1
      case measure=>have:=HK1.out;omega
      case rel=>exact ⟨(wrap64 (x5_1+1)),zz3,H',⟨(zz17 HK1)⟩,⟨(zz0 HB)⟩⟩
     ·obtain rfl:=sI H
      go_wp2
      go_ret
      exact ⟨zz1,(zz0 HB)⟩
    ·obtain rfl:=sI H
     go_wp2
     go_ret
     exact ⟨zz1,(zz0 HB)⟩
 ·obtain ⟨c3b0,c3b1⟩:=eqF c3
  have c3b2:(l0.length == l1.length)=false:=by first|simpa using c3|(simp at c3 ⊢;omega)
  obtain rfl:=sI H;go_enter Tryz.func10,Tryz.ntmps10;go_wp2
  go_ret
  exact ⟨zz1,(zz0 HB)⟩
def laws_eqStringS.l0:Nat→List ByteArray→List ByteArray→Int→Option (Bool)
 | 0,_,_,_=>none
 | k+1,x0,x1,x5=>if x5 < (x0.length:Int) then (if 0≤x5 then (if x5 < (x1.length:Int) then (if (rdOf ByteArray.empty x0 x5).toList=(rdOf ByteArray.empty x1 x5).toList then (laws_eqStringS.l0 k x0 x1 (wrap64 (x5+1))) else (some false)) else (none)) else (none)) else (some true)
def laws_eqStringS.f (k:Nat) (l0:List ByteArray) (l1:List ByteArray):Option (Bool):=if (l0.length:Int)=(l1.length:Int) then (laws_eqStringS.l0 k l0 l1 0) else (some false)
theorem laws_eqStringS.mono_l:∀ k,(∀ y0 y1 y2,LeO (laws_eqStringS.l0 k y0 y1 y2) (laws_eqStringS.l0 (k+1) y0 y1 y2))
 | 0=>by intros;intro r h;simp [laws_eqStringS.l0] at h
 | k+1=>by
  have ih0:=laws_eqStringS.mono_l k;intros;unfold laws_eqStringS.l0;repeat' first|(with_reducible first|exact ih0 _ _ _|exact LeO.refl _|exact LeO.none _|refine LeO.ite ?_ ?_|refine LeO.bind ?_ (fun _=>?_))|exact LeO.none _|refine LeO.ite ?_ ?_|refine LeO.bind ?_ (fun _=>?_)
theorem laws_eqStringS.calls (k:Nat) (A0:Option Addr) (c0:Nat) (l0:List ByteArray) (A1:Option Addr) (c1:Nat) (l1:List ByteArray) (r:Bool) (w:World) (hr0:Kd.C Kd.string w A0 l0.length l0) (hc0:l0.length≤c0) (hr1:Kd.C Kd.string w A1 l1.length l1) (hc1:l1.length≤c1) (h:laws_eqStringS.f k l0 l1=some r) :
  Calls Tryz.prog 40 #[.slice A0 l0.length c0,.slice A1 l1.length c1] w fun e w'=>e=.returned (.bool r)∧Drawn0 w w':=by
 have HR0:=A_ hr0;have HC0:=A_ hc0;clear hr0 hc0;have HR1:=A_ hr1;have HC1:=A_ hc1;clear hr1 hc1;unfold laws_eqStringS.f at h
 have H:=h;clear h;replace H:=iteE H;rcases H with ⟨c3,H⟩|⟨c3,H⟩
 ·obtain ⟨c3b0,c3b1⟩:=eqT c3
  have c3b2:(l0.length == l1.length)=true:=by first|simpa using c3|(simp at c3 ⊢;omega)
  clear c3;have H':=A_ H;clear H;go_enter Tryz.func40,Tryz.ntmps40;go_wp2
  repeat (go_quiet (fail);try go_wp2)
  go_loopg [5] k (fun kq v5 w'=>∃ (x5_1:Int),v5=.int .i64 x5_1∧Aside0 (laws_eqStringS.l0 kq l0 l1 x5_1=some r)∧Aside0 (kq≤k)∧Drawn0 w w')
  case atStart=>exact ⟨(0),zz3,H',⟨Nat.le_refl _⟩,zz4⟩
  case round=>
   clear H';obtain ⟨x5_1,rfl,HA,HK1,⟨m1,rfl⟩⟩:=hrel;cases gk with
   | zero=>exact absurd HA.out (by simp [laws_eqStringS.l0])
   | succ k1=>
    obtain ⟨H⟩:=HA;simp only [laws_eqStringS.l0] at H
    replace H:=iteEd H;rcases H with ⟨c4b0,H⟩|⟨c4b0,H⟩
    ·replace H:=iteNd H
     obtain ⟨c5b0,H⟩:=H;replace H:=iteNd H;obtain ⟨c6b0,H⟩:=H;replace H:=iteEq H;rcases H with ⟨c7b0,c7b1,H⟩|⟨c7b0,c7b1,c7,H⟩
     ·have H':=A_ H
      clear H;obtain ⟨⟨ad597,e597,hx597_0⟩,p597,q597⟩:=atB (Kd.at_string HR0.out x5_1);cases e597
      obtain ⟨⟨ad598,e598,hx598_0⟩,p598,q598⟩:=atB (Kd.at_string HR1.out x5_1);cases e598
      go_wp2
      repeat (go_quiet (fail);try go_wp2)
      go_roundg k1
      case measure=>have:=HK1.out;omega
      case rel=>exact ⟨(wrap64 (x5_1+1)),zz3,H',⟨(zz17 HK1)⟩,zz4⟩
     ·obtain rfl:=sI H
      obtain ⟨⟨ad597,e597,hx597_0⟩,p597,q597⟩:=atB (Kd.at_string HR0.out x5_1);cases e597
      obtain ⟨⟨ad598,e598,hx598_0⟩,p598,q598⟩:=atB (Kd.at_string HR1.out x5_1);cases e598
      go_wp2
      repeat (go_quiet (fail);try go_wp2)
      go_ret
      exact ⟨zz3,zz4⟩
    ·obtain rfl:=sI H
     go_wp2
     repeat (go_quiet (fail);try go_wp2)
     go_ret
     exact ⟨zz3,zz4⟩
 ·obtain ⟨c3b0,c3b1⟩:=eqF c3
  have c3b2:(l0.length == l1.length)=false:=by first|simpa using c3|(simp at c3 ⊢;omega)
  obtain rfl:=sI H;go_enter Tryz.func40,Tryz.ntmps40;go_wp2
  repeat (go_quiet (fail);try go_wp2)
  go_ret
  exact ⟨zz3,zz4⟩
def laws_eqRuleS.l0:Nat→List (S93)→List (S93)→Int→Option (Bool)
 | 0,_,_,_=>none
 | k+1,x0,x1,x5=>if x5 < (x0.length:Int) then (if 0≤x5 then (if x5 < (x1.length:Int) then ((laws_eqRule.f ((rd_T93 x0 x5).f0) ((rd_T93 x0 x5).f1) ((rd_T93 x1 x5).f0) ((rd_T93 x1 x5).f1)).bind fun t603=>(if t603=true then (laws_eqRuleS.l0 k x0 x1 (wrap64 (x5+1))) else (some false))) else (none)) else (none)) else (some true)
def laws_eqRuleS.f (k:Nat) (l0:List (S93)) (l1:List (S93)):Option (Bool):=if (l0.length:Int)=(l1.length:Int) then (laws_eqRuleS.l0 k l0 l1 0) else (some false)
def laws_eqRuleS.T6:Bool×List (List Nat×List Nat):=(true,[([],[]),([],[]),([0,1],[0,1]),([2],[2]),([],[]),([],[]),([4,5],[4,5]),([6],[6]),([3,7],[3,7]),([8],[8])])
def laws_eqRuleS.B6:List Nat:=[0,0,3,7,0,0,48,112,255,511]
theorem laws_eqRuleS.tab6:rtab .any (opsOf Tryz.f41 6)=laws_eqRuleS.T6:=by kernel_rfl
theorem laws_eqRuleS.bits6:waitsOk laws_eqRuleS.T6.2 laws_eqRuleS.B6=true:=by kernel_rfl
theorem laws_eqRuleS.calls (k:Nat) (A0:Option Addr) (c0:Nat) (l0:List (S93)) (A1:Option Addr) (c1:Nat) (l1:List (S93)) (r:Bool) (w:World) (hr0:Kd.C k93 w A0 l0.length l0) (hc0:l0.length≤c0) (hr1:Kd.C k93 w A1 l1.length l1) (hc1:l1.length≤c1) (h:laws_eqRuleS.f k l0 l1=some r) :
  Calls Tryz.prog 41 #[.slice A0 l0.length c0,.slice A1 l1.length c1] w fun e w'=>e=.returned (.bool r)∧Below w.heap.size w w':=by
 have hu93:=Tryz.underlying93;have HR0:=A_ hr0;have HC0:=A_ hc0;clear hr0 hc0;have HR1:=A_ hr1;have HC1:=A_ hc1;clear hr1 hc1;have HB:=A_ (Below.refl w.heap.size w);unfold laws_eqRuleS.f at h
 have H:=h;clear h;replace H:=iteE H;rcases H with ⟨c3,H⟩|⟨c3,H⟩
 ·obtain ⟨c3b0,c3b1⟩:=eqT c3
  have c3b2:(l0.length == l1.length)=true:=by first|simpa using c3|(simp at c3 ⊢;omega)
  clear c3;have H':=A_ H;clear H;go_enter Tryz.func41,Tryz.ntmps41;go_wp2
  go_loopg [5] k (fun kq v5 w'=>∃ (x5_1:Int),v5=.int .i64 x5_1∧Aside0 (laws_eqRuleS.l0 kq l0 l1 x5_1=some r)∧Aside0 (kq≤k)∧Aside0 (Below w.heap.size w w'))
  case atStart=>exact ⟨(0),zz3,H',⟨Nat.le_refl _⟩,⟨(zz0 HB)⟩⟩
  case round=>
   clear H';obtain ⟨x5_1,rfl,HA,HK1,HB⟩:=hrel;cases gk with
   | zero=>exact absurd HA.out (by simp [laws_eqRuleS.l0])
   | succ k1=>
    obtain ⟨H⟩:=HA;simp only [laws_eqRuleS.l0] at H
    replace H:=iteEd H;rcases H with ⟨c4b0,H⟩|⟨c4b0,H⟩
    ·replace H:=iteNd H
     obtain ⟨c5b0,H⟩:=H;replace H:=iteNd H;obtain ⟨c6b0,H⟩:=H;replace H:=bindA H;obtain ⟨t603,A7,H⟩:=H;have HF8:=A_ H;clear H;try go_wp2
     replace HB:=A_ (below_drew1 HB.out);obtain ⟨⟨ad601,e601,hx601_0,hx601_1⟩,p601,q601⟩:=atB (at_T93 HR0.out x5_1);have hw601_1:=hx601_1;have hw601_0:=hx601_0;cases e601
     obtain ⟨hx601_0,hx601_1⟩:=cb2 HB hx601_0 hx601_1;obtain ⟨⟨ad602,e602,hx602_0,hx602_1⟩,p602,q602⟩:=atB (at_T93 HR1.out x5_1);have hw602_1:=hx602_1;have hw602_0:=hx602_0;cases e602
     obtain ⟨hx602_0,hx602_1⟩:=cb2 HB hx602_0 hx602_1;refine start_ (n:=10) (S:=fun w'=>w'.cell? (ad601.add ((x5_1).toNat * 2))=some (.bool ((rd_T93 l0 x5_1).f0))∧w'.cell? ⟨(ad601.add ((x5_1).toNat * 2)).block,(ad601.add ((x5_1).toNat * 2)).off+1,none⟩=some (.string ((rd_T93 l0 x5_1).f1))∧w'.cell? (ad602.add ((x5_1).toNat * 2))=some (.bool ((rd_T93 l1 x5_1).f0))∧w'.cell? ⟨(ad602.add ((x5_1).toNat * 2)).block,(ad602.add ((x5_1).toNat * 2)).off+1,none⟩=some (.string ((rd_T93 l1 x5_1).f1))) (ds:=[]) #[yF,yF,yF,yF,yF,yF,yF,yF,yF,yF] (by kernel_rfl) rfl rfl ⟨((HB.out.cell (World.block_lt_of_cell? w _ hw601_0)).trans hw601_0),((HB.out.cell (World.block_lt_of_cell? w _ hw601_1)).trans hw601_1),((HB.out.cell (World.block_lt_of_cell? w _ hw602_0)).trans hw602_0),((HB.out.cell (World.block_lt_of_cell? w _ hw602_1)).trans hw602_1)⟩ (fun hHeld=>?_);refine with_tabW laws_eqRuleS.tab6 laws_eqRuleS.bits6 (fun HT_ HW_=>?_);generalize wr.drew=w9 at HB hx601_0 hx601_1 hx602_0 hx602_1 hHeld ⊢;refine pureZ 0 (some 17) #[yT,yF,yF,yF,yF,yF,yF,yF,yF,yF] ?_;refine pureZ 1 (some 18) #[yT,yT,yF,yF,yF,yF,yF,yF,yF,yF] ?_;refine pureZ 2 (some 19) #[yT,yT,yT,yF,yF,yF,yF,yF,yF,yF] ?_;refine pureZ 4 (some 21) #[yT,yT,yT,yF,yT,yF,yF,yF,yF,yF] ?_;refine pureZ 5 (some 22) #[yT,yT,yT,yF,yT,yT,yF,yF,yF,yF] ?_;refine pureZ 6 (some 23) #[yT,yT,yT,yF,yT,yT,yT,yF,yF,yF] ?_;refine takeZ4 3 (some 20) #[yT,yT,yT,yT,yT,yT,yT,yF,yF,yF] hHeld ?_;refine takeZ4 7 (some 24) #[yT,yT,yT,yT,yT,yT,yT,yT,yF,yF] hHeld ?_;refine oneZ 8 (some 25) #[yT,yT,yT,yT,yT,yT,yT,yT,yT,yF] (fun K hK=>?_);refine goes_ Tryz.func79 (by kernel_rfl) rfl #[.agg #[.bool ((rd_T93 l0 x5_1).f0),.string ((rd_T93 l0 x5_1).f1)],.agg #[.bool ((rd_T93 l1 x5_1).f0),.string ((rd_T93 l1 x5_1).f1)]] (by rfl) rfl rfl zz52 ?_;with_reducible refine (laws_eqRule.calls ((rd_T93 l0 x5_1).f0) ((rd_T93 l0 x5_1).f1) ((rd_T93 l1 x5_1).f0) ((rd_T93 l1 x5_1).f1) t603 _ A7.out).mono ?_
     rintro e w10 ⟨rfl,hb⟩;refine ⟨_,rfl,?_⟩;replace HB:=A_ (bS (zz0 HB) hb);(try clear hb)
     (try clear hb2)
     (try clear hk)
     (try clear hi)
     refine hK.out _ _ ⟨((HB.out.cell (World.block_lt_of_cell? w _ hw601_0)).trans hw601_0),((HB.out.cell (World.block_lt_of_cell? w _ hw601_1)).trans hw601_1),((HB.out.cell (World.block_lt_of_cell? w _ hw602_0)).trans hw602_0),((HB.out.cell (World.block_lt_of_cell? w _ hw602_1)).trans hw602_1)⟩ (fun hHeld=>?_);clear hK K;refine nZ 25 ?_;refine pureZ 9 (some 26) #[yT,yT,yT,yT,yT,yT,yT,yT,yT,yT] ?_;refine done_ (done_of HT_.out (by kernel_rfl)) ?_;go_upto_if 26 with (fail)
     obtain ⟨H⟩:=HF8;replace H:=iteB H;rcases H with ⟨rfl,H⟩|⟨rfl,H⟩
     ·have H':=A_ H
      clear H;go_wp2
      go_roundg k1
      case measure=>have:=HK1.out;omega
      case rel=>exact ⟨(wrap64 (x5_1+1)),zz3,H',⟨(zz17 HK1)⟩,⟨(zz0 HB)⟩⟩
     ·obtain rfl:=sI H
      go_wp2
      go_ret
      exact ⟨zz1,(zz0 HB)⟩
    ·obtain rfl:=sI H
     go_wp2
     go_ret
     exact ⟨zz1,(zz0 HB)⟩
 ·obtain ⟨c3b0,c3b1⟩:=eqF c3
  have c3b2:(l0.length == l1.length)=false:=by first|simpa using c3|(simp at c3 ⊢;omega)
  obtain rfl:=sI H;go_enter Tryz.func41,Tryz.ntmps41;go_wp2
  go_ret
  exact ⟨zz1,(zz0 HB)⟩
def laws_eqGroup.f (k:Nat) (l0_0:List ByteArray) (l0_1:List (S93)) (a0_2:Int) (l1_0:List ByteArray) (l1_1:List (S93)) (a1_2:Int):Option (Bool):=(laws_eqStringS.f k l0_0 l1_0).bind fun t606=>(if t606=true then ((laws_eqRuleS.f k l0_1 l1_1).bind fun t607=>(if t607=true then (if a0_2=a1_2 then (some true) else (some false)) else (some false))) else (some false))
theorem laws_eqGroup.calls (k:Nat) (A0_0:Option Addr) (c0_0:Nat) (l0_0:List ByteArray) (A0_1:Option Addr) (c0_1:Nat) (l0_1:List (S93)) (a0_2:Int) (A1_0:Option Addr) (c1_0:Nat) (l1_0:List ByteArray) (A1_1:Option Addr) (c1_1:Nat) (l1_1:List (S93)) (a1_2:Int) (r:Bool) (w:World) (hr0_0:Kd.C Kd.string w A0_0 l0_0.length l0_0) (hc0_0:l0_0.length≤c0_0) (hr0_1:Kd.C k93 w A0_1 l0_1.length l0_1) (hc0_1:l0_1.length≤c0_1) (hr1_0:Kd.C Kd.string w A1_0 l1_0.length l1_0) (hc1_0:l1_0.length≤c1_0) (hr1_1:Kd.C k93 w A1_1 l1_1.length l1_1) (hc1_1:l1_1.length≤c1_1) (h:laws_eqGroup.f k l0_0 l0_1 a0_2 l1_0 l1_1 a1_2=some r) :
  Calls Tryz.prog 13 #[.agg #[.slice A0_0 l0_0.length c0_0,.slice A0_1 l0_1.length c0_1,.int .i64 a0_2],.agg #[.slice A1_0 l1_0.length c1_0,.slice A1_1 l1_1.length c1_1,.int .i64 a1_2]] w fun e w'=>e=.returned (.bool r)∧Below w.heap.size w w':=by
 have hu32:=Tryz.underlying32;have HR0_0:=A_ hr0_0;have HC0_0:=A_ hc0_0;clear hr0_0 hc0_0;have HR0_1:=A_ hr0_1;have HC0_1:=A_ hc0_1;clear hr0_1 hc0_1;have HR1_0:=A_ hr1_0;have HC1_0:=A_ hc1_0;clear hr1_0 hc1_0;have HR1_1:=A_ hr1_1;have HC1_1:=A_ hc1_1;clear hr1_1 hc1_1;have HB:=A_ (Below.refl w.heap.size w);unfold laws_eqGroup.f at h
 have H:=h;clear h;replace H:=bindA H;obtain ⟨t606,A3,H⟩:=H;have HF4:=A_ H;clear H;go_enter Tryz.func13,Tryz.ntmps13;go_upto_if 10 with (first|(refine boxF 2 #[.slice A0_0 l0_0.length c0_0,.slice A0_1 l0_1.length c0_1,.int .i64 a0_2] 32 ?_;intro gb604 hg w5 BK604 hb;have GE604:=geB hg (zz0 HB);replace HB:=A_ (bS (zz0 HB) hb);clear hb hg)|(refine boxF 3 #[.slice A1_0 l1_0.length c1_0,.slice A1_1 l1_1.length c1_1,.int .i64 a1_2] 32 ?_;intro gb605 hg w6 BK605 hb;have GE605:=geB hg (zz2 HB GE604);replace HB:=A_ (bS (zz2 HB GE604) hb);have NB604_605:=A_ ((by rw [hg];exact Nat.ne_of_lt (blk_lt (zz7 BK604)):gb604≠gb605));have NB605_604:=A_ ((by rw [hg];exact Nat.ne_of_gt (blk_lt (zz7 BK604)):gb605≠gb604));replace BK604:=A_ (bB (zz7 BK604) hb);clear hb hg;have hnb7:=NB604_605.out;have hnc7:=NB605_604.out;obtain ⟨_,_,_,_,_,_⟩:=cf3 BK604;obtain ⟨_,_,_,_,_,_⟩:=cf3 BK605)|(refine gR 40 (some 9) Tryz.func40 (laws_eqStringS.calls k _ _ l0_0 _ _ l1_0 t606 _ ?side1 ?side2 ?side3 ?side4 A3.out) ?_;(case side1=>exact (zz41 HR0_0 HB));(case side2=>exact HC0_0.out);(case side3=>exact (zz41 HR1_0 HB));(case side4=>exact HC1_0.out);rintro w' ⟨nd,rfl⟩))
 obtain ⟨H⟩:=HF4;replace H:=iteB H;rcases H with ⟨rfl,H⟩|⟨rfl,H⟩
 ·replace H:=bindA H
  obtain ⟨t607,A11,H⟩:=H;have HF12:=A_ H;clear H;have hnb13:=NB604_605.out;have hnc13:=NB605_604.out;obtain ⟨_,_,_,_,_,_⟩:=cf3 BK604;obtain ⟨_,_,_,_,_,_⟩:=cf3 BK605;go_upto_if 16 with (first|(refine gR 41 (some 15) Tryz.func41 (laws_eqRuleS.calls k _ _ l0_1 _ _ l1_1 t607 _ ?side1 ?side2 ?side3 ?side4 A11.out) ?_;(case side1=>exact (zz41 HR0_1 HB));(case side2=>exact HC0_1.out);(case side3=>exact (zz41 HR1_1 HB));(case side4=>exact HC1_1.out);rintro w16 hb;replace BK604:=A_ (bB (zz7 BK604) hb);replace BK605:=A_ (bB (zz7 BK605) hb);replace HB:=A_ (bS (zz11 HB GE604 GE605) hb);(try clear hb)))
  obtain ⟨H⟩:=HF12;replace H:=iteB H;rcases H with ⟨rfl,H⟩|⟨rfl,H⟩
  ·replace H:=iteE H
   rcases H with ⟨c18,H⟩|⟨c18,H⟩
   ·obtain ⟨c18b0,c18b1⟩:=eqT c18
    clear c18;(first|rw [c18b0]|(simp only [i64_w,i32_w];rw [c18b0])|skip)
    obtain rfl:=sI H;have hnb19:=NB604_605.out;have hnc19:=NB605_604.out;obtain ⟨_,_,_,_,_,_⟩:=cf3 BK604;obtain ⟨_,_,_,_,_,_⟩:=cf3 BK605;go_wp2
    go_ret
    exact ⟨zz1,(zz11 HB GE604 GE605)⟩
   ·obtain ⟨c18b0,c18b1⟩:=eqF c18
    (first|rw [c18b0]|(simp only [i64_w,i32_w];rw [c18b0])|skip)
    obtain rfl:=sI H;have hnb22:=NB604_605.out;have hnc22:=NB605_604.out;obtain ⟨_,_,_,_,_,_⟩:=cf3 BK604;obtain ⟨_,_,_,_,_,_⟩:=cf3 BK605;go_wp2
    go_ret
    exact ⟨zz1,(zz11 HB GE604 GE605)⟩
  ·obtain rfl:=sI H
   go_wp2
   go_ret
   exact ⟨zz1,(zz11 HB GE604 GE605)⟩
 ·obtain rfl:=sI H
  go_wp2
  go_ret
  exact ⟨zz1,(zz11 HB GE604 GE605)⟩
def laws_markText.l0:Nat→Int→ByteArray→Option (ByteArray)
 | 0,_,_=>none
 | k+1,x0,x3=>if x0 > 0 then ((some (([(wrap64 (48+(Int.tmod x0 10))) % 256]:List Int):List Int)).bind fun y608=>(if (strOfNums y608).size+x3.size≤9223372036854775807 then (laws_markText.l0 k (wrap64 (Int.tdiv x0 10)) ((strOfNums y608)++x3)) else (none))) else (if 1+x3.size≤9223372036854775807 then (some ((⟨#[109]⟩:ByteArray)++x3)) else (none))
def laws_markText.f (k:Nat) (a0:Int):Option (ByteArray):=if a0≤0 then (some (⟨#[109,48]⟩:ByteArray)) else (laws_markText.l0 k a0 (⟨#[]⟩:ByteArray))
theorem laws_markText.mono_l:∀ k,(∀ y0 y1,LeO (laws_markText.l0 k y0 y1) (laws_markText.l0 (k+1) y0 y1))
 | 0=>by intros;intro r h;simp [laws_markText.l0] at h
 | k+1=>by
  have ih0:=laws_markText.mono_l k;intros;unfold laws_markText.l0;repeat' first|(with_reducible first|exact ih0 _ _|exact LeO.refl _|exact LeO.none _|refine LeO.ite ?_ ?_|refine LeO.bind ?_ (fun _=>?_))|exact LeO.none _|refine LeO.ite ?_ ?_|refine LeO.bind ?_ (fun _=>?_)
theorem laws_markText.mono:∀ a0 k,LeO (laws_markText.f k a0) (laws_markText.f (k+1) a0):=by
 intro a0 k;have ih0:=laws_markText.mono_l k;unfold laws_markText.f
 repeat' first|(with_reducible first|exact ih0 _ _|exact LeO.refl _|exact LeO.none _|refine LeO.ite ?_ ?_|refine LeO.bind ?_ (fun _=>?_))|exact LeO.none _|refine LeO.ite ?_ ?_|refine LeO.bind ?_ (fun _=>?_)
theorem laws_markText.calls (k:Nat) (a0:Int) (r:ByteArray) (w:World) (h:laws_markText.f k a0=some r) :
  Calls Tryz.prog 42 #[.int .i64 a0] w fun e w'=>e=.returned (.string r)∧Below w.heap.size w w':=by
 have HB:=A_ (Below.refl w.heap.size w);unfold laws_markText.f at h
 have H:=h;clear h;replace H:=iteEd H;rcases H with ⟨c2b0,H⟩|⟨c2b0,H⟩
 ·obtain rfl:=sI H
  go_enter Tryz.func42,Tryz.ntmps42;go_wp2
  go_ret
  exact ⟨zz1,(zz0 HB)⟩
 ·have H':=A_ H
  clear H;go_enter Tryz.func42,Tryz.ntmps42;go_wp2
  go_loopg [0,3] k (fun kq v0 v3 w'=>∃ (x0_1:Int) (x3_1:ByteArray),v0=.int .i64 x0_1∧v3=.string x3_1∧Aside0 (laws_markText.l0 kq x0_1 x3_1=some r)∧Aside0 (kq≤k)∧Aside0 (Below w.heap.size w w'))
  case atStart=>exact ⟨(a0),((⟨#[]⟩:ByteArray)),zz3,zz3,H',⟨Nat.le_refl _⟩,⟨(zz0 HB)⟩⟩
  case round=>
   clear H';obtain ⟨x0_1,x3_1,rfl,rfl,HA,HK1,HB⟩:=hrel;cases gk with
   | zero=>exact absurd HA.out (by simp [laws_markText.l0])
   | succ k1=>
    obtain ⟨H⟩:=HA;simp only [laws_markText.l0] at H
    replace H:=iteEg H;rcases H with ⟨c3b0,H⟩|⟨c3b0,H⟩
    ·obtain ⟨y608,Ny608⟩:=toY (([(wrap64 (48+(Int.tmod x0_1 10))) % 256]:List Int))
     (first|with_reducible replace H:=bindZ Ny608 H|rw [← Ny608.out] at H|skip)
     replace H:=iteN H;obtain ⟨c4,H⟩:=H;have c4b0:=eq_true c4;have c4b1:=dT c4;try have c4b2:(9223372036854775807 < (strOfNums y608).size+x3_1.size)=False:=eq_false (Nat.not_lt.2 c4)
     have H':=A_ H;clear H;go_wp2_with (first|((with_reducible refine gD (N:=12) rfl ?_);refine Kd.R_lit (Kd.int .u8) _ 5 ?hg (N:=12) ?hd (xs:=([(wrap64 (48+(Int.tmod x0_1 10))) % 256]:List Int)) (inner:=[.int .u8 ((wrap64 (48+(Int.tmod x0_1 10))) % 256)]) (ok:=fun _=>True) (okp:=fun _=>True) ?hr ?hp (fun _ hk=>hk) trivial (Below.refl _ _) (Nat.le_refl _) (by simp) ?_;(case hd=>rfl);(case hg=>rfl);(case hr=>exact zz6);(case hp=>exact (Reps.one (show Kd.M (Kd.int .u8) _ _ _ ((wrap64 (48+(Int.tmod x0_1 10))) % 256) [.int .u8 ((wrap64 (48+(Int.tmod x0_1 10))) % 256)] from rfl) (Reps.none _ _)));intro v609 w5 ho6 hb hg_ hnew_;clear hg_ hnew_;(first|rw [← Ny608.out] at ho6|(simp only [Int.reduceToNat] at ho6;rw [← Ny608.out] at ho6));have HO610:=A_ (Kd.R_lower ho6 (below_size (zz0 HB)));replace HB:=A_ (bS (zz0 HB) hb);clear hb ho6;have hcv7:=own_string (P:=Tryz.prog) Tryz.underlying37 Tryz.underlying5 Tryz.underlying9 (Kd.own_of_R HO610.out)))
     go_roundg k1
     case measure=>have:=HK1.out;omega
     case rel=>exact ⟨(wrap64 (Int.tdiv x0_1 10)),((strOfNums y608)++x3_1),zz3,zz3,H',⟨(zz17 HK1)⟩,⟨(zz0 HB)⟩⟩
    ·replace H:=iteE H
     rcases H with ⟨c8,H⟩|⟨c8,H⟩
     ·have c8b0:=eq_true c8
      have c8b1:=dT c8;try have c8b2:(9223372036854775807 < 1+x3_1.size)=False:=eq_false (Nat.not_lt.2 c8)
      obtain rfl:=sI H;go_wp2
      go_ret
      exact ⟨zz1,(zz0 HB)⟩
     ·exact absurd H (by simp)
def laws_markPageS.l0:Nat→List (S57)→Int→Int→Option (Int×(List (S57)))
 | 0,_,_,_=>none
 | k+1,x0,x1,x5=>if x5 < (x0.length:Int) then ((laws_markText.f k x1).bind fun t611=>(if 0≤x5 then ((some (x0.set (x5:Int).toNat (⟨t611,(rd_T57 x0 x5).f1,(rd_T57 x0 x5).f2,(rd_T57 x0 x5).f3⟩:S57):List (S57))).bind fun y612=>((laws_markText.f k (wrap64 (x1+1))).bind fun t613=>((some (y612.set (x5:Int).toNat (⟨(rd_T57 y612 x5).f0,t613,(rd_T57 y612 x5).f2,(rd_T57 y612 x5).f3⟩:S57):List (S57))).bind fun y614=>((laws_markText.f k (wrap64 ((wrap64 (x1+1))+1))).bind fun t615=>((some (y614.set (x5:Int).toNat (⟨(rd_T57 y614 x5).f0,(rd_T57 y614 x5).f1,t615,(rd_T57 y614 x5).f3⟩:S57):List (S57))).bind fun y616=>(laws_markPageS.l0 k (y616.set (x5:Int).toNat (⟨(rd_T57 y616 x5).f0,(rd_T57 y616 x5).f1,(rd_T57 y616 x5).f2,wrap64 ((wrap64 ((wrap64 (x1+1))+1))+1)⟩:S57)) (wrap64 ((wrap64 ((wrap64 ((wrap64 (x1+1))+1))+1))+1)) (wrap64 (x5+1)))))))) else (none))) else (some (x1,x0))
def laws_markPageS.f (k:Nat) (l0:List (S57)) (a1:Int):Option (Int×(List (S57))):=laws_markPageS.l0 k l0 a1 0
theorem laws_markPageS.calls (k:Nat) (P0_:Nat→Prop) (u9000_:Value) (l0:List (S57)) (a1:Int) (r1:Int) (r2:List (S57)) (w0 w:World) (hB:Below w0.heap.size w0 w) (ho0:Kd.R k57 57 w w0.heap.size P0_ u9000_ l0) (h:laws_markPageS.f k l0 a1=some (r1,r2)) :
  Calls Tryz.prog 14 #[u9000_,.int .i64 a1] w fun e w'=>e=.returned (.int .i64 r1)∧Kd.R k57 57 w' w0.heap.size (fun k_=>(P0_ k_∨w.heap.size≤k_)) u9000_ r2∧Below w0.heap.size w0 w'∧Kept w w' (fun k_=>P0_ k_):=by
 have HO0:=A_ (show Kd.R k57 57 w w0.heap.size (fun k_=>(P0_ k_∨w.heap.size≤k_)) u9000_ l0 from Kd.R_mono ho0 (fun k_ hk=>(.inl hk)));have HK:=A_ (Kept.refl w (fun k_=>P0_ k_));have HW0:=A_ hB.size;have HB:=A_ hB;clear hB;unfold laws_markPageS.f at h
 have H:=h;clear h;have H':=A_ H;clear H;go_enter Tryz.func14,Tryz.ntmps14;go_wp2
 go_loopg [1,5] k (fun kq v1 v5 w'=>∃ (x0_1:List (S57)) (x1_1:Int) (x5_1:Int),v1=.int .i64 x1_1∧v5=.int .i64 x5_1∧Aside0 (laws_markPageS.l0 kq x0_1 x1_1 x5_1=some (r1,r2))∧Aside0 (kq≤k)∧Aside0 (Kd.R k57 57 w' w0.heap.size (fun k_=>(P0_ k_∨w.heap.size≤k_)) u9000_ x0_1)∧Aside0 (Kept w w' (fun k_=>P0_ k_))∧Aside0 (Below w0.heap.size w0 w'))
 case atStart=>exact ⟨(l0),(a1),(0),zz3,zz3,H',⟨Nat.le_refl _⟩,⟨(zz8 HO0)⟩,⟨(zz56 HK)⟩,⟨(zz0 HB)⟩⟩
 case round=>
  clear H';obtain ⟨x0_1,x1_1,x5_1,rfl,rfl,HA,HK1,HO_0,HK,HB⟩:=hrel;cases gk with
  | zero=>exact absurd HA.out (by simp [laws_markPageS.l0])
  | succ k1=>
   obtain ⟨H⟩:=HA;simp only [laws_markPageS.l0] at H
   replace H:=iteEd H;rcases H with ⟨c3b0,H⟩|⟨c3b0,H⟩
   ·replace H:=bindA H
    obtain ⟨t611,A4,H⟩:=H;replace H:=iteNd H;obtain ⟨c5b0,H⟩:=H;obtain ⟨y612,Ny612⟩:=toY (x0_1.set (x5_1:Int).toNat (⟨t611,(rd_T57 x0_1 x5_1).f1,(rd_T57 x0_1 x5_1).f2,(rd_T57 x0_1 x5_1).f3⟩:S57));(first|with_reducible replace H:=bindZ Ny612 H|rw [← Ny612.out] at H|skip)
    replace H:=bindA H;obtain ⟨t613,A7,H⟩:=H;obtain ⟨y614,Ny614,H⟩:=bindY H;replace H:=bindA H;obtain ⟨t615,A9,H⟩:=H;obtain ⟨y616,Ny616,H⟩:=bindY H;obtain ⟨y617,Ny617⟩:=toY (y616.set (x5_1:Int).toNat (⟨(rd_T57 y616 x5_1).f0,(rd_T57 y616 x5_1).f1,(rd_T57 y616 x5_1).f2,wrap64 ((wrap64 ((wrap64 (x1_1+1))+1))+1)⟩:S57));(first|with_reducible replace H:=bindZ Ny617 H|rw [← Ny617.out] at H|skip)
    have H':=A_ H;clear H;obtain ⟨Ao12,co12,eo12⟩:=Kd.R_slice HO_0.out;subst eo12;go_wp2_with (first|(refine gR 42 (some 15) Tryz.func42 (laws_markText.calls k1 x1_1 t611 _ A4.out) ?_;rintro w13 hb;replace HO_0:=A_ (rB (zz8 HO_0) hb);replace HK:=A_ (Kept.below (S:=(fun k_=>P0_ k_)) (zz56 HK) hb);replace HB:=A_ (bS (zz0 HB) hb);(try clear hb);have p6:0≤(x5_1:Int):=ofD;have q6:(x5_1:Int) < ((x0_1.length:Int):Int):=ofD;obtain ⟨go6,co6,eo6,gb6,gl6,cl6,HG6⟩:=Kd.R_form HO_0.out (by omega);(first|cases eo6|(injection eo6 with ea_ en_ ec_;(first|subst ea_|(injection ea_ with ea_;subst ea_));subst ec_;clear en_));have GB6:=A_ gb6;have GG6:=A_ HG6;clear gb6 gl6 HG6;have HMgo6:=A_ (show (P0_ go6∨w.heap.size≤go6) from (HO_0.out.1 _ rfl));obtain ⟨ce6,hcl6,hM6,hcc6,hfr6⟩:=Kd.R_elem HO_0.out z57 (x5_1:Int) p6 q6;obtain rfl:=k57_openM hM6;have hx6_0:w13.cell? ⟨go6,(x5_1:Int).toNat * 4,none⟩=some (.string ((rd_T57 x0_1 x5_1).f0)):=hcc6 0 _ rfl;have hx6_1:w13.cell? ⟨go6,(x5_1:Int).toNat * 4+1,none⟩=some (.string ((rd_T57 x0_1 x5_1).f1)):=hcc6 1 _ rfl;have hx6_2:w13.cell? ⟨go6,(x5_1:Int).toNat * 4+2,none⟩=some (.string ((rd_T57 x0_1 x5_1).f2)):=hcc6 2 _ rfl;have hx6_3:w13.cell? ⟨go6,(x5_1:Int).toNat * 4+3,none⟩=some (.int .i64 ((rd_T57 x0_1 x5_1).f3)):=hcc6 3 _ rfl;have hf6_0:w13.frozen? ⟨go6,(x5_1:Int).toNat * 4,none⟩=false:=hfr6 0;have hf6_1:w13.frozen? ⟨go6,(x5_1:Int).toNat * 4+1,none⟩=false:=hfr6 1;have hf6_2:w13.frozen? ⟨go6,(x5_1:Int).toNat * 4+2,none⟩=false:=hfr6 2;have hf6_3:w13.frozen? ⟨go6,(x5_1:Int).toNat * 4+3,none⟩=false:=hfr6 3;clear hcl6 hcc6 hfr6 hM6;replace p6:=eq_true p6;replace q6:=eq_true q6;have HX14:=A_ (show Kd.R k57 57 w13 w0.heap.size (fun k_=>(P0_ k_∨w.heap.size≤k_)) (.slice (some ⟨go6,0,none⟩) x0_1.length co12) x0_1 from (zz8 HO_0));obtain ⟨ce14,hcl14,hM14,hcc14,hfr14⟩:=Kd.R_elem HX14.out z57 (x5_1:Int) ofD (by have h_:(x5_1:Int) < ((x0_1.length:Int):Int):=ofD;first|exact h_|(have e_:=(Kd.R_reads' HO_0.out).1;omega)|simpa using h_);obtain rfl:=k57_openM hM14;have HP14:=Kd.R_seg HX14.out (x5_1:Int) ofD (by have h_:(x5_1:Int) < ((x0_1.length:Int):Int):=ofD;first|exact h_|(have e_:=(Kd.R_reads' HO_0.out).1;omega)|simpa using h_) (seg:=[.string t611]) (j:=0) hcl14 hcc14 (show 1≤4 from by decide) (x':=(⟨t611,(rd_T57 x0_1 x5_1).f1,(rd_T57 x0_1 x5_1).f2,(rd_T57 x0_1 x5_1).f3⟩:S57)) (k57_mkM _ _ _ (⟨t611,(rd_T57 x0_1 x5_1).f1,(rd_T57 x0_1 x5_1).f2,(rd_T57 x0_1 x5_1).f3⟩:S57) ) (fun _ hk=>hk);have hx14_0:=hcc14 0 _ rfl;(try simp only [show (k57).sz=4 from rfl,Nat.mul_one,Nat.add_zero] at hx14_0);have hf14_0:=hfr14 0;(try simp only [show (k57).sz=4 from rfl,Nat.mul_one,Nat.add_zero] at hf14_0);clear hcl14 hcc14 hfr14 hM14)|((with_reducible refine gate_store (t:=9) (p:=17) rfl ?_);refine store_event (t:=9) (p:=17) (v:=?vo_w15) (w1:=(w13.setCell ⟨go6,(x5_1:Int).toNat * 4,none⟩ (.string t611))) ?hg ?ho ?hn ?hr ?_;(case ho=>rfl);(case hg=>rfl);(case hn=>rfl);(case hr=>exact zz6);intro w15 hw;have hg:w13.grownBy w15 (some go6):=(by rw [hw];exact HP14.2);have hp_:Kd.R k57 57 w15 w0.heap.size (fun k_=>(P0_ k_∨w.heap.size≤k_)) (.slice (some ⟨go6,0,none⟩) x0_1.length co12) y612:=(by rw [hw,Ny612.out];exact HP14.1);clear HP14;replace HB:=A_ ((by rw [hw];exact below_set (HB.out) GB6.out:Below w0.heap.size w0 w15));replace HK:=A_ (Kept.of_grown (S:=(fun k_=>P0_ k_)) hg (zz56 HK) (fun k_ e_=>(HO_0.out.1 k_ e_)));replace HO_0:=A_ (hp_);clear hg hw hp_)|(refine gR 42 (some 23) Tryz.func42 (laws_markText.calls k1 (wrap64 (x1_1+1)) t613 _ A7.out) ?_;rintro w16 hb;replace HO_0:=A_ (rB (zz8 HO_0) hb);replace HK:=A_ (Kept.below (S:=(fun k_=>P0_ k_)) (zz56 HK) hb);replace HB:=A_ (bS (zz0 HB) hb);(try clear hb);have p8:0≤(x5_1:Int):=ofD;have q8:(x5_1:Int) < ((x0_1.length:Int):Int):=ofD;obtain ⟨ce8,hcl8,hM8,hcc8,hfr8⟩:=Kd.R_elem HO_0.out z57 (x5_1:Int) p8 q8;obtain rfl:=k57_openM hM8;have hx8_0:w16.cell? ⟨go6,(x5_1:Int).toNat * 4,none⟩=some (.string ((rd_T57 y612 x5_1).f0)):=hcc8 0 _ rfl;have hx8_1:w16.cell? ⟨go6,(x5_1:Int).toNat * 4+1,none⟩=some (.string ((rd_T57 y612 x5_1).f1)):=hcc8 1 _ rfl;have hx8_2:w16.cell? ⟨go6,(x5_1:Int).toNat * 4+2,none⟩=some (.string ((rd_T57 y612 x5_1).f2)):=hcc8 2 _ rfl;have hx8_3:w16.cell? ⟨go6,(x5_1:Int).toNat * 4+3,none⟩=some (.int .i64 ((rd_T57 y612 x5_1).f3)):=hcc8 3 _ rfl;have hf8_0:w16.frozen? ⟨go6,(x5_1:Int).toNat * 4,none⟩=false:=hfr8 0;have hf8_1:w16.frozen? ⟨go6,(x5_1:Int).toNat * 4+1,none⟩=false:=hfr8 1;have hf8_2:w16.frozen? ⟨go6,(x5_1:Int).toNat * 4+2,none⟩=false:=hfr8 2;have hf8_3:w16.frozen? ⟨go6,(x5_1:Int).toNat * 4+3,none⟩=false:=hfr8 3;clear hcl8 hcc8 hfr8 hM8;replace p8:=eq_true p8;replace q8:=eq_true q8;have HX17:=A_ (show Kd.R k57 57 w16 w0.heap.size (fun k_=>(P0_ k_∨w.heap.size≤k_)) (.slice (some ⟨go6,0,none⟩) x0_1.length co12) y612 from (zz8 HO_0));obtain ⟨ce17,hcl17,hM17,hcc17,hfr17⟩:=Kd.R_elem HX17.out z57 (x5_1:Int) ofD (by have h_:(x5_1:Int) < ((x0_1.length:Int):Int):=ofD;first|exact h_|(have e_:=(Kd.R_reads' HO_0.out).1;omega)|simpa using h_);obtain rfl:=k57_openM hM17;have HP17:=Kd.R_seg HX17.out (x5_1:Int) ofD (by have h_:(x5_1:Int) < ((x0_1.length:Int):Int):=ofD;first|exact h_|(have e_:=(Kd.R_reads' HO_0.out).1;omega)|simpa using h_) (seg:=[.string t613]) (j:=1) hcl17 hcc17 (show 2≤4 from by decide) (x':=(⟨(rd_T57 y612 x5_1).f0,t613,(rd_T57 y612 x5_1).f2,(rd_T57 y612 x5_1).f3⟩:S57)) (k57_mkM _ _ _ (⟨(rd_T57 y612 x5_1).f0,t613,(rd_T57 y612 x5_1).f2,(rd_T57 y612 x5_1).f3⟩:S57) ) (fun _ hk=>hk);have hx17_1:=hcc17 1 _ rfl;(try simp only [show (k57).sz=4 from rfl,Nat.mul_one,Nat.add_zero] at hx17_1);have hf17_1:=hfr17 1;(try simp only [show (k57).sz=4 from rfl,Nat.mul_one,Nat.add_zero] at hf17_1);clear hcl17 hcc17 hfr17 hM17)|((with_reducible refine gate_store (t:=9) (p:=25) rfl ?_);refine store_event (t:=9) (p:=25) (v:=?vo_w18) (w1:=(w16.setCell ⟨go6,(x5_1:Int).toNat * 4+1,none⟩ (.string t613))) ?hg ?ho ?hn ?hr ?_;(case ho=>rfl);(case hg=>rfl);(case hn=>rfl);(case hr=>exact zz6);intro w18 hw;have hg:w16.grownBy w18 (some go6):=(by rw [hw];exact HP17.2);have hp_:Kd.R k57 57 w18 w0.heap.size (fun k_=>(P0_ k_∨w.heap.size≤k_)) (.slice (some ⟨go6,0,none⟩) x0_1.length co12) y614:=(by rw [hw,Ny614.out];exact HP17.1);clear HP17;replace HB:=A_ ((by rw [hw];exact below_set (HB.out) GB6.out:Below w0.heap.size w0 w18));replace HK:=A_ (Kept.of_grown (S:=(fun k_=>P0_ k_)) hg (zz56 HK) (fun k_ e_=>(HO_0.out.1 k_ e_)));replace HO_0:=A_ (hp_);clear hg hw hp_)|(refine gR 42 (some 31) Tryz.func42 (laws_markText.calls k1 (wrap64 ((wrap64 (x1_1+1))+1)) t615 _ A9.out) ?_;rintro w19 hb;replace HO_0:=A_ (rB (zz8 HO_0) hb);replace HK:=A_ (Kept.below (S:=(fun k_=>P0_ k_)) (zz56 HK) hb);replace HB:=A_ (bS (zz0 HB) hb);(try clear hb);have p10:0≤(x5_1:Int):=ofD;have q10:(x5_1:Int) < ((x0_1.length:Int):Int):=ofD;obtain ⟨ce10,hcl10,hM10,hcc10,hfr10⟩:=Kd.R_elem HO_0.out z57 (x5_1:Int) p10 q10;obtain rfl:=k57_openM hM10;have hx10_0:w19.cell? ⟨go6,(x5_1:Int).toNat * 4,none⟩=some (.string ((rd_T57 y614 x5_1).f0)):=hcc10 0 _ rfl;have hx10_1:w19.cell? ⟨go6,(x5_1:Int).toNat * 4+1,none⟩=some (.string ((rd_T57 y614 x5_1).f1)):=hcc10 1 _ rfl;have hx10_2:w19.cell? ⟨go6,(x5_1:Int).toNat * 4+2,none⟩=some (.string ((rd_T57 y614 x5_1).f2)):=hcc10 2 _ rfl;have hx10_3:w19.cell? ⟨go6,(x5_1:Int).toNat * 4+3,none⟩=some (.int .i64 ((rd_T57 y614 x5_1).f3)):=hcc10 3 _ rfl;have hf10_0:w19.frozen? ⟨go6,(x5_1:Int).toNat * 4,none⟩=false:=hfr10 0;have hf10_1:w19.frozen? ⟨go6,(x5_1:Int).toNat * 4+1,none⟩=false:=hfr10 1;have hf10_2:w19.frozen? ⟨go6,(x5_1:Int).toNat * 4+2,none⟩=false:=hfr10 2;have hf10_3:w19.frozen? ⟨go6,(x5_1:Int).toNat * 4+3,none⟩=false:=hfr10 3;clear hcl10 hcc10 hfr10 hM10;replace p10:=eq_true p10;replace q10:=eq_true q10;have HX20:=A_ (show Kd.R k57 57 w19 w0.heap.size (fun k_=>(P0_ k_∨w.heap.size≤k_)) (.slice (some ⟨go6,0,none⟩) x0_1.length co12) y614 from (zz8 HO_0));obtain ⟨ce20,hcl20,hM20,hcc20,hfr20⟩:=Kd.R_elem HX20.out z57 (x5_1:Int) ofD (by have h_:(x5_1:Int) < ((x0_1.length:Int):Int):=ofD;first|exact h_|(have e_:=(Kd.R_reads' HO_0.out).1;omega)|simpa using h_);obtain rfl:=k57_openM hM20;have HP20:=Kd.R_seg HX20.out (x5_1:Int) ofD (by have h_:(x5_1:Int) < ((x0_1.length:Int):Int):=ofD;first|exact h_|(have e_:=(Kd.R_reads' HO_0.out).1;omega)|simpa using h_) (seg:=[.string t615]) (j:=2) hcl20 hcc20 (show 3≤4 from by decide) (x':=(⟨(rd_T57 y614 x5_1).f0,(rd_T57 y614 x5_1).f1,t615,(rd_T57 y614 x5_1).f3⟩:S57)) (k57_mkM _ _ _ (⟨(rd_T57 y614 x5_1).f0,(rd_T57 y614 x5_1).f1,t615,(rd_T57 y614 x5_1).f3⟩:S57) ) (fun _ hk=>hk);have hx20_2:=hcc20 2 _ rfl;(try simp only [show (k57).sz=4 from rfl,Nat.mul_one,Nat.add_zero] at hx20_2);have hf20_2:=hfr20 2;(try simp only [show (k57).sz=4 from rfl,Nat.mul_one,Nat.add_zero] at hf20_2);clear hcl20 hcc20 hfr20 hM20)|((with_reducible refine gate_store (t:=9) (p:=33) rfl ?_);refine store_event (t:=9) (p:=33) (v:=?vo_w21) (w1:=(w19.setCell ⟨go6,(x5_1:Int).toNat * 4+2,none⟩ (.string t615))) ?hg ?ho ?hn ?hr ?_;(case ho=>rfl);(case hg=>rfl);(case hn=>rfl);(case hr=>exact zz6);intro w21 hw;have hg:w19.grownBy w21 (some go6):=(by rw [hw];exact HP20.2);have hp_:Kd.R k57 57 w21 w0.heap.size (fun k_=>(P0_ k_∨w.heap.size≤k_)) (.slice (some ⟨go6,0,none⟩) x0_1.length co12) y616:=(by rw [hw,Ny616.out];exact HP20.1);clear HP20;replace HB:=A_ ((by rw [hw];exact below_set (HB.out) GB6.out:Below w0.heap.size w0 w21));replace HK:=A_ (Kept.of_grown (S:=(fun k_=>P0_ k_)) hg (zz56 HK) (fun k_ e_=>(HO_0.out.1 k_ e_)));replace HO_0:=A_ (hp_);clear hg hw hp_;have p11:0≤(x5_1:Int):=ofD;have q11:(x5_1:Int) < ((x0_1.length:Int):Int):=ofD;obtain ⟨ce11,hcl11,hM11,hcc11,hfr11⟩:=Kd.R_elem HO_0.out z57 (x5_1:Int) p11 q11;obtain rfl:=k57_openM hM11;have hx11_0:w21.cell? ⟨go6,(x5_1:Int).toNat * 4,none⟩=some (.string ((rd_T57 y616 x5_1).f0)):=hcc11 0 _ rfl;have hx11_1:w21.cell? ⟨go6,(x5_1:Int).toNat * 4+1,none⟩=some (.string ((rd_T57 y616 x5_1).f1)):=hcc11 1 _ rfl;have hx11_2:w21.cell? ⟨go6,(x5_1:Int).toNat * 4+2,none⟩=some (.string ((rd_T57 y616 x5_1).f2)):=hcc11 2 _ rfl;have hx11_3:w21.cell? ⟨go6,(x5_1:Int).toNat * 4+3,none⟩=some (.int .i64 ((rd_T57 y616 x5_1).f3)):=hcc11 3 _ rfl;have hf11_0:w21.frozen? ⟨go6,(x5_1:Int).toNat * 4,none⟩=false:=hfr11 0;have hf11_1:w21.frozen? ⟨go6,(x5_1:Int).toNat * 4+1,none⟩=false:=hfr11 1;have hf11_2:w21.frozen? ⟨go6,(x5_1:Int).toNat * 4+2,none⟩=false:=hfr11 2;have hf11_3:w21.frozen? ⟨go6,(x5_1:Int).toNat * 4+3,none⟩=false:=hfr11 3;clear hcl11 hcc11 hfr11 hM11;replace p11:=eq_true p11;replace q11:=eq_true q11;have HX22:=A_ (show Kd.R k57 57 w21 w0.heap.size (fun k_=>(P0_ k_∨w.heap.size≤k_)) (.slice (some ⟨go6,0,none⟩) x0_1.length co12) y616 from (zz8 HO_0));obtain ⟨ce22,hcl22,hM22,hcc22,hfr22⟩:=Kd.R_elem HX22.out z57 (x5_1:Int) ofD (by have h_:(x5_1:Int) < ((x0_1.length:Int):Int):=ofD;first|exact h_|(have e_:=(Kd.R_reads' HO_0.out).1;omega)|simpa using h_);obtain rfl:=k57_openM hM22;have HP22:=Kd.R_seg HX22.out (x5_1:Int) ofD (by have h_:(x5_1:Int) < ((x0_1.length:Int):Int):=ofD;first|exact h_|(have e_:=(Kd.R_reads' HO_0.out).1;omega)|simpa using h_) (seg:=[.int .i64 (wrap64 ((wrap64 ((wrap64 (x1_1+1))+1))+1))]) (j:=3) hcl22 hcc22 (show 4≤4 from by decide) (x':=(⟨(rd_T57 y616 x5_1).f0,(rd_T57 y616 x5_1).f1,(rd_T57 y616 x5_1).f2,wrap64 ((wrap64 ((wrap64 (x1_1+1))+1))+1)⟩:S57)) (k57_mkM _ _ _ (⟨(rd_T57 y616 x5_1).f0,(rd_T57 y616 x5_1).f1,(rd_T57 y616 x5_1).f2,wrap64 ((wrap64 ((wrap64 (x1_1+1))+1))+1)⟩:S57) ) (fun _ hk=>hk);have hx22_3:=hcc22 3 _ rfl;(try simp only [show (k57).sz=4 from rfl,Nat.mul_one,Nat.add_zero] at hx22_3);have hf22_3:=hfr22 3;(try simp only [show (k57).sz=4 from rfl,Nat.mul_one,Nat.add_zero] at hf22_3);clear hcl22 hcc22 hfr22 hM22)|((with_reducible refine gate_store (t:=3) (p:=40) rfl ?_);refine store_event (t:=3) (p:=40) (v:=?vo_w23) (w1:=(w21.setCell ⟨go6,(x5_1:Int).toNat * 4+3,none⟩ (.int .i64 (wrap64 ((wrap64 ((wrap64 (x1_1+1))+1))+1))))) ?hg ?ho ?hn ?hr ?_;(case ho=>rfl);(case hg=>rfl);(case hn=>rfl);(case hr=>exact zz6);intro w23 hw;have hg:w21.grownBy w23 (some go6):=(by rw [hw];exact HP22.2);have hp_:Kd.R k57 57 w23 w0.heap.size (fun k_=>(P0_ k_∨w.heap.size≤k_)) (.slice (some ⟨go6,0,none⟩) x0_1.length co12) y617:=(by rw [hw,Ny617.out];exact HP22.1);clear HP22;replace HB:=A_ ((by rw [hw];exact below_set (HB.out) GB6.out:Below w0.heap.size w0 w23));replace HK:=A_ (Kept.of_grown (S:=(fun k_=>P0_ k_)) hg (zz56 HK) (fun k_ e_=>(HO_0.out.1 k_ e_)));replace HO_0:=A_ (hp_);clear hg hw hp_))
    go_roundg k1
    case measure=>have:=HK1.out;omega
    case rel=>exact ⟨(y617),(wrap64 ((wrap64 ((wrap64 ((wrap64 (x1_1+1))+1))+1))+1)),(wrap64 (x5_1+1)),zz3,zz3,H',⟨(zz17 HK1)⟩,⟨(zz8 HO_0)⟩,⟨(zz56 HK)⟩,⟨(zz0 HB)⟩⟩
   ·simp only [Option.some.injEq,Prod.mk.injEq] at H
    obtain ⟨rfl,rfl⟩:=H;obtain ⟨Ao24,co24,eo24⟩:=Kd.R_slice HO_0.out;subst eo24;go_wp2
    go_ret
    exact ⟨zz1,(zz8 HO_0),(zz0 HB),(zz56 HK)⟩
def laws_markStringS.l0:Nat→List ByteArray→Int→Int→Option (Int×List ByteArray)
 | 0,_,_,_=>none
 | k+1,x0,x1,x5=>if x5 < (x0.length:Int) then ((laws_markText.f k x1).bind fun t618=>(if 0≤x5 then (laws_markStringS.l0 k (x0.set (x5:Int).toNat t618) (wrap64 (x1+1)) (wrap64 (x5+1))) else (none))) else (some (x1,x0))
def laws_markStringS.f (k:Nat) (l0:List ByteArray) (a1:Int):Option (Int×List ByteArray):=laws_markStringS.l0 k l0 a1 0
theorem laws_markStringS.mono_l:∀ k,(∀ y0 y1 y2,LeO (laws_markStringS.l0 k y0 y1 y2) (laws_markStringS.l0 (k+1) y0 y1 y2))
 | 0=>by intros;intro r h;simp [laws_markStringS.l0] at h
 | k+1=>by
  have ih0:=laws_markStringS.mono_l k;intros;unfold laws_markStringS.l0;repeat' first|(with_reducible first|exact ih0 _ _ _|exact laws_markText.mono _ _|exact LeO.refl _|exact LeO.none _|refine LeO.ite ?_ ?_|refine LeO.bind ?_ (fun _=>?_))|exact LeO.none _|refine LeO.ite ?_ ?_|refine LeO.bind ?_ (fun _=>?_)
theorem laws_markStringS.calls (k:Nat) (P0_:Nat→Prop) (u9000_:Value) (l0:List ByteArray) (a1:Int) (r1:Int) (r2:List ByteArray) (w0 w:World) (hB:Below w0.heap.size w0 w) (ho0:Kd.R Kd.string 9 w w0.heap.size P0_ u9000_ l0) (h:laws_markStringS.f k l0 a1=some (r1,r2)) :
  Calls Tryz.prog 43 #[u9000_,.int .i64 a1] w fun e w'=>e=.returned (.int .i64 r1)∧Kd.R Kd.string 9 w' w0.heap.size (fun k_=>(P0_ k_∨w.heap.size≤k_)) u9000_ r2∧Below w0.heap.size w0 w'∧Kept w w' (fun k_=>P0_ k_):=by
 have HO0:=A_ (show Kd.R Kd.string 9 w w0.heap.size (fun k_=>(P0_ k_∨w.heap.size≤k_)) u9000_ l0 from Kd.R_mono ho0 (fun k_ hk=>(.inl hk)));have HK:=A_ (Kept.refl w (fun k_=>P0_ k_));have HW0:=A_ hB.size;have HB:=A_ hB;clear hB;unfold laws_markStringS.f at h
 have H:=h;clear h;have H':=A_ H;clear H;go_enter Tryz.func43,Tryz.ntmps43;go_wp2
 go_loopg [1,5] k (fun kq v1 v5 w'=>∃ (x0_1:List ByteArray) (x1_1:Int) (x5_1:Int),v1=.int .i64 x1_1∧v5=.int .i64 x5_1∧Aside0 (laws_markStringS.l0 kq x0_1 x1_1 x5_1=some (r1,r2))∧Aside0 (kq≤k)∧Aside0 (Kd.R Kd.string 9 w' w0.heap.size (fun k_=>(P0_ k_∨w.heap.size≤k_)) u9000_ x0_1)∧Aside0 (Kept w w' (fun k_=>P0_ k_))∧Aside0 (Below w0.heap.size w0 w'))
 case atStart=>exact ⟨(l0),(a1),(0),zz3,zz3,H',⟨Nat.le_refl _⟩,⟨(zz8 HO0)⟩,⟨(zz56 HK)⟩,⟨(zz0 HB)⟩⟩
 case round=>
  clear H';obtain ⟨x0_1,x1_1,x5_1,rfl,rfl,HA,HK1,HO_0,HK,HB⟩:=hrel;cases gk with
  | zero=>exact absurd HA.out (by simp [laws_markStringS.l0])
  | succ k1=>
   obtain ⟨H⟩:=HA;simp only [laws_markStringS.l0] at H
   replace H:=iteEd H;rcases H with ⟨c3b0,H⟩|⟨c3b0,H⟩
   ·replace H:=bindA H
    obtain ⟨t618,A4,H⟩:=H;replace H:=iteNd H;obtain ⟨c5b0,H⟩:=H;obtain ⟨y619,Ny619⟩:=toY (x0_1.set (x5_1:Int).toNat t618);(first|with_reducible replace H:=bindZ Ny619 H|rw [← Ny619.out] at H|skip)
    have H':=A_ H;clear H;obtain ⟨Ao7,co7,eo7⟩:=Kd.R_slice HO_0.out;subst eo7;go_wp2_with (first|(refine gR 42 (some 15) Tryz.func42 (laws_markText.calls k1 x1_1 t618 _ A4.out) ?_;rintro w8 hb;replace HO_0:=A_ (rB (zz8 HO_0) hb);replace HK:=A_ (Kept.below (S:=(fun k_=>P0_ k_)) (zz56 HK) hb);replace HB:=A_ (bS (zz0 HB) hb);(try clear hb);have p6:0≤(x5_1:Int):=ofD;have q6:(x5_1:Int) < ((x0_1.length:Int):Int):=ofD;obtain ⟨go6,co6,eo6,gb6,gl6,cl6,HG6⟩:=Kd.R_form HO_0.out (by omega);(first|cases eo6|(injection eo6 with ea_ en_ ec_;(first|subst ea_|(injection ea_ with ea_;subst ea_));subst ec_;clear en_));have GB6:=A_ gb6;have GG6:=A_ HG6;clear gb6 gl6 HG6;have HMgo6:=A_ (show (P0_ go6∨w.heap.size≤go6) from (HO_0.out.1 _ rfl));obtain ⟨hx6_0,hf6_0⟩:=Kd.R_celln (⟨#[]⟩:ByteArray) HO_0.out (x5_1:Int) p6 q6;replace p6:=eq_true p6;replace q6:=eq_true q6;obtain ⟨hy9_,hz9_⟩:=Kd.R_celln (⟨#[]⟩:ByteArray) HO_0.out (x5_1:Int) ofD ofD;have HP9:=Kd.R_putg HO_0.out (x5_1:Int) t618)|((with_reducible refine gate_store (t:=9) (p:=16) rfl ?_);refine store_event (t:=9) (p:=16) (v:=?vo_w10) (w1:=(w8.setCell ⟨go6,(x5_1:Int).toNat,none⟩ (.string t618))) ?hg ?ho ?hn ?hr ?_;(case ho=>rfl);(case hg=>rfl);(case hn=>rfl);(case hr=>exact zz6);intro w10 hw;have hg:w8.grownBy w10 (some go6):=(by rw [hw];exact HP9.2);have hp_:Kd.R Kd.string 9 w10 w0.heap.size (fun k_=>(P0_ k_∨w.heap.size≤k_)) (.slice (some ⟨go6,0,none⟩) x0_1.length co7) y619:=(by rw [hw,Ny619.out];exact HP9.1);clear HP9;replace HB:=A_ ((by rw [hw];exact below_set (HB.out) GB6.out:Below w0.heap.size w0 w10));replace HK:=A_ (Kept.of_grown (S:=(fun k_=>P0_ k_)) hg (zz56 HK) (fun k_ e_=>(HO_0.out.1 k_ e_)));replace HO_0:=A_ (hp_);clear hg hw hp_))
    go_roundg k1
    case measure=>have:=HK1.out;omega
    case rel=>exact ⟨(y619),(wrap64 (x1_1+1)),(wrap64 (x5_1+1)),zz3,zz3,H',⟨(zz17 HK1)⟩,⟨(zz8 HO_0)⟩,⟨(zz56 HK)⟩,⟨(zz0 HB)⟩⟩
   ·simp only [Option.some.injEq,Prod.mk.injEq] at H
    obtain ⟨rfl,rfl⟩:=H;obtain ⟨Ao11,co11,eo11⟩:=Kd.R_slice HO_0.out;subst eo11;go_wp2
    go_ret
    exact ⟨zz1,(zz8 HO_0),(zz0 HB),(zz56 HK)⟩
end Go.Proofs.YtloijngehifbmaaGreatDoor.P
end
