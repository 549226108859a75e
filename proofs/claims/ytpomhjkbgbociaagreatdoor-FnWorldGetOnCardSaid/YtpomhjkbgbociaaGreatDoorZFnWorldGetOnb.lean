/- Part 2 of the proof of FnWorldGetOn: the plain functions of what it reaches, that Go comes to just their answers, what they answer, and the words that the walks use; conditions: each theorem's own. -/
import Derived.Test.YtpomhjkbgbociaaGreatDoorZFnWorldGetOna
import Derived.Laws.StructEq
import Derived.RowKit
import Derived.Test.YtpomhjkbgbociaaGreatDoorProg
import Derived.Below
import Derived.Deep.Draws
import Derived.Deep.AppendLies
import Derived.Maps.AppendAt
import Derived.OwnWalk
import Derived.Laws.BytesArg
import Derived.Laws.MakeOwn
import Derived.Laws.OwnMore
import Derived.Deep.OwnRows
import Derived.Tactics
import Derived.Lib.ConvBytes
import Derived.Laws.Slices
import Derived.WalkKit
import Derived.KernelRfl
import Derived.RowKit3
import Derived.Deep.LoopGhost
import Derived.Deep.QuietTactic
import Derived.BigQuiet
import Derived.WideLaws
import Derived.Deep.DeepCutAuto
import Derived.Deep.CutBlock
import Derived.Deep.RegionHeld3
import Derived.Laws.Rows
import Derived.Lib.AppendStr
import Derived.ArgAppend
import Derived.Laws.IdiomCopy
import Derived.OrdersHeld
import Derived.Laws.BitsLemmas

section
namespace Go.Proofs.YtpomhjkbgbociaaGreatDoorW.PrintWords
open Go.RowKit
section
variable {P : Program} {d : Nat} {xs ys : Array Value} {f : Field} {fs : List Field} {a b : Value} {r s : Bool} {w : World}
end
end Go.Proofs.YtpomhjkbgbociaaGreatDoorW.PrintWords
end
section
namespace Go.Proofs.YtpomhjkbgbociaaGreatDoor.P
theorem aid_isEmpty (l : List UInt8) : (l != ([] : List UInt8)) = !l.isEmpty := by cases l <;> rfl
theorem aid_isEmpty2 (l : List UInt8) : (l == ([] : List UInt8)) = l.isEmpty := by cases l <;> rfl
end Go.Proofs.YtpomhjkbgbociaaGreatDoor.P
end
section
namespace Go.Proofs.YtpomhjkbgbociaaGreatDoor.P
open Go.RowKit Go.Proofs.YtpomhjkbgbociaaGreatDoorW.PrintWords
structure Undec (c : Prop) : Prop where mk :: (out : True)
theorem Undec.y_ {c : Prop} (_ : c) : Undec c := ⟨trivial⟩
theorem Undec.n_ {c : Prop} (_ : ¬ c) : Undec c := ⟨trivial⟩
theorem undecG {b : Bool} (h : Undec (b = true) := by (fail_if_success exact Undec.y_ rfl); (fail_if_success exact Undec.n_ (by decide)); exact Undec.mk trivial) : Undec (b = true) := h
theorem undecI {c : Prop} (h : Undec c := by (fail_if_success exact Undec.y_ (by first | (with_reducible assumption) | ((try simp only [decide_eq_true_eq, decide_eq_false_iff_not] at *); omega) | decide)); (fail_if_success exact Undec.n_ (by first | (with_reducible assumption) | ((try simp only [decide_eq_true_eq, decide_eq_false_iff_not] at *); omega) | decide)); exact Undec.mk trivial) : Undec c := h
def MetP (J : Prop) : Prop := J
theorem atG {P : Program} {ops : Array Oper} {Q : Exit → Act → World → Prop} {a : Act} {w : World} {rest : List Oper} {d : Option Tmp} {op : Op} {ty : TypeId} {pos : String} {af : Array Edge} {j : Nat} {g b : Bool}
  (_hy : yielded ops a.tmps j = some b) (_nl : Undec (b = true)) (h : ∀ K : Prop, Aside0 (K = wpList P ops Q (⟨d, op, ty, pos, af, some (j, g)⟩ :: rest) a w) → MetP K) :
  wpList P ops Q (⟨d, op, ty, pos, af, some (j, g)⟩ :: rest) a w := h _ ⟨rfl⟩
theorem atI {c A B : Prop} [Decidable c] (_nl : Undec c) (h : ∀ K : Prop, Aside0 (K = if c then A else B) → MetP K) : if c then A else B := h _ ⟨rfl⟩
theorem unG {A K : Prop} (hK : Aside0 (K = A)) (h : A) : MetP K := by rw [hK.out]; exact h
theorem iteT {c A B : Prop} [Decidable c] (h : A) (hc : c := by first | rfl | (with_reducible assumption) | omega | decide | exact List.length_eq_zero_iff.mp (by omega) | (intro h_; simp only [h_, List.length_nil] at *; omega)) : if c then A else B := by rw [if_pos hc]; exact h
theorem iteF {c A B : Prop} [Decidable c] (h : B) (hc : ¬ c := by first | (with_reducible assumption) | decide | omega | exact fun h_ => h_ (List.length_eq_zero_iff.mp (by omega)) | (intro h_; simp only [h_, List.length_nil] at *; omega)) : if c then A else B := by rw [if_neg hc]; exact h
theorem upS {P : Program} {o : Oper} {a : Act} {next : Act → World → Prop} {Q : Exit → Act → World → Prop} {r : Result Next} (h : Oper.upon P o a next Q r) : Oper.upon P o a next Q r := h
end Go.Proofs.YtpomhjkbgbociaaGreatDoor.P
end
section
namespace Go.Proofs.YtpomhjkbgbociaaGreatDoor.P
open Go.RowKit Go.Proofs.YtpomhjkbgbociaaGreatDoorW.PrintWords Go.Proofs.YtpomhjkbgbociaaGreatDoorW.PrintLast Go.Proofs.YtpomhjkbgbociaaGreatDoorW.PrintMore
attribute [local go_sem] max2_int min2_int max_two min_two max_three min_three max_four min_four
set_option linter.unusedVariables false
set_option linter.unusedSimpArgs false
def errW : Option Int → Value
 | none => .nilIface
 | some c => .iface 0 (.int .i64 c)
theorem errW_none : errW none = .nilIface := rfl
theorem errW_some (c : Int) : errW (some c) = .iface 0 (.int .i64 c) := rfl
theorem info5 : (Tryz.prog.info? 5).map (fun i => (i.zero, i.size, i.bytes)) = some (some (.int .u8 0), 1, 1) := by kernel_rfl
theorem info9 : (Tryz.prog.info? 9).map (fun i => (i.zero, i.size, i.bytes)) = some (some (.string ⟨#[]⟩), 1, 16) := by kernel_rfl
theorem info30 : (Tryz.prog.info? 30).map (fun i => (i.zero, i.size, i.bytes)) = some (some (.agg #[(.string ⟨#[]⟩), (.string ⟨#[]⟩), (.string ⟨#[]⟩), (.int .i64 0)]), 4, 56) := by kernel_rfl
theorem info106 : (Tryz.prog.info? 106).map (fun i => (i.zero, i.size, i.bytes)) = some (some (.agg #[(.slice none 0 0), (.slice none 0 0), (.int .i64 0)]), 3, 56) := by kernel_rfl
theorem info108 : (Tryz.prog.info? 108).map (fun i => (i.zero, i.size, i.bytes)) = some (some (.agg #[(.bool false), (.string ⟨#[]⟩)]), 2, 24) := by kernel_rfl
structure S30 where
 f0 : ByteArray
 f1 : ByteArray
 f2 : ByteArray
 f3 : Int
def z30 : S30 := ⟨(⟨#[]⟩ : ByteArray), (⟨#[]⟩ : ByteArray), (⟨#[]⟩ : ByteArray), (0 : Int)⟩
def k30 : Kd S30 := Kd.iso (Kd.pair Kd.string (Kd.pair Kd.string (Kd.pair Kd.string (Kd.int .i64)))) (fun x : S30 => (x.f0, x.f1, x.f2, x.f3))
theorem k30_open {w : World} {x : S30} {cs : List Value} (h : k30.K w x cs) : cs = [.string x.f0, .string x.f1, .string x.f2, .int .i64 x.f3] := by
 obtain ⟨_, _, rfl, rfl, ⟨_, _, rfl, rfl, ⟨_, _, rfl, rfl, rfl⟩⟩⟩ := h
 exact rfl
theorem k30_openM {w : World} {base : Nat} {ok : Nat → Prop} {x : S30} {cs : List Value} (h : k30.M w base ok x cs) : cs = [.string x.f0, .string x.f1, .string x.f2, .int .i64 x.f3] := by
 obtain ⟨_, _, rfl, rfl, ⟨_, _, rfl, rfl, ⟨_, _, rfl, rfl, rfl⟩⟩⟩ := h
 exact rfl
theorem k30_mkM (w : World) (base : Nat) (ok : Nat → Prop) (x : S30)  : k30.M w base ok x [.string x.f0, .string x.f1, .string x.f2, .int .i64 x.f3] := ⟨[.string x.f0], [.string x.f1, .string x.f2, .int .i64 x.f3], rfl, rfl, ⟨[.string x.f1], [.string x.f2, .int .i64 x.f3], rfl, rfl, ⟨[.string x.f2], [.int .i64 x.f3], rfl, rfl, rfl⟩⟩⟩
def rd_T30 (xs : List S30) (i : Int) : S30 := xs.getD i.toNat z30
theorem at_T30 {w : World} {A : Option Addr} {n : Nat} {xs : List S30} (h : Kd.C k30 w A n xs) (i : Int) (h0 : 0 ≤ i) (h1 : i < n) : ∃ ad , A = some ad ∧ w.cell? (ad.add (i.toNat * 4)) = some (.string (rd_T30 xs i).f0) ∧ w.cell? ⟨(ad.add (i.toNat * 4)).block, (ad.add (i.toNat * 4)).off + 1, none⟩ = some (.string (rd_T30 xs i).f1) ∧ w.cell? ⟨(ad.add (i.toNat * 4)).block, (ad.add (i.toNat * 4)).off + 2, none⟩ = some (.string (rd_T30 xs i).f2) ∧ w.cell? ⟨(ad.add (i.toNat * 4)).block, (ad.add (i.toNat * 4)).off + 3, none⟩ = some (.int .i64 (rd_T30 xs i).f3) := by
 obtain ⟨ad, c, e, _, hK, hc0⟩ := Kd.C_get h z30 i h0 h1
 have hc : ∀ j u, c[j]? = some u → w.cell? (ad.add (i.toNat * 4 + j)) = some u := hc0
 obtain rfl := k30_open hK
 exact ⟨ad, e, hc 0 _ rfl, by rw [← add_field _ _ 1 (by omega)]; exact hc 1 _ rfl, by rw [← add_field _ _ 2 (by omega)]; exact hc 2 _ rfl, by rw [← add_field _ _ 3 (by omega)]; exact hc 3 _ rfl⟩
structure S108 where
 f0 : Bool
 f1 : ByteArray
def z108 : S108 := ⟨false, (⟨#[]⟩ : ByteArray)⟩
def k108 : Kd S108 := Kd.iso (Kd.pair Kd.bool Kd.string) (fun x : S108 => (x.f0, x.f1))
theorem k108_open {w : World} {x : S108} {cs : List Value} (h : k108.K w x cs) : cs = [.bool x.f0, .string x.f1] := by
 obtain ⟨_, _, rfl, rfl, rfl⟩ := h
 exact rfl
theorem k108_mkM (w : World) (base : Nat) (ok : Nat → Prop) (x : S108)  : k108.M w base ok x [.bool x.f0, .string x.f1] := ⟨[.bool x.f0], [.string x.f1], rfl, rfl, rfl⟩
def rd_T108 (xs : List S108) (i : Int) : S108 := xs.getD i.toNat z108
theorem at_T108 {w : World} {A : Option Addr} {n : Nat} {xs : List S108} (h : Kd.C k108 w A n xs) (i : Int) (h0 : 0 ≤ i) (h1 : i < n) : ∃ ad , A = some ad ∧ w.cell? (ad.add (i.toNat * 2)) = some (.bool (rd_T108 xs i).f0) ∧ w.cell? ⟨(ad.add (i.toNat * 2)).block, (ad.add (i.toNat * 2)).off + 1, none⟩ = some (.string (rd_T108 xs i).f1) := by
 obtain ⟨ad, c, e, _, hK, hc0⟩ := Kd.C_get h z108 i h0 h1
 have hc : ∀ j u, c[j]? = some u → w.cell? (ad.add (i.toNat * 2 + j)) = some u := hc0
 obtain rfl := k108_open hK
 exact ⟨ad, e, hc 0 _ rfl, by rw [← add_field _ _ 1 (by omega)]; exact hc 1 _ rfl⟩
structure S106 where
 f0 : (List ByteArray)
 f1 : (List S108)
 f2 : Int
def z106 : S106 := ⟨([] : List ByteArray), ([] : List S108), (0 : Int)⟩
def k106 : Kd S106 := Kd.iso (Kd.pair (Kd.slice 9 Kd.string) (Kd.pair (Kd.slice 108 k108) (Kd.int .i64))) (fun x : S106 => (x.f0, x.f1, x.f2))
theorem k106_open {w : World} {x : S106} {cs : List Value} (h : k106.K w x cs) : ∃ A0 c0 A1 c1, cs = [.slice A0 x.f0.length c0, .slice A1 x.f1.length c1, .int .i64 x.f2] ∧ x.f0.length ≤ c0 ∧ Kd.string.C w A0 x.f0.length x.f0 ∧ x.f1.length ≤ c1 ∧ k108.C w A1 x.f1.length x.f1 := by
 obtain ⟨_, _, rfl, ⟨A0, c0, rfl, l0, g0⟩, ⟨_, _, rfl, ⟨A1, c1, rfl, l1, g1⟩, rfl⟩⟩ := h
 exact ⟨A0, c0, A1, c1, rfl, l0, g0, l1, g1⟩
theorem k106_mkM (w : World) (base : Nat) (ok : Nat → Prop) (x : S106) {v0 : Value} (g0 : Kd.string.R 9 w base ok v0 x.f0) {v1 : Value} (g1 : k108.R 108 w base ok v1 x.f1) : k106.M w base ok x [v0, v1, .int .i64 x.f2] := ⟨[v0], [v1, .int .i64 x.f2], rfl, ⟨v0, rfl, g0⟩, ⟨[v1], [.int .i64 x.f2], rfl, ⟨v1, rfl, g1⟩, rfl⟩⟩
def rd_T106 (xs : List S106) (i : Int) : S106 := xs.getD i.toNat z106
theorem at_T106 {w : World} {A : Option Addr} {n : Nat} {xs : List S106} (h : Kd.C k106 w A n xs) (i : Int) (h0 : 0 ≤ i) (h1 : i < n) : ∃ ad A0 c0 A1 c1, A = some ad ∧ w.cell? (ad.add (i.toNat * 3)) = some (.slice A0 (rd_T106 xs i).f0.length c0) ∧ w.cell? ⟨(ad.add (i.toNat * 3)).block, (ad.add (i.toNat * 3)).off + 1, none⟩ = some (.slice A1 (rd_T106 xs i).f1.length c1) ∧ w.cell? ⟨(ad.add (i.toNat * 3)).block, (ad.add (i.toNat * 3)).off + 2, none⟩ = some (.int .i64 (rd_T106 xs i).f2) ∧ (rd_T106 xs i).f0.length ≤ c0 ∧ Kd.string.C w A0 (rd_T106 xs i).f0.length (rd_T106 xs i).f0 ∧ (rd_T106 xs i).f1.length ≤ c1 ∧ k108.C w A1 (rd_T106 xs i).f1.length (rd_T106 xs i).f1 := by
 obtain ⟨ad, c, e, _, hK, hc0⟩ := Kd.C_get h z106 i h0 h1
 have hc : ∀ j u, c[j]? = some u → w.cell? (ad.add (i.toNat * 3 + j)) = some u := hc0
 obtain ⟨A0, c0, A1, c1, rfl, l0, g0, l1, g1⟩ := k106_open hK
 exact ⟨ad, A0, c0, A1, c1, e, hc 0 _ rfl, by rw [← add_field _ _ 1 (by omega)]; exact hc 1 _ rfl, by rw [← add_field _ _ 2 (by omega)]; exact hc 2 _ rfl, l0, g0, l1, g1⟩
end Go.Proofs.YtpomhjkbgbociaaGreatDoor.P
end
section
namespace Go.Proofs.YtpomhjkbgbociaaGreatDoor.P
open Go.RowKit Go.Proofs.YtpomhjkbgbociaaGreatDoorW.PrintWords Go.Proofs.YtpomhjkbgbociaaGreatDoorW.PrintLast Go.Proofs.YtpomhjkbgbociaaGreatDoorW.PrintMore
theorem viaP {B : Prop} (b : B := by simp only [putAll, Act.put, List.setIfInBounds_toArray, List.set_cons_zero, List.set_cons_succ]) : B := b
theorem ofD {p : Prop} [Decidable p] (h : decide p = true := by first | (with_reducible assumption) | assumption) : p := of_decide_eq_true h
theorem bindA {α β : Type} {x : Option α} {f : α → Option β} {r : β} (h : x.bind f = some r) : ∃ a, Aside0 (x = some a) ∧ f a = some r := by
 obtain ⟨a, h1, h2⟩ := Option.bind_eq_some_iff.mp h
 exact ⟨a, ⟨h1⟩, h2⟩
theorem bindZ {α β : Type} {y z : α} (hz : Aside0 (z = y)) {f : α → Option β} {r : β} (h : (some y).bind f = some r) : f z = some r := hz.out ▸ h
theorem toY {α : Type} (y : α) : ∃ z, Aside0 (z = y) := ⟨y, ⟨rfl⟩⟩
theorem cbl {w W : World} {a : Addr} {v : Value} (hb : Aside0 (Below w.heap.size w W)) (h : w.cell? a = some v) : W.cell? a = some v := (hb.out.cell (World.block_lt_of_cell? w _ h)).trans h
theorem geB {w W : World} {g : Nat} (hg : g = W.heap.size) (h : Below w.heap.size w W) : Aside0 (w.heap.size ≤ g) := ⟨by rw [hg]; exact below_size h⟩
theorem rt {α : Type} {d : Kd α} {e : Nat} {w : World} {base : Nat} {ok : Nat → Prop} {v : Value} {xs : List α} {g t : Nat} {cells : Array Value} (a : Aside0 (d.R e w base ok v xs)) (b : Aside0 (w.heap[g]? = some (.cells cells t (0, 0)))) (ht : ∀ q, q ∈ e :: d.E → q ≠ t := by decide) : Aside0 (d.R e w base (fun k => ok k ∧ k ≠ g) v xs) := ⟨Kd.R_types a.out b.out ht⟩
section
variable {P : Program} {ops : Array Oper} {rest : List Oper} {o : Oper} {a : Act} {Q : Exit → Act → World → Prop} {md : Region.Mode} {S : World → Prop} {ds : List Nat} {W : World}
theorem boxE (N : Tmp) (cs : Array Value) (t : TypeId)
  (h : ∀ g, g = W.heap.size → ∀ w1, w1.heap[g]? = some (.cells cs t (0, 0)) → Below W.heap.size W w1 → wpList P ops Q rest (a.put o.dst (.pointer (some ⟨g, 0, none⟩))) w1)
  (hd : o.dst = some N := by rfl) (hgd : o.guard = none := by rfl)
  (hrun : (execOp a.eval o).run P W = .ok (.value (.pointer (some ⟨W.heap.size, 0, none⟩))) (W.alloc (.cells cs t (0, 0))) := by first | (go_simp; done) | (go_simp; rfl)) : wpList P ops Q (o :: rest) a W := box_event hgd hd hrun h
theorem gsL (N : Option Tmp) {f : FuncId} {fn : Func} {as_ : Array Operand} {ts : Array TypeId} (hf : P.funcs[f]? = some fn) (args : Array Value)
  (h : Calls P f args W fun e w' => ∃ v, e = .returned v ∧ wpList P ops Q rest (a.put N v) w')
  (hd : o.dst = N := by rfl) (hg : o.guard = none := by rfl) (hname : (fn.name == "runtime.NumGoroutine") = false := by kernel_rfl) (hb : fn.body.isSome = true := by rfl)
  (hop : o.op = .call { callee := .value (.func f), args := as_, argTypes := ts } := by rfl)
  (hargs : as_.map a.eval = args := by (try simp only [List.map_toArray, List.map_cons, List.map_nil]); first | done | rfl | (simp only [List.length_drop, List.length_take]; rfl)) : wpList P ops Q (o :: rest) a W := goesL_ N hd hg hf hname hb args hop hargs h
theorem boxF (N : Tmp) (cs : Array Value) (t : TypeId)
  (h : ∀ g, g = W.heap.size → ∀ w1, Aside0 (w1.heap[g]? = some (.cells cs t (0, 0))) → Below W.heap.size W w1 → wpList P ops Q rest (a.put o.dst (.pointer (some ⟨g, 0, none⟩))) w1)
  (hd : o.dst = some N := by rfl) (hgd : o.guard = none := by rfl)
  (hrun : (execOp a.eval o).run P W = .ok (.value (.pointer (some ⟨W.heap.size, 0, none⟩))) (W.alloc (.cells cs t (0, 0))) := by first | (go_simp; done) | (go_simp; rfl)) : wpList P ops Q (o :: rest) a W := box_event hgd hd hrun fun g hg w1 hb => h g hg w1 ⟨hb⟩
theorem gR (f : FuncId) (N : Option Tmp) {fn : Func} {as_ : Array Operand} {ts : Array TypeId} {args : Array Value} {v : Value} {R : World → Prop} (hf : P.funcs[f]? = some fn) (hc : Calls P f args W fun e w' => e = .returned v ∧ R w')
  (h : ∀ w', R w' → wpList P ops Q rest (a.put N v) w')
  (hd : o.dst = N := by rfl) (hop : o.op = .call { callee := .value (.func f), args := as_, argTypes := ts } := by rfl) (hg : o.guard = none := by rfl) (hname : (fn.name == "runtime.NumGoroutine") = false := by kernel_rfl) (hb : fn.body.isSome = true := by rfl)
  (hargs : as_.map a.eval = args := by (try simp only [List.map_toArray, List.map_cons, List.map_nil]); first | done | rfl | (simp only [List.length_drop, List.length_take]; rfl)) : wpList P ops Q (o :: rest) a W :=
 goesL_ N hd hg hf hname hb args hop hargs (hc.mono fun _ w' z => ⟨v, z.1, h w' z.2⟩)
theorem gV (f : FuncId) (N : Option Tmp) {fn : Func} {as_ : Array Operand} {ts : Array TypeId} {args : Array Value} {β : Type} {V : β → Value} {R : β → World → Prop} (hf : P.funcs[f]? = some fn) (hc : Calls P f args W fun e w' => ∃ v, e = .returned (V v) ∧ R v w')
  (h : ∀ v w', R v w' → wpList P ops Q rest (a.put N (V v)) w')
  (hd : o.dst = N := by rfl) (hop : o.op = .call { callee := .value (.func f), args := as_, argTypes := ts } := by rfl) (hg : o.guard = none := by rfl) (hname : (fn.name == "runtime.NumGoroutine") = false := by kernel_rfl) (hb : fn.body.isSome = true := by rfl)
  (hargs : as_.map a.eval = args := by (try simp only [List.map_toArray, List.map_cons, List.map_nil]); first | done | rfl | (simp only [List.length_drop, List.length_take]; rfl)) : wpList P ops Q (o :: rest) a W :=
 goesL_ N hd hg hf hname hb args hop hargs (hc.mono fun _ w' z => by obtain ⟨v, z1, z2⟩ := z; exact ⟨V v, z1, h v w' z2⟩)
theorem pureZ (i : Nat) (N : Option Tmp) {v : Value} {fuel : Nat} {l : Array Bool} (l' : Array Bool) {a' : Act}
  (h : wpAnyLast P md ops Q S ds fuel l' a' W) (hi : ops[i]? = some o := by rfl) (hN : o.dst = N := by rfl) (hc : anyB md ops l l' i = true := by exact any_of HT_.out (by kernel_rfl))
  (hQ : ∀ c a w, Q (.panic c) (a.put o.dst v) w → Q (.panic c) a w := by exact fun _ _ _ h => h)
  (hy : Yields P ops o v a := by exact Or.inl ⟨by rfl, by intro w'; go_simp; with_reducible rfl⟩)
  (ha : a.put N v = a' := by (simp only [Act.put, List.setIfInBounds_toArray, List.set_cons_zero, List.set_cons_succ, i64_w, i32_w]; rfl)) : wpAnyLast P md ops Q S ds (fuel + 1) l a W := pure_ l' hi hN hc hQ hy ha h
theorem pureY (i : Nat) (N : Option Tmp) {v : Value} {fuel : Nat} {l : Array Bool} (l' : Array Bool) {a' : Act}
  (h : wpAnyLast P md ops Q S ds fuel l' a' W) (hi : ops[i]? = some o := by rfl) (hN : o.dst = N := by rfl) (hc : anyB md ops l l' i = true := by kernel_rfl)
  (hQ : ∀ c a w, Q (.panic c) (a.put o.dst v) w → Q (.panic c) a w := by exact fun _ _ _ h => h)
  (hy : Yields P ops o v a := by exact Or.inl ⟨by rfl, by intro w'; go_simp; with_reducible rfl⟩)
  (ha : a.put N v = a' := by (simp only [Act.put, List.setIfInBounds_toArray, List.set_cons_zero, List.set_cons_succ, i64_w, i32_w]; rfl)) : wpAnyLast P md ops Q S ds (fuel + 1) l a W := pure_ l' hi hN hc hQ hy ha h
theorem takeZ3 (i : Nat) (N : Option Tmp) {v : Value} {fuel : Nat} {l : Array Bool} (l' : Array Bool) (hS : S W) {a' : Act}
  (h : wpAnyLast P md ops Q S ds fuel l' a' W) (hi : ops[i]? = some o := by rfl) (hN : o.dst = N := by rfl) (hc : takeB md ops ds l l' i = true := by exact take_ofW HT_.out HW_.out (by kernel_rfl))
  (hQ : ∀ c a w, Q (.panic c) (a.put o.dst v) w → Q (.panic c) a w := by exact fun _ _ _ h => h)
  (hy : YieldsIf P ops S o v a := by exact Or.inl ⟨by rfl, by rintro w' ⟨s0, s1, s2⟩; go_simp; with_reducible rfl⟩)
  (ha : a.put N v = a' := by (simp only [Act.put, List.setIfInBounds_toArray, List.set_cons_zero, List.set_cons_succ, i64_w, i32_w]; rfl)) : wpAnyLast P md ops Q S ds (fuel + 1) l a W := take_ l' hi hN hc hQ hy hS ha h
theorem takeZ4 (i : Nat) (N : Option Tmp) {v : Value} {fuel : Nat} {l : Array Bool} (l' : Array Bool) (hS : S W) {a' : Act}
  (h : wpAnyLast P md ops Q S ds fuel l' a' W) (hi : ops[i]? = some o := by rfl) (hN : o.dst = N := by rfl) (hc : takeB md ops ds l l' i = true := by exact take_ofW HT_.out HW_.out (by kernel_rfl))
  (hQ : ∀ c a w, Q (.panic c) (a.put o.dst v) w → Q (.panic c) a w := by exact fun _ _ _ h => h)
  (hy : YieldsIf P ops S o v a := by exact Or.inl ⟨by rfl, by rintro w' ⟨s0, s1, s2, s3⟩; go_simp; with_reducible rfl⟩)
  (ha : a.put N v = a' := by (simp only [Act.put, List.setIfInBounds_toArray, List.set_cons_zero, List.set_cons_succ, i64_w, i32_w]; rfl)) : wpAnyLast P md ops Q S ds (fuel + 1) l a W := take_ l' hi hN hc hQ hy hS ha h
theorem takeY4 (i : Nat) (N : Option Tmp) {v : Value} {fuel : Nat} {l : Array Bool} (l' : Array Bool) (hS : S W) {a' : Act}
  (h : wpAnyLast P md ops Q S ds fuel l' a' W) (hi : ops[i]? = some o := by rfl) (hN : o.dst = N := by rfl) (hc : takeB md ops ds l l' i = true := by kernel_rfl)
  (hQ : ∀ c a w, Q (.panic c) (a.put o.dst v) w → Q (.panic c) a w := by exact fun _ _ _ h => h)
  (hy : YieldsIf P ops S o v a := by exact Or.inl ⟨by rfl, by rintro w' ⟨s0, s1, s2, s3⟩; go_simp; with_reducible rfl⟩)
  (ha : a.put N v = a' := by (simp only [Act.put, List.setIfInBounds_toArray, List.set_cons_zero, List.set_cons_succ, i64_w, i32_w]; rfl)) : wpAnyLast P md ops Q S ds (fuel + 1) l a W := take_ l' hi hN hc hQ hy hS ha h
end
theorem cf3 {w : World} {g : Nat} {t : TypeId} {x0 x1 x2 : Value} (h : Aside0 (w.heap[g]? = some (.cells #[x0, x1, x2] t (0, 0)))) : w.cell? ⟨g, 0, none⟩ = some x0 ∧ w.cell? ⟨g, 1, none⟩ = some x1 ∧ w.cell? ⟨g, 2, none⟩ = some x2 ∧ w.frozen? ⟨g, 0, none⟩ = false ∧ w.frozen? ⟨g, 1, none⟩ = false ∧ w.frozen? ⟨g, 2, none⟩ = false := ⟨(blk_cell h.out 0).trans rfl, (blk_cell h.out 1).trans rfl, (blk_cell h.out 2).trans rfl, blk_frozen h.out 0, blk_frozen h.out 1, blk_frozen h.out 2⟩
theorem cf4 {w : World} {g : Nat} {t : TypeId} {x0 x1 x2 x3 : Value} (h : Aside0 (w.heap[g]? = some (.cells #[x0, x1, x2, x3] t (0, 0)))) : w.cell? ⟨g, 0, none⟩ = some x0 ∧ w.cell? ⟨g, 1, none⟩ = some x1 ∧ w.cell? ⟨g, 2, none⟩ = some x2 ∧ w.cell? ⟨g, 3, none⟩ = some x3 ∧ w.frozen? ⟨g, 0, none⟩ = false ∧ w.frozen? ⟨g, 1, none⟩ = false ∧ w.frozen? ⟨g, 2, none⟩ = false ∧ w.frozen? ⟨g, 3, none⟩ = false := ⟨(blk_cell h.out 0).trans rfl, (blk_cell h.out 1).trans rfl, (blk_cell h.out 2).trans rfl, (blk_cell h.out 3).trans rfl, blk_frozen h.out 0, blk_frozen h.out 1, blk_frozen h.out 2, blk_frozen h.out 3⟩
theorem A_ {p : Prop} (h : p) : Aside0 p := ⟨h⟩
abbrev bS := @below_step
abbrev bB := @blk_below
abbrev rB := @Kd.R_below
abbrev gC := @gate_callee
abbrev gD := @gate_dst
abbrev sI := @Option.some.inj
abbrev pR := @bodyPost_ret
abbrev dT := @decide_eq_true
abbrev dF := @decide_eq_false
section
variable {α : Type} {r : α} {x y : Option α} {c : Prop} {i : Decidable c}
theorem iteN (h : (if c then x else none) = some r) : c ∧ x = some r := by
 by_cases hc : c
 ·rw [if_pos hc] at h; exact ⟨hc, h⟩
 ·rw [if_neg hc] at h; cases h
theorem iteM (h : (if c then none else y) = some r) : ¬ c ∧ y = some r := by
 by_cases hc : c
 ·rw [if_pos hc] at h; cases h
 ·rw [if_neg hc] at h; exact ⟨hc, h⟩
theorem iteE (h : (if c then x else y) = some r) : (c ∧ x = some r) ∨ (¬ c ∧ y = some r) := by
 by_cases hc : c
 ·rw [if_pos hc] at h; exact .inl ⟨hc, h⟩
 ·rw [if_neg hc] at h; exact .inr ⟨hc, h⟩
theorem iteB {b : Bool} (h : (if b = true then x else y) = some r) : (b = true ∧ x = some r) ∨ (b = false ∧ y = some r) := by cases b <;> simpa using h
theorem iteNd (h : (if c then x else none) = some r) : decide c = true ∧ x = some r := ⟨decide_eq_true (iteN h).1, (iteN h).2⟩
theorem iteEd (h : (if c then x else y) = some r) : (decide c = true ∧ x = some r) ∨ (decide c = false ∧ y = some r) := (iteE h).imp (fun z => ⟨decide_eq_true z.1, z.2⟩) (fun z => ⟨decide_eq_false z.1, z.2⟩)
end
section
variable {α : Type} {r : α} {x y : Option α} {a b : Int}
theorem gtT (h : a > b) : decide (b < a) = true := decide_eq_true h
theorem gtF (h : ¬ a > b) : decide (b < a) = false := decide_eq_false h
theorem geT (h : a ≥ b) : decide (b ≤ a) = true := decide_eq_true h
theorem geF (h : ¬ a ≥ b) : decide (b ≤ a) = false := decide_eq_false h
theorem iteEg {i : Decidable (a > b)} (h : (if a > b then x else y) = some r) : (@decide (b < a) (Int.decLt b a) = true ∧ x = some r) ∨ (@decide (b < a) (Int.decLt b a) = false ∧ y = some r) := (iteE h).imp (fun z => ⟨gtT z.1, z.2⟩) (fun z => ⟨gtF z.1, z.2⟩)
theorem iteEe {i : Decidable (a ≥ b)} (h : (if a ≥ b then x else y) = some r) : (@decide (b ≤ a) (Int.decLe b a) = true ∧ x = some r) ∨ (@decide (b ≤ a) (Int.decLe b a) = false ∧ y = some r) := (iteE h).imp (fun z => ⟨geT z.1, z.2⟩) (fun z => ⟨geF z.1, z.2⟩)
end
section
variable {α β : Type} [BEq β] [LawfulBEq β] {r : α} {x y : Option α} {a b : β}
theorem eqT (h : a = b) : (a == b) = true ∧ (a != b) = false := ⟨beq_iff_eq.mpr h, bne_eq_false_iff_eq.mpr h⟩
theorem eqF (h : ¬ a = b) : (a == b) = false ∧ (a != b) = true := ⟨beq_eq_false_iff_ne.mpr h, bne_iff_ne.mpr h⟩
theorem iteEq {i : Decidable (a = b)} (h : (if a = b then x else y) = some r) : ((a == b) = true ∧ (a != b) = false ∧ x = some r) ∨ ((a == b) = false ∧ (a != b) = true ∧ ¬ a = b ∧ y = some r) :=
 (iteE h).imp (fun z => ⟨(eqT z.1).1, (eqT z.1).2, z.2⟩) (fun z => ⟨(eqF z.1).1, (eqF z.1).2, z.1, z.2⟩)
end
theorem atB {P Q R : Prop} [Decidable P] [Decidable Q] (f : P → Q → R) (p : decide P = true := by first | (with_reducible assumption) | assumption) (q : decide Q = true := by first | (with_reducible assumption) | assumption) : R ∧ (P = True) ∧ (Q = True) :=
 ⟨f (of_decide_eq_true p) (of_decide_eq_true q), eq_true (of_decide_eq_true p), eq_true (of_decide_eq_true q)⟩
section
variable {P : Program} {f : FuncId} {args : Array Value} {w : World} {S : Value → World → Prop}
theorem mR {v : Value} {Q : World → Prop} (h : Calls P f args w fun e w' => e = .returned v ∧ Q w') (k : ∀ w', Q w' → S v w') : Calls P f args w fun e w' => ∃ u, e = .returned u ∧ S u w' := h.mono (fun _ w' z => ⟨v, z.1, k w' z.2⟩)
end
section
variable {w W : World} {a b c d : Addr} {s t u v : Value} (hb : Aside0 (Below w.heap.size w W)) (h1 : w.cell? a = some s) (h2 : w.cell? b = some t) (h3 : w.cell? c = some u) (h4 : w.cell? d = some v)
include hb h1 h2
theorem cb2 : W.cell? a = some s ∧ W.cell? b = some t := ⟨cbl hb h1, cbl hb h2⟩
include h3
theorem cb3 : W.cell? a = some s ∧ W.cell? b = some t ∧ W.cell? c = some u := ⟨cbl hb h1, cbl hb h2, cbl hb h3⟩
include h4
theorem cb4 : W.cell? a = some s ∧ W.cell? b = some t ∧ W.cell? c = some u ∧ W.cell? d = some v := ⟨cbl hb h1, cbl hb h2, cbl hb h3, cbl hb h4⟩
end
theorem zz2 {B A0 : Prop} (a0 : Aside0 A0) (f : A0 → B := by intro g0_; repeat (first | (with_reducible first | exact g0_ | apply below_alloc | apply pw_below_drewN | apply below_drew1) | exact g0_)) : B := f a0.out
theorem zz3 {B A0 : Prop} (a0 : Aside0 A0) (f : A0 → B := by intro g0_; first | (with_reducible exact g0_) | ((with_reducible repeat (first | apply blk_drewN | apply blk_drew | apply blk_alloc)); exact g0_)) : B := f a0.out
theorem zz4 {B A0 A1 : Prop} (a0 : Aside0 A0) (a1 : Aside0 A1) (f : A0 → A1 → B := by intro g0_ g1_; repeat (first | (with_reducible first | exact g0_ | apply below_alloc | apply pw_below_drewN | apply below_drew1 | refine below_set ?_ g1_) | exact g0_)) : B := f a0.out a1.out
theorem zz5 {B : Prop} (f : B := by first | rfl | (simp only [i64_w, i32_w]; done) | (simp only [aid_isEmpty, aid_isEmpty2]; done) | (simp; done) | (simp [*]; done)) : B := f
theorem zz6 {B : Prop} (f : B := by first | omega | exact Nat.le_refl _) : B := f
theorem zz7 {B A0 : Prop} (a0 : Aside0 A0) (f : A0 → B := by intro g0_; repeat (first | (with_reducible first | exact g0_ | apply IsS68.alloc | apply IsS68.drewN | apply IsS68.drew | apply IsS68.set_1) | exact g0_)) : B := f a0.out
theorem zz8 {B A0 : Prop} (a0 : Aside0 A0) (f : A0 → B := by intro g0_; repeat (first | (with_reducible first | exact g0_ | apply KeepBut.set_ | apply keep_drewN | apply keep_drew | apply keep_alloc) | exact g0_)) : B := f a0.out
theorem zz9 {B A0 A1 : Prop} (a0 : Aside0 A0) (a1 : Aside0 A1) (f : A0 → A1 → B := by intro g0_ g1_; repeat (first | (with_reducible first | exact g0_ | apply below_alloc | apply pw_below_drewN | apply below_drew1 | refine below_set ?_ (IsS68.ge g1_)) | exact g0_)) : B := f a0.out a1.out
theorem zz11 {B : Prop} (f : B := by first | rfl | (simp [errW_none, errW_some] <;> rfl) | (simp [*, errW_none, errW_some] <;> rfl)) : B := f
theorem zz12 {B : Prop} (f : B := by first | rfl | (simp [errW_none, errW_some] <;> rfl) | (simp only [← hji9]; first | rfl | (simp [errW_none, errW_some] <;> rfl)) | (simp [*, errW_none, errW_some] <;> rfl)) : B := f
theorem zz16 {B : Prop} (f : B := by first | (go_simp; done) | (go_simp; rfl)) : B := f
theorem zz17 {B : Prop} (f : B := by (try simp only [List.map_toArray, List.map_cons, List.map_nil]); first | done | rfl | (simp only [List.length_drop, List.length_take]; rfl)) : B := f
theorem zz18 {B A0 : Prop} (a0 : Aside0 A0) (f : A0 → B := by intro g0_; first | (with_reducible exact g0_) | ((with_reducible repeat (first | apply Kd.R_alloc | apply Kd.R_drewN | apply Kd.R_drew)); exact g0_)) : B := f a0.out
theorem zz20 {B A0 : Prop} (a0 : Aside0 A0) (f : A0 → B := by intro g0_; have := g0_; omega) : B := f a0.out
theorem zz21 {B A0 A1 : Prop} (a0 : Aside0 A0) (a1 : Aside0 A1) (f : A0 → A1 → B := by intro g0_ g1_; repeat (first | exact (Kd.C_below g0_ g1_) | (with_reducible refine Kd.C_alloc ?_ _) | (with_reducible refine Kd.C_drewN ?_ _) | (with_reducible refine Kd.C_drew ?_))) : B := f a0.out a1.out
theorem zz22 {B : Prop} (f : B := by repeat (first | exact Drawn0.refl _ | apply Drawn0.step)) : B := f
theorem zz25 {B A0 : Prop} (a0 : Aside0 A0) (f : A0 → B := by intro g0_; have := g0_; first | omega | exact Nat.le_refl _) : B := f a0.out
theorem zz33 {B A0 A1 : Prop} (a0 : Aside0 A0) (a1 : Aside0 A1) (f : A0 → A1 → B := by intro g0_ g1_; have := g0_; have := g1_; omega) : B := f a0.out a1.out
theorem zz36 {B A0 A1 : Prop} (a0 : Aside0 A0) (a1 : Aside0 A1) (f : A0 → A1 → B := by intro g0_ g1_; repeat (first | (with_reducible first | exact g0_ | apply IsS68.alloc | apply IsS68.drewN | apply IsS68.drew | apply IsS68.set_1 | refine IsS68.far ?_ g1_ _) | exact g0_)) : B := f a0.out a1.out
theorem zz37 {B A0 A1 A2 : Prop} (a0 : Aside0 A0) (a1 : Aside0 A1) (a2 : Aside0 A2) (f : A0 → A1 → A2 → B := by intro g0_ g1_ g2_; repeat (first | (with_reducible first | exact g0_ | apply below_alloc | apply pw_below_drewN | apply below_drew1 | refine below_set ?_ (IsS68.ge g1_) | refine below_set ?_ g2_) | exact g0_)) : B := f a0.out a1.out a2.out
theorem zz39 {B A0 : Prop} (a0 : Aside0 A0) (f : A0 → B := by intro g0_; first | ((repeat (first | (with_reducible first | exact g0_ | refine blk_drewN ?_ _ | refine blk_drew ?_ | refine blk_alloc ?_ _ | apply blk_put) | exact g0_)); all_goals rfl; done) | (apply blk_put (i := 3); apply blk_put (i := 2); apply blk_put (i := 1); apply blk_put (i := 0); exact g0_; all_goals rfl)) : B := f a0.out
theorem zz40 {B A0 A1 : Prop} (a0 : Aside0 A0) (a1 : Aside0 A1) (f : A0 → A1 → B := by intro g0_ g1_; repeat (first | (with_reducible first | exact g0_ | apply KeepBut.set_ | apply keep_drewN | apply keep_drew | apply keep_alloc | refine keep_far ?_ g1_ _) | exact g0_)) : B := f a0.out a1.out
theorem zz41 {B : Prop} (f : B := by first | exact Kd.R_nil _ _ _ _ _ | exact Kd.N_nil _ _ _ _ _ | exact Kd.V_nil _ _ _ _ _ | exact Kd.Q_nil _ _ _ _ _ | exact Kd.S_nil _ _ _ _ _) : B := f
theorem zz43 {B A0 : Prop} (a0 : Aside0 A0) (f : A0 → B := by intro g0_; repeat (first | exact (Kd.R_reads' g0_).2.2 | (with_reducible refine Kd.C_alloc ?_ _) | (with_reducible refine Kd.C_drewN ?_ _) | (with_reducible refine Kd.C_drew ?_))) : B := f a0.out
theorem zz44 {B A0 : Prop} (a0 : Aside0 A0) (f : A0 → B := by intro g0_; (with_reducible repeat (first | apply Kd.R_alloc | apply Kd.R_drewN | apply Kd.R_drew)); exact Kd.R_mono g0_ (fun _ hk => hk.2)) : B := f a0.out
theorem zz45 {B A0 : Prop} (a0 : Aside0 A0) (f : A0 → B := by intro g0_; apply Kd.R_mono; (focus ((repeat (first | (with_reducible first | exact g0_ | apply Kd.R_alloc | apply Kd.R_drewN | apply Kd.R_drew | apply Kd.R_far) | exact g0_)); all_goals (intro _ hk_; first | exact hk_.2 | exact hk_.1.2 | exact hk_.1.1.2 | exact hk_.1.1.1.2 | exact hk_.1.1.1.1.2 | exact hk_.1.1.1.1.1.2 | exact hk_.1.1.1.1.1.1.2))); intro _ hk_; first | exact trivial | (repeat' (with_reducible apply And.intro)) <;> first | exact hk_ | exact hk_.2 | exact hk_.1.2 | exact hk_.1.1.2 | exact hk_.1.1.1.2 | exact hk_.1.1.1.1.2 | exact hk_.1.1.1.1.1.2 | exact hk_.1.1.1.1.1.1.2 | exact hk_.1 | exact hk_.1.1 | exact hk_.1.1.1 | exact hk_.1.1.1.1 | exact hk_.1.1.1.1.1 | exact hk_.1.1.1.1.1.1 | exact hk_.2.2 | exact hk_.1.2.2 | exact hk_.1.1.2.2 | exact hk_.1.1.1.2.2 | exact hk_.1.1.1.1.2.2 | exact hk_.1.1.1.1.1.2.2 | exact hk_.1.1.1.1.1.1.2.2 | exact hk_.2.2.2 | exact hk_.1.2.2.2 | exact hk_.1.1.2.2.2 | exact hk_.1.1.1.2.2.2 | exact hk_.1.1.1.1.2.2.2 | exact hk_.1.1.1.1.1.2.2.2 | exact hk_.1.1.1.1.1.1.2.2.2 | exact hk_.2.2.2.2 | exact hk_.1.2.2.2.2 | exact hk_.1.1.2.2.2.2 | exact hk_.1.1.1.2.2.2.2 | exact hk_.1.1.1.1.2.2.2.2 | exact hk_.1.1.1.1.1.2.2.2.2 | exact hk_.1.1.1.1.1.1.2.2.2.2 | exact hk_.2.2.2.2.2 | exact hk_.1.2.2.2.2.2 | exact hk_.1.1.2.2.2.2.2 | exact hk_.1.1.1.2.2.2.2.2 | exact hk_.1.1.1.1.2.2.2.2.2 | exact hk_.1.1.1.1.1.2.2.2.2.2 | exact hk_.1.1.1.1.1.1.2.2.2.2.2 | exact hk_.2.1 | exact hk_.1.2.1 | exact hk_.1.1.2.1 | exact hk_.1.1.1.2.1 | exact hk_.1.1.1.1.2.1 | exact hk_.1.1.1.1.1.2.1 | exact hk_.2.2.1 | exact hk_.1.2.2.1 | exact hk_.1.1.2.2.1 | exact hk_.1.1.1.2.2.1 | exact hk_.1.1.1.1.2.2.1 | exact hk_.1.1.1.1.1.2.2.1 | exact hk_.2.2.2.1 | exact hk_.1.2.2.2.1 | exact hk_.1.1.2.2.2.1 | exact hk_.1.1.1.2.2.2.1 | exact hk_.1.1.1.1.2.2.2.1 | exact hk_.1.1.1.1.1.2.2.2.1 | exact hk_.2.2.2.2.1 | exact hk_.1.2.2.2.2.1 | exact hk_.1.1.2.2.2.2.1 | exact hk_.1.1.1.2.2.2.2.1 | exact hk_.1.1.1.1.2.2.2.2.1 | exact hk_.1.1.1.1.1.2.2.2.2.1 | exact hk_.2.2.2.2.2.1 | exact hk_.1.2.2.2.2.2.1 | exact hk_.1.1.2.2.2.2.2.1 | exact hk_.1.1.1.2.2.2.2.2.1 | exact hk_.1.1.1.1.2.2.2.2.2.1 | exact hk_.1.1.1.1.1.2.2.2.2.2.1) : B := f a0.out
theorem zz46 {B A0 : Prop} (a0 : Aside0 A0) (f : A0 → B := by intro g0_; first | ((repeat (first | (with_reducible first | exact g0_ | refine blk_drewN ?_ _ | refine blk_drew ?_ | refine blk_alloc ?_ _ | apply blk_put) | exact g0_)); all_goals rfl; done) | (apply blk_put (i := 1); exact g0_; all_goals rfl)) : B := f a0.out
theorem zz47 {B A0 A1 : Prop} (a0 : Aside0 A0) (a1 : Aside0 A1) (f : A0 → A1 → B := by intro g0_ g1_; (with_reducible repeat (first | apply Kd.R_alloc | apply Kd.R_drewN | apply Kd.R_drew)); exact (Kd.R_mono (Kd.R_far (p := ⟨gb148, 2, none⟩) (Kd.R_types g0_ g1_ (by decide)) (fun _ hk => hk.2) (.bool true)) (fun _ h_ => h_.1))) : B := f a0.out a1.out
theorem zz48 {B A0 : Prop} (a0 : Aside0 A0) (f : A0 → B := by intro g0_; first | ((repeat (first | (with_reducible first | exact g0_ | refine blk_drewN ?_ _ | refine blk_drew ?_ | refine blk_alloc ?_ _ | apply blk_put) | exact g0_)); all_goals rfl; done) | (apply blk_put (i := 2); exact g0_; all_goals rfl)) : B := f a0.out
theorem zz49 {B A0 A1 : Prop} (a0 : Aside0 A0) (a1 : Aside0 A1) (f : A0 → A1 → B := by intro g0_ g1_; (with_reducible repeat (first | apply Kd.R_alloc | apply Kd.R_drewN | apply Kd.R_drew)); exact (Kd.R_mono (Kd.R_far (p := ⟨gb148, 3, none⟩) (Kd.R_types g0_ g1_ (by decide)) (fun _ hk => hk.2) (.string t164)) (fun _ h_ => h_.1))) : B := f a0.out a1.out
theorem zz57 {B A0 : Prop} (a0 : Aside0 A0) (f : A0 → B := by intro g0_; first | ((repeat (first | (with_reducible first | exact g0_ | refine blk_drewN ?_ _ | refine blk_drew ?_ | refine blk_alloc ?_ _ | apply blk_put) | exact g0_)); all_goals rfl; done) | (apply blk_put (i := 2); apply blk_put (i := 1); apply blk_put (i := 0); exact g0_; all_goals rfl)) : B := f a0.out
theorem zz60 {B A0 A1 A2 : Prop} (a0 : Aside0 A0) (a1 : Aside0 A1) (a2 : Aside0 A2) (f : A0 → A1 → A2 → B := by intro g0_ g1_ g2_; have := g0_; have := g1_; have := g2_; omega) : B := f a0.out a1.out a2.out
theorem zz63 {B A0 : Prop} (a0 : Aside0 A0) (f : A0 → B := by intro g0_; repeat (first | exact g0_ | (with_reducible refine Kd.C_alloc ?_ _) | (with_reducible refine Kd.C_drewN ?_ _) | (with_reducible refine Kd.C_drew ?_))) : B := f a0.out
theorem zz68 {B A0 : Prop} (a0 : Aside0 A0) (f : A0 → B := by intro g0_; (with_reducible repeat (first | apply Kd.S_alloc | apply Kd.S_drewN | apply Kd.S_drew)); exact g0_) : B := f a0.out
theorem zz71 {B A0 A1 : Prop} (a0 : Aside0 A0) (a1 : Aside0 A1) (f : A0 → A1 → B := by intro g0_ g1_; (with_reducible repeat (first | apply Kd.R_alloc | apply Kd.R_drewN | apply Kd.R_drew)); exact (Kd.R_mono (Kd.R_far (p := ⟨gb242, 2, none⟩) (Kd.R_far (p := ⟨gb242, 1, none⟩) (Kd.R_far (p := ⟨gb242, 0, none⟩) (Kd.R_types g0_ g1_ (by decide)) (fun _ hk => hk.2) (.slice Ao23 y231.length co23)) (fun _ hk => hk.2) (.slice Ao22 t234.length co22)) (fun _ hk => hk.2) (.int .i64 (wrap64 (t238 * t240)))) (fun _ h_ => h_.1))) : B := f a0.out a1.out
theorem zz72 {B A0 : Prop} (a0 : Aside0 A0) (f : A0 → B := by intro g0_; (with_reducible repeat (first | apply Kd.R_alloc | apply Kd.R_drewN | apply Kd.R_drew)); exact Kd.R_mono g0_ (fun _ hk => ⟨hk.1.2, hk.2⟩)) : B := f a0.out
theorem zz77 {B A0 : Prop} (a0 : Aside0 A0) (f : A0 → B := by intro g0_; (with_reducible repeat (first | apply Kd.S_alloc | apply Kd.S_drewN | apply Kd.S_drew)); exact Kd.S_mono g0_ (fun k_ hk => ⟨⟨hk.1, ⟨hk.2.2.1, hk.2.2.2.2⟩⟩, fun e_ => e_.elim (fun h_ => hk.2.2.2.1 h_) (fun h_ => hk.2.1 h_)⟩)) : B := f a0.out
theorem zz78 {B A0 : Prop} (a0 : Aside0 A0) (f : A0 → B := by intro g0_; (with_reducible repeat (first | apply Kd.S_alloc | apply Kd.S_drewN | apply Kd.S_drew)); exact Kd.S_mono g0_ (fun _ hk => trivial)) : B := f a0.out
theorem zz79 {B A0 : Prop} (a0 : Aside0 A0) (f : A0 → B := by intro g0_; (with_reducible repeat (first | apply Kd.S_alloc | apply Kd.S_drewN | apply Kd.S_drew)); exact Kd.S_mono g0_ (fun k_ hk => ⟨⟨hk.1.1.1.2, hk.2⟩, fun e_ => e_.elim (fun h_ => hk.1.1.2 h_) (fun h_ => hk.1.2 h_)⟩)) : B := f a0.out
theorem zz80 {B A0 : Prop} (a0 : Aside0 A0) (f : A0 → B := by intro g0_; (with_reducible repeat (first | apply Kd.S_alloc | apply Kd.S_drewN | apply Kd.S_drew)); exact Kd.S_mono g0_ (fun k_ hk => ⟨trivial, fun e_ => hk.2 e_⟩)) : B := f a0.out
theorem zz85 {B A0 A1 : Prop} (a0 : Aside0 A0) (a1 : Aside0 A1) (f : A0 → A1 → B := by intro g0_ g1_; first | (rw [add_block]; exact Kd.own_blk (IsS68.own_ne g0_ g1_ (by decide))) | (show (Addr.add _ _).block ≠ _; rw [add_block]; exact Kd.own_blk (IsS68.own_ne g0_ g1_ (by decide))) | exact Kd.own_blk (IsS68.own_ne g0_ g1_ (by decide))) : B := f a0.out a1.out
theorem zz86 {B : Prop} (f : B := by first | (simp only [putAll, Act.put, List.setIfInBounds_toArray, List.set_cons_zero, List.set_cons_succ]; done) | (simp only [putAll, Act.put, List.setIfInBounds_toArray, List.set_cons_zero, List.set_cons_succ]; rfl)) : B := f
theorem zz87 {B A0 : Prop} (a0 : Aside0 A0) (f : A0 → B := by intro g0_; (with_reducible repeat (first | apply Kd.S_alloc | apply Kd.S_drewN | apply Kd.S_drew)); exact Kd.S_mono g0_ (fun _ hk => hk.2)) : B := f a0.out
theorem zz89 {B A0 : Prop} (a0 : Aside0 A0) (f : A0 → B := by intro g0_; repeat (first | exact (Kd.S_reads' g0_).2.2 | (with_reducible refine Kd.C_alloc ?_ _) | (with_reducible refine Kd.C_drewN ?_ _) | (with_reducible refine Kd.C_drew ?_))) : B := f a0.out
theorem zz90 {B A0 A1 : Prop} (a0 : Aside0 A0) (a1 : Aside0 A1) (f : A0 → A1 → B := by intro g0_ g1_; first | exact Kd.own_blk (Kd.R_ne g0_ g1_ (by decide)) | (rw [add_block]; exact Kd.own_blk (Kd.R_ne g0_ g1_ (by decide))) | (show (Addr.add _ _).block ≠ _; rw [add_block]; exact Kd.own_blk (Kd.R_ne g0_ g1_ (by decide))) | (dsimp only; exact Kd.own_blk (Kd.R_ne g0_ g1_ (by decide)))) : B := f a0.out a1.out
theorem zz92 {B A0 A1 : Prop} (a0 : Aside0 A0) (a1 : Aside0 A1) (f : A0 → A1 → B := by intro g0_ g1_; (with_reducible repeat (first | apply Kd.R_alloc | apply Kd.R_drewN | apply Kd.R_drew)); exact (Kd.R_mono (Kd.R_far (p := ⟨gb350, 3, none⟩) (Kd.R_far (p := ⟨gb350, 2, none⟩) (Kd.R_far (p := ⟨gb350, 1, none⟩) (Kd.R_far (p := ⟨gb350, 0, none⟩) (Kd.R_types g0_ g1_ (by decide)) (fun _ hk => hk.2) (.string (((⟨#[47, 47]⟩ : ByteArray) ++ (rdOf ByteArray.empty t333 x5_1)) ++ (⟨#[47, 110, 111, 116, 105, 99, 101]⟩ : ByteArray)))) (fun _ hk => hk.2) (.string t343)) (fun _ hk => hk.2) (.string (⟨#[]⟩ : ByteArray))) (fun _ hk => hk.2) (.int .i64 (rd y344 t347))) (fun _ h_ => h_.1))) : B := f a0.out a1.out
theorem zz95 {B A0 A1 : Prop} (a0 : Aside0 A0) (a1 : Aside0 A1) (f : A0 → A1 → B := by intro g0_ g1_; (with_reducible repeat (first | apply Kd.R_alloc | apply Kd.R_drewN | apply Kd.R_drew)); exact (Kd.R_mono (Kd.R_far (p := ⟨gb350, 1, none⟩) (Kd.R_types g0_ g1_ (by decide)) (fun _ hk => hk.2) (.string (⟨#[]⟩ : ByteArray))) (fun _ h_ => h_.1))) : B := f a0.out a1.out
theorem zz107 {B A0 : Prop} (a0 : Aside0 A0) (f : A0 → B := by intro g0_; (with_reducible repeat (first | apply Kd.R_alloc | apply Kd.R_drewN | apply Kd.R_drew)); exact Kd.R_mono g0_ (fun _ hk => trivial)) : B := f a0.out
theorem zz113 {B A0 : Prop} (a0 : Aside0 A0) (f : A0 → B := by intro g0_; (with_reducible repeat (first | apply Kd.R_alloc | apply Kd.R_drewN | apply Kd.R_drew)); exact (Kd.R_mono (Kd.R_far (p := ⟨gb373, 2, none⟩) (Kd.R_mono g0_ (fun k_ hk => (⟨hk, hk.2⟩ : _ ∧ k_ ≠ gb373))) (fun _ hk => hk.2) (.string t376)) (fun _ h_ => h_.1))) : B := f a0.out
theorem zz119 {B A0 A1 : Prop} (a0 : Aside0 A0) (a1 : Aside0 A1) (f : A0 → A1 → B := by intro g0_ g1_; (repeat (first | (with_reducible first | exact g0_ | refine blk_drewN ?_ _ | refine blk_drew ?_ | refine blk_alloc ?_ _ | apply blk_put | apply blk_far) | exact g0_)); all_goals first | rfl | exact g1_) : B := f a0.out a1.out
theorem zz122 {B A0 A1 A2 : Prop} (a0 : Aside0 A0) (a1 : Aside0 A1) (a2 : Aside0 A2) (f : A0 → A1 → A2 → B := by intro g0_ g1_ g2_; repeat (first | (with_reducible first | exact g0_ | apply IsS68.alloc | apply IsS68.drewN | apply IsS68.drew | apply IsS68.set_1 | refine IsS68.far ?_ g1_ _ | refine IsS68.far ?_ g2_ _) | exact g0_)) : B := f a0.out a1.out a2.out
theorem zz124 {B A0 A1 A2 : Prop} (a0 : Aside0 A0) (a1 : Aside0 A1) (a2 : Aside0 A2) (f : A0 → A1 → A2 → B := by intro g0_ g1_ g2_; repeat (first | (with_reducible first | exact g0_ | apply KeepBut.set_ | apply keep_drewN | apply keep_drew | apply keep_alloc | refine keep_far ?_ g1_ _ | refine keep_far ?_ g2_ _) | exact g0_)) : B := f a0.out a1.out a2.out
theorem zz126 {B A0 A1 A2 A3 : Prop} (a0 : Aside0 A0) (a1 : Aside0 A1) (a2 : Aside0 A2) (a3 : Aside0 A3) (f : A0 → A1 → A2 → A3 → B := by intro g0_ g1_ g2_ g3_; repeat (first | (with_reducible first | exact g0_ | apply below_alloc | apply pw_below_drewN | apply below_drew1 | refine below_set ?_ (IsS68.ge g1_) | refine below_set ?_ g2_ | refine below_set ?_ g3_) | exact g0_)) : B := f a0.out a1.out a2.out a3.out
theorem zz150 {B A0 A1 A2 : Prop} (a0 : Aside0 A0) (a1 : Aside0 A1) (a2 : Aside0 A2) (f : A0 → A1 → A2 → B := by intro g0_ g1_ g2_; repeat (first | (with_reducible first | exact g0_ | apply below_alloc | apply pw_below_drewN | apply below_drew1 | refine below_set ?_ g1_ | refine below_set ?_ g2_) | exact g0_)) : B := f a0.out a1.out a2.out
theorem zz152 {B A0 : Prop} (a0 : Aside0 A0) (f : A0 → B := by intro g0_; (with_reducible repeat (first | apply Kd.R_alloc | apply Kd.R_drewN | apply Kd.R_drew)); exact Kd.R_mono g0_ (fun _ hk => ⟨trivial, hk⟩)) : B := f a0.out
theorem zz153 {B A0 : Prop} (a0 : Aside0 A0) (f : A0 → B := by intro g0_; (with_reducible repeat (first | apply Kd.R_alloc | apply Kd.R_drewN | apply Kd.R_drew)); exact Kd.R_mono g0_ (fun _ hk => ⟨hk.2, hk.1⟩)) : B := f a0.out
theorem zz154 {B A0 A1 A2 A3 : Prop} (a0 : Aside0 A0) (a1 : Aside0 A1) (a2 : Aside0 A2) (a3 : Aside0 A3) (f : A0 → A1 → A2 → A3 → B := by intro g0_ g1_ g2_ g3_; repeat (first | (with_reducible first | exact g0_ | apply below_alloc | apply pw_below_drewN | apply below_drew1 | refine below_set ?_ g1_ | refine below_set ?_ g2_ | refine below_set ?_ g3_) | exact g0_)) : B := f a0.out a1.out a2.out a3.out
theorem zz166 {B : Prop} (f : B := by first | rfl | (simp [errW_none, errW_some] <;> rfl) | (simp only [← hji4, ← hji9]; first | rfl | (simp [errW_none, errW_some] <;> rfl)) | (simp [*, errW_none, errW_some] <;> rfl)) : B := f
theorem zz185 {B A0 A1 : Prop} (a0 : Aside0 A0) (a1 : Aside0 A1) (f : A0 → A1 → B := by intro g0_ g1_; (with_reducible repeat (first | apply Kd.R_alloc | apply Kd.R_drewN | apply Kd.R_drew)); exact (Kd.R_mono (Kd.R_far (p := ⟨gb650, 3, none⟩) (Kd.R_far (p := ⟨gb650, 2, none⟩) (Kd.R_far (p := ⟨gb650, 1, none⟩) (Kd.R_far (p := ⟨gb650, 0, none⟩) (Kd.R_types g0_ g1_ (by decide)) (fun _ hk => hk.2) (.string a0)) (fun _ hk => hk.2) (.slice Ao31 t647.length co31)) (fun _ hk => hk.2) (.bool t632)) (fun _ hk => hk.2) (.string t633)) (fun _ h_ => h_.1))) : B := f a0.out a1.out
theorem zz187 {B : Prop} (f : B := by (try simp only [List.map_toArray, List.map_cons, List.map_nil]); first | done | rfl | (simp only [List.length_drop, List.length_take]; rfl) | (simp <;> repeat' (first | rfl | constructor))) : B := f
end Go.Proofs.YtpomhjkbgbociaaGreatDoor.P
end
section
namespace Go.Proofs.YtpomhjkbgbociaaGreatDoor.P
open Go.RowKit Go.Proofs.YtpomhjkbgbociaaGreatDoorW.PrintWords Go.Proofs.YtpomhjkbgbociaaGreatDoorW.PrintLast Go.Proofs.YtpomhjkbgbociaaGreatDoorW.PrintMore
attribute [local go_sem] max2_int min2_int max_two min_two max_three min_three max_four min_four
set_option linter.unusedVariables false
set_option linter.unusedSimpArgs false
set_option maxHeartbeats 8000000
set_option maxRecDepth 100000
def IsS68 (w0 W : World) (g : Nat) (f0 : List Int) (f1 : Int) : Prop := ∃ A0 c0, W.heap[g]? = some (.cells #[.slice A0 f0.length c0, .int .i64 f1] 68 (0, 0)) ∧ w0.heap.size ≤ g ∧ Kd.C (Kd.int .u8) w0 A0 f0.length f0
theorem IsS68.grown {w0 W : World} {g : Nat} {f0 : List Int} {f1 : Int} {W1 : World} {row : Option Nat} (h : IsS68 w0 W g f0 f1) (hw : W.grownBy W1 row) (hne : some g ≠ row) : IsS68 w0 W1 g f0 f1 := by
 obtain ⟨A0, c0, hb, hg, hr0⟩ := h;exact ⟨A0, c0, blk_grown hb hw hne, hg, hr0⟩
theorem IsS68.fresh {w0 W : World} {g : Nat} {f0 : List Int} {f1 : Int} (h : IsS68 w0 W g f0 f1) : ∀ k, W.heap.size ≤ k → k ≠ g := by
 obtain ⟨A0, c0, hb, hg, hr0⟩ := h;exact Kd.freshB hb
theorem IsS68.kept {w0 W : World} {g : Nat} {f0 : List Int} {f1 : Int} {W1 : World} {S : Nat → Prop} (h : IsS68 w0 W g f0 f1) (hk : Kept W W1 S) (hne : ¬ S g) : IsS68 w0 W1 g f0 f1 := by
 obtain ⟨A0, c0, hb, hg, hr0⟩ := h;exact ⟨A0, c0, blk_kept hb hk hne, hg, hr0⟩
theorem IsS68.below {w0 W : World} {g : Nat} {f0 : List Int} {f1 : Int} {W1 : World} (h : IsS68 w0 W g f0 f1) (hw : Below W.heap.size W W1) : IsS68 w0 W1 g f0 f1 := h.grown (grown_of_below hw none) (by simp)
theorem IsS68.alloc {w0 W : World} {g : Nat} {f0 : List Int} {f1 : Int} (h : IsS68 w0 W g f0 f1) (o : Obj) : IsS68 w0 (W.alloc o) g f0 f1 := h.below (below_alloc (Below.refl _ _) o)
theorem IsS68.drewN {w0 W : World} {g : Nat} {f0 : List Int} {f1 : Int} (h : IsS68 w0 W g f0 f1) (m : Nat) : IsS68 w0 (W.drewN m) g f0 f1 := h
theorem IsS68.drew {w0 W : World} {g : Nat} {f0 : List Int} {f1 : Int} (h : IsS68 w0 W g f0 f1) : IsS68 w0 W.drew g f0 f1 := h
theorem IsS68.at_ {w0 W : World} {g : Nat} {f0 : List Int} {f1 : Int} {w' : World} {m : Nat} (hq : W.drewN m = w') (h : IsS68 w0 W g f0 f1) : IsS68 w0 w' g f0 f1 := by subst hq; exact IsS68.drewN h m
theorem IsS68.apart {w0 W : World} {g : Nat} {f0 : List Int} {f1 : Int} {α : Type} {d : Kd α} {e : Nat} {base : Nat} {ok : Nat → Prop} {v : Value} {xs : List α} (h : IsS68 w0 W g f0 f1) (ho : d.R e W base ok v xs) (ht : ∀ q, q ∈ e :: d.E → q ≠ 68) : d.R e W base (fun k => ok k ∧ k ≠ g) v xs := by
 obtain ⟨A0, c0, hb, hg, hr0⟩ := h;exact Kd.R_types ho hb ht
theorem IsS68.own_ne {w0 W : World} {g : Nat} {f0 : List Int} {f1 : Int} {α : Type} {d : Kd α} {e : Nat} {base : Nat} {ok : Nat → Prop} {v : Value} {xs : List α} (h : IsS68 w0 W g f0 f1) (ho : d.R e W base ok v xs) (ht : e ≠ 68) : some g ≠ v.ownBlock := by
 obtain ⟨A0, c0, hb, hg, hr0⟩ := h;exact Kd.R_ne ho hb ht
theorem IsS68.apartS {w0 W : World} {g : Nat} {f0 : List Int} {f1 : Int} {α : Type} {d : Kd α} {e : Nat} {base : Nat} {ok : Nat → Prop} {v : Value} {xs : List α} (h : IsS68 w0 W g f0 f1) (ho : d.S e W base ok v xs) (ht : ∀ q, q ∈ e :: d.E → q ≠ 68) : d.S e W base (fun k => ok k ∧ k ≠ g) v xs := by
 obtain ⟨A0, c0, hb, hg, hr0⟩ := h;exact Kd.S_types ho hb ht
theorem IsS68.own_neS {w0 W : World} {g : Nat} {f0 : List Int} {f1 : Int} {α : Type} {d : Kd α} {e : Nat} {base : Nat} {ok : Nat → Prop} {v : Value} {xs : List α} (h : IsS68 w0 W g f0 f1) (ho : d.S e W base ok v xs) (ht : e ≠ 68) : some g ≠ v.ownBlock := by
 obtain ⟨A0, c0, hb, hg, hr0⟩ := h;exact Kd.S_ne ho hb ht
theorem IsS68.lt {w0 W : World} {g : Nat} {f0 : List Int} {f1 : Int} (h : IsS68 w0 W g f0 f1) : g < W.heap.size := by
 obtain ⟨A0, c0, hb, hg, hr0⟩ := h;exact blk_lt hb
theorem IsS68.ge {w0 W : World} {g : Nat} {f0 : List Int} {f1 : Int} (h : IsS68 w0 W g f0 f1) : w0.heap.size ≤ g := by
 obtain ⟨A0, c0, hb, hg, hr0⟩ := h;exact hg
theorem IsS68.far {w0 W : World} {g : Nat} {f0 : List Int} {f1 : Int} {p : Addr} (h : IsS68 w0 W g f0 f1) (hne : g ≠ p.block) (u : Value) : IsS68 w0 (W.setCell p u) g f0 f1 := by
 obtain ⟨A0, c0, hb, hg, hr0⟩ := h;exact ⟨A0, c0, blk_far hb hne u, hg, hr0⟩
theorem cellS68_0 {W : World} {g : Nat} {A0 : Option Addr} {c0 : Nat} {f0 : List Int} {f1 : Int} (h : W.heap[g]? = some (.cells #[.slice A0 f0.length c0, .int .i64 f1] 68 (0, 0))) : W.cell? ⟨g, 0, none⟩ = some (.slice A0 f0.length c0) := (blk_cell h 0).trans rfl
theorem cellS68_1 {W : World} {g : Nat} {A0 : Option Addr} {c0 : Nat} {f0 : List Int} {f1 : Int} (h : W.heap[g]? = some (.cells #[.slice A0 f0.length c0, .int .i64 f1] 68 (0, 0))) : W.cell? ⟨g, 1, none⟩ = some (.int .i64 f1) := (blk_cell h 1).trans rfl
theorem IsS68.set_1 {w0 W : World} {g : Nat} {f0 : List Int} {f1 : Int} (h : IsS68 w0 W g f0 f1) (x : Int) : IsS68 w0 (W.setCell ⟨g, 1, none⟩ (.int .i64 x)) g f0 x := by
 obtain ⟨A0, c0, hb, hg, hr0⟩ := h;exact ⟨A0, c0, (by simpa using blk_set hb 1 (.int .i64 x)), hg, hr0⟩
def spec_l6Open.f (l0 : List Int) : Option (List Int × Int) := if (l0.length : Int) > 2000 then (if 2000 ≤ (l0.length : Int) then (some (l0.take 2000, 0)) else (none)) else (some (l0, 0))
theorem spec_l6Open.calls (A0 : Option Addr) (c0 : Nat) (l0 : List Int) (r1 : List Int) (r2 : Int) (w0 w : World) (hB : Below w0.heap.size w0 w) (hr0 : Kd.C (Kd.int .u8) w0 A0 l0.length l0) (hc0 : l0.length ≤ c0) (h : spec_l6Open.f l0 = some (r1, r2)) :
  Calls Tryz.prog 19 #[.slice A0 l0.length c0] w fun e w' => ∃ g_ : Nat, e = .returned (.pointer (some ⟨g_, 0, none⟩)) ∧ IsS68 w0 w' g_ r1 r2 ∧ Below w0.heap.size w0 w' ∧ Below w.heap.size w w' := by
 have hu68 := Tryz.underlying68;have HR0 := A_ hr0;have HC0 := A_ hc0;clear hr0 hc0;have HBW := A_ (Below.refl w.heap.size w);have HW0 := A_ hB.size;have HB := A_ hB;clear hB;unfold spec_l6Open.f at h
 have H := h;clear h;replace H := iteE H;rcases H with ⟨c2, H⟩ | ⟨c2, H⟩
 ·have c2b0 := gtT c2
  have c2b1 : decide (2000 < l0.length) = true := dT (by omega);clear c2;replace H := iteN H;obtain ⟨c3, H⟩ := H;have c3b0 := eq_true c3;have c3b1 := dT c3;clear c3;simp only [Option.some.injEq, Prod.mk.injEq] at H
  obtain ⟨rfl, rfl⟩ := H;obtain ⟨i04, hi04, _, hsz4, _⟩ := info_parts info5;obtain ⟨hcut4, hA4, hC4⟩ := print_take_of (P := Tryz.prog) (Value.int .u8) 0 22 5 .i64 Tryz.underlying22 hi04 hsz4 A0 c0 l0 2000 (by omega) ofD HC0.out;have HR101 := A_ (Kd.C_of_reads (h1 := fun _ => rfl) (hA4 _ (Kd.reads_of_C HR0.out)));have HC101 := A_ hC4;clear hA4 hC4 hi04 hsz4;go_enter Tryz.func19, Tryz.ntmps19;go_wp2_with (first | (refine boxF 10 #[.slice A0 (l0.take 2000).length c0, .int .i64 0] 68 ?_; intro gb102 hg w5 BK102 hb; replace HB := A_ (bS (zz2 HB) hb); have GW102 := A_ ((by rw [hg]; exact (below_size (zz2 HBW)) : w.heap.size ≤ gb102)); have GE102 := A_ ((Nat.le_trans HW0.out (by rw [hg]; exact (below_size (zz2 HBW)) : w.heap.size ≤ gb102) : w0.heap.size ≤ gb102)); replace HBW := A_ (bS HBW.out hb); clear hb hg))
  go_ret
  exact ⟨_, rfl, (show IsS68 w0 _ gb102 (l0.take 2000) 0 from ⟨_, _, (zz3 BK102), GE102.out, HR101.out⟩), (zz4 HB GE102), (zz4 HBW GW102)⟩
 ·have c2b0 := gtF c2
  have c2b1 : decide (2000 < l0.length) = false := dF (by omega);clear c2;simp only [Option.some.injEq, Prod.mk.injEq] at H
  obtain ⟨rfl, rfl⟩ := H;go_enter Tryz.func19, Tryz.ntmps19;go_wp2_with (first | (refine boxF 10 #[.slice A0 l0.length c0, .int .i64 0] 68 ?_; intro gb103 hg w6 BK103 hb; replace HB := A_ (bS (zz2 HB) hb); have GW103 := A_ ((by rw [hg]; exact (below_size (zz2 HBW)) : w.heap.size ≤ gb103)); have GE103 := A_ ((Nat.le_trans HW0.out (by rw [hg]; exact (below_size (zz2 HBW)) : w.heap.size ≤ gb103) : w0.heap.size ≤ gb103)); replace HBW := A_ (bS HBW.out hb); clear hb hg))
  go_ret
  exact ⟨_, rfl, (show IsS68 w0 _ gb103 l0 0 from ⟨_, _, (zz3 BK103), GE103.out, HR0.out⟩), (zz4 HB GE103), (zz4 HBW GW103)⟩
def spec_l6Rd_pick.j0 : Nat → Int → Bool → List Int → Int → Option (Int × Int)
 | 0, _, _, _, _ => none
 | k + 1, x1, x24, x1000, x1001 => if x24 = true then (some (0, x1001)) else (if (wrap64 (x1001 - 1)) < (x1000.length : Int) then (if 0 ≤ (wrap64 (x1001 - 1)) then (if x1 = 0 then (none) else (some (Int.tmod (wrap64 (rd x1000 (wrap64 (x1001 - 1)))) x1, x1001))) else (none)) else (if (x1000.length : Int) = 0 then (none) else (if 0 ≤ (Int.tmod (wrap64 (x1001 - 1)) (x1000.length : Int)) then (if (Int.tmod (wrap64 (x1001 - 1)) (x1000.length : Int)) < (x1000.length : Int) then (if 0 ≤ (Int.tmod (wrap64 ((wrap64 ((wrap64 (x1001 - 1)) * 7)) + 3)) (x1000.length : Int)) then (if (Int.tmod (wrap64 ((wrap64 ((wrap64 (x1001 - 1)) * 7)) + 3)) (x1000.length : Int)) < (x1000.length : Int) then (if x1 = 0 then (none) else (some (Int.tmod (Go.bits .xor .i64 (wrap64 ((wrap64 ((wrap64 ((wrap64 ((wrap64 (rd x1000 (Int.tmod (wrap64 (x1001 - 1)) (x1000.length : Int)))) * 131)) + (wrap64 ((wrap64 (rd x1000 (Int.tmod (wrap64 ((wrap64 ((wrap64 (x1001 - 1)) * 7)) + 3)) (x1000.length : Int)))) * 1117)))) + (wrap64 ((wrap64 (x1001 - 1)) * 29)))) + (wrap64 ((wrap64 (Int.tdiv (wrap64 (x1001 - 1)) (x1000.length : Int))) * 53)))) (wrap64 (Int.tdiv (wrap64 ((wrap64 ((wrap64 ((wrap64 ((wrap64 (rd x1000 (Int.tmod (wrap64 (x1001 - 1)) (x1000.length : Int)))) * 131)) + (wrap64 ((wrap64 (rd x1000 (Int.tmod (wrap64 ((wrap64 ((wrap64 (x1001 - 1)) * 7)) + 3)) (x1000.length : Int)))) * 1117)))) + (wrap64 ((wrap64 (x1001 - 1)) * 29)))) + (wrap64 ((wrap64 (Int.tdiv (wrap64 (x1001 - 1)) (x1000.length : Int))) * 53)))) 64))) x1, x1001))) else (none)) else (none)) else (none)) else (none))))
def spec_l6Rd_pick.f (k : Nat) (s0_0 : List Int) (s0_1 : Int) (a1 : Int) : Option (Int × Int) := if a1 < 1 then (spec_l6Rd_pick.j0 k a1 true s0_0 (wrap64 (s0_1 + 1))) else (spec_l6Rd_pick.j0 k a1 ((s0_0.length : Int) == 0) s0_0 (wrap64 (s0_1 + 1)))
theorem spec_l6Rd_pick.mono_l : ∀ k, (∀ y0 y1 y2 y3, LeO (spec_l6Rd_pick.j0 k y0 y1 y2 y3) (spec_l6Rd_pick.j0 (k + 1) y0 y1 y2 y3))
 | 0 => by intros; intro r h; simp [spec_l6Rd_pick.j0] at h
 | k + 1 => by
  have ih0 := spec_l6Rd_pick.mono_l k; intros; unfold spec_l6Rd_pick.j0;repeat' first | (with_reducible first | exact ih0 _ _ _ _ | exact LeO.refl _ | exact LeO.none _ | refine LeO.ite ?_ ?_ | refine LeO.bind ?_ (fun _ => ?_)) | exact LeO.none _ | refine LeO.ite ?_ ?_ | refine LeO.bind ?_ (fun _ => ?_)
theorem spec_l6Rd_pick.mono : ∀ a0 a1 a2 k, LeO (spec_l6Rd_pick.f k a0 a1 a2) (spec_l6Rd_pick.f (k + 1) a0 a1 a2) := by
 intro a0 a1 a2 k;have ih0 := spec_l6Rd_pick.mono_l k;unfold spec_l6Rd_pick.f
 repeat' first | (with_reducible first | exact ih0 _ _ _ _ | exact LeO.refl _ | exact LeO.none _ | refine LeO.ite ?_ ?_ | refine LeO.bind ?_ (fun _ => ?_)) | exact LeO.none _ | refine LeO.ite ?_ ?_ | refine LeO.bind ?_ (fun _ => ?_)
theorem spec_l6Rd_pick.calls (k : Nat) (g : Nat) (s0_0 : List Int) (s0_1 : Int) (a1 : Int) (r1 : Int) (r2 : Int) (w0 w : World) (hI : IsS68 w0 w g s0_0 s0_1) (hB : Below w0.heap.size w0 w) (h : spec_l6Rd_pick.f k s0_0 s0_1 a1 = some (r1, r2)) :
  Calls Tryz.prog 22 #[.pointer (some ⟨g, 0, none⟩), .int .i64 a1] w fun e w' => e = .returned (.int .i64 r1) ∧ IsS68 w0 w' g s0_0 r2 ∧ Below w0.heap.size w0 w' ∧ KeepBut w w' g none := by
 have HI0 := A_ hI;have HK := A_ (KeepBut.refl w g none);have HL := A_ hB.size;clear hI;have HW0 := A_ hB.size;have HB := A_ hB;clear hB;unfold spec_l6Rd_pick.f at h
 have H := h;clear h;have HC3 := A_ H;clear H;obtain ⟨ASz4_0, cSz4_0, HGz4, hgz4, HSz4_0⟩ := HI0.out;have hcz4_0 := cellS68_0 HGz4;have hcz4_1 := cellS68_1 HGz4;have hfz4_1 := blk_frozen HGz4 1;clear HGz4 hgz4;go_enter Tryz.func22, Tryz.ntmps22;go_upto_region 2 with (fail)
 repeat (go_quiet (fail); go_upto_region 2 with (fail))
 go_cut [24] (fun v24 wc => ∃ (kq : Nat) (x24_2 : Bool), v24 = .bool x24_2 ∧ Aside0 (spec_l6Rd_pick.j0 kq a1 x24_2 s0_0 (wrap64 (s0_1 + 1)) = some (r1, r2)) ∧ Aside0 (kq ≤ k) ∧ Aside0 (IsS68 w0 wc g s0_0 (wrap64 (s0_1 + 1))) ∧ Aside0 (KeepBut w wc g none) ∧ Aside0 (Below w0.heap.size w0 wc))
 case first =>
  obtain ⟨H⟩ := HC3;replace H := iteEd H;rcases H with ⟨c5b0, H⟩ | ⟨c5b0, H⟩
  ·(first | rw [c5b0] | (simp only [i64_w, i32_w]; rw [c5b0]) | skip)
   have H' := A_ H;clear H;go_wp2
   repeat (go_quiet (fail); try go_wp2)
   go_meet
   case rel => exact ⟨_, (true), zz5, H', ⟨zz6⟩, ⟨(zz7 HI0)⟩, ⟨(zz8 HK)⟩, ⟨(zz9 HB HI0)⟩⟩
  ·(first | rw [c5b0] | (simp only [i64_w, i32_w]; rw [c5b0]) | skip)
   have H' := A_ H;clear H;obtain ⟨ASz6_0, cSz6_0, HGz6, hgz6, HSz6_0⟩ := HI0.out;have hcz6_0 := cellS68_0 HGz6;have hcz6_1 := cellS68_1 HGz6;have hfz6_1 := blk_frozen HGz6 1;clear HGz6 hgz6;go_wp2
   repeat (go_quiet (fail); try go_wp2)
   go_meet
   case rel => exact ⟨_, (((s0_0.length : Int) == 0)), zz5, H', ⟨zz6⟩, ⟨(zz7 HI0)⟩, ⟨(zz8 HK)⟩, ⟨(zz9 HB HI0)⟩⟩
 case rest =>
  clear HC3;obtain ⟨kq, x24_2, rfl, HA, HJ2, HI0, HK, HB⟩ := hcut;cases kq with
  | zero => exact absurd HA.out (by simp [spec_l6Rd_pick.j0])
  | succ kj2 =>
   obtain ⟨H⟩ := HA;simp only [spec_l6Rd_pick.j0] at H
   replace H := iteB H;rcases H with ⟨rfl, H⟩ | ⟨rfl, H⟩
   ·simp only [Option.some.injEq, Prod.mk.injEq] at H
    obtain ⟨rfl, rfl⟩ := H;go_wp2
    repeat (go_quiet (fail); try go_wp2)
    go_ret
    exact ⟨zz11, (zz7 HI0), (zz9 HB HI0), (zz8 HK)⟩
   ·replace H := iteE H
    rcases H with ⟨c8, H⟩ | ⟨c8, H⟩
    ·have c8b0 := dT c8
     clear c8;obtain ⟨ji9, hji9⟩ : ∃ j_ : Int, (wrap64 ((wrap64 (s0_1 + 1)) - 1)) = j_ := ⟨_, rfl⟩;(first | rw [hji9] at H | simp only [hji9] at H)
     (try rw [hji9] at c8b0)
     have hji9w : (IntKind.i64.wrap ((wrap64 (s0_1 + 1)) - 1)) = ji9 := (i64_w _).trans hji9;replace H := iteNd H;obtain ⟨c10b0, H⟩ := H;replace H := iteM H;obtain ⟨c11, H⟩ := H;obtain ⟨c11b0, c11b1⟩ := eqF c11;simp only [Option.some.injEq, Prod.mk.injEq] at H
     obtain ⟨rfl, rfl⟩ := H;obtain ⟨ASz12_0, cSz12_0, HGz12, hgz12, HSz12_0⟩ := HI0.out;have hcz12_0 := cellS68_0 HGz12;have hcz12_1 := cellS68_1 HGz12;have hfz12_1 := blk_frozen HGz12 1;clear HGz12 hgz12;obtain ⟨⟨ad104, e104, hx104_0⟩, p104, q104⟩ := atB (Kd.at_int HSz12_0 (ji9));cases e104
     replace hx104_0 := pw_cell_below HB.out hx104_0;go_wp2
     repeat (go_quiet (fail); try go_wp2)
     go_ret
     exact ⟨zz12, (zz7 HI0), (zz9 HB HI0), (zz8 HK)⟩
    ·have c8b0 := dF c8
     clear c8;replace H := iteM H;obtain ⟨c13, H⟩ := H;obtain ⟨c13b0, c13b1⟩ := eqF c13;have c13b2 : ¬ (s0_0 = []) := fun h_ => c13 (by rw [h_]; rfl)
     obtain ⟨ji14, hji14⟩ : ∃ j_ : Int, (Int.tmod (wrap64 ((wrap64 (s0_1 + 1)) - 1)) (s0_0.length : Int)) = j_ := ⟨_, rfl⟩;(first | rw [hji14] at H | simp only [hji14] at H)
     replace H := iteE H;rcases H with ⟨c15, H⟩ | ⟨c15, H⟩
     ·have c15b0 := dT c15
      clear c15;replace H := iteNd H;obtain ⟨c16b0, H⟩ := H;obtain ⟨ji17, hji17⟩ : ∃ j_ : Int, (Int.tmod (wrap64 ((wrap64 ((wrap64 ((wrap64 (s0_1 + 1)) - 1)) * 7)) + 3)) (s0_0.length : Int)) = j_ := ⟨_, rfl⟩;(first | rw [hji17] at H | simp only [hji17] at H)
      replace H := iteNd H;obtain ⟨c18b0, H⟩ := H;replace H := iteNd H;obtain ⟨c19b0, H⟩ := H;replace H := iteM H;obtain ⟨c20, H⟩ := H;obtain ⟨c20b0, c20b1⟩ := eqF c20;simp only [Option.some.injEq, Prod.mk.injEq] at H
      obtain ⟨rfl, rfl⟩ := H;obtain ⟨ASz21_0, cSz21_0, HGz21, hgz21, HSz21_0⟩ := HI0.out;have hcz21_0 := cellS68_0 HGz21;have hcz21_1 := cellS68_1 HGz21;have hfz21_1 := blk_frozen HGz21 1;clear HGz21 hgz21;obtain ⟨⟨ad105, e105, hx105_0⟩, p105, q105⟩ := atB (Kd.at_int HSz21_0 (ji14));cases e105
      replace hx105_0 := pw_cell_below HB.out hx105_0;obtain ⟨⟨ad106, e106, hx106_0⟩, p106, q106⟩ := atB (Kd.at_int HSz21_0 (ji17));obtain rfl : ad105 = ad106 := (by injection e106);replace hx106_0 := pw_cell_below HB.out hx106_0;go_wp2
      repeat (go_quiet (fail); try go_wp2)
      go_ret
      exact ⟨(by first | rfl | (simp [errW_none, errW_some] <;> rfl) | (simp only [← hji14, ← hji17]; first | rfl | (simp [errW_none, errW_some] <;> rfl)) | (simp [*, errW_none, errW_some] <;> rfl)), (zz7 HI0), (zz9 HB HI0), (zz8 HK)⟩
     ·exact absurd H (by simp)
def spec_l6Rd_of.f (k : Nat) (s0_0 : List Int) (s0_1 : Int) (l1 : List ByteArray) : Option (ByteArray × Int) := (spec_l6Rd_pick.f k s0_0 s0_1 (l1.length : Int)).bind fun bt107 => (if 0 ≤ bt107.1 then (if bt107.1 < (l1.length : Int) then (some (rdOf ByteArray.empty l1 bt107.1, bt107.2)) else (none)) else (none))
theorem spec_l6Rd_of.mono : ∀ a0 a1 a2 k, LeO (spec_l6Rd_of.f k a0 a1 a2) (spec_l6Rd_of.f (k + 1) a0 a1 a2) := by
 intro a0 a1 a2 k;unfold spec_l6Rd_of.f
 repeat' first | (with_reducible first | exact spec_l6Rd_pick.mono _ _ _ _ | exact LeO.refl _ | exact LeO.none _ | refine LeO.ite ?_ ?_ | refine LeO.bind ?_ (fun _ => ?_)) | exact LeO.none _ | refine LeO.ite ?_ ?_ | refine LeO.bind ?_ (fun _ => ?_)
theorem spec_l6Rd_of.calls (k : Nat) (g : Nat) (s0_0 : List Int) (s0_1 : Int) (A1 : Option Addr) (c1 : Nat) (l1 : List ByteArray) (r1 : ByteArray) (r2 : Int) (w0 w : World) (hI : IsS68 w0 w g s0_0 s0_1) (hB : Below w0.heap.size w0 w) (hr1 : Kd.C Kd.string w A1 l1.length l1) (hc1 : l1.length ≤ c1) (hf1 : ∀ ad, A1 = some ad → 0 < l1.length → ad.block ≠ g) (h : spec_l6Rd_of.f k s0_0 s0_1 l1 = some (r1, r2)) :
  Calls Tryz.prog 41 #[.pointer (some ⟨g, 0, none⟩), .slice A1 l1.length c1] w fun e w' => e = .returned (.string r1) ∧ IsS68 w0 w' g s0_0 r2 ∧ Below w0.heap.size w0 w' ∧ KeepBut w w' g none := by
 have HR1 := A_ hr1;have HC1 := A_ hc1;clear hr1 hc1;have HI0 := A_ hI;have HK := A_ (KeepBut.refl w g none);have HL := A_ hB.size;clear hI;have HW0 := A_ hB.size;have HB := A_ hB;clear hB;unfold spec_l6Rd_of.f at h
 have H := h;clear h;replace H := bindA H;obtain ⟨⟨t107, t108⟩, A3, H⟩ := H;try dsimp only at H
 replace H := iteE H;rcases H with ⟨c4, H⟩ | ⟨c4, H⟩
 ·have c4b0 := dT c4
  clear c4;replace H := iteNd H;obtain ⟨c5b0, H⟩ := H;simp only [Option.some.injEq, Prod.mk.injEq] at H
  obtain ⟨rfl, rfl⟩ := H;go_enter Tryz.func41, Tryz.ntmps41;go_wp2_with (first | (refine gR 22 (some 9) Tryz.func22 (spec_l6Rd_pick.calls k g s0_0 s0_1 (l1.length : Int) t107 t108 w0 _ ?side1 ?side2 A3.out) ?_; (case side1 => exact (zz7 HI0)); (case side2 => exact (zz9 HB HI0)); rintro w6 ⟨hi, hb, hk⟩; replace HK := A_ (KeepBut.trans (zz8 HK) hk (.inl rfl)); replace HB := A_ (hb); replace HI0 := A_ (hi); (try clear hb hk hi); have p109 : 0 ≤ (t107 : Int) := ofD; have q109 : t107 < (l1.length : Int) := ofD; obtain ⟨ad109, e109, hx109_0⟩ := Kd.at_string HR1.out t107 p109 q109; cases e109; replace hx109_0 := keep_cell HK.out hx109_0 (by first | (rw [add_block]; exact hf1 _ rfl (by omega)) | exact hf1 _ rfl (by omega) | exact hf1 ad109 rfl (by omega)); replace p109 := eq_true p109; replace q109 := eq_true q109))
  go_ret
  exact ⟨zz11, (zz7 HI0), (zz9 HB HI0), (zz8 HK)⟩
 ·exact absurd H (by simp)
def spec_l6Dec.f : Nat → Int → Option (ByteArray)
 | 0, _ => none
 | k + 1, a0 => if a0 < (-9223372036854775807) then (some (⟨#[45, 57, 50, 50, 51, 51, 55, 50, 48, 51, 54, 56, 53, 52, 55, 55, 53, 56, 48, 56]⟩ : ByteArray)) else (if a0 < 0 then ((spec_l6Dec.f k (wrap64 (-a0))).bind fun t171 => (if 1 + t171.size ≤ 9223372036854775807 then (some ((⟨#[45]⟩ : ByteArray) ++ t171)) else (none))) else (if a0 < 10 then (some (strOfNums (([(wrap64 (48 + a0)) % 256] : List Int)))) else ((spec_l6Dec.f k (wrap64 (Int.tdiv a0 10))).bind fun t175 => ((some (([(wrap64 (48 + (Int.tmod a0 10))) % 256] : List Int) : List Int)).bind fun y176 => (if t175.size + (strOfNums y176).size ≤ 9223372036854775807 then (some (t175 ++ (strOfNums y176))) else (none))))))
theorem spec_l6Dec.mono_l : ∀ k, (∀ y0, LeO (spec_l6Dec.f k y0) (spec_l6Dec.f (k + 1) y0))
 | 0 => by intros; intro r h; simp [spec_l6Dec.f] at h
 | k + 1 => by
  have ih0 := spec_l6Dec.mono_l k; intros; unfold spec_l6Dec.f;repeat' first | (with_reducible first | exact ih0 _ | exact LeO.refl _ | exact LeO.none _ | refine LeO.ite ?_ ?_ | refine LeO.bind ?_ (fun _ => ?_)) | exact LeO.none _ | refine LeO.ite ?_ ?_ | refine LeO.bind ?_ (fun _ => ?_)
theorem spec_l6Dec.mono : ∀ a0 k, LeO (spec_l6Dec.f k a0) (spec_l6Dec.f (k + 1) a0) := by
 intro a0 k;have ih0 := spec_l6Dec.mono_l k;exact ih0 a0
def spec_l6Dec.T7 : Bool × List (List Nat × List Nat) := (true, [([], []), ([0], [0]), ([1], [1]), ([], []), ([3], [3]), ([4], [4]), ([5], [5]), ([6], [6]), ([7], [7]), ([2, 8], [2, 8]), ([9, 2, 0, 1, 2, 3, 4, 5, 6, 7, 8, 9], [9])])
def spec_l6Dec.B7 : List Nat := [0, 1, 3, 0, 8, 24, 56, 120, 248, 511, 1023]
theorem spec_l6Dec.tab7 : rtab .any (opsOf Tryz.f42 7) = spec_l6Dec.T7 := by kernel_rfl
theorem spec_l6Dec.bits7 : waitsOk spec_l6Dec.T7.2 spec_l6Dec.B7 = true := by kernel_rfl
theorem spec_l6Dec.calls (k : Nat) : ∀ (a0 : Int) (r : ByteArray) (w : World) (h : spec_l6Dec.f k a0 = some r),
  Calls Tryz.prog 42 #[.int .i64 a0] w fun e w' => e = .returned (.string r) ∧ Below w.heap.size w w' := by
 induction k using Nat.strongRecOn with
 | _ k ih =>
 intro a0 r w h;cases k with
 | zero => exact absurd h (by simp [spec_l6Dec.f])
 | succ k =>
 simp only [spec_l6Dec.f] at h
 have HB := A_ (Below.refl w.heap.size w);have H : (if a0 < (-9223372036854775807) then (some (⟨#[45, 57, 50, 50, 51, 51, 55, 50, 48, 51, 54, 56, 53, 52, 55, 55, 53, 56, 48, 56]⟩ : ByteArray)) else (if a0 < 0 then ((spec_l6Dec.f k (wrap64 (-a0))).bind fun t171 => (if 1 + t171.size ≤ 9223372036854775807 then (some ((⟨#[45]⟩ : ByteArray) ++ t171)) else (none))) else (if a0 < 10 then (some (strOfNums (([(wrap64 (48 + a0)) % 256] : List Int)))) else ((spec_l6Dec.f k (wrap64 (Int.tdiv a0 10))).bind fun t175 => ((some (([(wrap64 (48 + (Int.tmod a0 10))) % 256] : List Int) : List Int)).bind fun y176 => (if t175.size + (strOfNums y176).size ≤ 9223372036854775807 then (some (t175 ++ (strOfNums y176))) else (none))))))) = some r := h;clear h;replace H := iteEd H;rcases H with ⟨c2b0, H⟩ | ⟨c2b0, H⟩
 ·obtain rfl := sI H
  go_enter Tryz.func42, Tryz.ntmps42;go_wp2
  go_ret
  exact ⟨zz11, (zz2 HB)⟩
 ·replace H := iteEd H
  rcases H with ⟨c3b0, H⟩ | ⟨c3b0, H⟩
  ·replace H := Option.bind_eq_some_iff.mp H
   obtain ⟨t171, A40, H⟩ := H;replace H : (if 1 + t171.size ≤ 9223372036854775807 then (some ((⟨#[45]⟩ : ByteArray) ++ t171)) else (none)) = some r := H;have A4 := A_ A40;clear A40;replace H := iteN H;obtain ⟨c5, H⟩ := H;have c5b0 := eq_true c5;have c5b1 := dT c5;try have c5b2 : (9223372036854775807 < 1 + t171.size) = False := eq_false (Nat.not_lt.2 c5)
   obtain rfl := sI H;go_enter Tryz.func42, Tryz.ntmps42;go_wp2_with (first | (refine gR 42 (some 9) Tryz.func42 (ih k (by omega) (wrap64 (-a0)) t171 _ A4.out) ?_; rintro w6 hb; replace HB := A_ (bS (zz2 HB) hb); (try clear hb)))
   go_ret
   exact ⟨zz11, (zz2 HB)⟩
  ·replace H := iteEd H
   rcases H with ⟨c7b0, H⟩ | ⟨c7b0, H⟩
   ·obtain ⟨y172, hy172⟩ : ∃ y_ : List Int, y_ = (([(wrap64 (48 + a0)) % 256] : List Int)) := ⟨_, rfl⟩
    replace H : (some (strOfNums y172)) = some r := by first | (rw [hy172]; with_reducible exact H) | (have H2_ := (Option.bind_some _ _).symm.trans H; rw [hy172]; with_reducible exact H2_) | (have H2_ := (Option.bind_some _ _).symm.trans H; with_reducible exact H2_) | with_reducible exact H | (rw [hy172]; exact H) | exact H
    have Ny172 := A_ hy172;clear hy172;obtain rfl := sI H;go_enter Tryz.func42, Tryz.ntmps42;go_wp2_with (first | ((with_reducible refine gD (N := 16) rfl ?_); refine Kd.R_lit (Kd.int .u8) _ 5 ?hg (N := 16) ?hd (xs := ([(wrap64 (48 + a0)) % 256] : List Int)) (inner := [.int .u8 ((wrap64 (48 + a0)) % 256)]) (ok := fun _ => True) (okp := fun _ => True) ?hr ?hp (fun _ hk => hk) trivial (Below.refl _ _) (Nat.le_refl _) (by simp) ?_; (case hd => rfl); (case hg => rfl); (case hr => exact zz16); (case hp => exact (Reps.one (show Kd.M (Kd.int .u8) _ _ _ ((wrap64 (48 + a0)) % 256) [.int .u8 ((wrap64 (48 + a0)) % 256)] from rfl) (Reps.none _ _))); intro v173 w8 ho9 hb hg_ hnew_; clear hg_ hnew_; (first | rw [← Ny172.out] at ho9 | (simp only [Int.reduceToNat] at ho9; rw [← Ny172.out] at ho9)); have HO174 := A_ (Kd.R_lower ho9 (below_size (zz2 HB))); replace HB := A_ (bS (zz2 HB) hb); clear hb ho9; have hcv10 := own_string (P := Tryz.prog) Tryz.underlying22 Tryz.underlying5 Tryz.underlying9 (Kd.own_of_R HO174.out)))
    go_ret
    exact ⟨zz11, (zz2 HB)⟩
   ·replace H := Option.bind_eq_some_iff.mp H
    obtain ⟨t175, A110, H⟩ := H;replace H : ((some (([(wrap64 (48 + (Int.tmod a0 10))) % 256] : List Int) : List Int)).bind fun y176 => (if t175.size + (strOfNums y176).size ≤ 9223372036854775807 then (some (t175 ++ (strOfNums y176))) else (none))) = some r := H;have A11 := A_ A110;clear A110;obtain ⟨y176, Ny176⟩ := toY (([(wrap64 (48 + (Int.tmod a0 10))) % 256] : List Int));(first | with_reducible replace H := bindZ Ny176 H | rw [← Ny176.out] at H | skip)
    replace H := iteE H;rcases H with ⟨c12, H⟩ | ⟨c12, H⟩
    ·have c12b0 := eq_true c12
     have c12b1 := dT c12;try have c12b2 : (9223372036854775807 < t175.size + (strOfNums y176).size) = False := eq_false (Nat.not_lt.2 c12)
     obtain rfl := sI H;go_enter Tryz.func42, Tryz.ntmps42;try go_wp2
     replace HB := A_ (below_drew1 HB.out);refine start_ (n := 11) (S := fun w' => True) (ds := []) #[false, false, false, false, false, false, false, false, false, false, false] (by kernel_rfl) rfl rfl trivial (fun hHeld => ?_); refine with_tabW spec_l6Dec.tab7 spec_l6Dec.bits7 (fun HT_ HW_ => ?_);generalize w.drew = w13 at HB hHeld ⊢;refine pureZ 0 (some 18) #[true, false, false, false, false, false, false, false, false, false, false] ?_;refine pureZ 1 (some 19) #[true, true, false, false, false, false, false, false, false, false, false] ?_;refine pureZ 3 (some 21) #[true, true, false, true, false, false, false, false, false, false, false] ?_;refine pureZ 4 (some 22) #[true, true, false, true, true, false, false, false, false, false, false] ?_;refine pureZ 5 (some 23) #[true, true, false, true, true, true, false, false, false, false, false] ?_;refine pureZ 6 (some 24) #[true, true, false, true, true, true, true, false, false, false, false] ?_;refine join_ (σ := Value) 2 #[true, true, true, true, true, true, true, true, true, false, false] (fun s_ => [(20, .string t175), (25, s_), (26, .string (strOfNums y176))]) (fun s_ w' => (Kd.R (Kd.int .u8) 5 w' w.heap.size (fun _ => True) s_ y176) ∧ (Below w.heap.size w w')) ?_ ?_;rotate_left
     ·intro hCont
      refine two_ (i := 2) (j := 7) (Ni := some 20) (Nj := some 25) #[true, true, true, true, true, true, true, false, false, false, false] #[true, true, false, true, true, true, true, true, false, false, false] rfl rfl rfl rfl (two_of HT_.out (by kernel_rfl)) (by decide) (by decide) (fun K hK => ?_) (fun K hK => ?_)
      ·skip
       refine goes_ Tryz.func42 (by kernel_rfl) rfl #[.int .i64 (wrap64 (Int.tdiv a0 10))] (by rfl) rfl rfl zz17 ?_;with_reducible refine (ih k (by omega) (wrap64 (Int.tdiv a0 10)) t175 _ A11.out).mono ?_
       rintro e w14 ⟨rfl, hb⟩;refine ⟨_, rfl, ?_⟩;replace HB := A_ (bS (zz2 HB) hb);(try clear hb)
       (try clear hb2)
       (try clear hk)
       (try clear hi)
       refine hK.out _ _ trivial (fun hHeld => ?_);clear hK K;refine norm_ (a' := ?_) ?_ ?_;rotate_left
       ·show Act.put _ (some 20) _ = _
        simp only [Act.put, List.setIfInBounds_toArray, List.set_cons_zero, List.set_cons_succ, i64_w, i32_w]
        rfl
       refine one_ (i := 7) (N := some 25) #[true, true, true, true, true, true, true, true, false, false, false] rfl rfl (one_of HT_.out (by kernel_rfl)) (by decide) (fun K hK => ?_);refine Kd.R_lit_step (Kd.int .u8) _ 5 ?hg (N := 25) ?hd (xs := ([(wrap64 (48 + (Int.tmod a0 10))) % 256] : List Int)) (inner := [.int .u8 ((wrap64 (48 + (Int.tmod a0 10))) % 256)]) (ok := fun _ => True) (okp := fun _ => True) ?hr ?hp (fun _ hk => hk) trivial (Below.refl _ _) (Nat.le_refl _) (by simp) ?_; (case hd => rfl); (case hg => rfl); (case hr => exact zz16); (case hp => exact (Reps.one (show Kd.M (Kd.int .u8) _ _ _ ((wrap64 (48 + (Int.tmod a0 10))) % 256) [.int .u8 ((wrap64 (48 + (Int.tmod a0 10))) % 256)] from rfl) (Reps.none _ _)));intro v177 w15 ho16 hb hg_ hnew_;clear hg_ hnew_;(first | rw [← Ny176.out] at ho16 | (simp only [Int.reduceToNat] at ho16; rw [← Ny176.out] at ho16))
       have HO178 := A_ (Kd.R_lower ho16 (below_size (zz2 HB)));replace HB := A_ (bS (zz2 HB) hb);clear hb ho16;refine hK.out _ _ trivial (fun hHeld => ?_);clear hK K;refine norm_ (a' := ?_) ?_ ?_;rotate_left
       ·show Act.put _ (some 25) _ = _
        simp only [Act.put, List.setIfInBounds_toArray, List.set_cons_zero, List.set_cons_succ, i64_w, i32_w]
        rfl
       refine one_ (i := 8) (N := some 26) #[true, true, true, true, true, true, true, true, true, false, false] rfl rfl (one_of HT_.out (by kernel_rfl)) (by decide) (fun K hK => ?_);have hcv17 := own_string (P := Tryz.prog) Tryz.underlying22 Tryz.underlying5 Tryz.underlying9 (Kd.own_of_R HO178.out);refine value_ (w1 := ?_) (v := ?_) (by rfl) rfl ?_ ?_;rotate_left 2
       ·go_simp
        constructor
        ·rfl
        ·rfl
       clear hcv17;refine hK.out _ _ trivial (fun hHeld => ?_);clear hK K;refine norm_ (a' := ?_) ?_ ?_;rotate_left
       ·show Act.put _ (some 26) _ = _
        simp only [Act.put, List.setIfInBounds_toArray, List.set_cons_zero, List.set_cons_succ, i64_w, i32_w]
        rfl
       exact norm_ viaP (hCont (v177) _ ⟨(zz18 HO178), (zz2 HB)⟩)
      ·skip
       refine Kd.R_lit_step (Kd.int .u8) _ 5 ?hg (N := 25) ?hd (xs := ([(wrap64 (48 + (Int.tmod a0 10))) % 256] : List Int)) (inner := [.int .u8 ((wrap64 (48 + (Int.tmod a0 10))) % 256)]) (ok := fun _ => True) (okp := fun _ => True) ?hr ?hp (fun _ hk => hk) trivial (Below.refl _ _) (Nat.le_refl _) (by simp) ?_; (case hd => rfl); (case hg => rfl); (case hr => exact zz16); (case hp => exact (Reps.one (show Kd.M (Kd.int .u8) _ _ _ ((wrap64 (48 + (Int.tmod a0 10))) % 256) [.int .u8 ((wrap64 (48 + (Int.tmod a0 10))) % 256)] from rfl) (Reps.none _ _)));intro v177 w14 ho15 hb hg_ hnew_;clear hg_ hnew_;(first | rw [← Ny176.out] at ho15 | (simp only [Int.reduceToNat] at ho15; rw [← Ny176.out] at ho15))
       have HO178 := A_ (Kd.R_lower ho15 (below_size (zz2 HB)));replace HB := A_ (bS (zz2 HB) hb);clear hb ho15;refine hK.out _ _ trivial (fun hHeld => ?_);clear hK K;refine norm_ (a' := ?_) ?_ ?_;rotate_left
       ·show Act.put _ (some 25) _ = _
        simp only [Act.put, List.setIfInBounds_toArray, List.set_cons_zero, List.set_cons_succ, i64_w, i32_w]
        rfl
       refine two_ (i := 2) (j := 8) (Ni := some 20) (Nj := some 26) #[true, true, true, true, true, true, true, true, false, false, false] #[true, true, false, true, true, true, true, true, true, false, false] rfl rfl rfl rfl (two_of HT_.out (by kernel_rfl)) (by decide) (by decide) (fun K hK => ?_) (fun K hK => ?_)
       ·skip
        refine goes_ Tryz.func42 (by kernel_rfl) rfl #[.int .i64 (wrap64 (Int.tdiv a0 10))] (by rfl) rfl rfl zz17 ?_;with_reducible refine (ih k (by omega) (wrap64 (Int.tdiv a0 10)) t175 _ A11.out).mono ?_
        rintro e w16 ⟨rfl, hb⟩;refine ⟨_, rfl, ?_⟩;replace HO178 := A_ (rB (zz18 HO178) hb);replace HB := A_ (bS (zz2 HB) hb);(try clear hb)
        (try clear hb2)
        (try clear hk)
        (try clear hi)
        refine hK.out _ _ trivial (fun hHeld => ?_);clear hK K;refine norm_ (a' := ?_) ?_ ?_;rotate_left
        ·show Act.put _ (some 20) _ = _
         simp only [Act.put, List.setIfInBounds_toArray, List.set_cons_zero, List.set_cons_succ, i64_w, i32_w]
         rfl
        refine one_ (i := 8) (N := some 26) #[true, true, true, true, true, true, true, true, true, false, false] rfl rfl (one_of HT_.out (by kernel_rfl)) (by decide) (fun K hK => ?_);have hcv17 := own_string (P := Tryz.prog) Tryz.underlying22 Tryz.underlying5 Tryz.underlying9 (Kd.own_of_R HO178.out);refine value_ (w1 := ?_) (v := ?_) (by rfl) rfl ?_ ?_;rotate_left 2
        ·go_simp
         constructor
         ·rfl
         ·rfl
        clear hcv17;refine hK.out _ _ trivial (fun hHeld => ?_);clear hK K;refine norm_ (a' := ?_) ?_ ?_;rotate_left
        ·show Act.put _ (some 26) _ = _
         simp only [Act.put, List.setIfInBounds_toArray, List.set_cons_zero, List.set_cons_succ, i64_w, i32_w]
         rfl
        exact norm_ viaP (hCont (v177) _ ⟨(zz18 HO178), (zz2 HB)⟩)
       ·skip
        have hcv16 := own_string (P := Tryz.prog) Tryz.underlying22 Tryz.underlying5 Tryz.underlying9 (Kd.own_of_R HO178.out);refine value_ (w1 := ?_) (v := ?_) (by rfl) rfl ?_ ?_;rotate_left 2
        ·go_simp
         constructor
         ·rfl
         ·rfl
        clear hcv16;refine hK.out _ _ trivial (fun hHeld => ?_);clear hK K;refine norm_ (a' := ?_) ?_ ?_;rotate_left
        ·show Act.put _ (some 26) _ = _
         simp only [Act.put, List.setIfInBounds_toArray, List.set_cons_zero, List.set_cons_succ, i64_w, i32_w]
         rfl
        refine one_ (i := 2) (N := some 20) #[true, true, true, true, true, true, true, true, true, false, false] rfl rfl (one_of HT_.out (by kernel_rfl)) (by decide) (fun K hK => ?_);refine goes_ Tryz.func42 (by kernel_rfl) rfl #[.int .i64 (wrap64 (Int.tdiv a0 10))] (by rfl) rfl rfl zz17 ?_;with_reducible refine (ih k (by omega) (wrap64 (Int.tdiv a0 10)) t175 _ A11.out).mono ?_
        rintro e w17 ⟨rfl, hb⟩;refine ⟨_, rfl, ?_⟩;replace HO178 := A_ (rB (zz18 HO178) hb);replace HB := A_ (bS (zz2 HB) hb);(try clear hb)
        (try clear hb2)
        (try clear hk)
        (try clear hi)
        refine hK.out _ _ trivial (fun hHeld => ?_);clear hK K;refine norm_ (a' := ?_) ?_ ?_;rotate_left
        ·show Act.put _ (some 20) _ = _
         simp only [Act.put, List.setIfInBounds_toArray, List.set_cons_zero, List.set_cons_succ, i64_w, i32_w]
         rfl
        exact norm_ viaP (hCont (v177) _ ⟨(zz18 HO178), (zz2 HB)⟩)
     rintro v177 w18 ⟨h0_, h1_⟩;have n0_ : Aside0 (Kd.R (Kd.int .u8) 5 w18 w.heap.size (fun _ => True) v177 y176) := ⟨h0_⟩;have n1_ : Aside0 (Below w.heap.size w w18) := ⟨h1_⟩;clear HB;clear h0_ h1_;have HO178 := n0_;have HB := n1_;clear n0_ n1_;have hHeld := trivial;refine norm_ (a' := ?_) ?_ ?_;rotate_left
     ·simp only [putAll, Act.put, List.setIfInBounds_toArray, List.set_cons_zero, List.set_cons_succ]
      rfl
     refine pureZ 9 (some 27) #[true, true, true, true, true, true, true, true, true, true, false] ?_;refine pureZ 10 (some 2) #[true, true, true, true, true, true, true, true, true, true, true] ?_;refine done_ (done_of HT_.out (by kernel_rfl)) ?_;try go_wp2
     go_ret
     exact ⟨zz11, (zz2 HB)⟩
    ·exact absurd H (by simp)
def spec_l71Houses.f  : Option (List ByteArray) := some (([(⟨#[97, 98]⟩ : ByteArray), (⟨#[99, 100]⟩ : ByteArray), (⟨#[101]⟩ : ByteArray), (⟨#[102, 111, 120]⟩ : ByteArray)] : List ByteArray))
theorem spec_l71Houses.calls  (r : List ByteArray) (w : World) (h : spec_l71Houses.f  = some r) :
  Calls Tryz.prog 65 #[] w fun e w' => ∃ v0_ : Value, e = .returned (v0_) ∧ Kd.R Kd.string 9 w' w.heap.size (fun _ => True) v0_ r ∧ Below w.heap.size w w' := by
 have HB := A_ (Below.refl w.heap.size w);unfold spec_l71Houses.f at h
 have H := h;clear h;obtain ⟨y139, Ny139⟩ := toY (([(⟨#[97, 98]⟩ : ByteArray), (⟨#[99, 100]⟩ : ByteArray), (⟨#[101]⟩ : ByteArray), (⟨#[102, 111, 120]⟩ : ByteArray)] : List ByteArray));(first | with_reducible replace H := bindZ Ny139 H | rw [← Ny139.out] at H | skip)
 obtain rfl := sI H;go_enter Tryz.func65, Tryz.ntmps65;go_wp2_with (first | ((with_reducible refine gD (N := 1) rfl ?_); refine Kd.R_lit Kd.string _ 9 ?hg (N := 1) ?hd (xs := ([(⟨#[97, 98]⟩ : ByteArray), (⟨#[99, 100]⟩ : ByteArray), (⟨#[101]⟩ : ByteArray), (⟨#[102, 111, 120]⟩ : ByteArray)] : List ByteArray)) (inner := [.string (⟨#[97, 98]⟩ : ByteArray), .string (⟨#[99, 100]⟩ : ByteArray), .string (⟨#[101]⟩ : ByteArray), .string (⟨#[102, 111, 120]⟩ : ByteArray)]) (ok := fun _ => True) (okp := fun _ => True) ?hr ?hp (fun _ hk => hk) trivial (Below.refl _ _) (Nat.le_refl _) (by simp) ?_; (case hd => rfl); (case hg => rfl); (case hr => exact zz16); (case hp => exact (Reps.one (show Kd.M Kd.string _ _ _ (⟨#[97, 98]⟩ : ByteArray) [.string (⟨#[97, 98]⟩ : ByteArray)] from rfl) (Reps.one (show Kd.M Kd.string _ _ _ (⟨#[99, 100]⟩ : ByteArray) [.string (⟨#[99, 100]⟩ : ByteArray)] from rfl) (Reps.one (show Kd.M Kd.string _ _ _ (⟨#[101]⟩ : ByteArray) [.string (⟨#[101]⟩ : ByteArray)] from rfl) (Reps.one (show Kd.M Kd.string _ _ _ (⟨#[102, 111, 120]⟩ : ByteArray) [.string (⟨#[102, 111, 120]⟩ : ByteArray)] from rfl) (Reps.none _ _)))))); intro v140 w1 ho2 hb hg_ hnew_; clear hg_ hnew_; (first | rw [← Ny139.out] at ho2 | (simp only [Int.reduceToNat] at ho2; rw [← Ny139.out] at ho2)); have HO141 := A_ (Kd.R_lower ho2 (below_size (zz2 HB))); replace HB := A_ (bS (zz2 HB) hb); clear hb ho2))
 go_ret
 exact ⟨_, zz11, (zz18 HO141), (zz2 HB)⟩
def spec_l1Path.l0 : Nat → ByteArray → Int → ByteArray → List ByteArray → Bool → ByteArray → Option (ByteArray)
 | 0, _, _, _, _, _, _ => none
 | k + 1, x3, x4, x111000, x111001, x111002, x111003 => if x4 < (x111001.length : Int) then (if x4 > 0 then (if x3.size + 1 ≤ 9223372036854775807 then (if 0 ≤ x4 then (if x3.size + 1 + (rdOf ByteArray.empty x111001 x4).size ≤ 9223372036854775807 then (spec_l1Path.l0 k ((x3 ++ (⟨#[47]⟩ : ByteArray)) ++ (rdOf ByteArray.empty x111001 x4)) (wrap64 (x4 + 1)) x111000 x111001 x111002 x111003) else (none)) else (none)) else (none)) else (if 0 ≤ x4 then (if x3.size + (rdOf ByteArray.empty x111001 x4).size ≤ 9223372036854775807 then (spec_l1Path.l0 k (x3 ++ (rdOf ByteArray.empty x111001 x4)) (wrap64 (x4 + 1)) x111000 x111001 x111002 x111003) else (none)) else (none))) else (if x111002 = true then (if x3.size + 1 ≤ 9223372036854775807 then (if x3.size + 1 + x111003.size ≤ 9223372036854775807 then (some ((x3 ++ (⟨#[63]⟩ : ByteArray)) ++ x111003)) else (none)) else (none)) else (some x3))
def spec_l1Path.f (k : Nat) (a0_0 : ByteArray) (l0_1 : List ByteArray) (a0_2 : Bool) (a0_3 : ByteArray) : Option (ByteArray) := spec_l1Path.l0 k (⟨#[47]⟩ : ByteArray) 0 a0_0 l0_1 a0_2 a0_3
theorem spec_l1Path.mono_l : ∀ k, (∀ y0 y1 y2 y3 y4 y5, LeO (spec_l1Path.l0 k y0 y1 y2 y3 y4 y5) (spec_l1Path.l0 (k + 1) y0 y1 y2 y3 y4 y5))
 | 0 => by intros; intro r h; simp [spec_l1Path.l0] at h
 | k + 1 => by
  have ih0 := spec_l1Path.mono_l k; intros; unfold spec_l1Path.l0;repeat' first | (with_reducible first | exact ih0 _ _ _ _ _ _ | exact LeO.refl _ | exact LeO.none _ | refine LeO.ite ?_ ?_ | refine LeO.bind ?_ (fun _ => ?_)) | exact LeO.none _ | refine LeO.ite ?_ ?_ | refine LeO.bind ?_ (fun _ => ?_)
theorem spec_l1Path.mono : ∀ a0 a1 a2 a3 k, LeO (spec_l1Path.f k a0 a1 a2 a3) (spec_l1Path.f (k + 1) a0 a1 a2 a3) := by
 intro a0 a1 a2 a3 k;have ih0 := spec_l1Path.mono_l k;unfold spec_l1Path.f
 repeat' first | (with_reducible first | exact ih0 _ _ _ _ _ _ | exact LeO.refl _ | exact LeO.none _ | refine LeO.ite ?_ ?_ | refine LeO.bind ?_ (fun _ => ?_)) | exact LeO.none _ | refine LeO.ite ?_ ?_ | refine LeO.bind ?_ (fun _ => ?_)
theorem spec_l1Path.calls (k : Nat) (a0_0 : ByteArray) (A0_1 : Option Addr) (c0_1 : Nat) (l0_1 : List ByteArray) (a0_2 : Bool) (a0_3 : ByteArray) (r : ByteArray) (w : World) (hr0_1 : Kd.C Kd.string w A0_1 l0_1.length l0_1) (hc0_1 : l0_1.length ≤ c0_1) (h : spec_l1Path.f k a0_0 l0_1 a0_2 a0_3 = some r) :
  Calls Tryz.prog 100 #[.agg #[.string a0_0, .slice A0_1 l0_1.length c0_1, .bool a0_2, .string a0_3]] w fun e w' => e = .returned (.string r) ∧ Below w.heap.size w w' := by
 have hu39 := Tryz.underlying39;have HR0_1 := A_ hr0_1;have HC0_1 := A_ hc0_1;clear hr0_1 hc0_1;have HB := A_ (Below.refl w.heap.size w);unfold spec_l1Path.f at h
 have H := h;clear h;have H' := A_ H;clear H;go_enter Tryz.func100, Tryz.ntmps100;go_wp2_with (first | (refine boxF 1 #[.string a0_0, .slice A0_1 l0_1.length c0_1, .bool a0_2, .string a0_3] 39 ?_; intro gb110 hg w2 BK110 hb; have GE110 := geB hg (zz2 HB); replace HB := A_ (bS (zz2 HB) hb); clear hb hg))
 go_loopg [3, 4] k (fun kq v3 v4 w' => ∃ (x3_1 : ByteArray) (x4_1 : Int), v3 = .string x3_1 ∧ v4 = .int .i64 x4_1 ∧ Aside0 (spec_l1Path.l0 kq x3_1 x4_1 a0_0 l0_1 a0_2 a0_3 = some r) ∧ Aside0 (kq ≤ k) ∧ Aside0 (w'.heap[gb110]? = some (.cells #[.string a0_0, (.slice A0_1 l0_1.length c0_1), .bool a0_2, .string a0_3] 39 (0, 0))) ∧ Aside0 (Below w.heap.size w w'))
 case atStart => exact ⟨((⟨#[47]⟩ : ByteArray)), (0), zz5, zz5, H', ⟨Nat.le_refl _⟩, ⟨(zz3 BK110)⟩, ⟨(zz4 HB GE110)⟩⟩
 case round =>
  clear H';obtain ⟨x3_1, x4_1, rfl, rfl, HA, HK1, BK110, HB⟩ := hrel;cases gk with
  | zero => exact absurd HA.out (by simp [spec_l1Path.l0])
  | succ k1 =>
   obtain ⟨H⟩ := HA;simp only [spec_l1Path.l0] at H
   replace H := iteEd H;rcases H with ⟨c3b0, H⟩ | ⟨c3b0, H⟩
   ·replace H := iteEg H
    rcases H with ⟨c4b0, H⟩ | ⟨c4b0, H⟩
    ·replace H := iteN H
     obtain ⟨c5, H⟩ := H;have c5b0 := eq_true c5;have c5b1 := dT c5;try have c5b2 : (9223372036854775807 < x3_1.size + 1) = False := eq_false (Nat.not_lt.2 c5)
     replace H := iteNd H;obtain ⟨c6b0, H⟩ := H;replace H := iteN H;obtain ⟨c7, H⟩ := H;have c7b0 := eq_true c7;have c7b1 := dT c7;try have c7b2 : (9223372036854775807 < x3_1.size + 1 + (rdOf ByteArray.empty l0_1 x4_1).size) = False := eq_false (Nat.not_lt.2 c7)
     have H' := A_ H;clear H;obtain ⟨_, _, _, _, _, _, _, _⟩ := cf4 BK110;obtain ⟨⟨ad111, e111, hx111_0⟩, p111, q111⟩ := atB (Kd.at_string HR0_1.out x4_1);cases e111
     replace hx111_0 := cbl HB hx111_0;go_wp2
     go_roundg k1
     case measure => have := HK1.out; omega
     case rel => exact ⟨((x3_1 ++ (⟨#[47]⟩ : ByteArray)) ++ (rdOf ByteArray.empty l0_1 x4_1)), (wrap64 (x4_1 + 1)), zz5, zz5, H', ⟨(zz20 HK1)⟩, ⟨(zz3 BK110)⟩, ⟨(zz4 HB GE110)⟩⟩
    ·replace H := iteNd H
     obtain ⟨c9b0, H⟩ := H;replace H := iteN H;obtain ⟨c10, H⟩ := H;have c10b0 := eq_true c10;have c10b1 := dT c10;try have c10b2 : (9223372036854775807 < x3_1.size + (rdOf ByteArray.empty l0_1 x4_1).size) = False := eq_false (Nat.not_lt.2 c10)
     have H' := A_ H;clear H;obtain ⟨_, _, _, _, _, _, _, _⟩ := cf4 BK110;obtain ⟨⟨ad112, e112, hx112_0⟩, p112, q112⟩ := atB (Kd.at_string HR0_1.out x4_1);cases e112
     replace hx112_0 := cbl HB hx112_0;go_wp2
     go_roundg k1
     case measure => have := HK1.out; omega
     case rel => exact ⟨(x3_1 ++ (rdOf ByteArray.empty l0_1 x4_1)), (wrap64 (x4_1 + 1)), zz5, zz5, H', ⟨(zz20 HK1)⟩, ⟨(zz3 BK110)⟩, ⟨(zz4 HB GE110)⟩⟩
   ·replace H := iteB H
    rcases H with ⟨rfl, H⟩ | ⟨rfl, H⟩
    ·replace H := iteN H
     obtain ⟨c13, H⟩ := H;have c13b0 := eq_true c13;have c13b1 := dT c13;try have c13b2 : (9223372036854775807 < x3_1.size + 1) = False := eq_false (Nat.not_lt.2 c13)
     replace H := iteN H;obtain ⟨c14, H⟩ := H;have c14b0 := eq_true c14;have c14b1 := dT c14;try have c14b2 : (9223372036854775807 < x3_1.size + 1 + a0_3.size) = False := eq_false (Nat.not_lt.2 c14)
     obtain rfl := sI H;obtain ⟨_, _, _, _, _, _, _, _⟩ := cf4 BK110;go_wp2
     go_ret
     exact ⟨zz11, (zz4 HB GE110)⟩
    ·obtain rfl := sI H
     obtain ⟨_, _, _, _, _, _, _, _⟩ := cf4 BK110;go_wp2
     go_ret
     exact ⟨zz11, (zz4 HB GE110)⟩
def spec_l1Text.f (k : Nat) (a0_0 : ByteArray) (l0_1 : List ByteArray) (a0_2 : Bool) (a0_3 : ByteArray) : Option (ByteArray) := if 2 + a0_0.size ≤ 9223372036854775807 then ((spec_l1Path.f k a0_0 l0_1 a0_2 a0_3).bind fun t114 => (if 2 + a0_0.size + t114.size ≤ 9223372036854775807 then (some (((⟨#[47, 47]⟩ : ByteArray) ++ a0_0) ++ t114)) else (none))) else (none)
theorem spec_l1Text.mono : ∀ a0 a1 a2 a3 k, LeO (spec_l1Text.f k a0 a1 a2 a3) (spec_l1Text.f (k + 1) a0 a1 a2 a3) := by
 intro a0 a1 a2 a3 k;unfold spec_l1Text.f
 repeat' first | (with_reducible first | exact spec_l1Path.mono _ _ _ _ _ | exact LeO.refl _ | exact LeO.none _ | refine LeO.ite ?_ ?_ | refine LeO.bind ?_ (fun _ => ?_)) | exact LeO.none _ | refine LeO.ite ?_ ?_ | refine LeO.bind ?_ (fun _ => ?_)
theorem spec_l1Text.calls (k : Nat) (a0_0 : ByteArray) (A0_1 : Option Addr) (c0_1 : Nat) (l0_1 : List ByteArray) (a0_2 : Bool) (a0_3 : ByteArray) (r : ByteArray) (w : World) (hr0_1 : Kd.C Kd.string w A0_1 l0_1.length l0_1) (hc0_1 : l0_1.length ≤ c0_1) (h : spec_l1Text.f k a0_0 l0_1 a0_2 a0_3 = some r) :
  Calls Tryz.prog 73 #[.agg #[.string a0_0, .slice A0_1 l0_1.length c0_1, .bool a0_2, .string a0_3]] w fun e w' => e = .returned (.string r) ∧ Below w.heap.size w w' := by
 have hu39 := Tryz.underlying39;have HR0_1 := A_ hr0_1;have HC0_1 := A_ hc0_1;clear hr0_1 hc0_1;have HB := A_ (Below.refl w.heap.size w);unfold spec_l1Text.f at h
 have H := h;clear h;replace H := iteE H;rcases H with ⟨c2, H⟩ | ⟨c2, H⟩
 ·have c2b0 := eq_true c2
  have c2b1 := dT c2;try have c2b2 : (9223372036854775807 < 2 + a0_0.size) = False := eq_false (Nat.not_lt.2 c2)
  replace H := bindA H;obtain ⟨t114, A3, H⟩ := H;replace H := iteN H;obtain ⟨c4, H⟩ := H;have c4b0 := eq_true c4;have c4b1 := dT c4;try have c4b2 : (9223372036854775807 < 2 + a0_0.size + t114.size) = False := eq_false (Nat.not_lt.2 c4)
  obtain rfl := sI H;go_enter Tryz.func73, Tryz.ntmps73;try go_wp2_with (first | (refine boxF 1 #[.string a0_0, .slice A0_1 l0_1.length c0_1, .bool a0_2, .string a0_3] 39 ?_; intro gb113 hg w5 BK113 hb; have GE113 := geB hg (zz2 HB); replace HB := A_ (bS (zz2 HB) hb); clear hb hg))
  replace BK113 := A_ (blk_drew BK113.out);replace HB := A_ (below_drew1 HB.out);refine start_ (n := 7) (S := fun w' => w'.cell? ⟨gb113, 0, none⟩ = some (.string a0_0) ∧ w'.cell? ⟨gb113, 1, none⟩ = some (.slice A0_1 l0_1.length c0_1) ∧ w'.cell? ⟨gb113, 2, none⟩ = some (.bool a0_2) ∧ w'.cell? ⟨gb113, 3, none⟩ = some (.string a0_3)) (ds := []) #[false, false, false, false, false, false, false] (by kernel_rfl) rfl rfl ⟨(blk_cell BK113.out 0).trans rfl, (blk_cell BK113.out 1).trans rfl, (blk_cell BK113.out 2).trans rfl, (blk_cell BK113.out 3).trans rfl⟩ (fun hHeld => ?_);generalize w5.drew = w6 at BK113 HB hHeld ⊢;refine pureY 0 (some 3) #[true, false, false, false, false, false, false] ?_;refine takeY4 1 (some 4) #[true, true, false, false, false, false, false] hHeld ?_;refine pureY 2 (some 5) #[true, true, true, false, false, false, false] ?_;refine takeY4 3 (some 6) #[true, true, true, true, false, false, false] hHeld ?_;refine one_ (i := 4) (N := some 7) #[true, true, true, true, true, false, false] rfl rfl (by kernel_rfl) (by decide) (fun K hK => ?_);refine goes_ Tryz.func100 (by kernel_rfl) rfl #[.agg #[.string a0_0, .slice A0_1 l0_1.length c0_1, .bool a0_2, .string a0_3]] (by rfl) rfl rfl zz17 ?_;with_reducible refine (spec_l1Path.calls k a0_0 _ _ l0_1 a0_2 a0_3 t114 _ ?side1 ?side2 A3.out).mono ?_
  (case side1 => exact (zz21 HR0_1 HB))
  (case side2 => exact HC0_1.out)
  rintro e w7 ⟨rfl, hb⟩;refine ⟨_, rfl, ?_⟩;replace BK113 := A_ (bB (zz3 BK113) hb);replace HB := A_ (bS (zz4 HB GE113) hb);(try clear hb)
  (try clear hb2)
  (try clear hk)
  (try clear hi)
  refine hK.out _ _ ⟨(blk_cell BK113.out 0).trans rfl, (blk_cell BK113.out 1).trans rfl, (blk_cell BK113.out 2).trans rfl, (blk_cell BK113.out 3).trans rfl⟩ (fun hHeld => ?_);clear hK K;refine norm_ (a' := ?_) ?_ ?_;rotate_left
  ·show Act.put _ (some 7) _ = _
   simp only [Act.put, List.setIfInBounds_toArray, List.set_cons_zero, List.set_cons_succ, i64_w, i32_w]
   rfl
  refine pureY 5 (some 8) #[true, true, true, true, true, true, false] ?_;refine pureY 6 (some 2) #[true, true, true, true, true, true, true] ?_;refine done_ (by kernel_rfl) ?_;try go_wp2
  go_ret
  exact ⟨zz11, (zz4 HB GE113)⟩
 ·exact absurd H (by simp)
def spec_l6In.f (a0 : Int) (a1 : Int) (a2 : Int) : Option (Bool) := if a0 ≥ a1 then (some (decide (a0 ≤ a2))) else (some false)
theorem spec_l6In.calls (a0 : Int) (a1 : Int) (a2 : Int) (r : Bool) (w : World) (h : spec_l6In.f a0 a1 a2 = some r) :
  Calls Tryz.prog 27 #[.int .i64 a0, .int .i64 a1, .int .i64 a2] w fun e w' => e = .returned (.bool r) ∧ Drawn0 w w' := by
 unfold spec_l6In.f at h
 have H := h;clear h;replace H := iteEe H;rcases H with ⟨c4b0, H⟩ | ⟨c4b0, H⟩
 ·obtain rfl := sI H
  go_enter Tryz.func27, Tryz.ntmps27;go_wp2
  go_ret
  exact ⟨zz5, zz22⟩
 ·obtain rfl := sI H
  go_enter Tryz.func27, Tryz.ntmps27;go_wp2
  go_ret
  exact ⟨zz5, zz22⟩
def spec_l1House.l0 : Nat → ByteArray → Int → Option (Bool)
 | 0, _, _ => none
 | k + 1, x0, x3 => if x3 < (x0.size : Int) then (if 0 ≤ x3 then (if (bt x0 x3) < 97 then (some false) else (if (bt x0 x3) > 122 then (some false) else (spec_l1House.l0 k x0 (wrap64 (x3 + 1))))) else (none)) else ((spec_l6In.f (x0.size : Int) 1 5).bind fun t115 => (some t115))
def spec_l1House.f (k : Nat) (a0 : ByteArray) : Option (Bool) := spec_l1House.l0 k a0 0
theorem spec_l1House.mono_l : ∀ k, (∀ y0 y1, LeO (spec_l1House.l0 k y0 y1) (spec_l1House.l0 (k + 1) y0 y1))
 | 0 => by intros; intro r h; simp [spec_l1House.l0] at h
 | k + 1 => by
  have ih0 := spec_l1House.mono_l k; intros; unfold spec_l1House.l0;repeat' first | (with_reducible first | exact ih0 _ _ | exact LeO.refl _ | exact LeO.none _ | refine LeO.ite ?_ ?_ | refine LeO.bind ?_ (fun _ => ?_)) | exact LeO.none _ | refine LeO.ite ?_ ?_ | refine LeO.bind ?_ (fun _ => ?_)
theorem spec_l1House.mono : ∀ a0 k, LeO (spec_l1House.f k a0) (spec_l1House.f (k + 1) a0) := by
 intro a0 k;have ih0 := spec_l1House.mono_l k;unfold spec_l1House.f
 repeat' first | (with_reducible first | exact ih0 _ _ | exact LeO.refl _ | exact LeO.none _ | refine LeO.ite ?_ ?_ | refine LeO.bind ?_ (fun _ => ?_)) | exact LeO.none _ | refine LeO.ite ?_ ?_ | refine LeO.bind ?_ (fun _ => ?_)
theorem spec_l1House.calls (k : Nat) (a0 : ByteArray) (r : Bool) (w : World) (h : spec_l1House.f k a0 = some r) :
  Calls Tryz.prog 98 #[.string a0] w fun e w' => e = .returned (.bool r) ∧ Drawn0 w w' := by
 unfold spec_l1House.f at h
 have H := h;clear h;have H' := A_ H;clear H;go_enter Tryz.func98, Tryz.ntmps98;go_wp2
 go_loopg [3] k (fun kq v3 w' => ∃ (x3_1 : Int), v3 = .int .i64 x3_1 ∧ Aside0 (spec_l1House.l0 kq a0 x3_1 = some r) ∧ Aside0 (kq ≤ k) ∧ Drawn0 w w')
 case atStart => exact ⟨(0), zz5, H', ⟨Nat.le_refl _⟩, zz22⟩
 case round =>
  clear H';obtain ⟨x3_1, rfl, HA, HK1, ⟨m1, rfl⟩⟩ := hrel;cases gk with
  | zero => exact absurd HA.out (by simp [spec_l1House.l0])
  | succ k1 =>
   obtain ⟨H⟩ := HA;simp only [spec_l1House.l0] at H
   replace H := iteEd H;rcases H with ⟨c2b0, H⟩ | ⟨c2b0, H⟩
   ·replace H := iteNd H
    obtain ⟨c3b0, H⟩ := H;replace H := iteEd H;rcases H with ⟨c5b0, H⟩ | ⟨c5b0, H⟩
    ·obtain rfl := sI H
     have p4 : 0 ≤ (x3_1 : Int) := ofD;have q4 : x3_1 < (a0.size : Int) := ofD;have hx4 := bt_at a0 x3_1;replace p4 := eq_true p4;replace q4 := eq_true q4;go_wp2
     go_ret
     exact ⟨zz5, zz22⟩
    ·replace H := iteEg H
     rcases H with ⟨c7b0, H⟩ | ⟨c7b0, H⟩
     ·obtain rfl := sI H
      have p4 : 0 ≤ (x3_1 : Int) := ofD;have q4 : x3_1 < (a0.size : Int) := ofD;have hx4 := bt_at a0 x3_1;replace p4 := eq_true p4;replace q4 := eq_true q4;have p6 : 0 ≤ (x3_1 : Int) := ofD;have q6 : x3_1 < (a0.size : Int) := ofD;have hx6 := bt_at a0 x3_1;replace p6 := eq_true p6;replace q6 := eq_true q6;go_wp2
      go_ret
      exact ⟨zz5, zz22⟩
     ·have H' := A_ H
      clear H;have p4 : 0 ≤ (x3_1 : Int) := ofD;have q4 : x3_1 < (a0.size : Int) := ofD;have hx4 := bt_at a0 x3_1;replace p4 := eq_true p4;replace q4 := eq_true q4;have p6 : 0 ≤ (x3_1 : Int) := ofD;have q6 : x3_1 < (a0.size : Int) := ofD;have hx6 := bt_at a0 x3_1;replace p6 := eq_true p6;replace q6 := eq_true q6;go_wp2
      go_roundg k1
      case measure => have := HK1.out; omega
      case rel => exact ⟨(wrap64 (x3_1 + 1)), zz5, H', ⟨(zz20 HK1)⟩, zz22⟩
   ·replace H := Option.bind_eq_some_iff.mp H
    obtain ⟨t115, A80, H⟩ := H;replace H : (some t115) = some r := H;have A8 := A_ A80;clear A80;obtain rfl := sI H;go_wp2_with (first | (refine gR 27 (some 22) Tryz.func27 (spec_l6In.calls (a0.size : Int) 1 5 t115 _ A8.out) ?_; rintro w' ⟨nd, rfl⟩))
    go_ret
    exact ⟨zz5, zz22⟩
def spec_l1Plain.f (a0 : Int) : Option (Bool) := if a0 ≥ 97 then (if a0 ≤ 122 then (some true) else (if a0 ≥ 48 then (if a0 ≤ 57 then (some true) else (if a0 = 46 then (some true) else (some (a0 == 45)))) else (if a0 = 46 then (some true) else (some (a0 == 45))))) else (if a0 ≥ 48 then (if a0 ≤ 57 then (some true) else (if a0 = 46 then (some true) else (some (a0 == 45)))) else (if a0 = 46 then (some true) else (some (a0 == 45))))
theorem spec_l1Plain.calls (a0 : Int) (r : Bool) (w : World) (h : spec_l1Plain.f a0 = some r) :
  Calls Tryz.prog 130 #[.int .u8 a0] w fun e w' => e = .returned (.bool r) ∧ Drawn0 w w' := by
 unfold spec_l1Plain.f at h
 have H := h;clear h;replace H := iteEe H;rcases H with ⟨c2b0, H⟩ | ⟨c2b0, H⟩
 ·replace H := iteEd H
  rcases H with ⟨c3b0, H⟩ | ⟨c3b0, H⟩
  ·obtain rfl := sI H
   go_enter Tryz.func130, Tryz.ntmps130;go_wp2
   go_ret
   exact ⟨zz5, zz22⟩
  ·replace H := iteEe H
   rcases H with ⟨c4b0, H⟩ | ⟨c4b0, H⟩
   ·replace H := iteEd H
    rcases H with ⟨c5b0, H⟩ | ⟨c5b0, H⟩
    ·obtain rfl := sI H
     go_enter Tryz.func130, Tryz.ntmps130;go_wp2
     go_ret
     exact ⟨zz5, zz22⟩
    ·replace H := iteEq H
     rcases H with ⟨c6b0, c6b1, H⟩ | ⟨c6b0, c6b1, c6, H⟩
     ·obtain rfl := sI H
      go_enter Tryz.func130, Tryz.ntmps130;go_wp2
      go_ret
      exact ⟨zz5, zz22⟩
     ·obtain rfl := sI H
      go_enter Tryz.func130, Tryz.ntmps130;go_wp2
      go_ret
      exact ⟨zz5, zz22⟩
   ·replace H := iteEq H
    rcases H with ⟨c7b0, c7b1, H⟩ | ⟨c7b0, c7b1, c7, H⟩
    ·obtain rfl := sI H
     go_enter Tryz.func130, Tryz.ntmps130;go_wp2
     go_ret
     exact ⟨zz5, zz22⟩
    ·obtain rfl := sI H
     go_enter Tryz.func130, Tryz.ntmps130;go_wp2
     go_ret
     exact ⟨zz5, zz22⟩
 ·replace H := iteEe H
  rcases H with ⟨c8b0, H⟩ | ⟨c8b0, H⟩
  ·replace H := iteEd H
   rcases H with ⟨c9b0, H⟩ | ⟨c9b0, H⟩
   ·obtain rfl := sI H
    go_enter Tryz.func130, Tryz.ntmps130;go_wp2
    go_ret
    exact ⟨zz5, zz22⟩
   ·replace H := iteEq H
    rcases H with ⟨c10b0, c10b1, H⟩ | ⟨c10b0, c10b1, c10, H⟩
    ·obtain rfl := sI H
     go_enter Tryz.func130, Tryz.ntmps130;go_wp2
     go_ret
     exact ⟨zz5, zz22⟩
    ·obtain rfl := sI H
     go_enter Tryz.func130, Tryz.ntmps130;go_wp2
     go_ret
     exact ⟨zz5, zz22⟩
  ·replace H := iteEq H
   rcases H with ⟨c11b0, c11b1, H⟩ | ⟨c11b0, c11b1, c11, H⟩
   ·obtain rfl := sI H
    go_enter Tryz.func130, Tryz.ntmps130;go_wp2
    go_ret
    exact ⟨zz5, zz22⟩
   ·obtain rfl := sI H
    go_enter Tryz.func130, Tryz.ntmps130;go_wp2
    go_ret
    exact ⟨zz5, zz22⟩
mutual
def spec_l1Hex.j0 : Nat → Int → Bool → Option (Int)
 | 0, _, _ => none
 | k + 1, x0, x3 => if x3 = true then (some ((x0 - 48) % 256)) else (if x0 ≥ 97 then (spec_l1Hex.j1 k x0 (decide (x0 ≤ 102))) else (spec_l1Hex.j1 k x0 false))
def spec_l1Hex.j1 : Nat → Int → Bool → Option (Int)
 | 0, _, _ => none
 | k + 1, x0, x13 => if x13 = true then (some (((x0 - 97) % 256) + 10)) else (if x0 ≥ 65 then (if x0 ≤ 70 then (some (((x0 - 65) % 256) + 10)) else (some (-1))) else (some (-1)))
end
def spec_l1Hex.f (k : Nat) (a0 : Int) : Option (Int) := if a0 ≥ 48 then (spec_l1Hex.j0 k a0 (decide (a0 ≤ 57))) else (spec_l1Hex.j0 k a0 false)
theorem spec_l1Hex.mono_l : ∀ k, (∀ y0 y1, LeO (spec_l1Hex.j0 k y0 y1) (spec_l1Hex.j0 (k + 1) y0 y1)) ∧ (∀ y0 y1, LeO (spec_l1Hex.j1 k y0 y1) (spec_l1Hex.j1 (k + 1) y0 y1))
 | 0 => by refine ⟨?_, ?_⟩ <;> (intros; intro r h; simp [spec_l1Hex.j0, spec_l1Hex.j1] at h)
 | k + 1 => by
  obtain ⟨ih0, ih1⟩ := spec_l1Hex.mono_l k;refine ⟨?_, ?_⟩ <;> intros <;> (first | unfold spec_l1Hex.j0 | unfold spec_l1Hex.j1) <;>
  repeat' first | (with_reducible first | exact ih0 _ _ | exact ih1 _ _ | exact LeO.refl _ | exact LeO.none _ | refine LeO.ite ?_ ?_ | refine LeO.bind ?_ (fun _ => ?_)) | exact LeO.none _ | refine LeO.ite ?_ ?_ | refine LeO.bind ?_ (fun _ => ?_)
theorem spec_l1Hex.mono : ∀ a0 k, LeO (spec_l1Hex.f k a0) (spec_l1Hex.f (k + 1) a0) := by
 intro a0 k;obtain ⟨ih0, ih1⟩ := spec_l1Hex.mono_l k;unfold spec_l1Hex.f
 repeat' first | (with_reducible first | exact ih0 _ _ | exact ih1 _ _ | exact LeO.refl _ | exact LeO.none _ | refine LeO.ite ?_ ?_ | refine LeO.bind ?_ (fun _ => ?_)) | exact LeO.none _ | refine LeO.ite ?_ ?_ | refine LeO.bind ?_ (fun _ => ?_)
theorem spec_l1Hex.calls (k : Nat) (a0 : Int) (r : Int) (w : World) (h : spec_l1Hex.f k a0 = some r) :
  Calls Tryz.prog 131 #[.int .u8 a0] w fun e w' => e = .returned (.int .i64 r) ∧ Drawn0 w w' := by
 unfold spec_l1Hex.f at h
 have H := h;clear h;have HC2 := A_ H;clear H;go_enter Tryz.func131, Tryz.ntmps131;go_upto_region 1 with (fail)
 go_cut [3] (fun v3 wc => ∃ (kq : Nat) (x3_1 : Bool), v3 = .bool x3_1 ∧ Aside0 (spec_l1Hex.j0 kq a0 x3_1 = some r) ∧ Aside0 (kq ≤ k) ∧ Drawn0 w wc)
 case first =>
  obtain ⟨H⟩ := HC2;replace H := iteEe H;rcases H with ⟨c3b0, H⟩ | ⟨c3b0, H⟩
  ·(first | rw [c3b0] | (simp only [i64_w, i32_w]; rw [c3b0]) | skip)
   have H' := A_ H;clear H;go_wp2
   go_meet
   case rel => exact ⟨_, (decide (a0 ≤ 57)), zz5, H', ⟨zz6⟩, zz22⟩
  ·(first | rw [c3b0] | (simp only [i64_w, i32_w]; rw [c3b0]) | skip)
   have H' := A_ H;clear H;go_wp2
   go_meet
   case rel => exact ⟨_, (false), zz5, H', ⟨zz6⟩, zz22⟩
 case rest =>
  clear HC2;obtain ⟨kq, x3_1, rfl, HA, HJ1, ⟨mc1, rfl⟩⟩ := hcut;cases kq with
  | zero => exact absurd HA.out (by simp [spec_l1Hex.j0])
  | succ kj1 =>
   obtain ⟨H⟩ := HA;simp only [spec_l1Hex.j0] at H
   replace H := iteB H;rcases H with ⟨rfl, H⟩ | ⟨rfl, H⟩
   ·obtain rfl := sI H
    go_wp2
    go_ret
    exact ⟨zz5, zz22⟩
   ·have HC5 := A_ H
    clear H;go_upto_region 3 with (fail)
    go_cut [13] (fun v13 wc => ∃ (kq : Nat) (x13_4 : Bool), v13 = .bool x13_4 ∧ Aside0 (spec_l1Hex.j1 kq a0 x13_4 = some r) ∧ Aside0 (kq ≤ kj1) ∧ Drawn0 w wc)
    case first =>
     obtain ⟨H⟩ := HC5;replace H := iteEe H;rcases H with ⟨c6b0, H⟩ | ⟨c6b0, H⟩
     ·(first | rw [c6b0] | (simp only [i64_w, i32_w]; rw [c6b0]) | skip)
      have H' := A_ H;clear H;go_wp2
      go_meet
      case rel => exact ⟨_, (decide (a0 ≤ 102)), zz5, H', ⟨(zz25 HJ1)⟩, zz22⟩
     ·(first | rw [c6b0] | (simp only [i64_w, i32_w]; rw [c6b0]) | skip)
      have H' := A_ H;clear H;go_wp2
      go_meet
      case rel => exact ⟨_, (false), zz5, H', ⟨(zz25 HJ1)⟩, zz22⟩
    case rest =>
     clear HC5;obtain ⟨kq, x13_4, rfl, HA, HJ4, ⟨mc4, rfl⟩⟩ := hcut;cases kq with
     | zero => exact absurd HA.out (by simp [spec_l1Hex.j1])
     | succ kj4 =>
      obtain ⟨H⟩ := HA;simp only [spec_l1Hex.j1] at H
      replace H := iteB H;rcases H with ⟨rfl, H⟩ | ⟨rfl, H⟩
      ·obtain rfl := sI H
       go_wp2
       go_ret
       exact ⟨zz5, zz22⟩
      ·replace H := iteE H
       rcases H with ⟨c8, H⟩ | ⟨c8, H⟩
       ·have c8b0 := geT c8
        clear c8;replace H := iteEd H;rcases H with ⟨c9b0, H⟩ | ⟨c9b0, H⟩
        ·obtain rfl := sI H
         go_wp2
         go_ret
         exact ⟨zz5, zz22⟩
        ·obtain rfl := sI H
         go_wp2
         go_ret
         exact ⟨zz5, zz22⟩
       ·have c8b0 := geF c8
        clear c8;obtain rfl := sI H;go_wp2
        go_ret
        exact ⟨zz5, zz22⟩
def spec_l1Sign.f (a0 : Int) : Option (ByteArray) := if 0 ≤ (wrap64 (Int.tdiv a0 16)) then (if (wrap64 (Int.tdiv a0 16)) ≤ (wrap64 ((wrap64 (Int.tdiv a0 16)) + 1)) then (if (wrap64 ((wrap64 (Int.tdiv a0 16)) + 1)) ≤ 16 then (if 1 + ((⟨#[48, 49, 50, 51, 52, 53, 54, 55, 56, 57, 65, 66, 67, 68, 69, 70]⟩ : ByteArray).extract ((wrap64 (Int.tdiv a0 16)) : Int).toNat ((wrap64 ((wrap64 (Int.tdiv a0 16)) + 1)) : Int).toNat).size ≤ 9223372036854775807 then (if 0 ≤ (Int.tmod a0 16) then (if (Int.tmod a0 16) ≤ (wrap64 ((Int.tmod a0 16) + 1)) then (if (wrap64 ((Int.tmod a0 16) + 1)) ≤ 16 then (if 1 + (((⟨#[48, 49, 50, 51, 52, 53, 54, 55, 56, 57, 65, 66, 67, 68, 69, 70]⟩ : ByteArray).extract ((wrap64 (Int.tdiv a0 16)) : Int).toNat ((wrap64 ((wrap64 (Int.tdiv a0 16)) + 1)) : Int).toNat).size) + ((⟨#[48, 49, 50, 51, 52, 53, 54, 55, 56, 57, 65, 66, 67, 68, 69, 70]⟩ : ByteArray).extract ((Int.tmod a0 16) : Int).toNat ((wrap64 ((Int.tmod a0 16) + 1)) : Int).toNat).size ≤ 9223372036854775807 then (some (((⟨#[37]⟩ : ByteArray) ++ ((⟨#[48, 49, 50, 51, 52, 53, 54, 55, 56, 57, 65, 66, 67, 68, 69, 70]⟩ : ByteArray).extract ((wrap64 (Int.tdiv a0 16)) : Int).toNat ((wrap64 ((wrap64 (Int.tdiv a0 16)) + 1)) : Int).toNat)) ++ ((⟨#[48, 49, 50, 51, 52, 53, 54, 55, 56, 57, 65, 66, 67, 68, 69, 70]⟩ : ByteArray).extract ((Int.tmod a0 16) : Int).toNat ((wrap64 ((Int.tmod a0 16) + 1)) : Int).toNat))) else (none)) else (none)) else (none)) else (none)) else (none)) else (none)) else (none)) else (none)
theorem spec_l1Sign.calls (a0 : Int) (r : ByteArray) (w : World) (h : spec_l1Sign.f a0 = some r) :
  Calls Tryz.prog 132 #[.int .i64 a0] w fun e w' => e = .returned (.string r) ∧ Drawn0 w w' := by
 unfold spec_l1Sign.f at h
 have H := h;clear h;obtain ⟨ji2, hji2⟩ : ∃ j_ : Int, (wrap64 (Int.tdiv a0 16)) = j_ := ⟨_, rfl⟩;(first | rw [hji2] at H | simp only [hji2] at H)
 have hji2w : (IntKind.i64.wrap (Int.tdiv a0 16)) = ji2 := (i64_w _).trans hji2;replace H := iteE H;rcases H with ⟨c3, H⟩ | ⟨c3, H⟩
 ·have c3b0 := eq_true c3
  have c3b1 := dT c3;clear c3;replace H := iteN H;obtain ⟨c4, H⟩ := H;have c4b0 := eq_true c4;have c4b1 := dT c4;replace H := iteN H;obtain ⟨c5, H⟩ := H;have c5b0 := eq_true c5;have c5b1 := dT c5;replace H := iteN H;obtain ⟨c6, H⟩ := H;have c6b0 := eq_true c6;have c6b1 := dT c6;try have c6b2 : (9223372036854775807 < 1 + ((⟨#[48, 49, 50, 51, 52, 53, 54, 55, 56, 57, 65, 66, 67, 68, 69, 70]⟩ : ByteArray).extract ((ji2) : Int).toNat ((wrap64 ((ji2) + 1)) : Int).toNat).size) = False := eq_false (Nat.not_lt.2 c6)
  obtain ⟨ji7, hji7⟩ : ∃ j_ : Int, (Int.tmod a0 16) = j_ := ⟨_, rfl⟩;(first | rw [hji7] at H | simp only [hji7] at H)
  replace H := iteN H;obtain ⟨c8, H⟩ := H;have c8b0 := eq_true c8;have c8b1 := dT c8;clear c8;replace H := iteN H;obtain ⟨c9, H⟩ := H;have c9b0 := eq_true c9;have c9b1 := dT c9;replace H := iteN H;obtain ⟨c10, H⟩ := H;have c10b0 := eq_true c10;have c10b1 := dT c10;replace H := iteN H;obtain ⟨c11, H⟩ := H;have c11b0 := eq_true c11;have c11b1 := dT c11;try have c11b2 : (9223372036854775807 < 1 + (((⟨#[48, 49, 50, 51, 52, 53, 54, 55, 56, 57, 65, 66, 67, 68, 69, 70]⟩ : ByteArray).extract ((ji2) : Int).toNat ((wrap64 ((ji2) + 1)) : Int).toNat).size) + ((⟨#[48, 49, 50, 51, 52, 53, 54, 55, 56, 57, 65, 66, 67, 68, 69, 70]⟩ : ByteArray).extract ((ji7) : Int).toNat ((wrap64 ((ji7) + 1)) : Int).toNat).size) = False := eq_false (Nat.not_lt.2 c11)
  obtain rfl := sI H;go_enter Tryz.func132, Tryz.ntmps132;go_wp2
  repeat (go_quiet (fail); try go_wp2)
  go_ret
  exact ⟨(by first | rfl | (simp only [i64_w, i32_w]; done) | (simp only [aid_isEmpty, aid_isEmpty2]; done) | (simp; done) | (simp only [← hji2, ← hji7] <;> (first | rfl | simp)) | (simp [*]; done)), zz22⟩
 ·exact absurd H (by simp)
mutual
def spec_EscNorm.l0 : Nat → ByteArray → ByteArray → Int → Option (ByteArray × Bool)
 | 0, _, _, _ => none
 | k + 1, x0, x4, x5 => if x5 < (x0.size : Int) then (if 0 ≤ x5 then (if (bt x0 x5) = 37 then (if (wrap64 (x5 + 2)) ≥ (x0.size : Int) then (spec_EscNorm.j1 k x0 x4 x5 true) else (if 0 ≤ (wrap64 (x5 + 1)) then (if (wrap64 (x5 + 1)) < (x0.size : Int) then ((spec_l1Hex.f k (bt x0 (wrap64 (x5 + 1)))).bind fun t116 => (if t116 < 0 then (spec_EscNorm.j1 k x0 x4 x5 true) else (if 0 ≤ (wrap64 (x5 + 2)) then (if (wrap64 (x5 + 2)) < (x0.size : Int) then ((spec_l1Hex.f k (bt x0 (wrap64 (x5 + 2)))).bind fun t117 => (spec_EscNorm.j1 k x0 x4 x5 (decide (t117 < 0)))) else (none)) else (none)))) else (none)) else (none))) else (spec_EscNorm.j2 k x0 x4 x5 (wrap64 (bt x0 x5)))) else (none)) else (some (x4, true))
def spec_EscNorm.j2 : Nat → ByteArray → ByteArray → Int → Int → Option (ByteArray × Bool)
 | 0, _, _, _, _ => none
 | k + 1, x0, x4, x5, x6 => (spec_l1Plain.f ((x6) % 256)).bind fun t120 => (if t120 = true then ((some (([(x6) % 256] : List Int) : List Int)).bind fun y121 => (if x4.size + (strOfNums y121).size ≤ 9223372036854775807 then (spec_EscNorm.l0 k x0 (x4 ++ (strOfNums y121)) (wrap64 (x5 + 1))) else (none))) else ((spec_l1Sign.f x6).bind fun t124 => (if x4.size + t124.size ≤ 9223372036854775807 then (spec_EscNorm.l0 k x0 (x4 ++ t124) (wrap64 (x5 + 1))) else (none))))
def spec_EscNorm.j1 : Nat → ByteArray → ByteArray → Int → Bool → Option (ByteArray × Bool)
 | 0, _, _, _, _ => none
 | k + 1, x0, x4, x5, x44 => if x44 = true then (some ((⟨#[]⟩ : ByteArray), false)) else (if 0 ≤ (wrap64 (x5 + 1)) then (if (wrap64 (x5 + 1)) < (x0.size : Int) then ((spec_l1Hex.f k (bt x0 (wrap64 (x5 + 1)))).bind fun t118 => (if 0 ≤ (wrap64 (x5 + 2)) then (if (wrap64 (x5 + 2)) < (x0.size : Int) then ((spec_l1Hex.f k (bt x0 (wrap64 (x5 + 2)))).bind fun t119 => (spec_EscNorm.j2 k x0 x4 (wrap64 (x5 + 2)) (wrap64 ((wrap64 (t118 * 16)) + t119)))) else (none)) else (none))) else (none)) else (none))
end
def spec_EscNorm.f (k : Nat) (a0 : ByteArray) : Option (ByteArray × Bool) := if (a0.size : Int) > 60 then (some ((⟨#[]⟩ : ByteArray), false)) else (spec_EscNorm.l0 k a0 (⟨#[]⟩ : ByteArray) 0)
theorem spec_EscNorm.mono_l : ∀ k, (∀ y0 y1 y2, LeO (spec_EscNorm.l0 k y0 y1 y2) (spec_EscNorm.l0 (k + 1) y0 y1 y2)) ∧ (∀ y0 y1 y2 y3, LeO (spec_EscNorm.j2 k y0 y1 y2 y3) (spec_EscNorm.j2 (k + 1) y0 y1 y2 y3)) ∧ (∀ y0 y1 y2 y3, LeO (spec_EscNorm.j1 k y0 y1 y2 y3) (spec_EscNorm.j1 (k + 1) y0 y1 y2 y3))
 | 0 => by refine ⟨?_, ?_, ?_⟩ <;> (intros; intro r h; simp [spec_EscNorm.l0, spec_EscNorm.j2, spec_EscNorm.j1] at h)
 | k + 1 => by
  obtain ⟨ih0, ih1, ih2⟩ := spec_EscNorm.mono_l k;refine ⟨?_, ?_, ?_⟩ <;> intros <;> (first | unfold spec_EscNorm.l0 | unfold spec_EscNorm.j2 | unfold spec_EscNorm.j1) <;>
  repeat' first | (with_reducible first | exact ih0 _ _ _ | exact ih1 _ _ _ _ | exact ih2 _ _ _ _ | exact spec_l1Hex.mono _ _ | exact LeO.refl _ | exact LeO.none _ | refine LeO.ite ?_ ?_ | refine LeO.bind ?_ (fun _ => ?_)) | exact LeO.none _ | refine LeO.ite ?_ ?_ | refine LeO.bind ?_ (fun _ => ?_)
theorem spec_EscNorm.mono : ∀ a0 k, LeO (spec_EscNorm.f k a0) (spec_EscNorm.f (k + 1) a0) := by
 intro a0 k;obtain ⟨ih0, ih1, ih2⟩ := spec_EscNorm.mono_l k;unfold spec_EscNorm.f
 repeat' first | (with_reducible first | exact ih0 _ _ _ | exact ih1 _ _ _ _ | exact ih2 _ _ _ _ | exact spec_l1Hex.mono _ _ | exact LeO.refl _ | exact LeO.none _ | refine LeO.ite ?_ ?_ | refine LeO.bind ?_ (fun _ => ?_)) | exact LeO.none _ | refine LeO.ite ?_ ?_ | refine LeO.bind ?_ (fun _ => ?_)
theorem spec_EscNorm.calls (k : Nat) (a0 : ByteArray) (r1 : ByteArray) (r2 : Bool) (w : World) (h : spec_EscNorm.f k a0 = some (r1, r2)) :
  Calls Tryz.prog 120 #[.string a0] w fun e w' => e = .returned (.tuple #[.string r1, .bool r2]) ∧ Below w.heap.size w w' := by
 have HB := A_ (Below.refl w.heap.size w);unfold spec_EscNorm.f at h
 have H := h;clear h;replace H := iteE H;rcases H with ⟨c2, H⟩ | ⟨c2, H⟩
 ·have c2b0 := gtT c2
  have c2b1 : decide (60 < a0.size) = true := dT (by omega);clear c2;simp only [Option.some.injEq, Prod.mk.injEq] at H
  obtain ⟨rfl, rfl⟩ := H;go_enter Tryz.func120, Tryz.ntmps120;go_wp2
  repeat (go_quiet (fail); try go_wp2)
  go_ret2
  exact ⟨zz11, (zz2 HB)⟩
 ·have c2b0 := gtF c2
  have c2b1 : decide (60 < a0.size) = false := dF (by omega);clear c2;have H' := A_ H;clear H;go_enter Tryz.func120, Tryz.ntmps120;go_wp2
  repeat (go_quiet (fail); try go_wp2)
  go_loopg [4, 5] k (fun kq v4 v5 w' => ∃ (x4_1 : ByteArray) (x5_1 : Int), v4 = .string x4_1 ∧ v5 = .int .i64 x5_1 ∧ Aside0 (spec_EscNorm.l0 kq a0 x4_1 x5_1 = some (r1, r2)) ∧ Aside0 (kq ≤ k) ∧ Aside0 (Below w.heap.size w w'))
  case atStart => exact ⟨((⟨#[]⟩ : ByteArray)), (0), zz5, zz5, H', ⟨Nat.le_refl _⟩, ⟨(zz2 HB)⟩⟩
  case round =>
   clear H';obtain ⟨x4_1, x5_1, rfl, rfl, HA, HK1, HB⟩ := hrel;cases gk with
   | zero => exact absurd HA.out (by simp [spec_EscNorm.l0])
   | succ k1 =>
    obtain ⟨H⟩ := HA;simp only [spec_EscNorm.l0] at H
    replace H := iteEd H;rcases H with ⟨c3b0, H⟩ | ⟨c3b0, H⟩
    ·replace H := iteNd H
     obtain ⟨c4b0, H⟩ := H;have HC7 := A_ H;clear H;have p5 : 0 ≤ (x5_1 : Int) := ofD;have q5 : x5_1 < (a0.size : Int) := ofD;have hx5 := bt_at a0 x5_1;replace p5 := eq_true p5;replace q5 := eq_true q5;have p6 : 0 ≤ (x5_1 : Int) := ofD;have q6 : x5_1 < (a0.size : Int) := ofD;have hx6 := bt_at a0 x5_1;replace p6 := eq_true p6;replace q6 := eq_true q6;go_upto_if 23 with (fail)
     repeat (go_quiet (fail); go_upto_if 23 with (fail))
     go_cut [5, 6] (fun v5 v6 wc => ∃ (kq : Nat) (x5_6 : Int) (x6_6 : Int), v5 = .int .i64 x5_6 ∧ v6 = .int .i64 x6_6 ∧ Aside0 (spec_EscNorm.j2 kq a0 x4_1 x5_6 x6_6 = some (r1, r2)) ∧ Aside0 (kq ≤ k1) ∧ Aside0 (Below w.heap.size w wc))
     case first =>
      obtain ⟨H⟩ := HC7;replace H := iteEq H;rcases H with ⟨c8b0, c8b1, H⟩ | ⟨c8b0, c8b1, c8, H⟩
      ·(first | rw [c8b0] | (simp only [i64_w, i32_w]; rw [c8b0]) | skip)
       have HC9 := A_ H;clear H;go_upto_region 9 with (fail)
       repeat (go_quiet (fail); go_upto_region 9 with (fail))
       go_cut [44] (fun v44 wc => ∃ (kq : Nat) (x44_8 : Bool), v44 = .bool x44_8 ∧ Aside0 (spec_EscNorm.j1 kq a0 x4_1 x5_1 x44_8 = some (r1, r2)) ∧ Aside0 (kq ≤ k1) ∧ Aside0 (Below w.heap.size w wc))
       case first =>
        obtain ⟨H⟩ := HC9;replace H := iteEe H;rcases H with ⟨c10b0, H⟩ | ⟨c10b0, H⟩
        ·(first | rw [c10b0] | (simp only [i64_w, i32_w]; rw [c10b0]) | skip)
         have H' := A_ H;clear H;go_wp2
         repeat (go_quiet (fail); try go_wp2)
         go_meet
         case rel => exact ⟨_, (true), zz5, H', ⟨(zz25 HK1)⟩, ⟨(zz2 HB)⟩⟩
        ·(first | rw [c10b0] | (simp only [i64_w, i32_w]; rw [c10b0]) | skip)
         obtain ⟨ji11, hji11⟩ : ∃ j_ : Int, (wrap64 (x5_1 + 1)) = j_ := ⟨_, rfl⟩;(first | rw [hji11] at H | simp only [hji11] at H)
         have hji11w : (IntKind.i64.wrap (x5_1 + 1)) = ji11 := (i64_w _).trans hji11;replace H := iteNd H;obtain ⟨c12b0, H⟩ := H;replace H := iteNd H;obtain ⟨c13b0, H⟩ := H;replace H := bindA H;obtain ⟨t116, A15, H⟩ := H;have HF16 := A_ H;clear H;have p14 : 0 ≤ ((ji11) : Int) := ofD;have q14 : (ji11) < (a0.size : Int) := ofD;have hx14 := bt_at a0 (ji11);replace p14 := eq_true p14;replace q14 := eq_true q14;go_wp2_with (first | (go_at_call 131; (with_reducible refine (spec_l1Hex.calls k1 (bt a0 (ji11)) t116 _ A15.out).mono ?_); rintro e w' ⟨rfl, ⟨nd, rfl⟩⟩; (try first | exact ⟨rfl, _, World.drewN_drewN _ _ _⟩ | exact ⟨rfl, _, Eq.trans (World.drewN_drewN _ _ _) (congrArg (World.drewN _) (Nat.add_assoc _ _ _))⟩)) | ((with_reducible refine atG ?_ ?_ fun K_ hK_ => ?_); rfl; exact undecG) | ((with_reducible refine atI ?_ fun K_ hK_ => ?_); exact undecI))
         repeat (go_quiet (first | (go_at_call 131; (with_reducible refine (spec_l1Hex.calls k1 (bt a0 (ji11)) t116 _ A15.out).mono ?_); rintro e w' ⟨rfl, ⟨nd, rfl⟩⟩; (try first | exact ⟨rfl, _, World.drewN_drewN _ _ _⟩ | exact ⟨rfl, _, Eq.trans (World.drewN_drewN _ _ _) (congrArg (World.drewN _) (Nat.add_assoc _ _ _))⟩)) | ((with_reducible refine atG ?_ ?_ fun K_ hK_ => ?_); rfl; exact undecG) | ((with_reducible refine atI ?_ fun K_ hK_ => ?_); exact undecI)); go_wp2_with (first | (go_at_call 131; (with_reducible refine (spec_l1Hex.calls k1 (bt a0 (ji11)) t116 _ A15.out).mono ?_); rintro e w' ⟨rfl, ⟨nd, rfl⟩⟩; (try first | exact ⟨rfl, _, World.drewN_drewN _ _ _⟩ | exact ⟨rfl, _, Eq.trans (World.drewN_drewN _ _ _) (congrArg (World.drewN _) (Nat.add_assoc _ _ _))⟩)) | ((with_reducible refine atG ?_ ?_ fun K_ hK_ => ?_); rfl; exact undecG) | ((with_reducible refine atI ?_ fun K_ hK_ => ?_); exact undecI)))
         refine unG hK_ ?_; clear hK_ K_;obtain ⟨H⟩ := HF16;replace H := iteE H;rcases H with ⟨c17, H⟩ | ⟨c17, H⟩
         ·have c17b0 := dT c17
          (first | refine iteT ?_ | refine iteF ?_ | skip)
          clear c17;(first | rw [c17b0] | (simp only [i64_w, i32_w]; rw [c17b0]) | skip)
          have H' := A_ H;clear H;(try ((with_reducible refine upS ?_); go_simp))
          go_wp2
          repeat (go_quiet (fail); try go_wp2)
          go_meet
          case rel => exact ⟨_, (true), zz5, H', ⟨(zz25 HK1)⟩, ⟨(zz2 HB)⟩⟩
         ·have c17b0 := dF c17
          (first | refine iteT ?_ | refine iteF ?_ | skip)
          clear c17;(first | rw [c17b0] | (simp only [i64_w, i32_w]; rw [c17b0]) | skip)
          obtain ⟨ji18, hji18⟩ : ∃ j_ : Int, (wrap64 (x5_1 + 2)) = j_ := ⟨_, rfl⟩;(first | rw [hji18] at H | simp only [hji18] at H)
          (try rw [hji18] at c10b0)
          have hji18w : (IntKind.i64.wrap (x5_1 + 2)) = ji18 := (i64_w _).trans hji18;replace H := iteNd H;obtain ⟨c19b0, H⟩ := H;replace H := iteNd H;obtain ⟨c20b0, H⟩ := H;replace H := bindA H;obtain ⟨t117, A22, H⟩ := H;have H' := A_ H;clear H;have p21 : 0 ≤ ((ji18) : Int) := ofD;have q21 : (ji18) < (a0.size : Int) := ofD;have hx21 := bt_at a0 (ji18);replace p21 := eq_true p21;replace q21 := eq_true q21;go_wp2_with (first | (go_at_call 131; (with_reducible refine (spec_l1Hex.calls k1 (bt a0 (ji18)) t117 _ A22.out).mono ?_); rintro e w' ⟨rfl, ⟨nd, rfl⟩⟩; (try first | exact ⟨rfl, _, World.drewN_drewN _ _ _⟩ | exact ⟨rfl, _, Eq.trans (World.drewN_drewN _ _ _) (congrArg (World.drewN _) (Nat.add_assoc _ _ _))⟩)))
          repeat (go_quiet (first | (go_at_call 131; (with_reducible refine (spec_l1Hex.calls k1 (bt a0 (ji18)) t117 _ A22.out).mono ?_); rintro e w' ⟨rfl, ⟨nd, rfl⟩⟩; (try first | exact ⟨rfl, _, World.drewN_drewN _ _ _⟩ | exact ⟨rfl, _, Eq.trans (World.drewN_drewN _ _ _) (congrArg (World.drewN _) (Nat.add_assoc _ _ _))⟩))); try go_wp2_with (first | (go_at_call 131; (with_reducible refine (spec_l1Hex.calls k1 (bt a0 (ji18)) t117 _ A22.out).mono ?_); rintro e w' ⟨rfl, ⟨nd, rfl⟩⟩; (try first | exact ⟨rfl, _, World.drewN_drewN _ _ _⟩ | exact ⟨rfl, _, Eq.trans (World.drewN_drewN _ _ _) (congrArg (World.drewN _) (Nat.add_assoc _ _ _))⟩))))
          go_meet
          case rel => exact ⟨_, (decide (t117 < 0)), zz5, H', ⟨(zz25 HK1)⟩, ⟨(zz2 HB)⟩⟩
       case rest =>
        clear HC9;obtain ⟨kq, x44_8, rfl, HA, HJ8, HB⟩ := hcut;cases kq with
        | zero => exact absurd HA.out (by simp [spec_EscNorm.j1])
        | succ kj8 =>
         obtain ⟨H⟩ := HA;simp only [spec_EscNorm.j1] at H
         replace H := iteB H;rcases H with ⟨rfl, H⟩ | ⟨rfl, H⟩
         ·simp only [Option.some.injEq, Prod.mk.injEq] at H
          obtain ⟨rfl, rfl⟩ := H;go_wp2
          repeat (go_quiet (fail); try go_wp2)
          go_ret2
          exact ⟨zz11, (zz2 HB)⟩
         ·obtain ⟨ji24, hji24⟩ : ∃ j_ : Int, (wrap64 (x5_1 + 1)) = j_ := ⟨_, rfl⟩
          (first | rw [hji24] at H | simp only [hji24] at H)
          have hji24w : (IntKind.i64.wrap (x5_1 + 1)) = ji24 := (i64_w _).trans hji24;replace H := iteNd H;obtain ⟨c25b0, H⟩ := H;replace H := iteNd H;obtain ⟨c26b0, H⟩ := H;replace H := bindA H;obtain ⟨t118, A28, H⟩ := H;obtain ⟨ji29, hji29⟩ : ∃ j_ : Int, (wrap64 (x5_1 + 2)) = j_ := ⟨_, rfl⟩;(first | rw [hji29] at H | simp only [hji29] at H)
          (try rw [hji29] at A28)
          have hji29w : (IntKind.i64.wrap (x5_1 + 2)) = ji29 := (i64_w _).trans hji29;replace H := iteNd H;obtain ⟨c30b0, H⟩ := H;replace H := iteNd H;obtain ⟨c31b0, H⟩ := H;replace H := bindA H;obtain ⟨t119, A33, H⟩ := H;have H' := A_ H;clear H;have p27 : 0 ≤ ((ji24) : Int) := ofD;have q27 : (ji24) < (a0.size : Int) := ofD;have hx27 := bt_at a0 (ji24);replace p27 := eq_true p27;replace q27 := eq_true q27;go_wp2_with (first | (go_at_call 131; (with_reducible refine (spec_l1Hex.calls kj8 (bt a0 (ji24)) t118 _ A28.out).mono ?_); rintro e w' ⟨rfl, ⟨nd, rfl⟩⟩; (try first | exact ⟨rfl, _, World.drewN_drewN _ _ _⟩ | exact ⟨rfl, _, Eq.trans (World.drewN_drewN _ _ _) (congrArg (World.drewN _) (Nat.add_assoc _ _ _))⟩); have p32 : 0 ≤ ((ji29) : Int) := ofD; have q32 : (ji29) < (a0.size : Int) := ofD; have hx32 := bt_at a0 (ji29); replace p32 := eq_true p32; replace q32 := eq_true q32) | (go_at_call 131; (with_reducible refine (spec_l1Hex.calls kj8 (bt a0 (ji29)) t119 _ A33.out).mono ?_); rintro e w' ⟨rfl, ⟨nd, rfl⟩⟩; (try first | exact ⟨rfl, _, World.drewN_drewN _ _ _⟩ | exact ⟨rfl, _, Eq.trans (World.drewN_drewN _ _ _) (congrArg (World.drewN _) (Nat.add_assoc _ _ _))⟩)))
          repeat (go_quiet (first | (go_at_call 131; (with_reducible refine (spec_l1Hex.calls kj8 (bt a0 (ji24)) t118 _ A28.out).mono ?_); rintro e w' ⟨rfl, ⟨nd, rfl⟩⟩; (try first | exact ⟨rfl, _, World.drewN_drewN _ _ _⟩ | exact ⟨rfl, _, Eq.trans (World.drewN_drewN _ _ _) (congrArg (World.drewN _) (Nat.add_assoc _ _ _))⟩); have p32 : 0 ≤ ((ji29) : Int) := ofD; have q32 : (ji29) < (a0.size : Int) := ofD; have hx32 := bt_at a0 (ji29); replace p32 := eq_true p32; replace q32 := eq_true q32) | (go_at_call 131; (with_reducible refine (spec_l1Hex.calls kj8 (bt a0 (ji29)) t119 _ A33.out).mono ?_); rintro e w' ⟨rfl, ⟨nd, rfl⟩⟩; (try first | exact ⟨rfl, _, World.drewN_drewN _ _ _⟩ | exact ⟨rfl, _, Eq.trans (World.drewN_drewN _ _ _) (congrArg (World.drewN _) (Nat.add_assoc _ _ _))⟩))); try go_wp2_with (first | (go_at_call 131; (with_reducible refine (spec_l1Hex.calls kj8 (bt a0 (ji24)) t118 _ A28.out).mono ?_); rintro e w' ⟨rfl, ⟨nd, rfl⟩⟩; (try first | exact ⟨rfl, _, World.drewN_drewN _ _ _⟩ | exact ⟨rfl, _, Eq.trans (World.drewN_drewN _ _ _) (congrArg (World.drewN _) (Nat.add_assoc _ _ _))⟩); have p32 : 0 ≤ ((ji29) : Int) := ofD; have q32 : (ji29) < (a0.size : Int) := ofD; have hx32 := bt_at a0 (ji29); replace p32 := eq_true p32; replace q32 := eq_true q32) | (go_at_call 131; (with_reducible refine (spec_l1Hex.calls kj8 (bt a0 (ji29)) t119 _ A33.out).mono ?_); rintro e w' ⟨rfl, ⟨nd, rfl⟩⟩; (try first | exact ⟨rfl, _, World.drewN_drewN _ _ _⟩ | exact ⟨rfl, _, Eq.trans (World.drewN_drewN _ _ _) (congrArg (World.drewN _) (Nat.add_assoc _ _ _))⟩))))
          go_meet
          case rel => exact ⟨_, (ji29), (wrap64 ((wrap64 (t118 * 16)) + t119)), (by first | rfl | (simp only [i64_w, i32_w]; done) | (simp only [aid_isEmpty, aid_isEmpty2]; done) | (simp; done) | ((simp only [← hji29] <;> (first | rfl | simp)); done) | (simp [*]; done)), zz5, H', ⟨(by have := HK1.out; have := HJ8.out; first | omega | exact Nat.le_refl _)⟩, ⟨(zz2 HB)⟩⟩
      ·(first | rw [c8b0] | (simp only [i64_w, i32_w]; rw [c8b0]) | skip)
       have H' := A_ H;clear H;go_wp2
       repeat (go_quiet (fail); try go_wp2)
       go_meet
       case rel => exact ⟨_, (x5_1), (wrap64 (bt a0 x5_1)), zz5, zz5, H', ⟨(zz25 HK1)⟩, ⟨(zz2 HB)⟩⟩
     case rest =>
      clear HC7;obtain ⟨kq, x5_6, x6_6, rfl, rfl, HA, HJ6, HB⟩ := hcut;cases kq with
      | zero => exact absurd HA.out (by simp [spec_EscNorm.j2])
      | succ kj6 =>
       obtain ⟨H⟩ := HA;simp only [spec_EscNorm.j2] at H
       replace H := bindA H;obtain ⟨t120, A34, H⟩ := H;have HF35 := A_ H;clear H;go_upto_if 61 with (first | (go_at_call 130; (with_reducible refine (spec_l1Plain.calls ((x6_6) % 256) t120 _ A34.out).mono ?_); rintro e w' ⟨rfl, ⟨nd, rfl⟩⟩; (try first | exact ⟨rfl, _, World.drewN_drewN _ _ _⟩ | exact ⟨rfl, _, Eq.trans (World.drewN_drewN _ _ _) (congrArg (World.drewN _) (Nat.add_assoc _ _ _))⟩)))
       repeat (go_quiet (first | (go_at_call 130; (with_reducible refine (spec_l1Plain.calls ((x6_6) % 256) t120 _ A34.out).mono ?_); rintro e w' ⟨rfl, ⟨nd, rfl⟩⟩; (try first | exact ⟨rfl, _, World.drewN_drewN _ _ _⟩ | exact ⟨rfl, _, Eq.trans (World.drewN_drewN _ _ _) (congrArg (World.drewN _) (Nat.add_assoc _ _ _))⟩))); go_upto_if 61 with (first | (go_at_call 130; (with_reducible refine (spec_l1Plain.calls ((x6_6) % 256) t120 _ A34.out).mono ?_); rintro e w' ⟨rfl, ⟨nd, rfl⟩⟩; (try first | exact ⟨rfl, _, World.drewN_drewN _ _ _⟩ | exact ⟨rfl, _, Eq.trans (World.drewN_drewN _ _ _) (congrArg (World.drewN _) (Nat.add_assoc _ _ _))⟩))))
       obtain ⟨H⟩ := HF35;replace H := iteB H;rcases H with ⟨rfl, H⟩ | ⟨rfl, H⟩
       ·obtain ⟨y121, hy121⟩ : ∃ y_ : List Int, y_ = (([(x6_6) % 256] : List Int)) := ⟨_, rfl⟩
        replace H : (if x4_1.size + (strOfNums y121).size ≤ 9223372036854775807 then (spec_EscNorm.l0 kj6 a0 (x4_1 ++ (strOfNums y121)) (wrap64 (x5_6 + 1))) else (none)) = some (r1, r2) := by first | (rw [hy121]; with_reducible exact H) | (have H2_ := (Option.bind_some _ _).symm.trans H; rw [hy121]; with_reducible exact H2_) | (have H2_ := (Option.bind_some _ _).symm.trans H; with_reducible exact H2_) | with_reducible exact H | (rw [hy121]; exact H) | exact H
        have Ny121 := A_ hy121;clear hy121;replace H := iteN H;obtain ⟨c37, H⟩ := H;have c37b0 := eq_true c37;have c37b1 := dT c37;try have c37b2 : (9223372036854775807 < x4_1.size + (strOfNums y121).size) = False := eq_false (Nat.not_lt.2 c37)
        have H' := A_ H;clear H;go_wp2_with (first | ((with_reducible refine gD (N := 65) rfl ?_); refine Kd.R_lit (Kd.int .u8) _ 5 ?hg (N := 65) ?hd (xs := ([(x6_6) % 256] : List Int)) (inner := [.int .u8 ((x6_6) % 256)]) (ok := fun _ => True) (okp := fun _ => True) ?hr ?hp (fun _ hk => hk) trivial (Below.refl _ _) (Nat.le_refl _) (by simp) ?_; (case hd => rfl); (case hg => rfl); (case hr => exact zz16); (case hp => exact (Reps.one (show Kd.M (Kd.int .u8) _ _ _ ((x6_6) % 256) [.int .u8 ((x6_6) % 256)] from rfl) (Reps.none _ _))); intro v122 w38 ho39 hb hg_ hnew_; clear hg_ hnew_; (first | rw [← Ny121.out] at ho39 | (simp only [Int.reduceToNat] at ho39; rw [← Ny121.out] at ho39)); have HO123 := A_ (Kd.R_lower ho39 (below_size (zz2 HB))); replace HB := A_ (bS (zz2 HB) hb); clear hb ho39; have hcv40 := own_string (P := Tryz.prog) Tryz.underlying22 Tryz.underlying5 Tryz.underlying9 (Kd.own_of_R HO123.out)))
        repeat (go_quiet (first | ((with_reducible refine gD (N := 65) rfl ?_); refine Kd.R_lit (Kd.int .u8) _ 5 ?hg (N := 65) ?hd (xs := ([(x6_6) % 256] : List Int)) (inner := [.int .u8 ((x6_6) % 256)]) (ok := fun _ => True) (okp := fun _ => True) ?hr ?hp (fun _ hk => hk) trivial (Below.refl _ _) (Nat.le_refl _) (by simp) ?_; (case hd => rfl); (case hg => rfl); (case hr => exact zz16); (case hp => exact (Reps.one (show Kd.M (Kd.int .u8) _ _ _ ((x6_6) % 256) [.int .u8 ((x6_6) % 256)] from rfl) (Reps.none _ _))); intro v122 w38 ho39 hb hg_ hnew_; clear hg_ hnew_; (first | rw [← Ny121.out] at ho39 | (simp only [Int.reduceToNat] at ho39; rw [← Ny121.out] at ho39)); have HO123 := A_ (Kd.R_lower ho39 (below_size (zz2 HB))); replace HB := A_ (bS (zz2 HB) hb); clear hb ho39; have hcv40 := own_string (P := Tryz.prog) Tryz.underlying22 Tryz.underlying5 Tryz.underlying9 (Kd.own_of_R HO123.out))); try go_wp2_with (first | ((with_reducible refine gD (N := 65) rfl ?_); refine Kd.R_lit (Kd.int .u8) _ 5 ?hg (N := 65) ?hd (xs := ([(x6_6) % 256] : List Int)) (inner := [.int .u8 ((x6_6) % 256)]) (ok := fun _ => True) (okp := fun _ => True) ?hr ?hp (fun _ hk => hk) trivial (Below.refl _ _) (Nat.le_refl _) (by simp) ?_; (case hd => rfl); (case hg => rfl); (case hr => exact zz16); (case hp => exact (Reps.one (show Kd.M (Kd.int .u8) _ _ _ ((x6_6) % 256) [.int .u8 ((x6_6) % 256)] from rfl) (Reps.none _ _))); intro v122 w38 ho39 hb hg_ hnew_; clear hg_ hnew_; (first | rw [← Ny121.out] at ho39 | (simp only [Int.reduceToNat] at ho39; rw [← Ny121.out] at ho39)); have HO123 := A_ (Kd.R_lower ho39 (below_size (zz2 HB))); replace HB := A_ (bS (zz2 HB) hb); clear hb ho39; have hcv40 := own_string (P := Tryz.prog) Tryz.underlying22 Tryz.underlying5 Tryz.underlying9 (Kd.own_of_R HO123.out))))
        go_roundg kj6
        case measure => have := HK1.out; have := HJ6.out; omega
        case rel => exact ⟨(x4_1 ++ (strOfNums y121)), (wrap64 (x5_6 + 1)), zz5, zz5, H', ⟨(zz33 HK1 HJ6)⟩, ⟨(zz2 HB)⟩⟩
       ·replace H := Option.bind_eq_some_iff.mp H
        obtain ⟨t124, A410, H⟩ := H;replace H : (if x4_1.size + t124.size ≤ 9223372036854775807 then (spec_EscNorm.l0 kj6 a0 (x4_1 ++ t124) (wrap64 (x5_6 + 1))) else (none)) = some (r1, r2) := H;have A41 := A_ A410;clear A410;replace H := iteN H;obtain ⟨c42, H⟩ := H;have c42b0 := eq_true c42;have c42b1 := dT c42;try have c42b2 : (9223372036854775807 < x4_1.size + t124.size) = False := eq_false (Nat.not_lt.2 c42)
        have H' := A_ H;clear H;go_wp2_with (first | (go_at_call 132; (with_reducible refine (spec_l1Sign.calls x6_6 t124 _ A41.out).mono ?_); rintro e w' ⟨rfl, ⟨nd, rfl⟩⟩; (try first | exact ⟨rfl, _, World.drewN_drewN _ _ _⟩ | exact ⟨rfl, _, Eq.trans (World.drewN_drewN _ _ _) (congrArg (World.drewN _) (Nat.add_assoc _ _ _))⟩)))
        repeat (go_quiet (first | (go_at_call 132; (with_reducible refine (spec_l1Sign.calls x6_6 t124 _ A41.out).mono ?_); rintro e w' ⟨rfl, ⟨nd, rfl⟩⟩; (try first | exact ⟨rfl, _, World.drewN_drewN _ _ _⟩ | exact ⟨rfl, _, Eq.trans (World.drewN_drewN _ _ _) (congrArg (World.drewN _) (Nat.add_assoc _ _ _))⟩))); try go_wp2_with (first | (go_at_call 132; (with_reducible refine (spec_l1Sign.calls x6_6 t124 _ A41.out).mono ?_); rintro e w' ⟨rfl, ⟨nd, rfl⟩⟩; (try first | exact ⟨rfl, _, World.drewN_drewN _ _ _⟩ | exact ⟨rfl, _, Eq.trans (World.drewN_drewN _ _ _) (congrArg (World.drewN _) (Nat.add_assoc _ _ _))⟩))))
        go_roundg kj6
        case measure => have := HK1.out; have := HJ6.out; omega
        case rel => exact ⟨(x4_1 ++ t124), (wrap64 (x5_6 + 1)), zz5, zz5, H', ⟨(zz33 HK1 HJ6)⟩, ⟨(zz2 HB)⟩⟩
    ·simp only [Option.some.injEq, Prod.mk.injEq] at H
     obtain ⟨rfl, rfl⟩ := H;go_wp2
     repeat (go_quiet (fail); try go_wp2)
     go_ret2
     exact ⟨zz11, (zz2 HB)⟩
def spec_l1Norm.f (k : Nat) (a0 : ByteArray) : Option (Bool) := (spec_EscNorm.f k a0).bind fun bt125 => (if bt125.2 = true then (some (bt125.1.toList == a0.toList)) else (some false))
theorem spec_l1Norm.mono : ∀ a0 k, LeO (spec_l1Norm.f k a0) (spec_l1Norm.f (k + 1) a0) := by
 intro a0 k;unfold spec_l1Norm.f
 repeat' first | (with_reducible first | exact spec_EscNorm.mono _ _ | exact LeO.refl _ | exact LeO.none _ | refine LeO.ite ?_ ?_ | refine LeO.bind ?_ (fun _ => ?_)) | exact LeO.none _ | refine LeO.ite ?_ ?_ | refine LeO.bind ?_ (fun _ => ?_)
theorem spec_l1Norm.calls (k : Nat) (a0 : ByteArray) (r : Bool) (w : World) (h : spec_l1Norm.f k a0 = some r) :
  Calls Tryz.prog 99 #[.string a0] w fun e w' => e = .returned (.bool r) ∧ Below w.heap.size w w' := by
 have HB := A_ (Below.refl w.heap.size w);unfold spec_l1Norm.f at h
 have H := h;clear h;replace H := bindA H;obtain ⟨⟨t125, t126⟩, A2, H⟩ := H;try dsimp only at H
 have HF3 := A_ H;clear H;go_enter Tryz.func99, Tryz.ntmps99;go_wp2_with (first | (refine gR 120 (some 7) Tryz.func120 (spec_EscNorm.calls k a0 t125 t126 _ A2.out) ?_; rintro w4 hb; replace HB := A_ (bS (zz2 HB) hb); (try clear hb)) | ((with_reducible refine atG ?_ ?_ fun K_ hK_ => ?_); rfl; exact undecG) | ((with_reducible refine atI ?_ fun K_ hK_ => ?_); exact undecI))
 refine unG hK_ ?_; clear hK_ K_;obtain ⟨H⟩ := HF3;replace H := iteB H;rcases H with ⟨rfl, H⟩ | ⟨rfl, H⟩
 ·(first | refine iteT ?_ | refine iteF ?_ | skip)
  obtain rfl := sI H;(try ((with_reducible refine upS ?_); go_simp))
  go_wp2
  go_ret
  exact ⟨zz11, (zz2 HB)⟩
 ·(first | refine iteT ?_ | refine iteF ?_ | skip)
  obtain rfl := sI H;(try ((with_reducible refine upS ?_); go_simp))
  go_wp2
  go_ret
  exact ⟨zz11, (zz2 HB)⟩
mutual
def spec_AddrOk.j0 : Nat → Bool → ByteArray → List ByteArray → Bool → ByteArray → Option (Bool)
 | 0, _, _, _, _, _ => none
 | k + 1, x29, x128000, x128001, x128002, x128003 => if x29 = true then (some false) else (spec_AddrOk.l0 k 0 x128000 x128001 x128002 x128003)
def spec_AddrOk.l0 : Nat → Int → ByteArray → List ByteArray → Bool → ByteArray → Option (Bool)
 | 0, _, _, _, _, _ => none
 | k + 1, x3, x128000, x128001, x128002, x128003 => if x3 < (x128001.length : Int) then (if 0 ≤ x3 then ((spec_l1Norm.f k (rdOf ByteArray.empty x128001 x3)).bind fun t131 => (if t131 = true then (if (rdOf ByteArray.empty x128001 x3).toList = ([] : List UInt8) then (some false) else (if (rdOf ByteArray.empty x128001 x3).toList = ([46] : List UInt8) then (some false) else (if (rdOf ByteArray.empty x128001 x3).toList = ([46, 46] : List UInt8) then (some false) else (spec_AddrOk.l0 k (wrap64 (x3 + 1)) x128000 x128001 x128002 x128003)))) else (some false))) else (none)) else ((spec_l1Text.f k x128000 x128001 x128002 x128003).bind fun t135 => (some (decide ((t135.size : Int) ≤ 60))))
end
def spec_AddrOk.f (k : Nat) (a0_0 : ByteArray) (l0_1 : List ByteArray) (a0_2 : Bool) (a0_3 : ByteArray) : Option (Bool) := (spec_l1House.f k a0_0).bind fun t128 => (if t128 = true then (if (l0_1.length : Int) > 5 then (spec_AddrOk.j0 k true a0_0 l0_1 a0_2 a0_3) else ((spec_l1Norm.f k a0_3).bind fun t129 => (if t129 = true then (if a0_2 = true then (spec_AddrOk.j0 k false a0_0 l0_1 a0_2 a0_3) else (spec_AddrOk.j0 k (a0_3.toList != ([] : List UInt8)) a0_0 l0_1 a0_2 a0_3)) else (spec_AddrOk.j0 k true a0_0 l0_1 a0_2 a0_3)))) else (spec_AddrOk.j0 k true a0_0 l0_1 a0_2 a0_3))
theorem spec_AddrOk.mono_l : ∀ k, (∀ y0 y1 y2 y3 y4, LeO (spec_AddrOk.j0 k y0 y1 y2 y3 y4) (spec_AddrOk.j0 (k + 1) y0 y1 y2 y3 y4)) ∧ (∀ y0 y1 y2 y3 y4, LeO (spec_AddrOk.l0 k y0 y1 y2 y3 y4) (spec_AddrOk.l0 (k + 1) y0 y1 y2 y3 y4))
 | 0 => by refine ⟨?_, ?_⟩ <;> (intros; intro r h; simp [spec_AddrOk.j0, spec_AddrOk.l0] at h)
 | k + 1 => by
  obtain ⟨ih0, ih1⟩ := spec_AddrOk.mono_l k;refine ⟨?_, ?_⟩ <;> intros <;> (first | unfold spec_AddrOk.j0 | unfold spec_AddrOk.l0) <;>
  repeat' first | (with_reducible first | exact ih0 _ _ _ _ _ | exact ih1 _ _ _ _ _ | exact spec_l1House.mono _ _ | exact spec_l1Norm.mono _ _ | exact spec_l1Text.mono _ _ _ _ _ | exact LeO.refl _ | exact LeO.none _ | refine LeO.ite ?_ ?_ | refine LeO.bind ?_ (fun _ => ?_)) | exact LeO.none _ | refine LeO.ite ?_ ?_ | refine LeO.bind ?_ (fun _ => ?_)
theorem spec_AddrOk.mono : ∀ a0 a1 a2 a3 k, LeO (spec_AddrOk.f k a0 a1 a2 a3) (spec_AddrOk.f (k + 1) a0 a1 a2 a3) := by
 intro a0 a1 a2 a3 k;obtain ⟨ih0, ih1⟩ := spec_AddrOk.mono_l k;unfold spec_AddrOk.f
 repeat' first | (with_reducible first | exact ih0 _ _ _ _ _ | exact ih1 _ _ _ _ _ | exact spec_l1House.mono _ _ | exact spec_l1Norm.mono _ _ | exact spec_l1Text.mono _ _ _ _ _ | exact LeO.refl _ | exact LeO.none _ | refine LeO.ite ?_ ?_ | refine LeO.bind ?_ (fun _ => ?_)) | exact LeO.none _ | refine LeO.ite ?_ ?_ | refine LeO.bind ?_ (fun _ => ?_)
theorem spec_AddrOk.calls (k : Nat) (a0_0 : ByteArray) (A0_1 : Option Addr) (c0_1 : Nat) (l0_1 : List ByteArray) (a0_2 : Bool) (a0_3 : ByteArray) (r : Bool) (w : World) (hr0_1 : Kd.C Kd.string w A0_1 l0_1.length l0_1) (hc0_1 : l0_1.length ≤ c0_1) (h : spec_AddrOk.f k a0_0 l0_1 a0_2 a0_3 = some r) :
  Calls Tryz.prog 72 #[.agg #[.string a0_0, .slice A0_1 l0_1.length c0_1, .bool a0_2, .string a0_3]] w fun e w' => e = .returned (.bool r) ∧ Below w.heap.size w w' := by
 have hu39 := Tryz.underlying39;have HR0_1 := A_ hr0_1;have HC0_1 := A_ hc0_1;clear hr0_1 hc0_1;have HB := A_ (Below.refl w.heap.size w);unfold spec_AddrOk.f at h
 have H := h;clear h;have HC2 := A_ H;clear H;go_enter Tryz.func72, Tryz.ntmps72;go_upto_region 1 with (first | ((with_reducible refine gD (N := 1) rfl ?_); (try (refine gate_guard (by rfl) ?_; dsimp only)); refine boxE 1 #[.string a0_0, .slice A0_1 l0_1.length c0_1, .bool a0_2, .string a0_3] 39 ?_; intro gb127 hg w3 hbox hb; have BK127 := A_ (hbox); have GE127 := geB hg (zz2 HB); replace HB := A_ (bS (zz2 HB) hb); clear hb hbox hg))
 (try simp only [Act.put, List.setIfInBounds_toArray, List.set_cons_zero, List.set_cons_succ])
 go_cut [29] (fun v29 wc => ∃ (kq : Nat) (x29_1 : Bool), v29 = .bool x29_1 ∧ Aside0 (spec_AddrOk.j0 kq x29_1 a0_0 l0_1 a0_2 a0_3 = some r) ∧ Aside0 (kq ≤ k) ∧ Aside0 (wc.heap[gb127]? = some (.cells #[.string a0_0, (.slice A0_1 l0_1.length c0_1), .bool a0_2, .string a0_3] 39 (0, 0))) ∧ Aside0 (Below w.heap.size w wc))
 case first =>
  obtain ⟨H⟩ := HC2;replace H := bindA H;obtain ⟨t128, A4, H⟩ := H;have HF5 := A_ H;clear H;obtain ⟨_, _, _, _, _, _, _, _⟩ := cf4 BK127;go_wp2_with (first | (refine gR 98 (some 6) Tryz.func98 (spec_l1House.calls k a0_0 t128 _ A4.out) ?_; rintro w' ⟨nd, rfl⟩) | ((with_reducible refine atG ?_ ?_ fun K_ hK_ => ?_); rfl; exact undecG) | ((with_reducible refine atI ?_ fun K_ hK_ => ?_); exact undecI))
  refine unG hK_ ?_; clear hK_ K_;obtain ⟨H⟩ := HF5;replace H := iteB H;rcases H with ⟨rfl, H⟩ | ⟨rfl, H⟩
  ·(first | refine iteT ?_ | refine iteF ?_ | skip)
   replace H := iteE H;rcases H with ⟨c8, H⟩ | ⟨c8, H⟩
   ·have c8b0 := gtT c8
    have c8b1 : decide (5 < l0_1.length) = true := dT (by omega);clear c8;have H' := A_ H;clear H;obtain ⟨_, _, _, _, _, _, _, _⟩ := cf4 BK127;go_wp2
    go_meet
    case rel => exact ⟨_, (true), zz5, H', ⟨zz6⟩, ⟨(zz3 BK127)⟩, ⟨(zz4 HB GE127)⟩⟩
   ·have c8b0 := gtF c8
    have c8b1 : decide (5 < l0_1.length) = false := dF (by omega);clear c8;replace H := bindA H;obtain ⟨t129, A10, H⟩ := H;have HF11 := A_ H;clear H;obtain ⟨_, _, _, _, _, _, _, _⟩ := cf4 BK127;go_wp2_with (first | (go_at_call 99; (with_reducible refine (spec_l1Norm.calls k a0_3 t129 _ A10.out).mono ?_); rintro e w13 ⟨rfl, hb⟩; replace BK127 := A_ (bB (zz3 BK127) hb); replace HB := A_ (bS (zz4 HB GE127) hb); (try clear hb)) | ((with_reducible refine atG ?_ ?_ fun K_ hK_ => ?_); rfl; exact undecG) | ((with_reducible refine atI ?_ fun K_ hK_ => ?_); exact undecI))
    refine unG hK_ ?_; clear hK_ K_;obtain ⟨H⟩ := HF11;replace H := iteB H;rcases H with ⟨rfl, H⟩ | ⟨rfl, H⟩
    ·(first | refine iteT ?_ | refine iteF ?_ | skip)
     replace H := iteB H;rcases H with ⟨rfl, H⟩ | ⟨rfl, H⟩
     ·have H' := A_ H
      clear H;obtain ⟨_, _, _, _, _, _, _, _⟩ := cf4 BK127;go_wp2
      go_meet
      case rel => exact ⟨_, (false), zz5, H', ⟨zz6⟩, ⟨(zz3 BK127)⟩, ⟨(zz4 HB GE127)⟩⟩
     ·have H' := A_ H
      clear H;obtain ⟨_, _, _, _, _, _, _, _⟩ := cf4 BK127;go_wp2
      go_meet
      case rel => exact ⟨_, ((a0_3.toList != ([] : List UInt8))), zz5, H', ⟨zz6⟩, ⟨(zz3 BK127)⟩, ⟨(zz4 HB GE127)⟩⟩
    ·(first | refine iteT ?_ | refine iteF ?_ | skip)
     have H' := A_ H;clear H;(try ((with_reducible refine upS ?_); go_simp))
     go_wp2
     go_meet
     case rel => exact ⟨_, (true), zz5, H', ⟨zz6⟩, ⟨(zz3 BK127)⟩, ⟨(zz4 HB GE127)⟩⟩
  ·(first | refine iteT ?_ | refine iteF ?_ | skip)
   have H' := A_ H;clear H;(try ((with_reducible refine upS ?_); go_simp))
   go_wp2
   go_meet
   case rel => exact ⟨_, (true), zz5, H', ⟨zz6⟩, ⟨(zz3 BK127)⟩, ⟨(zz4 HB GE127)⟩⟩
 case rest =>
  clear HC2;obtain ⟨kq, x29_1, rfl, HA, HJ1, BK127, HB⟩ := hcut;cases kq with
  | zero => exact absurd HA.out (by simp [spec_AddrOk.j0])
  | succ kj1 =>
   obtain ⟨H⟩ := HA;simp only [spec_AddrOk.j0] at H
   replace H := iteB H;rcases H with ⟨rfl, H⟩ | ⟨rfl, H⟩
   ·obtain rfl := sI H
    go_wp2
    go_ret
    exact ⟨zz11, (zz4 HB GE127)⟩
   ·have H' := A_ H
    clear H;go_wp2
    go_loopg [3] kj1 (fun kq v3 w' => ∃ (x3_2 : Int), v3 = .int .i64 x3_2 ∧ Aside0 (spec_AddrOk.l0 kq x3_2 a0_0 l0_1 a0_2 a0_3 = some r) ∧ Aside0 (kq ≤ kj1) ∧ Aside0 (w'.heap[gb127]? = some (.cells #[.string a0_0, (.slice A0_1 l0_1.length c0_1), .bool a0_2, .string a0_3] 39 (0, 0))) ∧ Aside0 (Below w.heap.size w w'))
    case atStart => exact ⟨(0), zz5, H', ⟨Nat.le_refl _⟩, ⟨(zz3 BK127)⟩, ⟨(zz4 HB GE127)⟩⟩
    case round =>
     clear H';obtain ⟨x3_2, rfl, HA, HK2, BK127, HB⟩ := hrel;cases gk with
     | zero => exact absurd HA.out (by simp [spec_AddrOk.l0])
     | succ k2 =>
      obtain ⟨H⟩ := HA;simp only [spec_AddrOk.l0] at H
      replace H := iteEd H;rcases H with ⟨c19b0, H⟩ | ⟨c19b0, H⟩
      ·replace H := iteNd H
       obtain ⟨c20b0, H⟩ := H;replace H := bindA H;obtain ⟨t131, A21, H⟩ := H;have HF22 := A_ H;clear H;obtain ⟨_, _, _, _, _, _, _, _⟩ := cf4 BK127;obtain ⟨⟨ad130, e130, hx130_0⟩, p130, q130⟩ := atB (Kd.at_string HR0_1.out x3_2);cases e130
       replace hx130_0 := cbl HB hx130_0;go_wp2_with (first | (refine gR 99 (some 42) Tryz.func99 (spec_l1Norm.calls k2 (rdOf ByteArray.empty l0_1 x3_2) t131 _ A21.out) ?_; rintro w24 hb; replace BK127 := A_ (bB (zz3 BK127) hb); replace HB := A_ (bS (zz4 HB GE127) hb); (try clear hb)) | ((with_reducible refine atG ?_ ?_ fun K_ hK_ => ?_); rfl; exact undecG) | ((with_reducible refine atI ?_ fun K_ hK_ => ?_); exact undecI))
       refine unG hK_ ?_; clear hK_ K_;obtain ⟨H⟩ := HF22;replace H := iteB H;rcases H with ⟨rfl, H⟩ | ⟨rfl, H⟩
       ·(first | refine iteT ?_ | refine iteF ?_ | skip)
        replace H := iteEq H;rcases H with ⟨c26b0, c26b1, H⟩ | ⟨c26b0, c26b1, c26, H⟩
        ·obtain rfl := sI H
         obtain ⟨_, _, _, _, _, _, _, _⟩ := cf4 BK127;obtain ⟨⟨ad132, e132, hx132_0⟩, p132, q132⟩ := atB (Kd.at_string HR0_1.out x3_2);obtain rfl : ad130 = ad132 := (by injection e132);replace hx132_0 := cbl HB hx132_0;go_wp2
         go_ret
         exact ⟨zz11, (zz4 HB GE127)⟩
        ·replace H := iteEq H
         rcases H with ⟨c28b0, c28b1, H⟩ | ⟨c28b0, c28b1, c28, H⟩
         ·obtain rfl := sI H
          obtain ⟨_, _, _, _, _, _, _, _⟩ := cf4 BK127;obtain ⟨⟨ad132, e132, hx132_0⟩, p132, q132⟩ := atB (Kd.at_string HR0_1.out x3_2);obtain rfl : ad130 = ad132 := (by injection e132);replace hx132_0 := cbl HB hx132_0;obtain ⟨⟨ad133, e133, hx133_0⟩, p133, q133⟩ := atB (Kd.at_string HR0_1.out x3_2);obtain rfl : ad130 = ad133 := (by injection e133);replace hx133_0 := cbl HB hx133_0;go_wp2
          go_ret
          exact ⟨zz11, (zz4 HB GE127)⟩
         ·replace H := iteEq H
          rcases H with ⟨c30b0, c30b1, H⟩ | ⟨c30b0, c30b1, c30, H⟩
          ·obtain rfl := sI H
           obtain ⟨_, _, _, _, _, _, _, _⟩ := cf4 BK127;obtain ⟨⟨ad132, e132, hx132_0⟩, p132, q132⟩ := atB (Kd.at_string HR0_1.out x3_2);obtain rfl : ad130 = ad132 := (by injection e132);replace hx132_0 := cbl HB hx132_0;obtain ⟨⟨ad133, e133, hx133_0⟩, p133, q133⟩ := atB (Kd.at_string HR0_1.out x3_2);obtain rfl : ad130 = ad133 := (by injection e133);replace hx133_0 := cbl HB hx133_0;obtain ⟨⟨ad134, e134, hx134_0⟩, p134, q134⟩ := atB (Kd.at_string HR0_1.out x3_2);obtain rfl : ad130 = ad134 := (by injection e134);replace hx134_0 := cbl HB hx134_0;go_wp2
           go_ret
           exact ⟨zz11, (zz4 HB GE127)⟩
          ·have H' := A_ H
           clear H;obtain ⟨_, _, _, _, _, _, _, _⟩ := cf4 BK127;obtain ⟨⟨ad132, e132, hx132_0⟩, p132, q132⟩ := atB (Kd.at_string HR0_1.out x3_2);obtain rfl : ad130 = ad132 := (by injection e132);replace hx132_0 := cbl HB hx132_0;obtain ⟨⟨ad133, e133, hx133_0⟩, p133, q133⟩ := atB (Kd.at_string HR0_1.out x3_2);obtain rfl : ad130 = ad133 := (by injection e133);replace hx133_0 := cbl HB hx133_0;obtain ⟨⟨ad134, e134, hx134_0⟩, p134, q134⟩ := atB (Kd.at_string HR0_1.out x3_2);obtain rfl : ad130 = ad134 := (by injection e134);replace hx134_0 := cbl HB hx134_0;go_wp2
           go_roundg k2
           case measure => have := HJ1.out; have := HK2.out; omega
           case rel => exact ⟨(wrap64 (x3_2 + 1)), zz5, H', ⟨(zz33 HJ1 HK2)⟩, ⟨(zz3 BK127)⟩, ⟨(zz4 HB GE127)⟩⟩
       ·(first | refine iteT ?_ | refine iteF ?_ | skip)
        obtain rfl := sI H;(try ((with_reducible refine upS ?_); go_simp))
        go_wp2
        go_ret
        exact ⟨zz11, (zz4 HB GE127)⟩
      ·replace H := Option.bind_eq_some_iff.mp H
       obtain ⟨t135, A330, H⟩ := H;replace H : (some (decide ((t135.size : Int) ≤ 60))) = some r := H;have A33 := A_ A330;clear A330;obtain rfl := sI H;obtain ⟨_, _, _, _, _, _, _, _⟩ := cf4 BK127;go_wp2_with (first | (refine gR 73 (some 69) Tryz.func73 (spec_l1Text.calls k2 a0_0 _ _ l0_1 a0_2 a0_3 t135 _ ?side1 ?side2 A33.out) ?_; (case side1 => exact (zz21 HR0_1 HB)); (case side2 => exact HC0_1.out); rintro w35 hb; replace BK127 := A_ (bB (zz3 BK127) hb); replace HB := A_ (bS (zz4 HB GE127) hb); (try clear hb)))
       go_ret
       exact ⟨zz11, (zz4 HB GE127)⟩
def spec_AddrText.f (k : Nat) (a0_0 : ByteArray) (l0_1 : List ByteArray) (a0_2 : Bool) (a0_3 : ByteArray) : Option (ByteArray) := (spec_AddrOk.f k a0_0 l0_1 a0_2 a0_3).bind fun t137 => (if t137 = true then ((spec_l1Text.f k a0_0 l0_1 a0_2 a0_3).bind fun t138 => (some t138)) else (some (⟨#[]⟩ : ByteArray)))
theorem spec_AddrText.mono : ∀ a0 a1 a2 a3 k, LeO (spec_AddrText.f k a0 a1 a2 a3) (spec_AddrText.f (k + 1) a0 a1 a2 a3) := by
 intro a0 a1 a2 a3 k;unfold spec_AddrText.f
 repeat' first | (with_reducible first | exact spec_AddrOk.mono _ _ _ _ _ | exact spec_l1Text.mono _ _ _ _ _ | exact LeO.refl _ | exact LeO.none _ | refine LeO.ite ?_ ?_ | refine LeO.bind ?_ (fun _ => ?_)) | exact LeO.none _ | refine LeO.ite ?_ ?_ | refine LeO.bind ?_ (fun _ => ?_)
theorem spec_AddrText.calls (k : Nat) (a0_0 : ByteArray) (A0_1 : Option Addr) (c0_1 : Nat) (l0_1 : List ByteArray) (a0_2 : Bool) (a0_3 : ByteArray) (r : ByteArray) (w : World) (hr0_1 : Kd.C Kd.string w A0_1 l0_1.length l0_1) (hc0_1 : l0_1.length ≤ c0_1) (h : spec_AddrText.f k a0_0 l0_1 a0_2 a0_3 = some r) :
  Calls Tryz.prog 47 #[.agg #[.string a0_0, .slice A0_1 l0_1.length c0_1, .bool a0_2, .string a0_3]] w fun e w' => e = .returned (.string r) ∧ Below w.heap.size w w' := by
 have hu39 := Tryz.underlying39;have HR0_1 := A_ hr0_1;have HC0_1 := A_ hc0_1;clear hr0_1 hc0_1;have HB := A_ (Below.refl w.heap.size w);unfold spec_AddrText.f at h
 have H := h;clear h;replace H := bindA H;obtain ⟨t137, A2, H⟩ := H;have HF3 := A_ H;clear H;go_enter Tryz.func47, Tryz.ntmps47;go_upto_if 5 with (first | (refine boxF 1 #[.string a0_0, .slice A0_1 l0_1.length c0_1, .bool a0_2, .string a0_3] 39 ?_; intro gb136 hg w4 BK136 hb; have GE136 := geB hg (zz2 HB); replace HB := A_ (bS (zz2 HB) hb); clear hb hg; obtain ⟨_, _, _, _, _, _, _, _⟩ := cf4 BK136) | (refine gR 72 (some 4) Tryz.func72 (spec_AddrOk.calls k a0_0 _ _ l0_1 a0_2 a0_3 t137 _ ?side1 ?side2 A2.out) ?_; (case side1 => exact (zz21 HR0_1 HB)); (case side2 => exact HC0_1.out); rintro w6 hb; replace BK136 := A_ (bB (zz3 BK136) hb); replace HB := A_ (bS (zz4 HB GE136) hb); (try clear hb)))
 obtain ⟨H⟩ := HF3;replace H := iteB H;rcases H with ⟨rfl, H⟩ | ⟨rfl, H⟩
 ·replace H := Option.bind_eq_some_iff.mp H
  obtain ⟨t138, A80, H⟩ := H;replace H : (some t138) = some r := H;have A8 := A_ A80;clear A80;obtain rfl := sI H;obtain ⟨_, _, _, _, _, _, _, _⟩ := cf4 BK136;go_wp2_with (first | (refine gR 73 (some 7) Tryz.func73 (spec_l1Text.calls k a0_0 _ _ l0_1 a0_2 a0_3 t138 _ ?side1 ?side2 A8.out) ?_; (case side1 => exact (zz21 HR0_1 HB)); (case side2 => exact HC0_1.out); rintro w10 hb; replace BK136 := A_ (bB (zz3 BK136) hb); replace HB := A_ (bS (zz4 HB GE136) hb); (try clear hb)))
  go_ret
  exact ⟨zz11, (zz4 HB GE136)⟩
 ·obtain rfl := sI H
  go_wp2
  go_ret
  exact ⟨zz11, (zz4 HB GE136)⟩
def spec_l71Addr.l0 : Nat → Int → List Int → Int → ByteArray → List ByteArray → Bool → ByteArray → Option (ByteArray × Int)
 | 0, _, _, _, _, _, _, _ => none
 | k + 1, x4, x1000, x1001, x149000, x149001, x149002, x149003 => if x4 > 0 then ((spec_l6Rd_of.f k x1000 x1001 (([(⟨#[97]⟩ : ByteArray), (⟨#[98]⟩ : ByteArray), (⟨#[99]⟩ : ByteArray), (⟨#[110, 111, 116, 105, 99, 101]⟩ : ByteArray)] : List ByteArray))).bind fun bt154 => (if x149001.length < 8796093022208 then (spec_l71Addr.l0 k (wrap64 (x4 - 1)) x1000 bt154.2 x149000 (x149001 ++ [bt154.1]) x149002 x149003) else (none))) else ((spec_l6Rd_pick.f k x1000 x1001 8).bind fun bt159 => (if bt159.1 = 0 then ((spec_l6Rd_of.f k x1000 bt159.2 (([(⟨#[]⟩ : ByteArray), (⟨#[97]⟩ : ByteArray), (⟨#[98, 37, 51, 68]⟩ : ByteArray)] : List ByteArray))).bind fun bt164 => ((spec_AddrText.f k x149000 x149001 true bt164.1).bind fun t166 => (some (t166, bt164.2)))) else ((spec_AddrText.f k x149000 x149001 x149002 x149003).bind fun t167 => (some (t167, bt159.2)))))
def spec_l71Addr.f (k : Nat) (s0_0 : List Int) (s0_1 : Int) : Option (ByteArray × Int) := (spec_l71Houses.f).bind fun t142 => ((spec_l6Rd_pick.f k s0_0 s0_1 4).bind fun bt145 => (if 0 ≤ bt145.1 then (if bt145.1 < (t142.length : Int) then ((spec_l6Rd_pick.f k s0_0 bt145.2 3).bind fun bt149 => (spec_l71Addr.l0 k bt149.1 s0_0 bt149.2 (rdOf ByteArray.empty t142 bt145.1) ([] : List ByteArray) false (⟨#[]⟩ : ByteArray))) else (none)) else (none)))
theorem spec_l71Addr.mono_l : ∀ k, (∀ y0 y1 y2 y3 y4 y5 y6, LeO (spec_l71Addr.l0 k y0 y1 y2 y3 y4 y5 y6) (spec_l71Addr.l0 (k + 1) y0 y1 y2 y3 y4 y5 y6))
 | 0 => by intros; intro r h; simp [spec_l71Addr.l0] at h
 | k + 1 => by
  have ih0 := spec_l71Addr.mono_l k; intros; unfold spec_l71Addr.l0;repeat' first | (with_reducible first | exact ih0 _ _ _ _ _ _ _ | exact spec_AddrText.mono _ _ _ _ _ | exact spec_l6Rd_of.mono _ _ _ _ | exact spec_l6Rd_pick.mono _ _ _ _ | exact LeO.refl _ | exact LeO.none _ | refine LeO.ite ?_ ?_ | refine LeO.bind ?_ (fun _ => ?_)) | exact LeO.none _ | refine LeO.ite ?_ ?_ | refine LeO.bind ?_ (fun _ => ?_)
theorem spec_l71Addr.mono : ∀ a0 a1 k, LeO (spec_l71Addr.f k a0 a1) (spec_l71Addr.f (k + 1) a0 a1) := by
 intro a0 a1 k;have ih0 := spec_l71Addr.mono_l k;unfold spec_l71Addr.f
 repeat' first | (with_reducible first | exact ih0 _ _ _ _ _ _ _ | exact spec_AddrText.mono _ _ _ _ _ | exact spec_l6Rd_of.mono _ _ _ _ | exact spec_l6Rd_pick.mono _ _ _ _ | exact LeO.refl _ | exact LeO.none _ | refine LeO.ite ?_ ?_ | refine LeO.bind ?_ (fun _ => ?_)) | exact LeO.none _ | refine LeO.ite ?_ ?_ | refine LeO.bind ?_ (fun _ => ?_)
def spec_l71Addr.T5 : Bool × List (List Nat × List Nat) := (true, [([], []), ([0], [0]), ([], []), ([], []), ([2, 3], [2, 3]), ([4], [4]), ([1, 5, 4], [1, 5]), ([0, 1, 2, 3, 4, 5, 6], []), ([7, 6, 6, 0, 1, 2, 3, 4, 5, 6], [6, 7])])
def spec_l71Addr.B5 : List Nat := [0, 1, 0, 0, 12, 28, 63, 127, 255]
theorem spec_l71Addr.tab5 : rtab .any (opsOf Tryz.f43 5) = spec_l71Addr.T5 := by kernel_rfl
theorem spec_l71Addr.bits5 : waitsOk spec_l71Addr.T5.2 spec_l71Addr.B5 = true := by kernel_rfl
theorem spec_l71Addr.calls (k : Nat) (g : Nat) (s0_0 : List Int) (s0_1 : Int) (r1 : ByteArray) (r2 : Int) (w0 w : World) (hI : IsS68 w0 w g s0_0 s0_1) (hB : Below w0.heap.size w0 w) (h : spec_l71Addr.f k s0_0 s0_1 = some (r1, r2)) :
  Calls Tryz.prog 43 #[.pointer (some ⟨g, 0, none⟩)] w fun e w' => e = .returned (.string r1) ∧ IsS68 w0 w' g s0_0 r2 ∧ Below w0.heap.size w0 w' ∧ KeepBut w w' g none := by
 have hu39 := Tryz.underlying39;have HI0 := A_ hI;have HK := A_ (KeepBut.refl w g none);have HL := A_ hB.size;clear hI;have HW0 := A_ hB.size;have HB := A_ hB;clear hB;unfold spec_l71Addr.f at h
 have H := h;clear h;replace H := bindA H;obtain ⟨t142, A2, H⟩ := H;replace H := bindA H;obtain ⟨⟨t145, t146⟩, A3, H⟩ := H;try dsimp only at H
 replace H := iteE H;rcases H with ⟨c4, H⟩ | ⟨c4, H⟩
 ·have c4b0 := dT c4
  clear c4;replace H := iteNd H;obtain ⟨c5b0, H⟩ := H;replace H := bindA H;obtain ⟨⟨t149, t150⟩, A6, H⟩ := H;try dsimp only at H
  have H' := A_ H;clear H;go_enter Tryz.func43, Tryz.ntmps43;go_wp2_with (first | (refine gV 65 (some 5) Tryz.func65 (spec_l71Houses.calls  t142 _ A2.out) ?_; rintro v143 w7 ⟨ho0, hb⟩; have HO144 := A_ (Kd.R_lower ho0 (keep_size (w := w) (g := g) (row := none) (zz8 HK))); replace HK := A_ (KeepBut.trans (zz8 HK) (KeepBut.of_below hb g none) (.inl rfl)); replace HB := A_ (bS (zz9 HB HI0) hb); replace HI0 := A_ (IsS68.below (zz7 HI0) hb); (try clear hb ho0)) | (refine gR 22 (some 7) Tryz.func22 (spec_l6Rd_pick.calls k g s0_0 s0_1 4 t145 t146 w0 _ ?side1 ?side2 A3.out) ?_; (case side1 => exact (zz7 HI0)); (case side2 => exact (zz9 HB HI0)); rintro w8 ⟨hi, hb, hk⟩; replace HO144 := A_ (Kd.R_mono (Kd.R_keep (IsS68.apart (show IsS68 w0 _ g s0_0 s0_1 from (zz7 HI0)) (zz18 HO144) (by decide)) hk (fun _ h => h.2)) (fun _ h => h.1)); replace HK := A_ (KeepBut.trans (zz8 HK) hk (.inl rfl)); replace HB := A_ (hb); replace HI0 := A_ (hi); (try clear hb hk hi); obtain ⟨Ao9, co9, eo9⟩ := Kd.R_slice HO144.out; subst eo9; have p147 : 0 ≤ (t145 : Int) := ofD; have q147 : t145 < (t142.length : Int) := ofD; obtain ⟨ad147, e147, hx147_0⟩ := Kd.at_string (Kd.R_reads' HO144.out).2.2 t145 p147 q147; cases e147; replace p147 := eq_true p147; replace q147 := eq_true q147) | (refine boxF 3 #[.string (⟨#[]⟩ : ByteArray), .slice none 0 0, .bool false, .string (⟨#[]⟩ : ByteArray)] 39 ?_; intro gb148 hg w10 BK148 hb; replace HO144 := A_ (rB (zz18 HO144) hb); replace HB := A_ (bS (zz9 HB HI0) hb); have GW148 := A_ ((by rw [hg]; exact (keep_size (w := w) (g := g) (row := none) (zz8 HK)) : w.heap.size ≤ gb148)); have GE148 := A_ ((Nat.le_trans HW0.out (by rw [hg]; exact (keep_size (w := w) (g := g) (row := none) (zz8 HK)) : w.heap.size ≤ gb148) : w0.heap.size ≤ gb148)); replace HK := A_ (KeepBut.trans (zz8 HK) (KeepBut.of_below hb g none) (.inl rfl)); have NB0_148 := A_ ((by rw [hg]; exact Nat.ne_of_lt (IsS68.lt (show IsS68 w0 _ g s0_0 t146 from (zz7 HI0))) : g ≠ gb148)); have NB148_0 := A_ ((by rw [hg]; exact Nat.ne_of_gt (IsS68.lt (show IsS68 w0 _ g s0_0 t146 from (zz7 HI0))) : gb148 ≠ g)); replace HI0 := A_ (IsS68.below (zz7 HI0) hb); clear hb hg; have hnb11 := NB148_0.out; have hnc11 := NB0_148.out; obtain ⟨_, _, _, _, _, _, _, _⟩ := cf4 BK148) | (refine gR 22 (some 12) Tryz.func22 (spec_l6Rd_pick.calls k g s0_0 t146 3 t149 t150 w0 _ ?side1 ?side2 A6.out) ?_; (case side1 => exact (zz36 HI0 NB0_148)); (case side2 => exact (zz37 HB HI0 GE148)); rintro w13 ⟨hi, hb, hk⟩; replace HO144 := A_ (Kd.R_mono (Kd.R_keep (IsS68.apart (show IsS68 w0 _ g s0_0 t146 from (zz36 HI0 NB0_148)) (by (with_reducible repeat (first | apply Kd.R_alloc | apply Kd.R_drewN | apply Kd.R_drew)); exact (Kd.R_mono (Kd.R_far (p := ⟨gb148, 3, none⟩) (Kd.R_far (p := ⟨gb148, 2, none⟩) (Kd.R_far (p := ⟨gb148, 1, none⟩) (Kd.R_far (p := ⟨gb148, 0, none⟩) (Kd.R_types HO144.out BK148.out (by decide)) (fun _ hk => hk.2) (.string (rdOf ByteArray.empty t142 t145))) (fun _ hk => hk.2) (.slice none 0 0)) (fun _ hk => hk.2) (.bool false)) (fun _ hk => hk.2) (.string (⟨#[]⟩ : ByteArray))) (fun _ h_ => h_.1))) (by decide)) hk (fun _ h => h.2)) (fun _ h => h.1)); replace BK148 := A_ (KeepBut.blk hk (g' := gb148) (o := .cells #[.string (rdOf ByteArray.empty t142 t145), .slice none 0 0, .bool false, .string (⟨#[]⟩ : ByteArray)] 39 (0, 0)) (zz39 BK148) NB148_0.out (by simp)); replace HK := A_ (KeepBut.trans (zz40 HK GW148) hk (.inl rfl)); replace HB := A_ (hb); replace HI0 := A_ (hi); (try clear hb hk hi)))
  go_loopg [4] k (fun kq v4 w' => ∃ (x4_1 : Int) (x1001_1 : Int) (x149001_1 : List ByteArray) (u149001 : Value), v4 = .int .i64 x4_1 ∧ Aside0 (spec_l71Addr.l0 kq x4_1 s0_0 x1001_1 (rdOf ByteArray.empty t142 t145) x149001_1 false (⟨#[]⟩ : ByteArray) = some (r1, r2)) ∧ Aside0 (kq ≤ k) ∧ Aside0 (Kd.R Kd.string 9 w' w.heap.size (fun _ => True) u149001 x149001_1) ∧ Aside0 (w'.heap[gb148]? = some (.cells #[.string (rdOf ByteArray.empty t142 t145), u149001, .bool false, .string (⟨#[]⟩ : ByteArray)] 39 (0, 0))) ∧ Aside0 (IsS68 w0 w' g s0_0 x1001_1) ∧ Aside0 (KeepBut w w' g none) ∧ Aside0 (Below w0.heap.size w0 w'))
  case atStart => exact ⟨(t149), (t150), (([] : List ByteArray)), (.slice none 0 0), zz5, H', ⟨Nat.le_refl _⟩, ⟨zz41⟩, ⟨(zz3 BK148)⟩, ⟨(zz36 HI0 NB0_148)⟩, ⟨(zz40 HK GW148)⟩, ⟨(zz37 HB HI0 GE148)⟩⟩
  case round =>
   clear H';obtain ⟨x4_1, x1001_1, x149001_1, u149001, rfl, HA, HK1, HO_149001, BK148, HI0, HK, HB⟩ := hrel;cases gk with
   | zero => exact absurd HA.out (by simp [spec_l71Addr.l0])
   | succ k1 =>
    obtain ⟨H⟩ := HA;simp only [spec_l71Addr.l0] at H
    replace H := iteEg H;rcases H with ⟨c14b0, H⟩ | ⟨c14b0, H⟩
    ·obtain ⟨y151, hy151⟩ : ∃ y_ : List ByteArray, y_ = (([(⟨#[97]⟩ : ByteArray), (⟨#[98]⟩ : ByteArray), (⟨#[99]⟩ : ByteArray), (⟨#[110, 111, 116, 105, 99, 101]⟩ : ByteArray)] : List ByteArray)) := ⟨_, rfl⟩
     replace H : ((spec_l6Rd_of.f k1 s0_0 x1001_1 y151).bind fun bt154 => (if x149001_1.length < 8796093022208 then (spec_l71Addr.l0 k1 (wrap64 (x4_1 - 1)) s0_0 bt154.2 (rdOf ByteArray.empty t142 t145) (x149001_1 ++ [bt154.1]) false (⟨#[]⟩ : ByteArray)) else (none))) = some (r1, r2) := by first | (rw [hy151]; with_reducible exact H) | (have H2_ := (Option.bind_some _ _).symm.trans H; rw [hy151]; with_reducible exact H2_) | (have H2_ := (Option.bind_some _ _).symm.trans H; with_reducible exact H2_) | with_reducible exact H | (rw [hy151]; exact H) | exact H
     have Ny151 := A_ hy151;clear hy151;replace H := bindA H;obtain ⟨⟨t154, t155⟩, A15, H⟩ := H;try dsimp only at H
     replace H := iteN H;obtain ⟨c16, H⟩ := H;have LMc16 := A_ c16;clear c16;obtain ⟨y156, Ny156⟩ := toY (x149001_1 ++ [t154]);(first | with_reducible replace H := bindZ Ny156 H | rw [← Ny156.out] at H | skip)
     have H' := A_ H;clear H;try go_wp2
     replace HO_149001 := A_ (Kd.R_drew HO_149001.out);replace BK148 := A_ (blk_drew BK148.out);replace HI0 := A_ (IsS68.drew HI0.out);replace HK := A_ (keep_drew HK.out);replace HB := A_ (below_drew1 HB.out);refine start_ (n := 9) (S := fun w' => w'.cell? ⟨gb148, 0, none⟩ = some (.string (rdOf ByteArray.empty t142 t145)) ∧ w'.cell? ⟨gb148, 1, none⟩ = some (u149001) ∧ w'.cell? ⟨gb148, 2, none⟩ = some (.bool false) ∧ w'.cell? ⟨gb148, 3, none⟩ = some (.string (⟨#[]⟩ : ByteArray))) (ds := [8]) #[false, false, false, false, false, false, false, false, false] (by kernel_rfl) rfl rfl ⟨(blk_cell BK148.out 0).trans rfl, (blk_cell BK148.out 1).trans rfl, (blk_cell BK148.out 2).trans rfl, (blk_cell BK148.out 3).trans rfl⟩ (fun hHeld => ?_); refine with_tabW spec_l71Addr.tab5 spec_l71Addr.bits5 (fun HT_ HW_ => ?_);generalize wr.drew = w17 at HO_149001 BK148 HI0 HK HB hHeld ⊢;refine pureZ 0 (some 17) #[true, false, false, false, false, false, false, false, false] ?_;refine pureZ 2 (some 19) #[true, false, true, false, false, false, false, false, false] ?_;refine takeZ4 1 (some 18) #[true, true, true, false, false, false, false, false, false] hHeld ?_;refine one_ (i := 3) (N := some 20) #[true, true, true, true, false, false, false, false, false] rfl rfl (one_of HT_.out (by kernel_rfl)) (by decide) (fun K hK => ?_);refine Kd.R_lit_step Kd.string _ 9 ?hg (N := 20) ?hd (xs := ([(⟨#[97]⟩ : ByteArray), (⟨#[98]⟩ : ByteArray), (⟨#[99]⟩ : ByteArray), (⟨#[110, 111, 116, 105, 99, 101]⟩ : ByteArray)] : List ByteArray)) (inner := [.string (⟨#[97]⟩ : ByteArray), .string (⟨#[98]⟩ : ByteArray), .string (⟨#[99]⟩ : ByteArray), .string (⟨#[110, 111, 116, 105, 99, 101]⟩ : ByteArray)]) (ok := fun _ => True) (okp := fun _ => True) ?hr ?hp (fun _ hk => hk) trivial (Below.refl _ _) (Nat.le_refl _) (by simp) ?_; (case hd => rfl); (case hg => rfl); (case hr => exact zz16); (case hp => exact (Reps.one (show Kd.M Kd.string _ _ _ (⟨#[97]⟩ : ByteArray) [.string (⟨#[97]⟩ : ByteArray)] from rfl) (Reps.one (show Kd.M Kd.string _ _ _ (⟨#[98]⟩ : ByteArray) [.string (⟨#[98]⟩ : ByteArray)] from rfl) (Reps.one (show Kd.M Kd.string _ _ _ (⟨#[99]⟩ : ByteArray) [.string (⟨#[99]⟩ : ByteArray)] from rfl) (Reps.one (show Kd.M Kd.string _ _ _ (⟨#[110, 111, 116, 105, 99, 101]⟩ : ByteArray) [.string (⟨#[110, 111, 116, 105, 99, 101]⟩ : ByteArray)] from rfl) (Reps.none _ _))))));intro v152 w18 ho19 hb hg_ hnew_;clear hg_ hnew_;(first | rw [← Ny151.out] at ho19 | (simp only [Int.reduceToNat] at ho19; rw [← Ny151.out] at ho19))
     have HO153 := A_ (Kd.R_lower (Kd.R_new' ho19 (Kd.R_lt (zz18 HO_149001))) (keep_size (w := w) (g := g) (row := none) (zz40 HK GW148)));replace HO_149001 := A_ (Kd.R_elder' (zz18 HO_149001) (Kd.R_base ho19) hb);replace BK148 := A_ (bB (zz3 BK148) hb);replace HK := A_ (KeepBut.trans (zz40 HK GW148) (KeepBut.of_below hb g none) (.inl rfl));replace HB := A_ (bS (zz37 HB HI0 GE148) hb);replace HI0 := A_ (IsS68.below (zz36 HI0 NB0_148) hb);clear hb ho19;obtain ⟨Ao20, co20, eo20⟩ := Kd.R_slice HO153.out;(first | subst eo20 | (injection eo20 with f1_ f2_ f3_; have f4_ := f1_.symm; have f5_ := f3_.symm; clear f1_ f2_ f3_; subst f4_; subst f5_))
     refine hK.out _ _ ⟨(blk_cell BK148.out 0).trans rfl, (blk_cell BK148.out 1).trans rfl, (blk_cell BK148.out 2).trans rfl, (blk_cell BK148.out 3).trans rfl⟩ (fun hHeld => ?_);clear hK K;refine norm_ (a' := ?_) ?_ ?_;rotate_left
     ·show Act.put _ (some 20) _ = _
      simp only [Act.put, List.setIfInBounds_toArray, List.set_cons_zero, List.set_cons_succ, i64_w, i32_w]
      rfl
     refine one_ (i := 4) (N := some 21) #[true, true, true, true, true, false, false, false, false] rfl rfl (one_of HT_.out (by kernel_rfl)) (by decide) (fun K hK => ?_);refine goes_ Tryz.func41 (by kernel_rfl) rfl #[.pointer (some ⟨g, 0, none⟩), .slice Ao20 y151.length co20] (by rfl) rfl rfl zz17 ?_;with_reducible refine (spec_l6Rd_of.calls k1 g s0_0 x1001_1 _ _ y151 t154 t155 w0 _ ?side1 ?side2 ?side3 ?side4 ?side5 A15.out).mono ?_
     (case side1 => exact (zz36 HI0 NB0_148))
     (case side2 => exact (zz37 HB HI0 GE148))
     (case side3 => exact (zz43 HO153))
     (case side4 => exact (Kd.R_reads' HO153.out).2.1)
     (case side5 => exact far_slice (IsS68.own_ne HI0.out HO153.out (by decide)))
     rintro e w21 ⟨rfl, hi, hb, hk⟩;refine ⟨_, rfl, ?_⟩;replace HO_149001 := A_ (Kd.R_mono (Kd.R_keep (IsS68.apart (show IsS68 w0 _ g s0_0 x1001_1 from (zz36 HI0 NB0_148)) (zz18 HO_149001) (by decide)) hk (fun _ h => h.2)) (fun _ h => h.1));replace BK148 := A_ (KeepBut.blk hk (g' := gb148) (o := .cells #[.string (rdOf ByteArray.empty t142 t145), u149001, .bool false, .string (⟨#[]⟩ : ByteArray)] 39 (0, 0)) (zz3 BK148) NB148_0.out (by simp));replace HO153 := A_ (Kd.R_mono (Kd.R_keep (IsS68.apart (show IsS68 w0 _ g s0_0 x1001_1 from (zz36 HI0 NB0_148)) (zz18 HO153) (by decide)) hk (fun _ h => h.2)) (fun _ h => h.1));replace HK := A_ (KeepBut.trans (zz40 HK GW148) hk (.inl rfl));replace HB := A_ (hb);replace HI0 := A_ (hi);(try clear hb)
     (try clear hb2)
     (try clear hk)
     (try clear hi)
     refine hK.out _ _ ⟨(blk_cell BK148.out 0).trans rfl, (blk_cell BK148.out 1).trans rfl, (blk_cell BK148.out 2).trans rfl, (blk_cell BK148.out 3).trans rfl⟩ (fun hHeld => ?_);clear hK K;refine norm_ (a' := ?_) ?_ ?_;rotate_left
     ·show Act.put _ (some 21) _ = _
      simp only [Act.put, List.setIfInBounds_toArray, List.set_cons_zero, List.set_cons_succ, i64_w, i32_w]
      rfl
     refine one_ (i := 5) (N := some 22) #[true, true, true, true, true, true, false, false, false] rfl rfl (one_of HT_.out (by kernel_rfl)) (by decide) (fun K hK => ?_);refine value_ (w1 := ?_) (v := ?_) (by rfl) rfl ?_ ?_;rotate_left 2
     ·go_simp
      constructor
      ·rfl
      ·rfl
     refine hK.out _ _ ⟨(blk_cell (blk_alloc BK148.out _) 0).trans rfl, (blk_cell (blk_alloc BK148.out _) 1).trans rfl, (blk_cell (blk_alloc BK148.out _) 2).trans rfl, (blk_cell (blk_alloc BK148.out _) 3).trans rfl⟩ (fun hHeld => ?_);clear hK K;refine norm_ (a' := ?_) ?_ ?_;rotate_left
     ·show Act.put _ (some 22) _ = _
      simp only [Act.put, List.setIfInBounds_toArray, List.set_cons_zero, List.set_cons_succ, i64_w, i32_w]
      rfl
     refine one_ (i := 6) (N := some 23) #[true, true, true, true, true, true, true, false, false] rfl rfl (one_of HT_.out (by kernel_rfl)) (by decide) (fun K hK => ?_);refine Kd.R_append_step Kd.string w.heap.size (by rfl) (.tmp 18) (.tmp 22) 35 9 (.string ⟨#[]⟩) 16 rfl Tryz.underlying35 info9 rfl (by decide) (by omega) u149001 x149001_1 t154 [.string t154] (fun k_ => some k_ ≠ (.slice Ao20 y151.length co20 : Value).ownBlock) (fun _ => False) rfl rfl ?aP (fun _ hk => hk.elim) ?aF ?aO (Below.refl _ _) ?aS ?aL ?_;(case aP => exact rfl)
     (case aF => exact (fun k_ hk => Kd.fresh' (Kd.R_lt (zz18 HO153)) k_ hk))
     (case aO => exact (zz44 HO_149001))
     (case aS => exact (keep_size (w := w) (g := g) (row := none) (zz40 HK GW148)))
     (case aL => exact (zz20 LMc16))
     intro v157 w22 ho hb hg hat;rw [← Ny156.out] at ho;replace BK148 := A_ (blk_grown (zz3 BK148) hg (Kd.R_ne HO_149001.out BK148.out (by decide)));replace HO153 := A_ (Kd.R_after (ok := (fun _ => True)) (zz18 HO153) hg hat);replace HB := A_ (below_weaken (zz37 HB HI0 GE148) HL.out hb);replace HI0 := A_ (IsS68.grown (zz36 HI0 NB0_148) hg (IsS68.own_ne HI0.out HO_149001.out (by decide)));replace HK := A_ (KeepBut.trans (zz40 HK GW148) (KeepBut.of_grown hg g) (Kd.R_base2 HO_149001.out));have HO158 := A_ (ho);clear HO_149001;clear ho hb hg hat;obtain ⟨Ao23, co23, eo23⟩ := Kd.R_slice HO158.out;(first | subst eo23 | (injection eo23 with f1_ f2_ f3_; have f4_ := f1_.symm; have f5_ := f3_.symm; clear f1_ f2_ f3_; subst f4_; subst f5_))
     refine hK.out _ _ ⟨(blk_cell BK148.out 0).trans rfl, (blk_cell BK148.out 1).trans rfl, (blk_cell BK148.out 2).trans rfl, (blk_cell BK148.out 3).trans rfl⟩ (fun hHeld => ?_);clear hK K;refine norm_ (a' := ?_) ?_ ?_;rotate_left
     ·show Act.put _ (some 23) _ = _
      simp only [Act.put, List.setIfInBounds_toArray, List.set_cons_zero, List.set_cons_succ, i64_w, i32_w]
      rfl
     refine pureZ 7 (some 24) #[true, true, true, true, true, true, true, true, false] ?_;refine last_ (i := 8) (N := none) #[true, true, true, true, true, true, true, true, true] rfl rfl (one_of HT_.out (by kernel_rfl)) (by decide) (fun K hK => ?_);have hs24 : w22.cell? ⟨gb148, 1, none⟩ = some (u149001) := (blk_cell BK148.out 1).trans rfl;have hfs24 := blk_frozen BK148.out 1;refine skip_ (w1 := ?_) (by rfl) rfl ?_ ?_;rotate_left
     ·go_simp
      rfl
     refine hK.out _ _ ?_;clear hK K;refine done_ (done_of HT_.out (by kernel_rfl)) ?_;try go_wp2
     go_roundg k1
     case measure => have := HK1.out; omega
     case rel => exact ⟨(wrap64 (x4_1 - 1)), (t155), (y156), (.slice Ao23 y156.length co23), zz5, H', ⟨(zz20 HK1)⟩, ⟨(zz45 (rt HO158 BK148))⟩, ⟨(zz46 BK148)⟩, ⟨(zz36 HI0 NB0_148)⟩, ⟨(zz40 HK GW148)⟩, ⟨(zz37 HB HI0 GE148)⟩⟩
    ·replace H := Option.bind_eq_some_iff.mp H
     obtain ⟨⟨t159, t160⟩, A250, H⟩ := H;replace H : (if t159 = 0 then ((spec_l6Rd_of.f k1 s0_0 t160 (([(⟨#[]⟩ : ByteArray), (⟨#[97]⟩ : ByteArray), (⟨#[98, 37, 51, 68]⟩ : ByteArray)] : List ByteArray))).bind fun bt164 => ((spec_AddrText.f k1 (rdOf ByteArray.empty t142 t145) x149001_1 true bt164.1).bind fun t166 => (some (t166, bt164.2)))) else ((spec_AddrText.f k1 (rdOf ByteArray.empty t142 t145) x149001_1 false (⟨#[]⟩ : ByteArray)).bind fun t167 => (some (t167, t160)))) = some (r1, r2) := H;have A25 := A_ A250;clear A250;have HF26 := A_ H;clear H;go_upto_if 27 with (first | (refine gR 22 (some 26) Tryz.func22 (spec_l6Rd_pick.calls k1 g s0_0 x1001_1 8 t159 t160 w0 _ ?side1 ?side2 A25.out) ?_; (case side1 => exact (zz36 HI0 NB0_148)); (case side2 => exact (zz37 HB HI0 GE148)); rintro w27 ⟨hi, hb, hk⟩; replace HO_149001 := A_ (Kd.R_mono (Kd.R_keep (IsS68.apart (show IsS68 w0 _ g s0_0 x1001_1 from (zz36 HI0 NB0_148)) (zz18 HO_149001) (by decide)) hk (fun _ h => h.2)) (fun _ h => h.1)); replace BK148 := A_ (KeepBut.blk hk (g' := gb148) (o := .cells #[.string (rdOf ByteArray.empty t142 t145), u149001, .bool false, .string (⟨#[]⟩ : ByteArray)] 39 (0, 0)) (zz3 BK148) NB148_0.out (by simp)); replace HK := A_ (KeepBut.trans (zz40 HK GW148) hk (.inl rfl)); replace HB := A_ (hb); replace HI0 := A_ (hi); (try clear hb hk hi)))
     obtain ⟨H⟩ := HF26;replace H := iteEq H;rcases H with ⟨c28b0, c28b1, H⟩ | ⟨c28b0, c28b1, c28, H⟩
     ·(first | rw [c28b0] | (simp only [i64_w, i32_w]; rw [c28b0]) | skip)
      obtain ⟨y161, Ny161⟩ := toY (([(⟨#[]⟩ : ByteArray), (⟨#[97]⟩ : ByteArray), (⟨#[98, 37, 51, 68]⟩ : ByteArray)] : List ByteArray));(first | with_reducible replace H := bindZ Ny161 H | rw [← Ny161.out] at H | skip)
      replace H := bindA H;obtain ⟨⟨t164, t165⟩, A29, H⟩ := H;try dsimp only at H
      replace H := bindA H;obtain ⟨t166, A30, H⟩ := H;simp only [Option.some.injEq, Prod.mk.injEq] at H
      obtain ⟨rfl, rfl⟩ := H;have hnb31 := NB148_0.out;have hnc31 := NB0_148.out;obtain ⟨_, _, _, _, _, _, _, _⟩ := cf4 BK148;go_wp2_with (first | ((with_reducible refine gD (N := 30) rfl ?_); refine Kd.R_lit Kd.string _ 9 ?hg (N := 30) ?hd (xs := ([(⟨#[]⟩ : ByteArray), (⟨#[97]⟩ : ByteArray), (⟨#[98, 37, 51, 68]⟩ : ByteArray)] : List ByteArray)) (inner := [.string (⟨#[]⟩ : ByteArray), .string (⟨#[97]⟩ : ByteArray), .string (⟨#[98, 37, 51, 68]⟩ : ByteArray)]) (ok := fun _ => True) (okp := fun _ => True) ?hr ?hp (fun _ hk => hk) trivial (Below.refl _ _) (Nat.le_refl _) (by simp) ?_; (case hd => rfl); (case hg => rfl); (case hr => exact zz16); (case hp => exact (Reps.one (show Kd.M Kd.string _ _ _ (⟨#[]⟩ : ByteArray) [.string (⟨#[]⟩ : ByteArray)] from rfl) (Reps.one (show Kd.M Kd.string _ _ _ (⟨#[97]⟩ : ByteArray) [.string (⟨#[97]⟩ : ByteArray)] from rfl) (Reps.one (show Kd.M Kd.string _ _ _ (⟨#[98, 37, 51, 68]⟩ : ByteArray) [.string (⟨#[98, 37, 51, 68]⟩ : ByteArray)] from rfl) (Reps.none _ _))))); intro v162 w33 ho34 hb hg_ hnew_; clear hg_ hnew_; (first | rw [← Ny161.out] at ho34 | (simp only [Int.reduceToNat] at ho34; rw [← Ny161.out] at ho34)); have HO163 := A_ (Kd.R_lower (Kd.R_new' ho34 (Kd.R_lt (zz47 HO_149001 BK148))) (keep_size (w := w) (g := g) (row := none) (zz40 HK GW148))); replace HO_149001 := A_ (Kd.R_elder' (zz47 HO_149001 BK148) (Kd.R_base ho34) hb); replace BK148 := A_ (bB (g := gb148) (o := .cells #[.string (rdOf ByteArray.empty t142 t145), u149001, .bool true, .string (⟨#[]⟩ : ByteArray)] 39 (0, 0)) (zz48 BK148) hb); replace HK := A_ (KeepBut.trans (zz40 HK GW148) (KeepBut.of_below hb g none) (.inl rfl)); replace HB := A_ (bS (zz37 HB HI0 GE148) hb); replace HI0 := A_ (IsS68.below (show IsS68 w0 (w27.setCell ⟨gb148, 2, none⟩ (.bool true)) g s0_0 t160 from (zz36 HI0 NB0_148)) hb); clear hb ho34; obtain ⟨Ao35, co35, eo35⟩ := Kd.R_slice HO163.out; subst eo35) | (refine gR 41 (some 31) Tryz.func41 (spec_l6Rd_of.calls k1 g s0_0 t160 _ _ y161 t164 t165 w0 _ ?side1 ?side2 ?side3 ?side4 ?side5 A29.out) ?_; (case side1 => exact (zz36 HI0 NB0_148)); (case side2 => exact (zz37 HB HI0 GE148)); (case side3 => exact (zz43 HO163)); (case side4 => exact (Kd.R_reads' HO163.out).2.1); (case side5 => exact far_slice (IsS68.own_ne HI0.out HO163.out (by decide))); rintro w36 ⟨hi, hb, hk⟩; replace HO_149001 := A_ (Kd.R_mono (Kd.R_keep (IsS68.apart (show IsS68 w0 _ g s0_0 t160 from (zz36 HI0 NB0_148)) (zz18 HO_149001) (by decide)) hk (fun _ h => h.2)) (fun _ h => h.1)); replace BK148 := A_ (KeepBut.blk hk (g' := gb148) (o := .cells #[.string (rdOf ByteArray.empty t142 t145), u149001, .bool true, .string (⟨#[]⟩ : ByteArray)] 39 (0, 0)) (zz3 BK148) NB148_0.out (by simp)); replace HO163 := A_ (Kd.R_mono (Kd.R_keep (IsS68.apart (show IsS68 w0 _ g s0_0 t160 from (zz36 HI0 NB0_148)) (zz18 HO163) (by decide)) hk (fun _ h => h.2)) (fun _ h => h.1)); replace HK := A_ (KeepBut.trans (zz40 HK GW148) hk (.inl rfl)); replace HB := A_ (hb); replace HI0 := A_ (hi); (try clear hb hk hi); obtain ⟨_, _, _, _, _, _, _, _⟩ := cf4 BK148; obtain ⟨Ao38, co38, eo38⟩ := Kd.R_slice HO_149001.out; subst eo38) | ((with_reducible refine gC (f := 47) rfl ?_); refine gsL (some 34) Tryz.func47 #[.agg #[.string (rdOf ByteArray.empty t142 t145), .slice Ao38 x149001_1.length co38, .bool true, .string t164]] ?_; (with_reducible refine (spec_AddrText.calls k1 (rdOf ByteArray.empty t142 t145) _ _ x149001_1 true t164 t166 _ ?side1 ?side2 A30.out).mono ?_); (case side1 => exact (by refine (Kd.R_reads' (e := 9) (base := w.heap.size) (ok := fun k_ => (True ∧ some k_ ≠ (.slice Ao35 y161.length co35 : Value).ownBlock)) (n := x149001_1.length) (c := co38) ?_).2.2; exact (zz49 HO_149001 BK148))); (case side2 => exact (Kd.R_reads' HO_149001.out).2.1); rintro e w39 ⟨rfl, hb⟩; refine ⟨_, rfl, ?_⟩; replace HO_149001 := A_ (rB (zz49 HO_149001 BK148) hb); replace HO163 := A_ (rB (zz49 HO163 BK148) hb); replace BK148 := A_ (bB (g := gb148) (o := .cells #[.string (rdOf ByteArray.empty t142 t145), .slice Ao38 x149001_1.length co38, .bool true, .string t164] 39 (0, 0)) (by first | ((repeat (first | (with_reducible first | exact BK148.out | refine blk_drewN ?_ _ | refine blk_drew ?_ | refine blk_alloc ?_ _ | apply blk_put) | exact BK148.out)); all_goals rfl; done) | (apply blk_put (i := 3); exact BK148.out; all_goals rfl)) hb); replace HK := A_ (KeepBut.trans (zz40 HK GW148) (KeepBut.of_below hb g none) (.inl rfl)); replace HB := A_ (bS (zz37 HB HI0 GE148) hb); replace HI0 := A_ (IsS68.below (show IsS68 w0 (w36.setCell ⟨gb148, 3, none⟩ (.string t164)) g s0_0 t165 from (zz36 HI0 NB0_148)) hb); (try clear hb)))
      go_ret
      exact ⟨zz11, (zz36 HI0 NB0_148), (zz37 HB HI0 GE148), (zz40 HK GW148)⟩
     ·(first | rw [c28b0] | (simp only [i64_w, i32_w]; rw [c28b0]) | skip)
      replace H := bindA H;obtain ⟨t167, A40, H⟩ := H;simp only [Option.some.injEq, Prod.mk.injEq] at H
      obtain ⟨rfl, rfl⟩ := H;have hnb41 := NB148_0.out;have hnc41 := NB0_148.out;obtain ⟨_, _, _, _, _, _, _, _⟩ := cf4 BK148;obtain ⟨Ao43, co43, eo43⟩ := Kd.R_slice HO_149001.out;subst eo43;go_wp2_with (first | (refine gR 47 (some 34) Tryz.func47 (spec_AddrText.calls k1 (rdOf ByteArray.empty t142 t145) _ _ x149001_1 false (⟨#[]⟩ : ByteArray) t167 _ ?side1 ?side2 A40.out) ?_; (case side1 => exact (zz43 HO_149001)); (case side2 => exact (Kd.R_reads' HO_149001.out).2.1); rintro w44 hb; replace HO_149001 := A_ (rB (zz18 HO_149001) hb); replace BK148 := A_ (bB (zz3 BK148) hb); replace HK := A_ (KeepBut.trans (zz40 HK GW148) (KeepBut.of_below hb g none) (.inl rfl)); replace HB := A_ (bS (zz37 HB HI0 GE148) hb); replace HI0 := A_ (IsS68.below (zz36 HI0 NB0_148) hb); (try clear hb)))
      go_ret
      exact ⟨zz11, (zz36 HI0 NB0_148), (zz37 HB HI0 GE148), (zz40 HK GW148)⟩
 ·exact absurd H (by simp)
def spec_l11At.l0 : Nat → List (S30) → ByteArray → Int → Option (ByteArray × ByteArray × ByteArray × Int × Bool)
 | 0, _, _, _ => none
 | k + 1, x0, x1, x6 => if x6 < (x0.length : Int) then (if 0 ≤ x6 then (if ((rd_T30 x0 x6).f0).toList = x1.toList then (some ((rd_T30 x0 x6).f0, (rd_T30 x0 x6).f1, (rd_T30 x0 x6).f2, (rd_T30 x0 x6).f3, true)) else (spec_l11At.l0 k x0 x1 (wrap64 (x6 + 1)))) else (none)) else (some ((⟨#[]⟩ : ByteArray), (⟨#[]⟩ : ByteArray), (⟨#[]⟩ : ByteArray), 0, false))
def spec_l11At.f (k : Nat) (l0 : List (S30)) (a1 : ByteArray) : Option (ByteArray × ByteArray × ByteArray × Int × Bool) := spec_l11At.l0 k l0 a1 0
theorem spec_l11At.calls (k : Nat) (A0 : Option Addr) (c0 : Nat) (l0 : List (S30)) (a1 : ByteArray) (r1 : ByteArray) (r2 : ByteArray) (r3 : ByteArray) (r4 : Int) (r5 : Bool) (w : World) (hr0 : Kd.C k30 w A0 l0.length l0) (hc0 : l0.length ≤ c0) (h : spec_l11At.f k l0 a1 = some (r1, r2, r3, r4, r5)) :
  Calls Tryz.prog 44 #[.slice A0 l0.length c0, .string a1] w fun e w' => e = .returned (.tuple #[.agg #[.string r1, .string r2, .string r3, .int .i64 r4], .bool r5]) ∧ Below w.heap.size w w' := by
 have hu30 := Tryz.underlying30;have HR0 := A_ hr0;have HC0 := A_ hc0;clear hr0 hc0;have HB := A_ (Below.refl w.heap.size w);unfold spec_l11At.f at h
 have H := h;clear h;have H' := A_ H;clear H;go_enter Tryz.func44, Tryz.ntmps44;go_wp2_with (first | (refine boxF 4 #[.string (⟨#[]⟩ : ByteArray), .string (⟨#[]⟩ : ByteArray), .string (⟨#[]⟩ : ByteArray), .int .i64 0] 30 ?_; intro gb168 hg w3 BK168 hb; have GE168 := geB hg (zz2 HB); replace HB := A_ (bS (zz2 HB) hb); clear hb hg))
 go_loopg [6] k (fun kq v6 w' => ∃ (x6_1 : Int) (x169000_1 : ByteArray) (x169001_1 : ByteArray) (x169002_1 : ByteArray) (x169003_1 : Int), v6 = .int .i64 x6_1 ∧ Aside0 (spec_l11At.l0 kq l0 a1 x6_1 = some (r1, r2, r3, r4, r5)) ∧ Aside0 (kq ≤ k) ∧ Aside0 (w'.heap[gb168]? = some (.cells #[.string x169000_1, .string x169001_1, .string x169002_1, .int .i64 x169003_1] 30 (0, 0))) ∧ Aside0 (Below w.heap.size w w'))
 case atStart => exact ⟨(0), ((⟨#[]⟩ : ByteArray)), ((⟨#[]⟩ : ByteArray)), ((⟨#[]⟩ : ByteArray)), (0), zz5, H', ⟨Nat.le_refl _⟩, ⟨(zz3 BK168)⟩, ⟨(zz4 HB GE168)⟩⟩
 case round =>
  clear H';obtain ⟨x6_1, x169000_1, x169001_1, x169002_1, x169003_1, rfl, HA, HK1, BK168, HB⟩ := hrel;cases gk with
  | zero => exact absurd HA.out (by simp [spec_l11At.l0])
  | succ k1 =>
   obtain ⟨H⟩ := HA;simp only [spec_l11At.l0] at H
   replace H := iteEd H;rcases H with ⟨c4b0, H⟩ | ⟨c4b0, H⟩
   ·replace H := iteNd H
    obtain ⟨c5b0, H⟩ := H;replace H := iteEq H;rcases H with ⟨c6b0, c6b1, H⟩ | ⟨c6b0, c6b1, c6, H⟩
    ·simp only [Option.some.injEq, Prod.mk.injEq] at H
     obtain ⟨rfl, rfl, rfl, rfl, rfl⟩ := H;obtain ⟨⟨ad169, e169, hx169_0, hx169_1, hx169_2, hx169_3⟩, p169, q169⟩ := atB (at_T30 HR0.out x6_1);cases e169
     obtain ⟨hx169_0, hx169_1, hx169_2, hx169_3⟩ := cb4 HB hx169_0 hx169_1 hx169_2 hx169_3;obtain ⟨⟨ad170, e170, hx170_0, hx170_1, hx170_2, hx170_3⟩, p170, q170⟩ := atB (at_T30 HR0.out x6_1);obtain rfl : ad169 = ad170 := (by injection e170);obtain ⟨hx170_0, hx170_1, hx170_2, hx170_3⟩ := cb4 HB hx170_0 hx170_1 hx170_2 hx170_3;obtain ⟨_, _, _, _, _, _, _, _⟩ := cf4 BK168;go_wp2
     refine pR (results_ct rfl _ _ gb168 30 #[.string ((rd_T30 l0 x6_1).f0), .string ((rd_T30 l0 x6_1).f1), .string ((rd_T30 l0 x6_1).f2), .int .i64 ((rd_T30 l0 x6_1).f3)] (0, 0) _ rfl (zz39 BK168) Tryz.underlying30 rfl (by kernel_rfl)) rfl ?_;exact ⟨zz11, (zz4 HB GE168)⟩
    ·have H' := A_ H
     clear H;obtain ⟨⟨ad169, e169, hx169_0, hx169_1, hx169_2, hx169_3⟩, p169, q169⟩ := atB (at_T30 HR0.out x6_1);cases e169
     obtain ⟨hx169_0, hx169_1, hx169_2, hx169_3⟩ := cb4 HB hx169_0 hx169_1 hx169_2 hx169_3;go_wp2
     go_roundg k1
     case measure => have := HK1.out; omega
     case rel => exact ⟨(wrap64 (x6_1 + 1)), (x169000_1), (x169001_1), (x169002_1), (x169003_1), zz5, H', ⟨(zz20 HK1)⟩, ⟨(zz3 BK168)⟩, ⟨(zz4 HB GE168)⟩⟩
   ·simp only [Option.some.injEq, Prod.mk.injEq] at H
    obtain ⟨rfl, rfl, rfl, rfl, rfl⟩ := H;obtain ⟨_, _, _, _, _, _, _, _⟩ := cf4 BK168;go_wp2
    refine pR (results_ct rfl _ _ gb168 30 #[.string (⟨#[]⟩ : ByteArray), .string (⟨#[]⟩ : ByteArray), .string (⟨#[]⟩ : ByteArray), .int .i64 0] (0, 0) _ rfl (zz39 BK168) Tryz.underlying30 rfl (by kernel_rfl)) rfl ?_;exact ⟨zz11, (zz4 HB GE168)⟩
def spec_l2Name.l0 : Nat → ByteArray → Int → Option (Bool)
 | 0, _, _ => none
 | k + 1, x0, x3 => if x3 < (x0.size : Int) then (if 0 ≤ x3 then (if (bt x0 x3) < 97 then (some false) else (if (bt x0 x3) > 122 then (some false) else (spec_l2Name.l0 k x0 (wrap64 (x3 + 1))))) else (none)) else ((spec_l6In.f (x0.size : Int) 1 8).bind fun t179 => (some t179))
def spec_l2Name.f (k : Nat) (a0 : ByteArray) : Option (Bool) := spec_l2Name.l0 k a0 0
theorem spec_l2Name.mono_l : ∀ k, (∀ y0 y1, LeO (spec_l2Name.l0 k y0 y1) (spec_l2Name.l0 (k + 1) y0 y1))
 | 0 => by intros; intro r h; simp [spec_l2Name.l0] at h
 | k + 1 => by
  have ih0 := spec_l2Name.mono_l k; intros; unfold spec_l2Name.l0;repeat' first | (with_reducible first | exact ih0 _ _ | exact LeO.refl _ | exact LeO.none _ | refine LeO.ite ?_ ?_ | refine LeO.bind ?_ (fun _ => ?_)) | exact LeO.none _ | refine LeO.ite ?_ ?_ | refine LeO.bind ?_ (fun _ => ?_)
theorem spec_l2Name.mono : ∀ a0 k, LeO (spec_l2Name.f k a0) (spec_l2Name.f (k + 1) a0) := by
 intro a0 k;have ih0 := spec_l2Name.mono_l k;unfold spec_l2Name.f
 repeat' first | (with_reducible first | exact ih0 _ _ | exact LeO.refl _ | exact LeO.none _ | refine LeO.ite ?_ ?_ | refine LeO.bind ?_ (fun _ => ?_)) | exact LeO.none _ | refine LeO.ite ?_ ?_ | refine LeO.bind ?_ (fun _ => ?_)
theorem spec_l2Name.calls (k : Nat) (a0 : ByteArray) (r : Bool) (w : World) (h : spec_l2Name.f k a0 = some r) :
  Calls Tryz.prog 116 #[.string a0] w fun e w' => e = .returned (.bool r) ∧ Drawn0 w w' := by
 unfold spec_l2Name.f at h
 have H := h;clear h;have H' := A_ H;clear H;go_enter Tryz.func116, Tryz.ntmps116;go_wp2
 go_loopg [3] k (fun kq v3 w' => ∃ (x3_1 : Int), v3 = .int .i64 x3_1 ∧ Aside0 (spec_l2Name.l0 kq a0 x3_1 = some r) ∧ Aside0 (kq ≤ k) ∧ Drawn0 w w')
 case atStart => exact ⟨(0), zz5, H', ⟨Nat.le_refl _⟩, zz22⟩
 case round =>
  clear H';obtain ⟨x3_1, rfl, HA, HK1, ⟨m1, rfl⟩⟩ := hrel;cases gk with
  | zero => exact absurd HA.out (by simp [spec_l2Name.l0])
  | succ k1 =>
   obtain ⟨H⟩ := HA;simp only [spec_l2Name.l0] at H
   replace H := iteEd H;rcases H with ⟨c2b0, H⟩ | ⟨c2b0, H⟩
   ·replace H := iteNd H
    obtain ⟨c3b0, H⟩ := H;replace H := iteEd H;rcases H with ⟨c5b0, H⟩ | ⟨c5b0, H⟩
    ·obtain rfl := sI H
     have p4 : 0 ≤ (x3_1 : Int) := ofD;have q4 : x3_1 < (a0.size : Int) := ofD;have hx4 := bt_at a0 x3_1;replace p4 := eq_true p4;replace q4 := eq_true q4;go_wp2
     go_ret
     exact ⟨zz5, zz22⟩
    ·replace H := iteEg H
     rcases H with ⟨c7b0, H⟩ | ⟨c7b0, H⟩
     ·obtain rfl := sI H
      have p4 : 0 ≤ (x3_1 : Int) := ofD;have q4 : x3_1 < (a0.size : Int) := ofD;have hx4 := bt_at a0 x3_1;replace p4 := eq_true p4;replace q4 := eq_true q4;have p6 : 0 ≤ (x3_1 : Int) := ofD;have q6 : x3_1 < (a0.size : Int) := ofD;have hx6 := bt_at a0 x3_1;replace p6 := eq_true p6;replace q6 := eq_true q6;go_wp2
      go_ret
      exact ⟨zz5, zz22⟩
     ·have H' := A_ H
      clear H;have p4 : 0 ≤ (x3_1 : Int) := ofD;have q4 : x3_1 < (a0.size : Int) := ofD;have hx4 := bt_at a0 x3_1;replace p4 := eq_true p4;replace q4 := eq_true q4;have p6 : 0 ≤ (x3_1 : Int) := ofD;have q6 : x3_1 < (a0.size : Int) := ofD;have hx6 := bt_at a0 x3_1;replace p6 := eq_true p6;replace q6 := eq_true q6;go_wp2
      go_roundg k1
      case measure => have := HK1.out; omega
      case rel => exact ⟨(wrap64 (x3_1 + 1)), zz5, H', ⟨(zz20 HK1)⟩, zz22⟩
   ·replace H := Option.bind_eq_some_iff.mp H
    obtain ⟨t179, A80, H⟩ := H;replace H : (some t179) = some r := H;have A8 := A_ A80;clear A80;obtain rfl := sI H;go_wp2_with (first | (refine gR 27 (some 22) Tryz.func27 (spec_l6In.calls (a0.size : Int) 1 8 t179 _ A8.out) ?_; rintro w' ⟨nd, rfl⟩))
    go_ret
    exact ⟨zz5, zz22⟩
mutual
def spec_RuleOk.j0 : Nat → ByteArray → Bool → Option (Bool)
 | 0, _, _ => none
 | k + 1, x0, x16 => if x16 = true then (some false) else (spec_RuleOk.l0 k x0 0)
def spec_RuleOk.l0 : Nat → ByteArray → Int → Option (Bool)
 | 0, _, _ => none
 | k + 1, x0, x3 => if x3 < (x0.size : Int) then (if 0 ≤ x3 then ((spec_l1Plain.f (bt x0 x3)).bind fun t180 => (if t180 = true then (spec_RuleOk.l0 k x0 (wrap64 (x3 + 1))) else (if (bt x0 x3) = 47 then (spec_RuleOk.l0 k x0 (wrap64 (x3 + 1))) else (if (bt x0 x3) = 42 then (spec_RuleOk.l0 k x0 (wrap64 (x3 + 1))) else (if (bt x0 x3) = 63 then (spec_RuleOk.l0 k x0 (wrap64 (x3 + 1))) else (if (bt x0 x3) = 37 then (spec_RuleOk.l0 k x0 (wrap64 (x3 + 1))) else (if (bt x0 x3) ≥ 65 then (if ((bt x0 x3) ≤ 70) then (spec_RuleOk.l0 k x0 (wrap64 (x3 + 1))) else (if (bt x0 x3) = 36 then (if (x3 = (wrap64 ((x0.size : Int) - 1))) then (spec_RuleOk.l0 k x0 (wrap64 (x3 + 1))) else (some false)) else (some false))) else (if (bt x0 x3) = 36 then (if (x3 = (wrap64 ((x0.size : Int) - 1))) then (spec_RuleOk.l0 k x0 (wrap64 (x3 + 1))) else (some false)) else (some false))))))))) else (none)) else (some true)
end
def spec_RuleOk.f (k : Nat) (a0 : ByteArray) : Option (Bool) := if (a0.size : Int) > 16 then (spec_RuleOk.j0 k a0 true) else (if a0.toList = ([] : List UInt8) then (spec_RuleOk.j0 k a0 true) else (if 0 < (a0.size : Int) then (spec_RuleOk.j0 k a0 ((bt a0 0) != 47)) else (none)))
theorem spec_RuleOk.calls (k : Nat) (a0 : ByteArray) (r : Bool) (w : World) (h : spec_RuleOk.f k a0 = some r) :
  Calls Tryz.prog 117 #[.string a0] w fun e w' => e = .returned (.bool r) ∧ Drawn0 w w' := by
 unfold spec_RuleOk.f at h
 have H := h;clear h;have HC2 := A_ H;clear H;go_enter Tryz.func117, Tryz.ntmps117;go_upto_region 1 with (fail)
 go_cut [16] (fun v16 wc => ∃ (kq : Nat) (x16_1 : Bool), v16 = .bool x16_1 ∧ Aside0 (spec_RuleOk.j0 kq a0 x16_1 = some r) ∧ Aside0 (kq ≤ k) ∧ Drawn0 w wc)
 case first =>
  obtain ⟨H⟩ := HC2;replace H := iteE H;rcases H with ⟨c3, H⟩ | ⟨c3, H⟩
  ·have c3b0 := gtT c3
   have c3b1 : decide (16 < a0.size) = true := dT (by omega);clear c3;(first | rw [c3b0] | (simp only [i64_w, i32_w]; rw [c3b0]) | skip)
   have H' := A_ H;clear H;go_wp2
   go_meet
   case rel => exact ⟨_, (true), zz5, H', ⟨zz6⟩, zz22⟩
  ·have c3b0 := gtF c3
   have c3b1 : decide (16 < a0.size) = false := dF (by omega);clear c3;(first | rw [c3b0] | (simp only [i64_w, i32_w]; rw [c3b0]) | skip)
   replace H := iteEq H;rcases H with ⟨c4b0, c4b1, H⟩ | ⟨c4b0, c4b1, c4, H⟩
   ·have H' := A_ H
    clear H;go_wp2
    go_meet
    case rel => exact ⟨_, (true), zz5, H', ⟨zz6⟩, zz22⟩
   ·replace H := iteN H
    obtain ⟨c5, H⟩ := H;have c5b0 := dT c5;have c5b1 : decide (0 < a0.size) = true := dT (by omega);clear c5;have H' := A_ H;clear H;have p6 : 0 ≤ (0 : Int) := (by omega);have q6 : 0 < a0.size := (by have : (0 : Int) < (a0.size : Int) := ofD; omega);have hx6 : ∀ h : 0 < a0.size, ((a0[0]'h).toNat : Int) = bt a0 0 := bt_at a0 0;clear p6;have qi6 : (0 < (a0.size : Int)) = True := eq_true ofD;replace q6 := eq_true q6;go_wp2
    go_meet
    case rel => exact ⟨_, (((bt a0 0) != 47)), zz5, H', ⟨zz6⟩, zz22⟩
 case rest =>
  clear HC2;obtain ⟨kq, x16_1, rfl, HA, HJ1, ⟨mc1, rfl⟩⟩ := hcut;cases kq with
  | zero => exact absurd HA.out (by simp [spec_RuleOk.j0])
  | succ kj1 =>
   obtain ⟨H⟩ := HA;simp only [spec_RuleOk.j0] at H
   replace H := iteB H;rcases H with ⟨rfl, H⟩ | ⟨rfl, H⟩
   ·obtain rfl := sI H
    go_wp2
    go_ret
    exact ⟨zz5, zz22⟩
   ·have H' := A_ H
    clear H;go_wp2
    go_loopg [3] kj1 (fun kq v3 w' => ∃ (x3_2 : Int), v3 = .int .i64 x3_2 ∧ Aside0 (spec_RuleOk.l0 kq a0 x3_2 = some r) ∧ Aside0 (kq ≤ kj1) ∧ Drawn0 w w')
    case atStart => exact ⟨(0), zz5, H', ⟨Nat.le_refl _⟩, zz22⟩
    case round =>
     clear H';obtain ⟨x3_2, rfl, HA, HK2, ⟨m2, rfl⟩⟩ := hrel;cases gk with
     | zero => exact absurd HA.out (by simp [spec_RuleOk.l0])
     | succ k2 =>
      obtain ⟨H⟩ := HA;simp only [spec_RuleOk.l0] at H
      replace H := iteEd H;rcases H with ⟨c8b0, H⟩ | ⟨c8b0, H⟩
      ·replace H := iteNd H
       obtain ⟨c9b0, H⟩ := H;replace H := bindA H;obtain ⟨t180, A11, H⟩ := H;have HF12 := A_ H;clear H;have p10 : 0 ≤ (x3_2 : Int) := ofD;have q10 : x3_2 < (a0.size : Int) := ofD;have hx10 := bt_at a0 x3_2;replace p10 := eq_true p10;replace q10 := eq_true q10;go_wp2_with (first | (refine gR 130 (some 27) Tryz.func130 (spec_l1Plain.calls (bt a0 x3_2) t180 _ A11.out) ?_; rintro w' ⟨nd, rfl⟩) | ((with_reducible refine atG ?_ ?_ fun K_ hK_ => ?_); rfl; exact undecG) | ((with_reducible refine atI ?_ fun K_ hK_ => ?_); exact undecI))
       refine unG hK_ ?_; clear hK_ K_;obtain ⟨H⟩ := HF12;replace H := iteB H;rcases H with ⟨rfl, H⟩ | ⟨rfl, H⟩
       ·(first | refine iteT ?_ | refine iteF ?_ | skip)
        have H' := A_ H;clear H;(try ((with_reducible refine upS ?_); go_simp))
        go_wp2
        go_roundg k2
        case measure => have := HJ1.out; have := HK2.out; omega
        case rel => exact ⟨(wrap64 (x3_2 + 1)), zz5, H', ⟨(zz33 HJ1 HK2)⟩, zz22⟩
       ·(first | refine iteT ?_ | refine iteF ?_ | skip)
        replace H := iteEq H;rcases H with ⟨c14b0, c14b1, H⟩ | ⟨c14b0, c14b1, c14, H⟩
        ·have H' := A_ H
         clear H;go_wp2
         go_roundg k2
         case measure => have := HJ1.out; have := HK2.out; omega
         case rel => exact ⟨(wrap64 (x3_2 + 1)), zz5, H', ⟨(zz33 HJ1 HK2)⟩, zz22⟩
        ·replace H := iteEq H
         rcases H with ⟨c15b0, c15b1, H⟩ | ⟨c15b0, c15b1, c15, H⟩
         ·have H' := A_ H
          clear H;go_wp2
          go_roundg k2
          case measure => have := HJ1.out; have := HK2.out; omega
          case rel => exact ⟨(wrap64 (x3_2 + 1)), zz5, H', ⟨(zz33 HJ1 HK2)⟩, zz22⟩
         ·replace H := iteEq H
          rcases H with ⟨c16b0, c16b1, H⟩ | ⟨c16b0, c16b1, c16, H⟩
          ·have H' := A_ H
           clear H;go_wp2
           go_roundg k2
           case measure => have := HJ1.out; have := HK2.out; omega
           case rel => exact ⟨(wrap64 (x3_2 + 1)), zz5, H', ⟨(zz33 HJ1 HK2)⟩, zz22⟩
          ·replace H := iteEq H
           rcases H with ⟨c17b0, c17b1, H⟩ | ⟨c17b0, c17b1, c17, H⟩
           ·have H' := A_ H
            clear H;go_wp2
            go_roundg k2
            case measure => have := HJ1.out; have := HK2.out; omega
            case rel => exact ⟨(wrap64 (x3_2 + 1)), zz5, H', ⟨(zz33 HJ1 HK2)⟩, zz22⟩
           ·replace H := iteEe H
            rcases H with ⟨c18b0, H⟩ | ⟨c18b0, H⟩
            ·replace H := iteE H
             rcases H with ⟨c19, H⟩ | ⟨c19, H⟩
             ·have c19b0 : decide ((bt a0 x3_2) ≤ 70) = true := dT c19
              clear c19;have H' := A_ H;clear H;go_wp2
              go_roundg k2
              case measure => have := HJ1.out; have := HK2.out; omega
              case rel => exact ⟨(wrap64 (x3_2 + 1)), zz5, H', ⟨(zz33 HJ1 HK2)⟩, zz22⟩
             ·have c19b0 : decide ((bt a0 x3_2) ≤ 70) = false := dF c19
              clear c19;replace H := iteEq H;rcases H with ⟨c20b0, c20b1, H⟩ | ⟨c20b0, c20b1, c20, H⟩
              ·replace H := iteEq H
               rcases H with ⟨c21b0, c21b1, H⟩ | ⟨c21b0, c21b1, c21, H⟩
               ·have H' := A_ H
                clear H;go_wp2
                go_roundg k2
                case measure => have := HJ1.out; have := HK2.out; omega
                case rel => exact ⟨(wrap64 (x3_2 + 1)), zz5, H', ⟨(zz33 HJ1 HK2)⟩, zz22⟩
               ·obtain rfl := sI H
                go_wp2
                go_ret
                exact ⟨zz5, zz22⟩
              ·obtain rfl := sI H
               go_wp2
               go_ret
               exact ⟨zz5, zz22⟩
            ·replace H := iteEq H
             rcases H with ⟨c22b0, c22b1, H⟩ | ⟨c22b0, c22b1, c22, H⟩
             ·replace H := iteEq H
              rcases H with ⟨c23b0, c23b1, H⟩ | ⟨c23b0, c23b1, c23, H⟩
              ·have H' := A_ H
               clear H;go_wp2
               go_roundg k2
               case measure => have := HJ1.out; have := HK2.out; omega
               case rel => exact ⟨(wrap64 (x3_2 + 1)), zz5, H', ⟨(zz33 HJ1 HK2)⟩, zz22⟩
              ·obtain rfl := sI H
               go_wp2
               go_ret
               exact ⟨zz5, zz22⟩
             ·obtain rfl := sI H
              go_wp2
              go_ret
              exact ⟨zz5, zz22⟩
      ·obtain rfl := sI H
       go_wp2
       go_ret
       exact ⟨zz5, zz22⟩
mutual
def spec_NoticeOk.l0 : Nat → List (S106) → Int → Int → Option (Bool)
 | 0, _, _, _ => none
 | k + 1, x0, x3, x4 => if x4 < (x0.length : Int) then (if 0 ≤ x4 then (if (((rd_T106 x0 x4).f0).length : Int) = 0 then (spec_NoticeOk.j1 k x0 x3 x4 true ((rd_T106 x0 x4).f0) ((rd_T106 x0 x4).f1) ((rd_T106 x0 x4).f2)) else (if (((rd_T106 x0 x4).f1).length : Int) = 0 then (if ((rd_T106 x0 x4).f2) = 0 then (spec_NoticeOk.j1 k x0 x3 x4 true ((rd_T106 x0 x4).f0) ((rd_T106 x0 x4).f1) ((rd_T106 x0 x4).f2)) else (if (((rd_T106 x0 x4).f1).length : Int) > 6 then (spec_NoticeOk.j1 k x0 x3 x4 true ((rd_T106 x0 x4).f0) ((rd_T106 x0 x4).f1) ((rd_T106 x0 x4).f2)) else ((spec_l6In.f ((rd_T106 x0 x4).f2) 0 20).bind fun t183 => (spec_NoticeOk.j1 k x0 x3 x4 (!t183) ((rd_T106 x0 x4).f0) ((rd_T106 x0 x4).f1) ((rd_T106 x0 x4).f2))))) else (if (((rd_T106 x0 x4).f1).length : Int) > 6 then (spec_NoticeOk.j1 k x0 x3 x4 true ((rd_T106 x0 x4).f0) ((rd_T106 x0 x4).f1) ((rd_T106 x0 x4).f2)) else ((spec_l6In.f ((rd_T106 x0 x4).f2) 0 20).bind fun t184 => (spec_NoticeOk.j1 k x0 x3 x4 (!t184) ((rd_T106 x0 x4).f0) ((rd_T106 x0 x4).f1) ((rd_T106 x0 x4).f2)))))) else (none)) else (some (decide (x3 ≤ 40)))
def spec_NoticeOk.j1 : Nat → List (S106) → Int → Int → Bool → List ByteArray → List (S108) → Int → Option (Bool)
 | 0, _, _, _, _, _, _, _ => none
 | k + 1, x0, x3, x4, x44, x183000, x183001, x183002 => if x44 = true then (some false) else (spec_NoticeOk.l1 k x0 x3 x4 0 x183000 x183001 x183002)
def spec_NoticeOk.l1 : Nat → List (S106) → Int → Int → Int → List ByteArray → List (S108) → Int → Option (Bool)
 | 0, _, _, _, _, _, _, _ => none
 | k + 1, x0, x3, x4, x6, x183000, x183001, x183002 => if x6 < (x183000.length : Int) then (if 0 ≤ x6 then (if (rdOf ByteArray.empty x183000 x6).toList = ([42] : List UInt8) then (spec_NoticeOk.l1 k x0 x3 x4 (wrap64 (x6 + 1)) x183000 x183001 x183002) else ((spec_l2Name.f k (rdOf ByteArray.empty x183000 x6)).bind fun t187 => (if t187 = true then (spec_NoticeOk.l1 k x0 x3 x4 (wrap64 (x6 + 1)) x183000 x183001 x183002) else (some false)))) else (none)) else (spec_NoticeOk.l2 k x0 x3 x4 0 x183000 x183001 x183002)
def spec_NoticeOk.l2 : Nat → List (S106) → Int → Int → Int → List ByteArray → List (S108) → Int → Option (Bool)
 | 0, _, _, _, _, _, _, _ => none
 | k + 1, x0, x3, x4, x7, x183000, x183001, x183002 => if x7 < (x183001.length : Int) then (if 0 ≤ x7 then ((spec_RuleOk.f k ((rd_T108 x183001 x7).f1)).bind fun t189 => (if t189 = true then (spec_NoticeOk.l2 k x0 x3 x4 (wrap64 (x7 + 1)) x183000 x183001 x183002) else (some false))) else (none)) else (spec_NoticeOk.l0 k x0 (wrap64 ((wrap64 ((wrap64 (x3 + (x183000.length : Int))) + (x183001.length : Int))) + 1)) (wrap64 (x4 + 1)))
end
def spec_NoticeOk.f (k : Nat) (l0 : List (S106)) : Option (Bool) := spec_NoticeOk.l0 k l0 0 0
theorem spec_NoticeOk.calls (k : Nat) (A0 : Option Addr) (c0 : Nat) (l0 : List (S106)) (r : Bool) (w : World) (hr0 : Kd.C k106 w A0 l0.length l0) (hc0 : l0.length ≤ c0) (h : spec_NoticeOk.f k l0 = some r) :
  Calls Tryz.prog 93 #[.slice A0 l0.length c0] w fun e w' => e = .returned (.bool r) ∧ Below w.heap.size w w' := by
 have hu106 := Tryz.underlying106;have HR0 := A_ hr0;have HC0 := A_ hc0;clear hr0 hc0;have HB := A_ (Below.refl w.heap.size w);unfold spec_NoticeOk.f at h
 have H := h;clear h;have H' := A_ H;clear H;go_enter Tryz.func93, Tryz.ntmps93;go_wp2
 go_loopg [3, 4] k (fun kq v3 v4 w' => ∃ (x3_1 : Int) (x4_1 : Int), v3 = .int .i64 x3_1 ∧ v4 = .int .i64 x4_1 ∧ Aside0 (spec_NoticeOk.l0 kq l0 x3_1 x4_1 = some r) ∧ Aside0 (kq ≤ k) ∧ Aside0 (Below w.heap.size w w'))
 case atStart => exact ⟨(0), (0), zz5, zz5, H', ⟨Nat.le_refl _⟩, ⟨(zz2 HB)⟩⟩
 case round =>
  clear H';obtain ⟨x3_1, x4_1, rfl, rfl, HA, HK1, HB⟩ := hrel;cases gk with
  | zero => exact absurd HA.out (by simp [spec_NoticeOk.l0])
  | succ k1 =>
   obtain ⟨H⟩ := HA;simp only [spec_NoticeOk.l0] at H
   replace H := iteEd H;rcases H with ⟨c2b0, H⟩ | ⟨c2b0, H⟩
   ·replace H := iteNd H
    obtain ⟨c3b0, H⟩ := H;have HC4 := A_ H;clear H;obtain ⟨⟨ad181, A181_0, c181_0, A181_1, c181_1, e181, hx181_0, hx181_1, hx181_2, hl181_0, hi181_0, hl181_1, hi181_1⟩, p181, q181⟩ := atB (at_T106 HR0.out x4_1);cases e181
    obtain ⟨hx181_0, hx181_1, hx181_2⟩ := cb3 HB hx181_0 hx181_1 hx181_2;have HR181_0 := A_ hi181_0;have HC181_0 := A_ hl181_0;clear hi181_0 hl181_0;have HR181_1 := A_ hi181_1;have HC181_1 := A_ hl181_1;clear hi181_1 hl181_1;go_upto_region 6 with (first | ((with_reducible refine gD (N := 5) rfl ?_); (try (refine gate_guard (by rfl) ?_; dsimp only)); refine boxE 5 #[.slice none 0 0, .slice none 0 0, .int .i64 0] 106 ?_; intro gb182 hg w5 hbox hb; have BK182 := A_ (hbox); have GE182 := geB hg (zz2 HB); replace HB := A_ (bS (zz2 HB) hb); clear hb hbox hg; obtain ⟨_, _, _, _, _, _⟩ := cf3 BK182))
    (try simp only [Act.put, List.setIfInBounds_toArray, List.set_cons_zero, List.set_cons_succ])
    go_cut [44] (fun v44 wc => ∃ (kq : Nat) (x44_3 : Bool), v44 = .bool x44_3 ∧ Aside0 (spec_NoticeOk.j1 kq l0 x3_1 x4_1 x44_3 ((rd_T106 l0 x4_1).f0) ((rd_T106 l0 x4_1).f1) ((rd_T106 l0 x4_1).f2) = some r) ∧ Aside0 (kq ≤ k1) ∧ Aside0 (wc.heap[gb182]? = some (.cells #[(.slice A181_0 ((rd_T106 l0 x4_1).f0).length c181_0), (.slice A181_1 ((rd_T106 l0 x4_1).f1).length c181_1), .int .i64 ((rd_T106 l0 x4_1).f2)] 106 (0, 0))) ∧ Aside0 (Below w.heap.size w wc))
    case first =>
     obtain ⟨H⟩ := HC4;replace H := iteEq H;rcases H with ⟨c7b0, c7b1, H⟩ | ⟨c7b0, c7b1, c7, H⟩
     ·(first | rw [c7b0] | (simp only [i64_w, i32_w]; rw [c7b0]) | skip)
      have H' := A_ H;clear H;obtain ⟨_, _, _, _, _, _⟩ := cf3 BK182;go_wp2
      go_meet
      case rel => exact ⟨_, (true), zz5, H', ⟨(zz25 HK1)⟩, ⟨(zz57 BK182)⟩, ⟨(zz4 HB GE182)⟩⟩
     ·have c7b2 : ¬ (((rd_T106 l0 x4_1).f0) = []) := fun h_ => c7 (by rw [h_]; rfl)
      (first | rw [c7b0] | (simp only [i64_w, i32_w]; rw [c7b0]) | skip)
      replace H := iteEq H;rcases H with ⟨c9b0, c9b1, H⟩ | ⟨c9b0, c9b1, c9, H⟩
      ·replace H := iteEq H
       rcases H with ⟨c10b0, c10b1, H⟩ | ⟨c10b0, c10b1, c10, H⟩
       ·have H' := A_ H
        clear H;obtain ⟨_, _, _, _, _, _⟩ := cf3 BK182;go_wp2
        go_meet
        case rel => exact ⟨_, (true), zz5, H', ⟨(zz25 HK1)⟩, ⟨(zz57 BK182)⟩, ⟨(zz4 HB GE182)⟩⟩
       ·replace H := iteE H
        rcases H with ⟨c12, H⟩ | ⟨c12, H⟩
        ·have c12b0 := gtT c12
         have c12b1 : decide (6 < ((rd_T106 l0 x4_1).f1).length) = true := dT (by omega);clear c12;have H' := A_ H;clear H;obtain ⟨_, _, _, _, _, _⟩ := cf3 BK182;go_wp2
         go_meet
         case rel => exact ⟨_, (true), zz5, H', ⟨(zz25 HK1)⟩, ⟨(zz57 BK182)⟩, ⟨(zz4 HB GE182)⟩⟩
        ·have c12b0 := gtF c12
         have c12b1 : decide (6 < ((rd_T106 l0 x4_1).f1).length) = false := dF (by omega);clear c12;replace H := bindA H;obtain ⟨t183, A14, H⟩ := H;have H' := A_ H;clear H;obtain ⟨_, _, _, _, _, _⟩ := cf3 BK182;go_wp2_with (first | (go_at_call 27; (with_reducible refine (spec_l6In.calls ((rd_T106 l0 x4_1).f2) 0 20 t183 _ A14.out).mono ?_); rintro e w' ⟨rfl, ⟨nd, rfl⟩⟩))
         go_meet
         case rel => exact ⟨_, (!t183), zz5, H', ⟨(zz25 HK1)⟩, ⟨(zz57 BK182)⟩, ⟨(zz4 HB GE182)⟩⟩
      ·have c9b2 : ¬ (((rd_T106 l0 x4_1).f1) = []) := fun h_ => c9 (by rw [h_]; rfl)
       replace H := iteE H;rcases H with ⟨c16, H⟩ | ⟨c16, H⟩
       ·have c16b0 := gtT c16
        have c16b1 : decide (6 < ((rd_T106 l0 x4_1).f1).length) = true := dT (by omega);clear c16;have H' := A_ H;clear H;obtain ⟨_, _, _, _, _, _⟩ := cf3 BK182;go_wp2
        go_meet
        case rel => exact ⟨_, (true), zz5, H', ⟨(zz25 HK1)⟩, ⟨(zz57 BK182)⟩, ⟨(zz4 HB GE182)⟩⟩
       ·have c16b0 := gtF c16
        have c16b1 : decide (6 < ((rd_T106 l0 x4_1).f1).length) = false := dF (by omega);clear c16;replace H := bindA H;obtain ⟨t184, A18, H⟩ := H;have H' := A_ H;clear H;obtain ⟨_, _, _, _, _, _⟩ := cf3 BK182;go_wp2_with (first | (go_at_call 27; (with_reducible refine (spec_l6In.calls ((rd_T106 l0 x4_1).f2) 0 20 t184 _ A18.out).mono ?_); rintro e w' ⟨rfl, ⟨nd, rfl⟩⟩))
        go_meet
        case rel => exact ⟨_, (!t184), zz5, H', ⟨(zz25 HK1)⟩, ⟨(zz57 BK182)⟩, ⟨(zz4 HB GE182)⟩⟩
    case rest =>
     clear HC4;obtain ⟨kq, x44_3, rfl, HA, HJ3, BK182, HB⟩ := hcut;cases kq with
     | zero => exact absurd HA.out (by simp [spec_NoticeOk.j1])
     | succ kj3 =>
      obtain ⟨H⟩ := HA;simp only [spec_NoticeOk.j1] at H
      replace H := iteB H;rcases H with ⟨rfl, H⟩ | ⟨rfl, H⟩
      ·obtain rfl := sI H
       go_wp2
       go_ret
       exact ⟨zz11, (zz4 HB GE182)⟩
      ·have H' := A_ H
       clear H;go_wp2
       go_loopg [6] kj3 (fun kq v6 w' => ∃ (x6_3 : Int), v6 = .int .i64 x6_3 ∧ Aside0 (spec_NoticeOk.l1 kq l0 x3_1 x4_1 x6_3 ((rd_T106 l0 x4_1).f0) ((rd_T106 l0 x4_1).f1) ((rd_T106 l0 x4_1).f2) = some r) ∧ Aside0 (kq ≤ kj3) ∧ Aside0 (w'.heap[gb182]? = some (.cells #[(.slice A181_0 ((rd_T106 l0 x4_1).f0).length c181_0), (.slice A181_1 ((rd_T106 l0 x4_1).f1).length c181_1), .int .i64 ((rd_T106 l0 x4_1).f2)] 106 (0, 0))) ∧ Aside0 (Below w.heap.size w w'))
       case atStart => exact ⟨(0), zz5, H', ⟨Nat.le_refl _⟩, ⟨(zz3 BK182)⟩, ⟨(zz4 HB GE182)⟩⟩
       case round =>
        clear H';obtain ⟨x6_3, rfl, HA, HK3, BK182, HB⟩ := hrel;cases gk with
        | zero => exact absurd HA.out (by simp [spec_NoticeOk.l1])
        | succ k3 =>
         obtain ⟨H⟩ := HA;simp only [spec_NoticeOk.l1] at H
         replace H := iteEd H;rcases H with ⟨c21b0, H⟩ | ⟨c21b0, H⟩
         ·replace H := iteNd H
          obtain ⟨c22b0, H⟩ := H;replace H := iteEq H;rcases H with ⟨c23b0, c23b1, H⟩ | ⟨c23b0, c23b1, c23, H⟩
          ·have H' := A_ H
           clear H;obtain ⟨_, _, _, _, _, _⟩ := cf3 BK182;obtain ⟨⟨ad185, e185, hx185_0⟩, p185, q185⟩ := atB (Kd.at_string HR181_0.out x6_3);cases e185
           replace hx185_0 := cbl HB hx185_0;go_wp2
           go_roundg k3
           case measure => have := HK1.out; have := HJ3.out; have := HK3.out; omega
           case rel => exact ⟨(wrap64 (x6_3 + 1)), zz5, H', ⟨(zz60 HK1 HJ3 HK3)⟩, ⟨(zz3 BK182)⟩, ⟨(zz4 HB GE182)⟩⟩
          ·replace H := Option.bind_eq_some_iff.mp H
           obtain ⟨t187, A250, H⟩ := H;replace H : (if t187 = true then (spec_NoticeOk.l1 k3 l0 x3_1 x4_1 (wrap64 (x6_3 + 1)) ((rd_T106 l0 x4_1).f0) ((rd_T106 l0 x4_1).f1) ((rd_T106 l0 x4_1).f2)) else (some false)) = some r := H;have A25 := A_ A250;clear A250;have HF26 := A_ H;clear H;obtain ⟨_, _, _, _, _, _⟩ := cf3 BK182;obtain ⟨⟨ad185, e185, hx185_0⟩, p185, q185⟩ := atB (Kd.at_string HR181_0.out x6_3);cases e185
           replace hx185_0 := cbl HB hx185_0;obtain ⟨⟨ad186, e186, hx186_0⟩, p186, q186⟩ := atB (Kd.at_string HR181_0.out x6_3);obtain rfl : ad185 = ad186 := (by injection e186);replace hx186_0 := cbl HB hx186_0;go_upto_if 66 with (first | (go_at_call 116; (with_reducible refine (spec_l2Name.calls k3 (rdOf ByteArray.empty ((rd_T106 l0 x4_1).f0) x6_3) t187 _ A25.out).mono ?_); rintro e w' ⟨rfl, ⟨nd, rfl⟩⟩))
           obtain ⟨H⟩ := HF26;replace H := iteB H;rcases H with ⟨rfl, H⟩ | ⟨rfl, H⟩
           ·have H' := A_ H
            clear H;go_wp2
            go_roundg k3
            case measure => have := HK1.out; have := HJ3.out; have := HK3.out; omega
            case rel => exact ⟨(wrap64 (x6_3 + 1)), zz5, H', ⟨(zz60 HK1 HJ3 HK3)⟩, ⟨(zz3 BK182)⟩, ⟨(zz4 HB GE182)⟩⟩
           ·obtain rfl := sI H
            go_wp2
            go_ret
            exact ⟨zz11, (zz4 HB GE182)⟩
         ·have H' := A_ H
          clear H;obtain ⟨_, _, _, _, _, _⟩ := cf3 BK182;go_wp2
          go_loopg [7] k3 (fun kq v7 w' => ∃ (x7_4 : Int), v7 = .int .i64 x7_4 ∧ Aside0 (spec_NoticeOk.l2 kq l0 x3_1 x4_1 x7_4 ((rd_T106 l0 x4_1).f0) ((rd_T106 l0 x4_1).f1) ((rd_T106 l0 x4_1).f2) = some r) ∧ Aside0 (kq ≤ k3) ∧ Aside0 (w'.heap[gb182]? = some (.cells #[(.slice A181_0 ((rd_T106 l0 x4_1).f0).length c181_0), (.slice A181_1 ((rd_T106 l0 x4_1).f1).length c181_1), .int .i64 ((rd_T106 l0 x4_1).f2)] 106 (0, 0))) ∧ Aside0 (Below w.heap.size w w'))
          case atStart => exact ⟨(0), zz5, H', ⟨Nat.le_refl _⟩, ⟨(zz3 BK182)⟩, ⟨(zz4 HB GE182)⟩⟩
          case round =>
           clear H';obtain ⟨x7_4, rfl, HA, HK4, BK182, HB⟩ := hrel;cases gk with
           | zero => exact absurd HA.out (by simp [spec_NoticeOk.l2])
           | succ k4 =>
            obtain ⟨H⟩ := HA;simp only [spec_NoticeOk.l2] at H
            replace H := iteEd H;rcases H with ⟨c30b0, H⟩ | ⟨c30b0, H⟩
            ·replace H := iteNd H
             obtain ⟨c31b0, H⟩ := H;replace H := bindA H;obtain ⟨t189, A32, H⟩ := H;have HF33 := A_ H;clear H;obtain ⟨_, _, _, _, _, _⟩ := cf3 BK182;obtain ⟨⟨ad188, e188, hx188_0, hx188_1⟩, p188, q188⟩ := atB (at_T108 HR181_1.out x7_4);cases e188
             obtain ⟨hx188_0, hx188_1⟩ := cb2 HB hx188_0 hx188_1;go_upto_if 81 with (first | (refine gR 117 (some 80) Tryz.func117 (spec_RuleOk.calls k4 ((rd_T108 ((rd_T106 l0 x4_1).f1) x7_4).f1) t189 _ A32.out) ?_; rintro w' ⟨nd, rfl⟩))
             obtain ⟨H⟩ := HF33;replace H := iteB H;rcases H with ⟨rfl, H⟩ | ⟨rfl, H⟩
             ·have H' := A_ H
              clear H;go_wp2
              go_roundg k4
              case measure => have := HK1.out; have := HJ3.out; have := HK3.out; have := HK4.out; omega
              case rel => exact ⟨(wrap64 (x7_4 + 1)), zz5, H', ⟨(by have := HK1.out; have := HJ3.out; have := HK3.out; have := HK4.out; omega)⟩, ⟨(zz3 BK182)⟩, ⟨(zz4 HB GE182)⟩⟩
             ·obtain rfl := sI H
              go_wp2
              go_ret
              exact ⟨zz11, (zz4 HB GE182)⟩
            ·have H' := A_ H
             clear H;obtain ⟨_, _, _, _, _, _⟩ := cf3 BK182;go_wp2
             go_roundg k4
             case measure => have := HK1.out; have := HJ3.out; have := HK3.out; have := HK4.out; omega
             case rel => exact ⟨(wrap64 ((wrap64 ((wrap64 (x3_1 + (((rd_T106 l0 x4_1).f0).length : Int))) + (((rd_T106 l0 x4_1).f1).length : Int))) + 1)), (wrap64 (x4_1 + 1)), zz5, zz5, H', ⟨(by have := HK1.out; have := HJ3.out; have := HK3.out; have := HK4.out; omega)⟩, ⟨(zz4 HB GE182)⟩⟩
   ·obtain rfl := sI H
    go_wp2
    go_ret
    exact ⟨zz11, (zz2 HB)⟩
mutual
def spec_NoticeText.l0 : Nat → List (S106) → ByteArray → Int → Option (ByteArray)
 | 0, _, _, _ => none
 | k + 1, x0, x3, x4 => if x4 < (x0.length : Int) then (spec_NoticeText.l1 k x0 x3 x4 0) else (some x3)
def spec_NoticeText.l1 : Nat → List (S106) → ByteArray → Int → Int → Option (ByteArray)
 | 0, _, _, _, _ => none
 | k + 1, x0, x3, x4, x5 => if 0 ≤ x4 then (if x4 < (x0.length : Int) then (if x5 < (((rd_T106 x0 x4).f0).length : Int) then (if x3.size + 7 ≤ 9223372036854775807 then (if 0 ≤ x5 then (if x3.size + 7 + (rdOf ByteArray.empty ((rd_T106 x0 x4).f0) x5).size ≤ 9223372036854775807 then (if x3.size + 7 + (rdOf ByteArray.empty ((rd_T106 x0 x4).f0) x5).size + 1 ≤ 9223372036854775807 then (spec_NoticeText.l1 k x0 (((x3 ++ (⟨#[99, 97, 108, 108, 101, 114, 32]⟩ : ByteArray)) ++ (rdOf ByteArray.empty ((rd_T106 x0 x4).f0) x5)) ++ (⟨#[10]⟩ : ByteArray)) x4 (wrap64 (x5 + 1))) else (none)) else (none)) else (none)) else (none)) else (spec_NoticeText.l2 k x0 x3 x4 0)) else (none)) else (none)
def spec_NoticeText.l2 : Nat → List (S106) → ByteArray → Int → Int → Option (ByteArray)
 | 0, _, _, _, _ => none
 | k + 1, x0, x3, x4, x6 => if 0 ≤ x4 then (if x4 < (x0.length : Int) then (if x6 < (((rd_T106 x0 x4).f1).length : Int) then (if 0 ≤ x6 then (if (rd_T108 ((rd_T106 x0 x4).f1) x6).f0 = true then (if x3.size + 4 ≤ 9223372036854775807 then (if x3.size + 4 + ((rd_T108 ((rd_T106 x0 x4).f1) x6).f1).size ≤ 9223372036854775807 then (if x3.size + 4 + ((rd_T108 ((rd_T106 x0 x4).f1) x6).f1).size + 1 ≤ 9223372036854775807 then (spec_NoticeText.l2 k x0 (((x3 ++ (⟨#[108, 101, 116, 32]⟩ : ByteArray)) ++ ((rd_T108 ((rd_T106 x0 x4).f1) x6).f1)) ++ (⟨#[10]⟩ : ByteArray)) x4 (wrap64 (x6 + 1))) else (none)) else (none)) else (none)) else (if x3.size + 4 ≤ 9223372036854775807 then (if x3.size + 4 + ((rd_T108 ((rd_T106 x0 x4).f1) x6).f1).size ≤ 9223372036854775807 then (if x3.size + 4 + ((rd_T108 ((rd_T106 x0 x4).f1) x6).f1).size + 1 ≤ 9223372036854775807 then (spec_NoticeText.l2 k x0 (((x3 ++ (⟨#[98, 97, 114, 32]⟩ : ByteArray)) ++ ((rd_T108 ((rd_T106 x0 x4).f1) x6).f1)) ++ (⟨#[10]⟩ : ByteArray)) x4 (wrap64 (x6 + 1))) else (none)) else (none)) else (none))) else (none)) else (if ((rd_T106 x0 x4).f2) > 0 then (if x3.size + 5 ≤ 9223372036854775807 then ((spec_l6Dec.f k ((rd_T106 x0 x4).f2)).bind fun t203 => (if x3.size + 5 + t203.size ≤ 9223372036854775807 then (if x3.size + 5 + t203.size + 1 ≤ 9223372036854775807 then (spec_NoticeText.l0 k x0 (((x3 ++ (⟨#[119, 97, 105, 116, 32]⟩ : ByteArray)) ++ t203) ++ (⟨#[10]⟩ : ByteArray)) (wrap64 (x4 + 1))) else (none)) else (none))) else (none)) else (spec_NoticeText.l0 k x0 x3 (wrap64 (x4 + 1))))) else (none)) else (none)
end
def spec_NoticeText.f (k : Nat) (l0 : List (S106)) : Option (ByteArray) := (spec_NoticeOk.f k l0).bind fun t190 => (if t190 = true then (spec_NoticeText.l0 k l0 (⟨#[]⟩ : ByteArray) 0) else (some (⟨#[]⟩ : ByteArray)))
theorem spec_NoticeText.calls (k : Nat) (A0 : Option Addr) (c0 : Nat) (l0 : List (S106)) (r : ByteArray) (w : World) (hr0 : Kd.C k106 w A0 l0.length l0) (hc0 : l0.length ≤ c0) (h : spec_NoticeText.f k l0 = some r) :
  Calls Tryz.prog 66 #[.slice A0 l0.length c0] w fun e w' => e = .returned (.string r) ∧ Below w.heap.size w w' := by
 have HR0 := A_ hr0;have HC0 := A_ hc0;clear hr0 hc0;have HB := A_ (Below.refl w.heap.size w);unfold spec_NoticeText.f at h
 have H := h;clear h;replace H := bindA H;obtain ⟨t190, A2, H⟩ := H;have HF3 := A_ H;clear H;go_enter Tryz.func66, Tryz.ntmps66;go_upto_if 10 with (first | (refine gR 93 (some 9) Tryz.func93 (spec_NoticeOk.calls k _ _ l0 t190 _ ?side1 ?side2 A2.out) ?_; (case side1 => exact (zz63 HR0)); (case side2 => exact HC0.out); rintro w4 hb; replace HB := A_ (bS (zz2 HB) hb); (try clear hb)))
 obtain ⟨H⟩ := HF3;replace H := iteB H;rcases H with ⟨rfl, H⟩ | ⟨rfl, H⟩
 ·have H' := A_ H
  clear H;go_wp2
  go_loopg [3, 4] k (fun kq v3 v4 w' => ∃ (x3_1 : ByteArray) (x4_1 : Int), v3 = .string x3_1 ∧ v4 = .int .i64 x4_1 ∧ Aside0 (spec_NoticeText.l0 kq l0 x3_1 x4_1 = some r) ∧ Aside0 (kq ≤ k) ∧ Aside0 (Below w.heap.size w w'))
  case atStart => exact ⟨((⟨#[]⟩ : ByteArray)), (0), zz5, zz5, H', ⟨Nat.le_refl _⟩, ⟨(zz2 HB)⟩⟩
  case round =>
   clear H';obtain ⟨x3_1, x4_1, rfl, rfl, HA, HK1, HB⟩ := hrel;cases gk with
   | zero => exact absurd HA.out (by simp [spec_NoticeText.l0])
   | succ k1 =>
    obtain ⟨H⟩ := HA;simp only [spec_NoticeText.l0] at H
    replace H := iteEd H;rcases H with ⟨c6b0, H⟩ | ⟨c6b0, H⟩
    ·(first | rw [c6b0] | (simp only [i64_w, i32_w]; rw [c6b0]) | skip)
     have H' := A_ H;clear H;go_wp2
     go_loopg [3, 5] k1 (fun kq v3 v5 w' => ∃ (x3_2 : ByteArray) (x5_2 : Int), v3 = .string x3_2 ∧ v5 = .int .i64 x5_2 ∧ Aside0 (spec_NoticeText.l1 kq l0 x3_2 x4_1 x5_2 = some r) ∧ Aside0 (kq ≤ k1) ∧ Aside0 (Below w.heap.size w w'))
     case atStart => exact ⟨(x3_1), (0), zz5, zz5, H', ⟨Nat.le_refl _⟩, ⟨(zz2 HB)⟩⟩
     case round =>
      clear H';obtain ⟨x3_2, x5_2, rfl, rfl, HA, HK2, HB⟩ := hrel;cases gk with
      | zero => exact absurd HA.out (by simp [spec_NoticeText.l1])
      | succ k2 =>
       obtain ⟨H⟩ := HA;simp only [spec_NoticeText.l1] at H
       replace H := iteNd H;obtain ⟨c7b0, H⟩ := H;replace H := iteNd H;obtain ⟨c8b0, H⟩ := H;replace H := iteEd H;rcases H with ⟨c9b0, H⟩ | ⟨c9b0, H⟩
       ·replace H := iteN H
        obtain ⟨c10, H⟩ := H;have c10b0 := eq_true c10;have c10b1 := dT c10;try have c10b2 : (9223372036854775807 < x3_2.size + 7) = False := eq_false (Nat.not_lt.2 c10)
        replace H := iteNd H;obtain ⟨c11b0, H⟩ := H;replace H := iteN H;obtain ⟨c12, H⟩ := H;have c12b0 := eq_true c12;have c12b1 := dT c12;try have c12b2 : (9223372036854775807 < x3_2.size + 7 + (rdOf ByteArray.empty ((rd_T106 l0 x4_1).f0) x5_2).size) = False := eq_false (Nat.not_lt.2 c12)
        replace H := iteN H;obtain ⟨c13, H⟩ := H;have c13b0 := eq_true c13;have c13b1 := dT c13;try have c13b2 : (9223372036854775807 < x3_2.size + 7 + (rdOf ByteArray.empty ((rd_T106 l0 x4_1).f0) x5_2).size + 1) = False := eq_false (Nat.not_lt.2 c13)
        have H' := A_ H;clear H;obtain ⟨⟨ad191, A191_0, c191_0, A191_1, c191_1, e191, hx191_0, hx191_1, hx191_2, hl191_0, hi191_0, hl191_1, hi191_1⟩, p191, q191⟩ := atB (at_T106 HR0.out x4_1);cases e191
        obtain ⟨hx191_0, hx191_1, hx191_2⟩ := cb3 HB hx191_0 hx191_1 hx191_2;have HR191_0 := A_ hi191_0;have HC191_0 := A_ hl191_0;clear hi191_0 hl191_0;have HR191_1 := A_ hi191_1;have HC191_1 := A_ hl191_1;clear hi191_1 hl191_1;obtain ⟨⟨ad192, A192_0, c192_0, A192_1, c192_1, e192, hx192_0, hx192_1, hx192_2, hl192_0, hi192_0, hl192_1, hi192_1⟩, p192, q192⟩ := atB (at_T106 HR0.out x4_1);obtain rfl : ad191 = ad192 := (by injection e192);obtain ⟨hx192_0, hx192_1, hx192_2⟩ := cb3 HB hx192_0 hx192_1 hx192_2;have HR192_0 := A_ hi192_0;have HC192_0 := A_ hl192_0;clear hi192_0 hl192_0;have HR192_1 := A_ hi192_1;have HC192_1 := A_ hl192_1;clear hi192_1 hl192_1;have ea_ := sI (hx191_0.symm.trans hx192_0);injection ea_ with ea_ en_ ec_
        subst ea_;subst ec_;clear en_;have ea_ := sI (hx191_1.symm.trans hx192_1);injection ea_ with ea_ en_ ec_
        subst ea_;subst ec_;clear en_;obtain ⟨⟨ad193, e193, hx193_0⟩, p193, q193⟩ := atB (Kd.at_string HR192_0.out x5_2);cases e193
        replace hx193_0 := cbl HB hx193_0;go_wp2
        go_roundg k2
        case measure => have := HK1.out; have := HK2.out; omega
        case rel => exact ⟨(((x3_2 ++ (⟨#[99, 97, 108, 108, 101, 114, 32]⟩ : ByteArray)) ++ (rdOf ByteArray.empty ((rd_T106 l0 x4_1).f0) x5_2)) ++ (⟨#[10]⟩ : ByteArray)), (wrap64 (x5_2 + 1)), zz5, zz5, H', ⟨(zz33 HK1 HK2)⟩, ⟨(zz2 HB)⟩⟩
       ·have H' := A_ H
        clear H;obtain ⟨⟨ad191, A191_0, c191_0, A191_1, c191_1, e191, hx191_0, hx191_1, hx191_2, hl191_0, hi191_0, hl191_1, hi191_1⟩, p191, q191⟩ := atB (at_T106 HR0.out x4_1);cases e191
        obtain ⟨hx191_0, hx191_1, hx191_2⟩ := cb3 HB hx191_0 hx191_1 hx191_2;have HR191_0 := A_ hi191_0;have HC191_0 := A_ hl191_0;clear hi191_0 hl191_0;have HR191_1 := A_ hi191_1;have HC191_1 := A_ hl191_1;clear hi191_1 hl191_1;go_wp2
        go_loopg [3, 6] k2 (fun kq v3 v6 w' => ∃ (x3_3 : ByteArray) (x6_3 : Int), v3 = .string x3_3 ∧ v6 = .int .i64 x6_3 ∧ Aside0 (spec_NoticeText.l2 kq l0 x3_3 x4_1 x6_3 = some r) ∧ Aside0 (kq ≤ k2) ∧ Aside0 (Below w.heap.size w w'))
        case atStart => exact ⟨(x3_2), (0), zz5, zz5, H', ⟨Nat.le_refl _⟩, ⟨(zz2 HB)⟩⟩
        case round =>
         clear H';obtain ⟨x3_3, x6_3, rfl, rfl, HA, HK3, HB⟩ := hrel;cases gk with
         | zero => exact absurd HA.out (by simp [spec_NoticeText.l2])
         | succ k3 =>
          obtain ⟨H⟩ := HA;simp only [spec_NoticeText.l2] at H
          replace H := iteNd H;obtain ⟨c14b0, H⟩ := H;replace H := iteNd H;obtain ⟨c15b0, H⟩ := H;replace H := iteEd H;rcases H with ⟨c16b0, H⟩ | ⟨c16b0, H⟩
          ·replace H := iteNd H
           obtain ⟨c17b0, H⟩ := H;obtain ⟨bq18, hbq18⟩ : ∃ b_ : Bool, b_ = ((rd_T108 ((rd_T106 l0 x4_1).f1) x6_3).f0) := ⟨_, rfl⟩;rw [← hbq18] at H;have Nbq18 := A_ hbq18;clear hbq18;replace H := iteB H;rcases H with ⟨rfl, H⟩ | ⟨rfl, H⟩
           ·replace H := iteN H
            obtain ⟨c20, H⟩ := H;have c20b0 := eq_true c20;have c20b1 := dT c20;try have c20b2 : (9223372036854775807 < x3_3.size + 4) = False := eq_false (Nat.not_lt.2 c20)
            replace H := iteN H;obtain ⟨c21, H⟩ := H;have c21b0 := eq_true c21;have c21b1 := dT c21;try have c21b2 : (9223372036854775807 < x3_3.size + 4 + ((rd_T108 ((rd_T106 l0 x4_1).f1) x6_3).f1).size) = False := eq_false (Nat.not_lt.2 c21)
            replace H := iteN H;obtain ⟨c22, H⟩ := H;have c22b0 := eq_true c22;have c22b1 := dT c22;try have c22b2 : (9223372036854775807 < x3_3.size + 4 + ((rd_T108 ((rd_T106 l0 x4_1).f1) x6_3).f1).size + 1) = False := eq_false (Nat.not_lt.2 c22)
            have H' := A_ H;clear H;obtain ⟨⟨ad194, A194_0, c194_0, A194_1, c194_1, e194, hx194_0, hx194_1, hx194_2, hl194_0, hi194_0, hl194_1, hi194_1⟩, p194, q194⟩ := atB (at_T106 HR0.out x4_1);obtain rfl : ad191 = ad194 := (by injection e194);obtain ⟨hx194_0, hx194_1, hx194_2⟩ := cb3 HB hx194_0 hx194_1 hx194_2;have HR194_0 := A_ hi194_0;have HC194_0 := A_ hl194_0;clear hi194_0 hl194_0;have HR194_1 := A_ hi194_1;have HC194_1 := A_ hl194_1;clear hi194_1 hl194_1;obtain ⟨⟨ad195, A195_0, c195_0, A195_1, c195_1, e195, hx195_0, hx195_1, hx195_2, hl195_0, hi195_0, hl195_1, hi195_1⟩, p195, q195⟩ := atB (at_T106 HR0.out x4_1);obtain rfl : ad191 = ad195 := (by injection e195);obtain ⟨hx195_0, hx195_1, hx195_2⟩ := cb3 HB hx195_0 hx195_1 hx195_2;have HR195_0 := A_ hi195_0;have HC195_0 := A_ hl195_0;clear hi195_0 hl195_0;have HR195_1 := A_ hi195_1;have HC195_1 := A_ hl195_1;clear hi195_1 hl195_1;have ea_ := sI (hx194_0.symm.trans hx195_0);injection ea_ with ea_ en_ ec_
            subst ea_;subst ec_;clear en_;have ea_ := sI (hx194_1.symm.trans hx195_1);injection ea_ with ea_ en_ ec_
            subst ea_;subst ec_;clear en_;obtain ⟨⟨ad196, e196, hx196_0, hx196_1⟩, p196, q196⟩ := atB (at_T108 HR195_1.out x6_3);(try rw [← Nbq18.out] at hx196_0)
            cases e196
            obtain ⟨hx196_0, hx196_1⟩ := cb2 HB hx196_0 hx196_1;obtain ⟨⟨ad197, A197_0, c197_0, A197_1, c197_1, e197, hx197_0, hx197_1, hx197_2, hl197_0, hi197_0, hl197_1, hi197_1⟩, p197, q197⟩ := atB (at_T106 HR0.out x4_1);obtain rfl : ad191 = ad197 := (by injection e197);obtain ⟨hx197_0, hx197_1, hx197_2⟩ := cb3 HB hx197_0 hx197_1 hx197_2;have HR197_0 := A_ hi197_0;have HC197_0 := A_ hl197_0;clear hi197_0 hl197_0;have HR197_1 := A_ hi197_1;have HC197_1 := A_ hl197_1;clear hi197_1 hl197_1;have ea_ := sI (hx194_0.symm.trans hx197_0);injection ea_ with ea_ en_ ec_
            subst ea_;subst ec_;clear en_;have ea_ := sI (hx194_1.symm.trans hx197_1);injection ea_ with ea_ en_ ec_
            subst ea_;subst ec_;clear en_;obtain ⟨⟨ad198, e198, hx198_0, hx198_1⟩, p198, q198⟩ := atB (at_T108 HR197_1.out x6_3);(try rw [← Nbq18.out] at hx198_0)
            cases e198
            obtain ⟨hx198_0, hx198_1⟩ := cb2 HB hx198_0 hx198_1;go_wp2
            go_roundg k3
            case measure => have := HK1.out; have := HK2.out; have := HK3.out; omega
            case rel => exact ⟨(((x3_3 ++ (⟨#[108, 101, 116, 32]⟩ : ByteArray)) ++ ((rd_T108 ((rd_T106 l0 x4_1).f1) x6_3).f1)) ++ (⟨#[10]⟩ : ByteArray)), (wrap64 (x6_3 + 1)), zz5, zz5, H', ⟨(zz60 HK1 HK2 HK3)⟩, ⟨(zz2 HB)⟩⟩
           ·replace H := iteN H
            obtain ⟨c23, H⟩ := H;have c23b0 := eq_true c23;have c23b1 := dT c23;try have c23b2 : (9223372036854775807 < x3_3.size + 4) = False := eq_false (Nat.not_lt.2 c23)
            replace H := iteN H;obtain ⟨c24, H⟩ := H;have c24b0 := eq_true c24;have c24b1 := dT c24;try have c24b2 : (9223372036854775807 < x3_3.size + 4 + ((rd_T108 ((rd_T106 l0 x4_1).f1) x6_3).f1).size) = False := eq_false (Nat.not_lt.2 c24)
            replace H := iteN H;obtain ⟨c25, H⟩ := H;have c25b0 := eq_true c25;have c25b1 := dT c25;try have c25b2 : (9223372036854775807 < x3_3.size + 4 + ((rd_T108 ((rd_T106 l0 x4_1).f1) x6_3).f1).size + 1) = False := eq_false (Nat.not_lt.2 c25)
            have H' := A_ H;clear H;obtain ⟨⟨ad194, A194_0, c194_0, A194_1, c194_1, e194, hx194_0, hx194_1, hx194_2, hl194_0, hi194_0, hl194_1, hi194_1⟩, p194, q194⟩ := atB (at_T106 HR0.out x4_1);obtain rfl : ad191 = ad194 := (by injection e194);obtain ⟨hx194_0, hx194_1, hx194_2⟩ := cb3 HB hx194_0 hx194_1 hx194_2;have HR194_0 := A_ hi194_0;have HC194_0 := A_ hl194_0;clear hi194_0 hl194_0;have HR194_1 := A_ hi194_1;have HC194_1 := A_ hl194_1;clear hi194_1 hl194_1;obtain ⟨⟨ad195, A195_0, c195_0, A195_1, c195_1, e195, hx195_0, hx195_1, hx195_2, hl195_0, hi195_0, hl195_1, hi195_1⟩, p195, q195⟩ := atB (at_T106 HR0.out x4_1);obtain rfl : ad191 = ad195 := (by injection e195);obtain ⟨hx195_0, hx195_1, hx195_2⟩ := cb3 HB hx195_0 hx195_1 hx195_2;have HR195_0 := A_ hi195_0;have HC195_0 := A_ hl195_0;clear hi195_0 hl195_0;have HR195_1 := A_ hi195_1;have HC195_1 := A_ hl195_1;clear hi195_1 hl195_1;have ea_ := sI (hx194_0.symm.trans hx195_0);injection ea_ with ea_ en_ ec_
            subst ea_;subst ec_;clear en_;have ea_ := sI (hx194_1.symm.trans hx195_1);injection ea_ with ea_ en_ ec_
            subst ea_;subst ec_;clear en_;obtain ⟨⟨ad196, e196, hx196_0, hx196_1⟩, p196, q196⟩ := atB (at_T108 HR195_1.out x6_3);(try rw [← Nbq18.out] at hx196_0)
            cases e196
            obtain ⟨hx196_0, hx196_1⟩ := cb2 HB hx196_0 hx196_1;obtain ⟨⟨ad199, A199_0, c199_0, A199_1, c199_1, e199, hx199_0, hx199_1, hx199_2, hl199_0, hi199_0, hl199_1, hi199_1⟩, p199, q199⟩ := atB (at_T106 HR0.out x4_1);obtain rfl : ad191 = ad199 := (by injection e199);obtain ⟨hx199_0, hx199_1, hx199_2⟩ := cb3 HB hx199_0 hx199_1 hx199_2;have HR199_0 := A_ hi199_0;have HC199_0 := A_ hl199_0;clear hi199_0 hl199_0;have HR199_1 := A_ hi199_1;have HC199_1 := A_ hl199_1;clear hi199_1 hl199_1;have ea_ := sI (hx194_0.symm.trans hx199_0);injection ea_ with ea_ en_ ec_
            subst ea_;subst ec_;clear en_;have ea_ := sI (hx194_1.symm.trans hx199_1);injection ea_ with ea_ en_ ec_
            subst ea_;subst ec_;clear en_;obtain ⟨⟨ad200, e200, hx200_0, hx200_1⟩, p200, q200⟩ := atB (at_T108 HR199_1.out x6_3);(try rw [← Nbq18.out] at hx200_0)
            cases e200
            obtain ⟨hx200_0, hx200_1⟩ := cb2 HB hx200_0 hx200_1;go_wp2
            go_roundg k3
            case measure => have := HK1.out; have := HK2.out; have := HK3.out; omega
            case rel => exact ⟨(((x3_3 ++ (⟨#[98, 97, 114, 32]⟩ : ByteArray)) ++ ((rd_T108 ((rd_T106 l0 x4_1).f1) x6_3).f1)) ++ (⟨#[10]⟩ : ByteArray)), (wrap64 (x6_3 + 1)), zz5, zz5, H', ⟨(zz60 HK1 HK2 HK3)⟩, ⟨(zz2 HB)⟩⟩
          ·replace H := iteEg H
           rcases H with ⟨c26b0, H⟩ | ⟨c26b0, H⟩
           ·replace H := iteN H
            obtain ⟨c27, H⟩ := H;have c27b0 := eq_true c27;have c27b1 := dT c27;try have c27b2 : (9223372036854775807 < x3_3.size + 5) = False := eq_false (Nat.not_lt.2 c27)
            replace H := bindA H;obtain ⟨t203, A28, H⟩ := H;replace H := iteN H;obtain ⟨c29, H⟩ := H;have c29b0 := eq_true c29;have c29b1 := dT c29;try have c29b2 : (9223372036854775807 < x3_3.size + 5 + t203.size) = False := eq_false (Nat.not_lt.2 c29)
            replace H := iteN H;obtain ⟨c30, H⟩ := H;have c30b0 := eq_true c30;have c30b1 := dT c30;try have c30b2 : (9223372036854775807 < x3_3.size + 5 + t203.size + 1) = False := eq_false (Nat.not_lt.2 c30)
            have H' := A_ H;clear H;obtain ⟨⟨ad194, A194_0, c194_0, A194_1, c194_1, e194, hx194_0, hx194_1, hx194_2, hl194_0, hi194_0, hl194_1, hi194_1⟩, p194, q194⟩ := atB (at_T106 HR0.out x4_1);obtain rfl : ad191 = ad194 := (by injection e194);obtain ⟨hx194_0, hx194_1, hx194_2⟩ := cb3 HB hx194_0 hx194_1 hx194_2;have HR194_0 := A_ hi194_0;have HC194_0 := A_ hl194_0;clear hi194_0 hl194_0;have HR194_1 := A_ hi194_1;have HC194_1 := A_ hl194_1;clear hi194_1 hl194_1;obtain ⟨⟨ad201, A201_0, c201_0, A201_1, c201_1, e201, hx201_0, hx201_1, hx201_2, hl201_0, hi201_0, hl201_1, hi201_1⟩, p201, q201⟩ := atB (at_T106 HR0.out x4_1);obtain rfl : ad191 = ad201 := (by injection e201);obtain ⟨hx201_0, hx201_1, hx201_2⟩ := cb3 HB hx201_0 hx201_1 hx201_2;have HR201_0 := A_ hi201_0;have HC201_0 := A_ hl201_0;clear hi201_0 hl201_0;have HR201_1 := A_ hi201_1;have HC201_1 := A_ hl201_1;clear hi201_1 hl201_1;have ea_ := sI (hx194_0.symm.trans hx201_0);injection ea_ with ea_ en_ ec_
            subst ea_;subst ec_;clear en_;have ea_ := sI (hx194_1.symm.trans hx201_1);injection ea_ with ea_ en_ ec_
            subst ea_;subst ec_;clear en_;obtain ⟨⟨ad202, A202_0, c202_0, A202_1, c202_1, e202, hx202_0, hx202_1, hx202_2, hl202_0, hi202_0, hl202_1, hi202_1⟩, p202, q202⟩ := atB (at_T106 HR0.out x4_1);obtain rfl : ad191 = ad202 := (by injection e202);obtain ⟨hx202_0, hx202_1, hx202_2⟩ := cb3 HB hx202_0 hx202_1 hx202_2;have HR202_0 := A_ hi202_0;have HC202_0 := A_ hl202_0;clear hi202_0 hl202_0;have HR202_1 := A_ hi202_1;have HC202_1 := A_ hl202_1;clear hi202_1 hl202_1;have ea_ := sI (hx194_0.symm.trans hx202_0);injection ea_ with ea_ en_ ec_
            subst ea_;subst ec_;clear en_;have ea_ := sI (hx194_1.symm.trans hx202_1);injection ea_ with ea_ en_ ec_
            subst ea_;subst ec_;clear en_;go_wp2_with (first | (refine gR 42 (some 85) Tryz.func42 (spec_l6Dec.calls k3 ((rd_T106 l0 x4_1).f2) t203 _ A28.out) ?_; rintro w31 hb; replace HB := A_ (bS (zz2 HB) hb); (try clear hb)))
            go_roundg k3
            case measure => have := HK1.out; have := HK2.out; have := HK3.out; omega
            case rel => exact ⟨(((x3_3 ++ (⟨#[119, 97, 105, 116, 32]⟩ : ByteArray)) ++ t203) ++ (⟨#[10]⟩ : ByteArray)), (wrap64 (x4_1 + 1)), zz5, zz5, H', ⟨(zz60 HK1 HK2 HK3)⟩, ⟨(zz2 HB)⟩⟩
           ·have H' := A_ H
            clear H;obtain ⟨⟨ad194, A194_0, c194_0, A194_1, c194_1, e194, hx194_0, hx194_1, hx194_2, hl194_0, hi194_0, hl194_1, hi194_1⟩, p194, q194⟩ := atB (at_T106 HR0.out x4_1);obtain rfl : ad191 = ad194 := (by injection e194);obtain ⟨hx194_0, hx194_1, hx194_2⟩ := cb3 HB hx194_0 hx194_1 hx194_2;have HR194_0 := A_ hi194_0;have HC194_0 := A_ hl194_0;clear hi194_0 hl194_0;have HR194_1 := A_ hi194_1;have HC194_1 := A_ hl194_1;clear hi194_1 hl194_1;obtain ⟨⟨ad201, A201_0, c201_0, A201_1, c201_1, e201, hx201_0, hx201_1, hx201_2, hl201_0, hi201_0, hl201_1, hi201_1⟩, p201, q201⟩ := atB (at_T106 HR0.out x4_1);obtain rfl : ad191 = ad201 := (by injection e201);obtain ⟨hx201_0, hx201_1, hx201_2⟩ := cb3 HB hx201_0 hx201_1 hx201_2;have HR201_0 := A_ hi201_0;have HC201_0 := A_ hl201_0;clear hi201_0 hl201_0;have HR201_1 := A_ hi201_1;have HC201_1 := A_ hl201_1;clear hi201_1 hl201_1;have ea_ := sI (hx194_0.symm.trans hx201_0);injection ea_ with ea_ en_ ec_
            subst ea_;subst ec_;clear en_;have ea_ := sI (hx194_1.symm.trans hx201_1);injection ea_ with ea_ en_ ec_
            subst ea_;subst ec_;clear en_;go_wp2
            go_roundg k3
            case measure => have := HK1.out; have := HK2.out; have := HK3.out; omega
            case rel => exact ⟨(x3_3), (wrap64 (x4_1 + 1)), zz5, zz5, H', ⟨(zz60 HK1 HK2 HK3)⟩, ⟨(zz2 HB)⟩⟩
    ·(first | rw [c6b0] | (simp only [i64_w, i32_w]; rw [c6b0]) | skip)
     obtain rfl := sI H;go_wp2
     go_ret
     exact ⟨zz11, (zz2 HB)⟩
 ·obtain rfl := sI H
  go_wp2
  go_ret
  exact ⟨zz11, (zz2 HB)⟩
def spec_l71Rule.f (k : Nat) (s0_0 : List Int) (s0_1 : Int) : Option (ByteArray × Int) := (spec_l6Rd_of.f k s0_0 s0_1 (([(⟨#[47]⟩ : ByteArray), (⟨#[47, 97]⟩ : ByteArray), (⟨#[47, 98]⟩ : ByteArray), (⟨#[47, 97, 47]⟩ : ByteArray), (⟨#[47, 42, 98]⟩ : ByteArray), (⟨#[47, 97, 36]⟩ : ByteArray), (⟨#[47, 99]⟩ : ByteArray), (⟨#[47, 42, 63]⟩ : ByteArray), (⟨#[47, 97, 47, 98]⟩ : ByteArray), (⟨#[47, 42, 47, 98, 36]⟩ : ByteArray), (⟨#[47, 36]⟩ : ByteArray), (⟨#[47, 98, 42, 99]⟩ : ByteArray), (⟨#[47, 110, 111, 116, 105, 99, 101]⟩ : ByteArray), (⟨#[47, 42]⟩ : ByteArray)] : List ByteArray))).bind fun bt207 => (some (bt207.1, bt207.2))
theorem spec_l71Rule.calls (k : Nat) (g : Nat) (s0_0 : List Int) (s0_1 : Int) (r1 : ByteArray) (r2 : Int) (w0 w : World) (hI : IsS68 w0 w g s0_0 s0_1) (hB : Below w0.heap.size w0 w) (h : spec_l71Rule.f k s0_0 s0_1 = some (r1, r2)) :
  Calls Tryz.prog 118 #[.pointer (some ⟨g, 0, none⟩)] w fun e w' => e = .returned (.string r1) ∧ IsS68 w0 w' g s0_0 r2 ∧ Below w0.heap.size w0 w' ∧ KeepBut w w' g none := by
 have HI0 := A_ hI;have HK := A_ (KeepBut.refl w g none);have HL := A_ hB.size;clear hI;have HW0 := A_ hB.size;have HB := A_ hB;clear hB;unfold spec_l71Rule.f at h
 have H := h;clear h;obtain ⟨y204, Ny204⟩ := toY (([(⟨#[47]⟩ : ByteArray), (⟨#[47, 97]⟩ : ByteArray), (⟨#[47, 98]⟩ : ByteArray), (⟨#[47, 97, 47]⟩ : ByteArray), (⟨#[47, 42, 98]⟩ : ByteArray), (⟨#[47, 97, 36]⟩ : ByteArray), (⟨#[47, 99]⟩ : ByteArray), (⟨#[47, 42, 63]⟩ : ByteArray), (⟨#[47, 97, 47, 98]⟩ : ByteArray), (⟨#[47, 42, 47, 98, 36]⟩ : ByteArray), (⟨#[47, 36]⟩ : ByteArray), (⟨#[47, 98, 42, 99]⟩ : ByteArray), (⟨#[47, 110, 111, 116, 105, 99, 101]⟩ : ByteArray), (⟨#[47, 42]⟩ : ByteArray)] : List ByteArray));(first | with_reducible replace H := bindZ Ny204 H | rw [← Ny204.out] at H | skip)
 replace H := bindA H;obtain ⟨⟨t207, t208⟩, A2, H⟩ := H;try dsimp only at H
 simp only [Option.some.injEq, Prod.mk.injEq] at H
 obtain ⟨rfl, rfl⟩ := H;go_enter Tryz.func118, Tryz.ntmps118;go_wp2_with (first | ((with_reducible refine gD (N := 4) rfl ?_); refine Kd.R_lit Kd.string _ 9 ?hg (N := 4) ?hd (xs := ([(⟨#[47]⟩ : ByteArray), (⟨#[47, 97]⟩ : ByteArray), (⟨#[47, 98]⟩ : ByteArray), (⟨#[47, 97, 47]⟩ : ByteArray), (⟨#[47, 42, 98]⟩ : ByteArray), (⟨#[47, 97, 36]⟩ : ByteArray), (⟨#[47, 99]⟩ : ByteArray), (⟨#[47, 42, 63]⟩ : ByteArray), (⟨#[47, 97, 47, 98]⟩ : ByteArray), (⟨#[47, 42, 47, 98, 36]⟩ : ByteArray), (⟨#[47, 36]⟩ : ByteArray), (⟨#[47, 98, 42, 99]⟩ : ByteArray), (⟨#[47, 110, 111, 116, 105, 99, 101]⟩ : ByteArray), (⟨#[47, 42]⟩ : ByteArray)] : List ByteArray)) (inner := [.string (⟨#[47]⟩ : ByteArray), .string (⟨#[47, 97]⟩ : ByteArray), .string (⟨#[47, 98]⟩ : ByteArray), .string (⟨#[47, 97, 47]⟩ : ByteArray), .string (⟨#[47, 42, 98]⟩ : ByteArray), .string (⟨#[47, 97, 36]⟩ : ByteArray), .string (⟨#[47, 99]⟩ : ByteArray), .string (⟨#[47, 42, 63]⟩ : ByteArray), .string (⟨#[47, 97, 47, 98]⟩ : ByteArray), .string (⟨#[47, 42, 47, 98, 36]⟩ : ByteArray), .string (⟨#[47, 36]⟩ : ByteArray), .string (⟨#[47, 98, 42, 99]⟩ : ByteArray), .string (⟨#[47, 110, 111, 116, 105, 99, 101]⟩ : ByteArray), .string (⟨#[47, 42]⟩ : ByteArray)]) (ok := fun _ => True) (okp := fun _ => True) ?hr ?hp (fun _ hk => hk) trivial (Below.refl _ _) (Nat.le_refl _) (by simp) ?_; (case hd => rfl); (case hg => rfl); (case hr => exact zz16); (case hp => exact (Reps.one (show Kd.M Kd.string _ _ _ (⟨#[47]⟩ : ByteArray) [.string (⟨#[47]⟩ : ByteArray)] from rfl) (Reps.one (show Kd.M Kd.string _ _ _ (⟨#[47, 97]⟩ : ByteArray) [.string (⟨#[47, 97]⟩ : ByteArray)] from rfl) (Reps.one (show Kd.M Kd.string _ _ _ (⟨#[47, 98]⟩ : ByteArray) [.string (⟨#[47, 98]⟩ : ByteArray)] from rfl) (Reps.one (show Kd.M Kd.string _ _ _ (⟨#[47, 97, 47]⟩ : ByteArray) [.string (⟨#[47, 97, 47]⟩ : ByteArray)] from rfl) (Reps.one (show Kd.M Kd.string _ _ _ (⟨#[47, 42, 98]⟩ : ByteArray) [.string (⟨#[47, 42, 98]⟩ : ByteArray)] from rfl) (Reps.one (show Kd.M Kd.string _ _ _ (⟨#[47, 97, 36]⟩ : ByteArray) [.string (⟨#[47, 97, 36]⟩ : ByteArray)] from rfl) (Reps.one (show Kd.M Kd.string _ _ _ (⟨#[47, 99]⟩ : ByteArray) [.string (⟨#[47, 99]⟩ : ByteArray)] from rfl) (Reps.one (show Kd.M Kd.string _ _ _ (⟨#[47, 42, 63]⟩ : ByteArray) [.string (⟨#[47, 42, 63]⟩ : ByteArray)] from rfl) (Reps.one (show Kd.M Kd.string _ _ _ (⟨#[47, 97, 47, 98]⟩ : ByteArray) [.string (⟨#[47, 97, 47, 98]⟩ : ByteArray)] from rfl) (Reps.one (show Kd.M Kd.string _ _ _ (⟨#[47, 42, 47, 98, 36]⟩ : ByteArray) [.string (⟨#[47, 42, 47, 98, 36]⟩ : ByteArray)] from rfl) (Reps.one (show Kd.M Kd.string _ _ _ (⟨#[47, 36]⟩ : ByteArray) [.string (⟨#[47, 36]⟩ : ByteArray)] from rfl) (Reps.one (show Kd.M Kd.string _ _ _ (⟨#[47, 98, 42, 99]⟩ : ByteArray) [.string (⟨#[47, 98, 42, 99]⟩ : ByteArray)] from rfl) (Reps.one (show Kd.M Kd.string _ _ _ (⟨#[47, 110, 111, 116, 105, 99, 101]⟩ : ByteArray) [.string (⟨#[47, 110, 111, 116, 105, 99, 101]⟩ : ByteArray)] from rfl) (Reps.one (show Kd.M Kd.string _ _ _ (⟨#[47, 42]⟩ : ByteArray) [.string (⟨#[47, 42]⟩ : ByteArray)] from rfl) (Reps.none _ _)))))))))))))))); intro v205 w3 ho4 hb hg_ hnew_; clear hg_ hnew_; (first | rw [← Ny204.out] at ho4 | (simp only [Int.reduceToNat] at ho4; rw [← Ny204.out] at ho4)); have HO206 := A_ (Kd.R_lower ho4 (keep_size (w := w) (g := g) (row := none) (zz8 HK))); replace HK := A_ (KeepBut.trans (zz8 HK) (KeepBut.of_below hb g none) (.inl rfl)); replace HB := A_ (bS (zz9 HB HI0) hb); replace HI0 := A_ (IsS68.below (zz7 HI0) hb); clear hb ho4; obtain ⟨Ao5, co5, eo5⟩ := Kd.R_slice HO206.out; subst eo5) | (refine gR 41 (some 5) Tryz.func41 (spec_l6Rd_of.calls k g s0_0 s0_1 _ _ y204 t207 t208 w0 _ ?side1 ?side2 ?side3 ?side4 ?side5 A2.out) ?_; (case side1 => exact (zz7 HI0)); (case side2 => exact (zz9 HB HI0)); (case side3 => exact (zz43 HO206)); (case side4 => exact (Kd.R_reads' HO206.out).2.1); (case side5 => exact far_slice (IsS68.own_ne HI0.out HO206.out (by decide))); rintro w6 ⟨hi, hb, hk⟩; replace HO206 := A_ (Kd.R_mono (Kd.R_keep (IsS68.apart (show IsS68 w0 _ g s0_0 s0_1 from (zz7 HI0)) (zz18 HO206) (by decide)) hk (fun _ h => h.2)) (fun _ h => h.1)); replace HK := A_ (KeepBut.trans (zz8 HK) hk (.inl rfl)); replace HB := A_ (hb); replace HI0 := A_ (hi); (try clear hb hk hi)))
 go_ret
 exact ⟨zz11, (zz7 HI0), (zz9 HB HI0), (zz8 HK)⟩
def spec_l71Rules.l0 : Nat → List (S108) → Int → List Int → Int → Option ((List (S108)) × Int)
 | 0, _, _, _, _ => none
 | k + 1, x3, x4, x1000, x1001 => if x4 > 0 then ((spec_l6Rd_pick.f k x1000 x1001 2).bind fun bt214 => ((spec_l71Rule.f k x1000 bt214.2).bind fun bt216 => (if x3.length < 5864062014805 then (spec_l71Rules.l0 k (x3 ++ [(⟨(bt214.1 == 0), bt216.1⟩ : S108)]) (wrap64 (x4 - 1)) x1000 bt216.2) else (none)))) else (some (x3, x1001))
def spec_l71Rules.f (k : Nat) (s0_0 : List Int) (s0_1 : Int) : Option ((List (S108)) × Int) := (spec_l6Rd_pick.f k s0_0 s0_1 5).bind fun bt212 => (spec_l71Rules.l0 k (([] : List (S108))) bt212.1 s0_0 bt212.2)
theorem spec_l71Rules.calls (k : Nat) (g : Nat) (s0_0 : List Int) (s0_1 : Int) (r1 : List (S108)) (r2 : Int) (w0 w : World) (hI : IsS68 w0 w g s0_0 s0_1) (hB : Below w0.heap.size w0 w) (h : spec_l71Rules.f k s0_0 s0_1 = some (r1, r2)) :
  Calls Tryz.prog 94 #[.pointer (some ⟨g, 0, none⟩)] w fun e w' => ∃ v0_ : Value, e = .returned (v0_) ∧ Kd.R k108 108 w' w.heap.size (fun _ => True) v0_ r1 ∧ IsS68 w0 w' g s0_0 r2 ∧ Below w0.heap.size w0 w' ∧ KeepBut w w' g none := by
 have hu108 := Tryz.underlying108;have HI0 := A_ hI;have HK := A_ (KeepBut.refl w g none);have HL := A_ hB.size;clear hI;have HW0 := A_ hB.size;have HB := A_ hB;clear hB;unfold spec_l71Rules.f at h
 have H := h;clear h;obtain ⟨y209, Ny209⟩ := toY (([] : List (S108)));(first | with_reducible replace H := bindZ Ny209 H | rw [← Ny209.out] at H | skip)
 replace H := bindA H;obtain ⟨⟨t212, t213⟩, A2, H⟩ := H;try dsimp only at H
 have H' := A_ H;clear H;go_enter Tryz.func94, Tryz.ntmps94;go_wp2_with (first | ((with_reducible refine gD (N := 5) rfl ?_); refine Kd.R_lit k108 _ 108 ?hg (N := 5) ?hd (xs := ([] : List (S108))) (inner := []) (ok := fun _ => True) (okp := fun _ => True) ?hr ?hp (fun _ hk => hk) trivial (Below.refl _ _) (Nat.le_refl _) (by simp) ?_; (case hd => rfl); (case hg => rfl); (case hr => exact zz16); (case hp => exact (Reps.none _ _)); intro v210 w3 ho4 hb hg_ hnew_; clear hg_ hnew_; (first | rw [← Ny209.out] at ho4 | (simp only [Int.reduceToNat] at ho4; rw [← Ny209.out] at ho4)); have HO211 := A_ (Kd.R_lower ho4 (keep_size (w := w) (g := g) (row := none) (zz8 HK))); replace HK := A_ (KeepBut.trans (zz8 HK) (KeepBut.of_below hb g none) (.inl rfl)); replace HB := A_ (bS (zz9 HB HI0) hb); replace HI0 := A_ (IsS68.below (zz7 HI0) hb); clear hb ho4) | (refine gR 22 (some 7) Tryz.func22 (spec_l6Rd_pick.calls k g s0_0 s0_1 5 t212 t213 w0 _ ?side1 ?side2 A2.out) ?_; (case side1 => exact (zz7 HI0)); (case side2 => exact (zz9 HB HI0)); rintro w5 ⟨hi, hb, hk⟩; replace HO211 := A_ (Kd.R_mono (Kd.R_keep (IsS68.apart (show IsS68 w0 _ g s0_0 s0_1 from (zz7 HI0)) (zz18 HO211) (by decide)) hk (fun _ h => h.2)) (fun _ h => h.1)); replace HK := A_ (KeepBut.trans (zz8 HK) hk (.inl rfl)); replace HB := A_ (hb); replace HI0 := A_ (hi); (try clear hb hk hi)))
 go_loopg [3, 4] k (fun kq v3 v4 w' => ∃ (x3_1 : List (S108)) (x4_1 : Int) (x1001_1 : Int), v4 = .int .i64 x4_1 ∧ Aside0 (spec_l71Rules.l0 kq x3_1 x4_1 s0_0 x1001_1 = some (r1, r2)) ∧ Aside0 (kq ≤ k) ∧ Aside0 (Kd.R k108 108 w' w.heap.size (fun _ => True) v3 x3_1) ∧ Aside0 (IsS68 w0 w' g s0_0 x1001_1) ∧ Aside0 (KeepBut w w' g none) ∧ Aside0 (Below w0.heap.size w0 w'))
 case atStart => exact ⟨(y209), (t212), (t213), zz5, H', ⟨Nat.le_refl _⟩, ⟨(zz18 HO211)⟩, ⟨(zz7 HI0)⟩, ⟨(zz8 HK)⟩, ⟨(zz9 HB HI0)⟩⟩
 case round =>
  clear H';obtain ⟨x3_1, x4_1, x1001_1, rfl, HA, HK1, HO_3, HI0, HK, HB⟩ := hrel;cases gk with
  | zero => exact absurd HA.out (by simp [spec_l71Rules.l0])
  | succ k1 =>
   obtain ⟨H⟩ := HA;simp only [spec_l71Rules.l0] at H
   replace H := iteEg H;rcases H with ⟨c6b0, H⟩ | ⟨c6b0, H⟩
   ·replace H := Option.bind_eq_some_iff.mp H
    obtain ⟨⟨t214, t215⟩, A70, H⟩ := H;replace H : ((spec_l71Rule.f k1 s0_0 t215).bind fun bt216 => (if x3_1.length < 5864062014805 then (spec_l71Rules.l0 k1 (x3_1 ++ [(⟨(t214 == 0), bt216.1⟩ : S108)]) (wrap64 (x4_1 - 1)) s0_0 bt216.2) else (none))) = some (r1, r2) := H;have A7 := A_ A70;clear A70;replace H := bindA H;obtain ⟨⟨t216, t217⟩, A8, H⟩ := H;try dsimp only at H
    replace H := iteN H;obtain ⟨c9, H⟩ := H;have LMc9 := A_ c9;clear c9;obtain ⟨y218, Ny218⟩ := toY (x3_1 ++ [(⟨(t214 == 0), t216⟩ : S108)]);(first | with_reducible replace H := bindZ Ny218 H | rw [← Ny218.out] at H | skip)
    have H' := A_ H;clear H;go_wp2_with (first | (refine gR 22 (some 14) Tryz.func22 (spec_l6Rd_pick.calls k1 g s0_0 x1001_1 2 t214 t215 w0 _ ?side1 ?side2 A7.out) ?_; (case side1 => exact (zz7 HI0)); (case side2 => exact (zz9 HB HI0)); rintro w10 ⟨hi, hb, hk⟩; replace HO_3 := A_ (Kd.R_mono (Kd.R_keep (IsS68.apart (show IsS68 w0 _ g s0_0 x1001_1 from (zz7 HI0)) (zz18 HO_3) (by decide)) hk (fun _ h => h.2)) (fun _ h => h.1)); replace HK := A_ (KeepBut.trans (zz8 HK) hk (.inl rfl)); replace HB := A_ (hb); replace HI0 := A_ (hi); (try clear hb hk hi)) | (refine gR 118 (some 17) Tryz.func118 (spec_l71Rule.calls k1 g s0_0 t215 t216 t217 w0 _ ?side1 ?side2 A8.out) ?_; (case side1 => exact (zz7 HI0)); (case side2 => exact (zz9 HB HI0)); rintro w11 ⟨hi, hb, hk⟩; replace HO_3 := A_ (Kd.R_mono (Kd.R_keep (IsS68.apart (show IsS68 w0 _ g s0_0 t215 from (zz7 HI0)) (zz18 HO_3) (by decide)) hk (fun _ h => h.2)) (fun _ h => h.1)); replace HK := A_ (KeepBut.trans (zz8 HK) hk (.inl rfl)); replace HB := A_ (hb); replace HI0 := A_ (hi); (try clear hb hk hi)) | ((with_reducible refine gate_builtin (b := .append) (xs := #[.tmp 12, .tmp 19]) rfl ?_); at_builtin; refine Kd.R_append k108 w.heap.size rfl (.tmp 12) (.tmp 19) 104 108 (.agg #[(.bool false), (.string ⟨#[]⟩)]) 24 rfl Tryz.underlying104 info108 rfl (by decide) (by omega) u3 x3_1 (⟨(t214 == 0), t216⟩ : S108) [.bool (t214 == 0), .string t216] (fun _ => True) (fun _ => False) rfl rfl ?aP (fun _ hk => hk.elim) ?aF ?aO (Below.refl _ _) ?aS ?aL ?_; (case aP => exact k108_mkM _ _ _ (⟨(t214 == 0), t216⟩ : S108)); (case aF => exact (fun _ _ => trivial)); (case aO => exact (zz18 HO_3)); (case aS => exact (keep_size (w := w) (g := g) (row := none) (zz8 HK))); (case aL => exact (zz20 LMc9)); intro v219 w12 ho hb hg hat; rw [← Ny218.out] at ho; replace HB := A_ (below_weaken (zz9 HB HI0) HL.out hb); replace HI0 := A_ (IsS68.grown (zz7 HI0) hg (IsS68.own_ne HI0.out HO_3.out (by decide))); replace HK := A_ (KeepBut.trans (zz8 HK) (KeepBut.of_grown hg g) (Kd.R_base2 HO_3.out)); have HO220 := A_ (ho); clear HO_3; clear ho hb hg hat))
    go_roundg k1
    case measure => have := HK1.out; omega
    case rel => exact ⟨(y218), (wrap64 (x4_1 - 1)), (t217), zz5, H', ⟨(zz20 HK1)⟩, ⟨(zz18 HO220)⟩, ⟨(zz7 HI0)⟩, ⟨(zz8 HK)⟩, ⟨(zz9 HB HI0)⟩⟩
   ·simp only [Option.some.injEq, Prod.mk.injEq] at H
    obtain ⟨rfl, rfl⟩ := H;go_wp2
    go_ret
    exact ⟨_, zz11, (zz18 HO_3), (zz7 HI0), (zz9 HB HI0), (zz8 HK)⟩
end Go.Proofs.YtpomhjkbgbociaaGreatDoor.P
end
