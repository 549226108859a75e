/- Part 2 of the proof of FnWorldOk: the plain functions of what it reaches, that Go comes to just their answers, what they answer, and the words that the walks use; conditions: each theorem's own. -/
import Derived.Test.YtpomhjkbgbociaaDoorZFnWorldOka
import Derived.Laws.StructEq
import Derived.RowKit
import Derived.Test.YtpomhjkbgbociaaDoorProg
import Derived.Below
import Derived.Deep.Draws
import Derived.Deep.AppendLies
import Derived.Maps.AppendAt
import Derived.OwnWalk
import Derived.Laws.BytesArg
import Derived.Laws.MakeOwn
import Derived.Laws.OwnMore
import Derived.Deep.OwnRows
import Derived.Tactics
import Derived.Lib.ConvBytes
import Derived.Laws.Slices
import Derived.WalkKit
import Derived.KernelRfl
import Derived.RowKit3
import Derived.Deep.LoopGhost
import Derived.Deep.QuietTactic
import Derived.BigQuiet
import Derived.WideLaws
import Derived.Deep.DeepCutAuto
import Derived.Deep.CutBlock
import Derived.Deep.RegionHeld3
import Derived.Laws.Rows
import Derived.Lib.AppendStr
import Derived.ArgAppend
import Derived.Laws.IdiomCopy
import Derived.OrdersHeld
import Derived.Laws.BitsLemmas

section
namespace Go.Proofs.YtpomhjkbgbociaaDoorW.PrintWords
open Go.RowKit
section
variable {P : Program} {d : Nat} {xs ys : Array Value} {f : Field} {fs : List Field} {a b : Value} {r s : Bool} {w : World}
end
end Go.Proofs.YtpomhjkbgbociaaDoorW.PrintWords
end
section
namespace Go.Proofs.YtpomhjkbgbociaaDoor.P
theorem aid_isEmpty (l : List UInt8) : (l != ([] : List UInt8)) = !l.isEmpty := by cases l <;> rfl
theorem aid_isEmpty2 (l : List UInt8) : (l == ([] : List UInt8)) = l.isEmpty := by cases l <;> rfl
end Go.Proofs.YtpomhjkbgbociaaDoor.P
end
section
namespace Go.Proofs.YtpomhjkbgbociaaDoor.P
open Go.RowKit Go.Proofs.YtpomhjkbgbociaaDoorW.PrintWords
structure Undec (c : Prop) : Prop where mk :: (out : True)
theorem Undec.y_ {c : Prop} (_ : c) : Undec c := ⟨trivial⟩
theorem Undec.n_ {c : Prop} (_ : ¬ c) : Undec c := ⟨trivial⟩
theorem undecG {b : Bool} (h : Undec (b = true) := by (fail_if_success exact Undec.y_ rfl); (fail_if_success exact Undec.n_ (by decide)); exact Undec.mk trivial) : Undec (b = true) := h
theorem undecI {c : Prop} (h : Undec c := by (fail_if_success exact Undec.y_ (by first | (with_reducible assumption) | ((try simp only [decide_eq_true_eq, decide_eq_false_iff_not] at *); omega) | decide)); (fail_if_success exact Undec.n_ (by first | (with_reducible assumption) | ((try simp only [decide_eq_true_eq, decide_eq_false_iff_not] at *); omega) | decide)); exact Undec.mk trivial) : Undec c := h
def MetP (J : Prop) : Prop := J
theorem atG {P : Program} {ops : Array Oper} {Q : Exit → Act → World → Prop} {a : Act} {w : World} {rest : List Oper} {d : Option Tmp} {op : Op} {ty : TypeId} {pos : String} {af : Array Edge} {j : Nat} {g b : Bool}
  (_hy : yielded ops a.tmps j = some b) (_nl : Undec (b = true)) (h : ∀ K : Prop, Aside0 (K = wpList P ops Q (⟨d, op, ty, pos, af, some (j, g)⟩ :: rest) a w) → MetP K) :
  wpList P ops Q (⟨d, op, ty, pos, af, some (j, g)⟩ :: rest) a w := h _ ⟨rfl⟩
theorem atI {c A B : Prop} [Decidable c] (_nl : Undec c) (h : ∀ K : Prop, Aside0 (K = if c then A else B) → MetP K) : if c then A else B := h _ ⟨rfl⟩
theorem unG {A K : Prop} (hK : Aside0 (K = A)) (h : A) : MetP K := by rw [hK.out]; exact h
theorem iteT {c A B : Prop} [Decidable c] (h : A) (hc : c := by first | rfl | (with_reducible assumption) | omega | decide | exact List.length_eq_zero_iff.mp (by omega) | (intro h_; simp only [h_, List.length_nil] at *; omega)) : if c then A else B := by rw [if_pos hc]; exact h
theorem iteF {c A B : Prop} [Decidable c] (h : B) (hc : ¬ c := by first | (with_reducible assumption) | decide | omega | exact fun h_ => h_ (List.length_eq_zero_iff.mp (by omega)) | (intro h_; simp only [h_, List.length_nil] at *; omega)) : if c then A else B := by rw [if_neg hc]; exact h
theorem upS {P : Program} {o : Oper} {a : Act} {next : Act → World → Prop} {Q : Exit → Act → World → Prop} {r : Result Next} (h : Oper.upon P o a next Q r) : Oper.upon P o a next Q r := h
end Go.Proofs.YtpomhjkbgbociaaDoor.P
end
section
namespace Go.Proofs.YtpomhjkbgbociaaDoor.P
open Go.RowKit Go.Proofs.YtpomhjkbgbociaaDoorW.PrintWords Go.Proofs.YtpomhjkbgbociaaDoorW.PrintLast Go.Proofs.YtpomhjkbgbociaaDoorW.PrintMore
attribute [local go_sem] max2_int min2_int max_two min_two max_three min_three max_four min_four
set_option linter.unusedVariables false
set_option linter.unusedSimpArgs false
def errW : Option Int → Value
 | none => .nilIface
 | some c => .iface 0 (.int .i64 c)
theorem errW_none : errW none = .nilIface := rfl
theorem errW_some (c : Int) : errW (some c) = .iface 0 (.int .i64 c) := rfl
theorem info5 : (Tryd.prog.info? 5).map (fun i => (i.zero, i.size, i.bytes)) = some (some (.int .u8 0), 1, 1) := by kernel_rfl
theorem info9 : (Tryd.prog.info? 9).map (fun i => (i.zero, i.size, i.bytes)) = some (some (.string ⟨#[]⟩), 1, 16) := by kernel_rfl
theorem info32 : (Tryd.prog.info? 32).map (fun i => (i.zero, i.size, i.bytes)) = some (some (.agg #[(.string ⟨#[]⟩), (.string ⟨#[]⟩), (.string ⟨#[]⟩), (.int .i64 0)]), 4, 56) := by kernel_rfl
theorem info81 : (Tryd.prog.info? 81).map (fun i => (i.zero, i.size, i.bytes)) = some (some (.agg #[(.slice none 0 0), (.slice none 0 0), (.int .i64 0)]), 3, 56) := by kernel_rfl
theorem info83 : (Tryd.prog.info? 83).map (fun i => (i.zero, i.size, i.bytes)) = some (some (.agg #[(.bool false), (.string ⟨#[]⟩)]), 2, 24) := by kernel_rfl
structure S83 where
 f0 : Bool
 f1 : ByteArray
def z83 : S83 := ⟨false, (⟨#[]⟩ : ByteArray)⟩
def k83 : Kd S83 := Kd.iso (Kd.pair Kd.bool Kd.string) (fun x : S83 => (x.f0, x.f1))
theorem k83_open {w : World} {x : S83} {cs : List Value} (h : k83.K w x cs) : cs = [.bool x.f0, .string x.f1] := by
 obtain ⟨_, _, rfl, rfl, rfl⟩ := h
 exact rfl
theorem k83_mkM (w : World) (base : Nat) (ok : Nat → Prop) (x : S83)  : k83.M w base ok x [.bool x.f0, .string x.f1] := ⟨[.bool x.f0], [.string x.f1], rfl, rfl, rfl⟩
def rd_T83 (xs : List S83) (i : Int) : S83 := xs.getD i.toNat z83
theorem at_T83 {w : World} {A : Option Addr} {n : Nat} {xs : List S83} (h : Kd.C k83 w A n xs) (i : Int) (h0 : 0 ≤ i) (h1 : i < n) : ∃ ad , A = some ad ∧ w.cell? (ad.add (i.toNat * 2)) = some (.bool (rd_T83 xs i).f0) ∧ w.cell? ⟨(ad.add (i.toNat * 2)).block, (ad.add (i.toNat * 2)).off + 1, none⟩ = some (.string (rd_T83 xs i).f1) := by
 obtain ⟨ad, c, e, _, hK, hc0⟩ := Kd.C_get h z83 i h0 h1
 have hc : ∀ j u, c[j]? = some u → w.cell? (ad.add (i.toNat * 2 + j)) = some u := hc0
 obtain rfl := k83_open hK
 exact ⟨ad, e, hc 0 _ rfl, by rw [← add_field _ _ 1 (by omega)]; exact hc 1 _ rfl⟩
structure S81 where
 f0 : (List ByteArray)
 f1 : (List S83)
 f2 : Int
def z81 : S81 := ⟨([] : List ByteArray), ([] : List S83), (0 : Int)⟩
def k81 : Kd S81 := Kd.iso (Kd.pair (Kd.slice 9 Kd.string) (Kd.pair (Kd.slice 83 k83) (Kd.int .i64))) (fun x : S81 => (x.f0, x.f1, x.f2))
theorem k81_open {w : World} {x : S81} {cs : List Value} (h : k81.K w x cs) : ∃ A0 c0 A1 c1, cs = [.slice A0 x.f0.length c0, .slice A1 x.f1.length c1, .int .i64 x.f2] ∧ x.f0.length ≤ c0 ∧ Kd.string.C w A0 x.f0.length x.f0 ∧ x.f1.length ≤ c1 ∧ k83.C w A1 x.f1.length x.f1 := by
 obtain ⟨_, _, rfl, ⟨A0, c0, rfl, l0, g0⟩, ⟨_, _, rfl, ⟨A1, c1, rfl, l1, g1⟩, rfl⟩⟩ := h
 exact ⟨A0, c0, A1, c1, rfl, l0, g0, l1, g1⟩
theorem k81_mkM (w : World) (base : Nat) (ok : Nat → Prop) (x : S81) {v0 : Value} (g0 : Kd.string.R 9 w base ok v0 x.f0) {v1 : Value} (g1 : k83.R 83 w base ok v1 x.f1) : k81.M w base ok x [v0, v1, .int .i64 x.f2] := ⟨[v0], [v1, .int .i64 x.f2], rfl, ⟨v0, rfl, g0⟩, ⟨[v1], [.int .i64 x.f2], rfl, ⟨v1, rfl, g1⟩, rfl⟩⟩
def rd_T81 (xs : List S81) (i : Int) : S81 := xs.getD i.toNat z81
theorem at_T81 {w : World} {A : Option Addr} {n : Nat} {xs : List S81} (h : Kd.C k81 w A n xs) (i : Int) (h0 : 0 ≤ i) (h1 : i < n) : ∃ ad A0 c0 A1 c1, A = some ad ∧ w.cell? (ad.add (i.toNat * 3)) = some (.slice A0 (rd_T81 xs i).f0.length c0) ∧ w.cell? ⟨(ad.add (i.toNat * 3)).block, (ad.add (i.toNat * 3)).off + 1, none⟩ = some (.slice A1 (rd_T81 xs i).f1.length c1) ∧ w.cell? ⟨(ad.add (i.toNat * 3)).block, (ad.add (i.toNat * 3)).off + 2, none⟩ = some (.int .i64 (rd_T81 xs i).f2) ∧ (rd_T81 xs i).f0.length ≤ c0 ∧ Kd.string.C w A0 (rd_T81 xs i).f0.length (rd_T81 xs i).f0 ∧ (rd_T81 xs i).f1.length ≤ c1 ∧ k83.C w A1 (rd_T81 xs i).f1.length (rd_T81 xs i).f1 := by
 obtain ⟨ad, c, e, _, hK, hc0⟩ := Kd.C_get h z81 i h0 h1
 have hc : ∀ j u, c[j]? = some u → w.cell? (ad.add (i.toNat * 3 + j)) = some u := hc0
 obtain ⟨A0, c0, A1, c1, rfl, l0, g0, l1, g1⟩ := k81_open hK
 exact ⟨ad, A0, c0, A1, c1, e, hc 0 _ rfl, by rw [← add_field _ _ 1 (by omega)]; exact hc 1 _ rfl, by rw [← add_field _ _ 2 (by omega)]; exact hc 2 _ rfl, l0, g0, l1, g1⟩
structure S32 where
 f0 : ByteArray
 f1 : ByteArray
 f2 : ByteArray
 f3 : Int
def z32 : S32 := ⟨(⟨#[]⟩ : ByteArray), (⟨#[]⟩ : ByteArray), (⟨#[]⟩ : ByteArray), (0 : Int)⟩
def k32 : Kd S32 := Kd.iso (Kd.pair Kd.string (Kd.pair Kd.string (Kd.pair Kd.string (Kd.int .i64)))) (fun x : S32 => (x.f0, x.f1, x.f2, x.f3))
theorem k32_open {w : World} {x : S32} {cs : List Value} (h : k32.K w x cs) : cs = [.string x.f0, .string x.f1, .string x.f2, .int .i64 x.f3] := by
 obtain ⟨_, _, rfl, rfl, ⟨_, _, rfl, rfl, ⟨_, _, rfl, rfl, rfl⟩⟩⟩ := h
 exact rfl
theorem k32_openM {w : World} {base : Nat} {ok : Nat → Prop} {x : S32} {cs : List Value} (h : k32.M w base ok x cs) : cs = [.string x.f0, .string x.f1, .string x.f2, .int .i64 x.f3] := by
 obtain ⟨_, _, rfl, rfl, ⟨_, _, rfl, rfl, ⟨_, _, rfl, rfl, rfl⟩⟩⟩ := h
 exact rfl
theorem k32_mkM (w : World) (base : Nat) (ok : Nat → Prop) (x : S32)  : k32.M w base ok x [.string x.f0, .string x.f1, .string x.f2, .int .i64 x.f3] := ⟨[.string x.f0], [.string x.f1, .string x.f2, .int .i64 x.f3], rfl, rfl, ⟨[.string x.f1], [.string x.f2, .int .i64 x.f3], rfl, rfl, ⟨[.string x.f2], [.int .i64 x.f3], rfl, rfl, rfl⟩⟩⟩
def rd_T32 (xs : List S32) (i : Int) : S32 := xs.getD i.toNat z32
theorem at_T32 {w : World} {A : Option Addr} {n : Nat} {xs : List S32} (h : Kd.C k32 w A n xs) (i : Int) (h0 : 0 ≤ i) (h1 : i < n) : ∃ ad , A = some ad ∧ w.cell? (ad.add (i.toNat * 4)) = some (.string (rd_T32 xs i).f0) ∧ w.cell? ⟨(ad.add (i.toNat * 4)).block, (ad.add (i.toNat * 4)).off + 1, none⟩ = some (.string (rd_T32 xs i).f1) ∧ w.cell? ⟨(ad.add (i.toNat * 4)).block, (ad.add (i.toNat * 4)).off + 2, none⟩ = some (.string (rd_T32 xs i).f2) ∧ w.cell? ⟨(ad.add (i.toNat * 4)).block, (ad.add (i.toNat * 4)).off + 3, none⟩ = some (.int .i64 (rd_T32 xs i).f3) := by
 obtain ⟨ad, c, e, _, hK, hc0⟩ := Kd.C_get h z32 i h0 h1
 have hc : ∀ j u, c[j]? = some u → w.cell? (ad.add (i.toNat * 4 + j)) = some u := hc0
 obtain rfl := k32_open hK
 exact ⟨ad, e, hc 0 _ rfl, by rw [← add_field _ _ 1 (by omega)]; exact hc 1 _ rfl, by rw [← add_field _ _ 2 (by omega)]; exact hc 2 _ rfl, by rw [← add_field _ _ 3 (by omega)]; exact hc 3 _ rfl⟩
end Go.Proofs.YtpomhjkbgbociaaDoor.P
end
section
namespace Go.Proofs.YtpomhjkbgbociaaDoor.P
open Go.RowKit Go.Proofs.YtpomhjkbgbociaaDoorW.PrintWords Go.Proofs.YtpomhjkbgbociaaDoorW.PrintLast Go.Proofs.YtpomhjkbgbociaaDoorW.PrintMore
theorem viaP {B : Prop} (b : B := by simp only [putAll, Act.put, List.setIfInBounds_toArray, List.set_cons_zero, List.set_cons_succ]) : B := b
theorem ofD {p : Prop} [Decidable p] (h : decide p = true := by first | (with_reducible assumption) | assumption) : p := of_decide_eq_true h
theorem bindA {α β : Type} {x : Option α} {f : α → Option β} {r : β} (h : x.bind f = some r) : ∃ a, Aside0 (x = some a) ∧ f a = some r := by
 obtain ⟨a, h1, h2⟩ := Option.bind_eq_some_iff.mp h
 exact ⟨a, ⟨h1⟩, h2⟩
theorem bindZ {α β : Type} {y z : α} (hz : Aside0 (z = y)) {f : α → Option β} {r : β} (h : (some y).bind f = some r) : f z = some r := hz.out ▸ h
theorem toY {α : Type} (y : α) : ∃ z, Aside0 (z = y) := ⟨y, ⟨rfl⟩⟩
theorem cbl {w W : World} {a : Addr} {v : Value} (hb : Aside0 (Below w.heap.size w W)) (h : w.cell? a = some v) : W.cell? a = some v := (hb.out.cell (World.block_lt_of_cell? w _ h)).trans h
theorem geB {w W : World} {g : Nat} (hg : g = W.heap.size) (h : Below w.heap.size w W) : Aside0 (w.heap.size ≤ g) := ⟨by rw [hg]; exact below_size h⟩
theorem rt {α : Type} {d : Kd α} {e : Nat} {w : World} {base : Nat} {ok : Nat → Prop} {v : Value} {xs : List α} {g t : Nat} {cells : Array Value} (a : Aside0 (d.R e w base ok v xs)) (b : Aside0 (w.heap[g]? = some (.cells cells t (0, 0)))) (ht : ∀ q, q ∈ e :: d.E → q ≠ t := by decide) : Aside0 (d.R e w base (fun k => ok k ∧ k ≠ g) v xs) := ⟨Kd.R_types a.out b.out ht⟩
section
variable {P : Program} {ops : Array Oper} {rest : List Oper} {o : Oper} {a : Act} {Q : Exit → Act → World → Prop} {md : Region.Mode} {S : World → Prop} {ds : List Nat} {W : World}
theorem boxE (N : Tmp) (cs : Array Value) (t : TypeId)
  (h : ∀ g, g = W.heap.size → ∀ w1, w1.heap[g]? = some (.cells cs t (0, 0)) → Below W.heap.size W w1 → wpList P ops Q rest (a.put o.dst (.pointer (some ⟨g, 0, none⟩))) w1)
  (hd : o.dst = some N := by rfl) (hgd : o.guard = none := by rfl)
  (hrun : (execOp a.eval o).run P W = .ok (.value (.pointer (some ⟨W.heap.size, 0, none⟩))) (W.alloc (.cells cs t (0, 0))) := by first | (go_simp; done) | (go_simp; rfl)) : wpList P ops Q (o :: rest) a W := box_event hgd hd hrun h
theorem gsL (N : Option Tmp) {f : FuncId} {fn : Func} {as_ : Array Operand} {ts : Array TypeId} (hf : P.funcs[f]? = some fn) (args : Array Value)
  (h : Calls P f args W fun e w' => ∃ v, e = .returned v ∧ wpList P ops Q rest (a.put N v) w')
  (hd : o.dst = N := by rfl) (hg : o.guard = none := by rfl) (hname : (fn.name == "runtime.NumGoroutine") = false := by kernel_rfl) (hb : fn.body.isSome = true := by rfl)
  (hop : o.op = .call { callee := .value (.func f), args := as_, argTypes := ts } := by rfl)
  (hargs : as_.map a.eval = args := by (try simp only [List.map_toArray, List.map_cons, List.map_nil]); first | done | rfl | (simp only [List.length_drop, List.length_take]; rfl)) : wpList P ops Q (o :: rest) a W := goesL_ N hd hg hf hname hb args hop hargs h
theorem pureZ (i : Nat) (N : Option Tmp) {v : Value} {fuel : Nat} {l : Array Bool} (l' : Array Bool) {a' : Act}
  (h : wpAnyLast P md ops Q S ds fuel l' a' W) (hi : ops[i]? = some o := by rfl) (hN : o.dst = N := by rfl) (hc : anyB md ops l l' i = true := by exact any_of HT_.out (by kernel_rfl))
  (hQ : ∀ c a w, Q (.panic c) (a.put o.dst v) w → Q (.panic c) a w := by exact fun _ _ _ h => h)
  (hy : Yields P ops o v a := by exact Or.inl ⟨by rfl, by intro w'; go_simp; with_reducible rfl⟩)
  (ha : a.put N v = a' := by (simp only [Act.put, List.setIfInBounds_toArray, List.set_cons_zero, List.set_cons_succ, i64_w, i32_w]; rfl)) : wpAnyLast P md ops Q S ds (fuel + 1) l a W := pure_ l' hi hN hc hQ hy ha h
theorem pureY (i : Nat) (N : Option Tmp) {v : Value} {fuel : Nat} {l : Array Bool} (l' : Array Bool) {a' : Act}
  (h : wpAnyLast P md ops Q S ds fuel l' a' W) (hi : ops[i]? = some o := by rfl) (hN : o.dst = N := by rfl) (hc : anyB md ops l l' i = true := by kernel_rfl)
  (hQ : ∀ c a w, Q (.panic c) (a.put o.dst v) w → Q (.panic c) a w := by exact fun _ _ _ h => h)
  (hy : Yields P ops o v a := by exact Or.inl ⟨by rfl, by intro w'; go_simp; with_reducible rfl⟩)
  (ha : a.put N v = a' := by (simp only [Act.put, List.setIfInBounds_toArray, List.set_cons_zero, List.set_cons_succ, i64_w, i32_w]; rfl)) : wpAnyLast P md ops Q S ds (fuel + 1) l a W := pure_ l' hi hN hc hQ hy ha h
theorem takeZ3 (i : Nat) (N : Option Tmp) {v : Value} {fuel : Nat} {l : Array Bool} (l' : Array Bool) (hS : S W) {a' : Act}
  (h : wpAnyLast P md ops Q S ds fuel l' a' W) (hi : ops[i]? = some o := by rfl) (hN : o.dst = N := by rfl) (hc : takeB md ops ds l l' i = true := by exact take_ofW HT_.out HW_.out (by kernel_rfl))
  (hQ : ∀ c a w, Q (.panic c) (a.put o.dst v) w → Q (.panic c) a w := by exact fun _ _ _ h => h)
  (hy : YieldsIf P ops S o v a := by exact Or.inl ⟨by rfl, by rintro w' ⟨s0, s1, s2⟩; go_simp; with_reducible rfl⟩)
  (ha : a.put N v = a' := by (simp only [Act.put, List.setIfInBounds_toArray, List.set_cons_zero, List.set_cons_succ, i64_w, i32_w]; rfl)) : wpAnyLast P md ops Q S ds (fuel + 1) l a W := take_ l' hi hN hc hQ hy hS ha h
theorem takeZ4 (i : Nat) (N : Option Tmp) {v : Value} {fuel : Nat} {l : Array Bool} (l' : Array Bool) (hS : S W) {a' : Act}
  (h : wpAnyLast P md ops Q S ds fuel l' a' W) (hi : ops[i]? = some o := by rfl) (hN : o.dst = N := by rfl) (hc : takeB md ops ds l l' i = true := by exact take_ofW HT_.out HW_.out (by kernel_rfl))
  (hQ : ∀ c a w, Q (.panic c) (a.put o.dst v) w → Q (.panic c) a w := by exact fun _ _ _ h => h)
  (hy : YieldsIf P ops S o v a := by exact Or.inl ⟨by rfl, by rintro w' ⟨s0, s1, s2, s3⟩; go_simp; with_reducible rfl⟩)
  (ha : a.put N v = a' := by (simp only [Act.put, List.setIfInBounds_toArray, List.set_cons_zero, List.set_cons_succ, i64_w, i32_w]; rfl)) : wpAnyLast P md ops Q S ds (fuel + 1) l a W := take_ l' hi hN hc hQ hy hS ha h
theorem takeY4 (i : Nat) (N : Option Tmp) {v : Value} {fuel : Nat} {l : Array Bool} (l' : Array Bool) (hS : S W) {a' : Act}
  (h : wpAnyLast P md ops Q S ds fuel l' a' W) (hi : ops[i]? = some o := by rfl) (hN : o.dst = N := by rfl) (hc : takeB md ops ds l l' i = true := by kernel_rfl)
  (hQ : ∀ c a w, Q (.panic c) (a.put o.dst v) w → Q (.panic c) a w := by exact fun _ _ _ h => h)
  (hy : YieldsIf P ops S o v a := by exact Or.inl ⟨by rfl, by rintro w' ⟨s0, s1, s2, s3⟩; go_simp; with_reducible rfl⟩)
  (ha : a.put N v = a' := by (simp only [Act.put, List.setIfInBounds_toArray, List.set_cons_zero, List.set_cons_succ, i64_w, i32_w]; rfl)) : wpAnyLast P md ops Q S ds (fuel + 1) l a W := take_ l' hi hN hc hQ hy hS ha h
theorem takeZ8 (i : Nat) (N : Option Tmp) {v : Value} {fuel : Nat} {l : Array Bool} (l' : Array Bool) (hS : S W) {a' : Act}
  (h : wpAnyLast P md ops Q S ds fuel l' a' W) (hi : ops[i]? = some o := by rfl) (hN : o.dst = N := by rfl) (hc : takeB md ops ds l l' i = true := by exact take_ofW HT_.out HW_.out (by kernel_rfl))
  (hQ : ∀ c a w, Q (.panic c) (a.put o.dst v) w → Q (.panic c) a w := by exact fun _ _ _ h => h)
  (hy : YieldsIf P ops S o v a := by exact Or.inl ⟨by rfl, by rintro w' ⟨s0, s1, s2, s3, s4, s5, s6, s7⟩; go_simp; with_reducible rfl⟩)
  (ha : a.put N v = a' := by (simp only [Act.put, List.setIfInBounds_toArray, List.set_cons_zero, List.set_cons_succ, i64_w, i32_w]; rfl)) : wpAnyLast P md ops Q S ds (fuel + 1) l a W := take_ l' hi hN hc hQ hy hS ha h
end
theorem cf3 {w : World} {g : Nat} {t : TypeId} {x0 x1 x2 : Value} (h : Aside0 (w.heap[g]? = some (.cells #[x0, x1, x2] t (0, 0)))) : w.cell? ⟨g, 0, none⟩ = some x0 ∧ w.cell? ⟨g, 1, none⟩ = some x1 ∧ w.cell? ⟨g, 2, none⟩ = some x2 ∧ w.frozen? ⟨g, 0, none⟩ = false ∧ w.frozen? ⟨g, 1, none⟩ = false ∧ w.frozen? ⟨g, 2, none⟩ = false := ⟨(blk_cell h.out 0).trans rfl, (blk_cell h.out 1).trans rfl, (blk_cell h.out 2).trans rfl, blk_frozen h.out 0, blk_frozen h.out 1, blk_frozen h.out 2⟩
theorem cf4 {w : World} {g : Nat} {t : TypeId} {x0 x1 x2 x3 : Value} (h : Aside0 (w.heap[g]? = some (.cells #[x0, x1, x2, x3] t (0, 0)))) : w.cell? ⟨g, 0, none⟩ = some x0 ∧ w.cell? ⟨g, 1, none⟩ = some x1 ∧ w.cell? ⟨g, 2, none⟩ = some x2 ∧ w.cell? ⟨g, 3, none⟩ = some x3 ∧ w.frozen? ⟨g, 0, none⟩ = false ∧ w.frozen? ⟨g, 1, none⟩ = false ∧ w.frozen? ⟨g, 2, none⟩ = false ∧ w.frozen? ⟨g, 3, none⟩ = false := ⟨(blk_cell h.out 0).trans rfl, (blk_cell h.out 1).trans rfl, (blk_cell h.out 2).trans rfl, (blk_cell h.out 3).trans rfl, blk_frozen h.out 0, blk_frozen h.out 1, blk_frozen h.out 2, blk_frozen h.out 3⟩
theorem A_ {p : Prop} (h : p) : Aside0 p := ⟨h⟩
abbrev bS := @below_step
abbrev bB := @blk_below
abbrev rB := @Kd.R_below
abbrev gC := @gate_callee
abbrev gD := @gate_dst
abbrev sI := @Option.some.inj
abbrev pR := @bodyPost_ret
abbrev dT := @decide_eq_true
abbrev dF := @decide_eq_false
section
variable {α : Type} {r : α} {x y : Option α} {c : Prop} {i : Decidable c}
theorem iteN (h : (if c then x else none) = some r) : c ∧ x = some r := by
 by_cases hc : c
 ·rw [if_pos hc] at h; exact ⟨hc, h⟩
 ·rw [if_neg hc] at h; cases h
theorem iteM (h : (if c then none else y) = some r) : ¬ c ∧ y = some r := by
 by_cases hc : c
 ·rw [if_pos hc] at h; cases h
 ·rw [if_neg hc] at h; exact ⟨hc, h⟩
theorem iteE (h : (if c then x else y) = some r) : (c ∧ x = some r) ∨ (¬ c ∧ y = some r) := by
 by_cases hc : c
 ·rw [if_pos hc] at h; exact .inl ⟨hc, h⟩
 ·rw [if_neg hc] at h; exact .inr ⟨hc, h⟩
theorem iteB {b : Bool} (h : (if b = true then x else y) = some r) : (b = true ∧ x = some r) ∨ (b = false ∧ y = some r) := by cases b <;> simpa using h
theorem iteNd (h : (if c then x else none) = some r) : decide c = true ∧ x = some r := ⟨decide_eq_true (iteN h).1, (iteN h).2⟩
theorem iteEd (h : (if c then x else y) = some r) : (decide c = true ∧ x = some r) ∨ (decide c = false ∧ y = some r) := (iteE h).imp (fun z => ⟨decide_eq_true z.1, z.2⟩) (fun z => ⟨decide_eq_false z.1, z.2⟩)
end
section
variable {α : Type} {r : α} {x y : Option α} {a b : Int}
theorem gtT (h : a > b) : decide (b < a) = true := decide_eq_true h
theorem gtF (h : ¬ a > b) : decide (b < a) = false := decide_eq_false h
theorem geT (h : a ≥ b) : decide (b ≤ a) = true := decide_eq_true h
theorem geF (h : ¬ a ≥ b) : decide (b ≤ a) = false := decide_eq_false h
theorem iteEg {i : Decidable (a > b)} (h : (if a > b then x else y) = some r) : (@decide (b < a) (Int.decLt b a) = true ∧ x = some r) ∨ (@decide (b < a) (Int.decLt b a) = false ∧ y = some r) := (iteE h).imp (fun z => ⟨gtT z.1, z.2⟩) (fun z => ⟨gtF z.1, z.2⟩)
theorem iteEe {i : Decidable (a ≥ b)} (h : (if a ≥ b then x else y) = some r) : (@decide (b ≤ a) (Int.decLe b a) = true ∧ x = some r) ∨ (@decide (b ≤ a) (Int.decLe b a) = false ∧ y = some r) := (iteE h).imp (fun z => ⟨geT z.1, z.2⟩) (fun z => ⟨geF z.1, z.2⟩)
end
section
variable {α β : Type} [BEq β] [LawfulBEq β] {r : α} {x y : Option α} {a b : β}
theorem eqT (h : a = b) : (a == b) = true ∧ (a != b) = false := ⟨beq_iff_eq.mpr h, bne_eq_false_iff_eq.mpr h⟩
theorem eqF (h : ¬ a = b) : (a == b) = false ∧ (a != b) = true := ⟨beq_eq_false_iff_ne.mpr h, bne_iff_ne.mpr h⟩
theorem iteEq {i : Decidable (a = b)} (h : (if a = b then x else y) = some r) : ((a == b) = true ∧ (a != b) = false ∧ x = some r) ∨ ((a == b) = false ∧ (a != b) = true ∧ ¬ a = b ∧ y = some r) :=
 (iteE h).imp (fun z => ⟨(eqT z.1).1, (eqT z.1).2, z.2⟩) (fun z => ⟨(eqF z.1).1, (eqF z.1).2, z.1, z.2⟩)
end
theorem atB {P Q R : Prop} [Decidable P] [Decidable Q] (f : P → Q → R) (p : decide P = true := by first | (with_reducible assumption) | assumption) (q : decide Q = true := by first | (with_reducible assumption) | assumption) : R ∧ (P = True) ∧ (Q = True) :=
 ⟨f (of_decide_eq_true p) (of_decide_eq_true q), eq_true (of_decide_eq_true p), eq_true (of_decide_eq_true q)⟩
section
variable {P : Program} {f : FuncId} {args : Array Value} {w : World} {S : Value → World → Prop}
theorem mR {v : Value} {Q : World → Prop} (h : Calls P f args w fun e w' => e = .returned v ∧ Q w') (k : ∀ w', Q w' → S v w') : Calls P f args w fun e w' => ∃ u, e = .returned u ∧ S u w' := h.mono (fun _ w' z => ⟨v, z.1, k w' z.2⟩)
theorem mV {β : Type} {V : β → Value} {Q : β → World → Prop} (h : Calls P f args w fun e w' => ∃ v, e = .returned (V v) ∧ Q v w') (k : ∀ v w', Q v w' → S (V v) w') : Calls P f args w fun e w' => ∃ u, e = .returned u ∧ S u w' := h.mono (fun _ w' z => by obtain ⟨v, z1, z2⟩ := z; exact ⟨V v, z1, k v w' z2⟩)
end
section
variable {w W : World} {a b c d : Addr} {s t u v : Value} (hb : Aside0 (Below w.heap.size w W)) (h1 : w.cell? a = some s) (h2 : w.cell? b = some t) (h3 : w.cell? c = some u) (h4 : w.cell? d = some v)
include hb h1 h2
theorem cb2 : W.cell? a = some s ∧ W.cell? b = some t := ⟨cbl hb h1, cbl hb h2⟩
include h3
theorem cb3 : W.cell? a = some s ∧ W.cell? b = some t ∧ W.cell? c = some u := ⟨cbl hb h1, cbl hb h2, cbl hb h3⟩
include h4
theorem cb4 : W.cell? a = some s ∧ W.cell? b = some t ∧ W.cell? c = some u ∧ W.cell? d = some v := ⟨cbl hb h1, cbl hb h2, cbl hb h3, cbl hb h4⟩
end
theorem zz2 {B A0 : Prop} (a0 : Aside0 A0) (f : A0 → B := by intro g0_; repeat (first | (with_reducible first | exact g0_ | apply below_alloc | apply pw_below_drewN | apply below_drew1) | exact g0_)) : B := f a0.out
theorem zz3 {B A0 : Prop} (a0 : Aside0 A0) (f : A0 → B := by intro g0_; first | (with_reducible exact g0_) | ((with_reducible repeat (first | apply blk_drewN | apply blk_drew | apply blk_alloc)); exact g0_)) : B := f a0.out
theorem zz4 {B A0 A1 : Prop} (a0 : Aside0 A0) (a1 : Aside0 A1) (f : A0 → A1 → B := by intro g0_ g1_; repeat (first | (with_reducible first | exact g0_ | apply below_alloc | apply pw_below_drewN | apply below_drew1 | refine below_set ?_ g1_) | exact g0_)) : B := f a0.out a1.out
theorem zz5 {B : Prop} (f : B := by first | rfl | (simp only [i64_w, i32_w]; done) | (simp only [aid_isEmpty, aid_isEmpty2]; done) | (simp; done) | (simp [*]; done)) : B := f
theorem zz6 {B : Prop} (f : B := by first | omega | exact Nat.le_refl _) : B := f
theorem zz7 {B A0 : Prop} (a0 : Aside0 A0) (f : A0 → B := by intro g0_; repeat (first | (with_reducible first | exact g0_ | apply IsS50.alloc | apply IsS50.drewN | apply IsS50.drew | apply IsS50.set_1) | exact g0_)) : B := f a0.out
theorem zz8 {B A0 : Prop} (a0 : Aside0 A0) (f : A0 → B := by intro g0_; repeat (first | (with_reducible first | exact g0_ | apply KeepBut.set_ | apply keep_drewN | apply keep_drew | apply keep_alloc) | exact g0_)) : B := f a0.out
theorem zz9 {B A0 A1 : Prop} (a0 : Aside0 A0) (a1 : Aside0 A1) (f : A0 → A1 → B := by intro g0_ g1_; repeat (first | (with_reducible first | exact g0_ | apply below_alloc | apply pw_below_drewN | apply below_drew1 | refine below_set ?_ (IsS50.ge g1_)) | exact g0_)) : B := f a0.out a1.out
theorem zz11 {B : Prop} (f : B := by first | rfl | (simp [errW_none, errW_some] <;> rfl) | (simp [*, errW_none, errW_some] <;> rfl)) : B := f
theorem zz12 {B : Prop} (f : B := by first | rfl | (simp [errW_none, errW_some] <;> rfl) | (simp only [← hji9]; first | rfl | (simp [errW_none, errW_some] <;> rfl)) | (simp [*, errW_none, errW_some] <;> rfl)) : B := f
theorem zz16 {B : Prop} (f : B := by first | (go_simp; done) | (go_simp; rfl)) : B := f
theorem zz17 {B : Prop} (f : B := by (try simp only [List.map_toArray, List.map_cons, List.map_nil]); first | done | rfl | (simp only [List.length_drop, List.length_take]; rfl)) : B := f
theorem zz18 {B A0 : Prop} (a0 : Aside0 A0) (f : A0 → B := by intro g0_; first | (with_reducible exact g0_) | ((with_reducible repeat (first | apply Kd.R_alloc | apply Kd.R_drewN | apply Kd.R_drew)); exact g0_)) : B := f a0.out
theorem zz19 {B : Prop} (f : B := by repeat (first | exact Drawn0.refl _ | apply Drawn0.step)) : B := f
theorem zz21 {B A0 : Prop} (a0 : Aside0 A0) (f : A0 → B := by intro g0_; have := g0_; omega) : B := f a0.out
theorem zz24 {B A0 A1 : Prop} (a0 : Aside0 A0) (a1 : Aside0 A1) (f : A0 → A1 → B := by intro g0_ g1_; have := g0_; have := g1_; omega) : B := f a0.out a1.out
theorem zz26 {B A0 : Prop} (a0 : Aside0 A0) (f : A0 → B := by intro g0_; have := g0_; first | omega | exact Nat.le_refl _) : B := f a0.out
theorem zz27 {B A0 : Prop} (a0 : Aside0 A0) (f : A0 → B := by intro g0_; first | ((repeat (first | (with_reducible first | exact g0_ | refine blk_drewN ?_ _ | refine blk_drew ?_ | refine blk_alloc ?_ _ | apply blk_put) | exact g0_)); all_goals rfl; done) | (apply blk_put (i := 2); apply blk_put (i := 1); apply blk_put (i := 0); exact g0_; all_goals rfl)) : B := f a0.out
theorem zz30 {B A0 A1 A2 : Prop} (a0 : Aside0 A0) (a1 : Aside0 A1) (a2 : Aside0 A2) (f : A0 → A1 → A2 → B := by intro g0_ g1_ g2_; have := g0_; have := g1_; have := g2_; omega) : B := f a0.out a1.out a2.out
theorem zz33 {B A0 : Prop} (a0 : Aside0 A0) (f : A0 → B := by intro g0_; repeat (first | exact g0_ | (with_reducible refine Kd.C_alloc ?_ _) | (with_reducible refine Kd.C_drewN ?_ _) | (with_reducible refine Kd.C_drew ?_))) : B := f a0.out
theorem zz37 {B A0 : Prop} (a0 : Aside0 A0) (f : A0 → B := by intro g0_; repeat (first | exact (Kd.R_reads' g0_).2.2 | (with_reducible refine Kd.C_alloc ?_ _) | (with_reducible refine Kd.C_drewN ?_ _) | (with_reducible refine Kd.C_drew ?_))) : B := f a0.out
theorem zz39 {B A0 : Prop} (a0 : Aside0 A0) (f : A0 → B := by intro g0_; (with_reducible repeat (first | apply Kd.S_alloc | apply Kd.S_drewN | apply Kd.S_drew)); exact g0_) : B := f a0.out
theorem zz41 {B A0 A1 : Prop} (a0 : Aside0 A0) (a1 : Aside0 A1) (f : A0 → A1 → B := by intro g0_ g1_; repeat (first | (with_reducible first | exact g0_ | apply IsS50.alloc | apply IsS50.drewN | apply IsS50.drew | apply IsS50.set_1 | refine IsS50.far ?_ g1_ _) | exact g0_)) : B := f a0.out a1.out
theorem zz42 {B A0 A1 A2 : Prop} (a0 : Aside0 A0) (a1 : Aside0 A1) (a2 : Aside0 A2) (f : A0 → A1 → A2 → B := by intro g0_ g1_ g2_; repeat (first | (with_reducible first | exact g0_ | apply below_alloc | apply pw_below_drewN | apply below_drew1 | refine below_set ?_ (IsS50.ge g1_) | refine below_set ?_ g2_) | exact g0_)) : B := f a0.out a1.out a2.out
theorem zz44 {B A0 A1 : Prop} (a0 : Aside0 A0) (a1 : Aside0 A1) (f : A0 → A1 → B := by intro g0_ g1_; (with_reducible repeat (first | apply Kd.R_alloc | apply Kd.R_drewN | apply Kd.R_drew)); exact (Kd.R_mono (Kd.R_far (p := ⟨gb184, 2, none⟩) (Kd.R_far (p := ⟨gb184, 1, none⟩) (Kd.R_far (p := ⟨gb184, 0, none⟩) (Kd.R_types g0_ g1_ (by decide)) (fun _ hk => hk.2) (.slice Ao23 y173.length co23)) (fun _ hk => hk.2) (.slice Ao22 t176.length co22)) (fun _ hk => hk.2) (.int .i64 (wrap64 (t180 * t182)))) (fun _ h_ => h_.1))) : B := f a0.out a1.out
theorem zz45 {B A0 A1 : Prop} (a0 : Aside0 A0) (a1 : Aside0 A1) (f : A0 → A1 → B := by intro g0_ g1_; repeat (first | (with_reducible first | exact g0_ | apply KeepBut.set_ | apply keep_drewN | apply keep_drew | apply keep_alloc | refine keep_far ?_ g1_ _) | exact g0_)) : B := f a0.out a1.out
theorem zz46 {B A0 : Prop} (a0 : Aside0 A0) (f : A0 → B := by intro g0_; (with_reducible repeat (first | apply Kd.R_alloc | apply Kd.R_drewN | apply Kd.R_drew)); exact Kd.R_mono g0_ (fun _ hk => ⟨hk.1.2, hk.2⟩)) : B := f a0.out
theorem zz50 {B A0 : Prop} (a0 : Aside0 A0) (f : A0 → B := by intro g0_; apply Kd.R_mono; (focus ((repeat (first | (with_reducible first | exact g0_ | apply Kd.R_alloc | apply Kd.R_drewN | apply Kd.R_drew | apply Kd.R_far) | exact g0_)); all_goals (intro _ hk_; first | exact hk_.2 | exact hk_.1.2 | exact hk_.1.1.2 | exact hk_.1.1.1.2 | exact hk_.1.1.1.1.2 | exact hk_.1.1.1.1.1.2 | exact hk_.1.1.1.1.1.1.2))); intro _ hk_; first | exact trivial | (repeat' (with_reducible apply And.intro)) <;> first | exact hk_ | exact hk_.2 | exact hk_.1.2 | exact hk_.1.1.2 | exact hk_.1.1.1.2 | exact hk_.1.1.1.1.2 | exact hk_.1.1.1.1.1.2 | exact hk_.1.1.1.1.1.1.2 | exact hk_.1 | exact hk_.1.1 | exact hk_.1.1.1 | exact hk_.1.1.1.1 | exact hk_.1.1.1.1.1 | exact hk_.1.1.1.1.1.1 | exact hk_.2.2 | exact hk_.1.2.2 | exact hk_.1.1.2.2 | exact hk_.1.1.1.2.2 | exact hk_.1.1.1.1.2.2 | exact hk_.1.1.1.1.1.2.2 | exact hk_.1.1.1.1.1.1.2.2 | exact hk_.2.2.2 | exact hk_.1.2.2.2 | exact hk_.1.1.2.2.2 | exact hk_.1.1.1.2.2.2 | exact hk_.1.1.1.1.2.2.2 | exact hk_.1.1.1.1.1.2.2.2 | exact hk_.1.1.1.1.1.1.2.2.2 | exact hk_.2.2.2.2 | exact hk_.1.2.2.2.2 | exact hk_.1.1.2.2.2.2 | exact hk_.1.1.1.2.2.2.2 | exact hk_.1.1.1.1.2.2.2.2 | exact hk_.1.1.1.1.1.2.2.2.2 | exact hk_.1.1.1.1.1.1.2.2.2.2 | exact hk_.2.2.2.2.2 | exact hk_.1.2.2.2.2.2 | exact hk_.1.1.2.2.2.2.2 | exact hk_.1.1.1.2.2.2.2.2 | exact hk_.1.1.1.1.2.2.2.2.2 | exact hk_.1.1.1.1.1.2.2.2.2.2 | exact hk_.1.1.1.1.1.1.2.2.2.2.2 | exact hk_.2.1 | exact hk_.1.2.1 | exact hk_.1.1.2.1 | exact hk_.1.1.1.2.1 | exact hk_.1.1.1.1.2.1 | exact hk_.1.1.1.1.1.2.1 | exact hk_.2.2.1 | exact hk_.1.2.2.1 | exact hk_.1.1.2.2.1 | exact hk_.1.1.1.2.2.1 | exact hk_.1.1.1.1.2.2.1 | exact hk_.1.1.1.1.1.2.2.1 | exact hk_.2.2.2.1 | exact hk_.1.2.2.2.1 | exact hk_.1.1.2.2.2.1 | exact hk_.1.1.1.2.2.2.1 | exact hk_.1.1.1.1.2.2.2.1 | exact hk_.1.1.1.1.1.2.2.2.1 | exact hk_.2.2.2.2.1 | exact hk_.1.2.2.2.2.1 | exact hk_.1.1.2.2.2.2.1 | exact hk_.1.1.1.2.2.2.2.1 | exact hk_.1.1.1.1.2.2.2.2.1 | exact hk_.1.1.1.1.1.2.2.2.2.1 | exact hk_.2.2.2.2.2.1 | exact hk_.1.2.2.2.2.2.1 | exact hk_.1.1.2.2.2.2.2.1 | exact hk_.1.1.1.2.2.2.2.2.1 | exact hk_.1.1.1.1.2.2.2.2.2.1 | exact hk_.1.1.1.1.1.2.2.2.2.2.1) : B := f a0.out
theorem zz52 {B A0 : Prop} (a0 : Aside0 A0) (f : A0 → B := by intro g0_; (with_reducible repeat (first | apply Kd.S_alloc | apply Kd.S_drewN | apply Kd.S_drew)); exact Kd.S_mono g0_ (fun k_ hk => ⟨⟨hk.1, ⟨hk.2.2.1, hk.2.2.2.2⟩⟩, fun e_ => e_.elim (fun h_ => hk.2.2.2.1 h_) (fun h_ => hk.2.1 h_)⟩)) : B := f a0.out
theorem zz53 {B A0 : Prop} (a0 : Aside0 A0) (f : A0 → B := by intro g0_; (with_reducible repeat (first | apply Kd.S_alloc | apply Kd.S_drewN | apply Kd.S_drew)); exact Kd.S_mono g0_ (fun _ hk => trivial)) : B := f a0.out
theorem zz54 {B A0 : Prop} (a0 : Aside0 A0) (f : A0 → B := by intro g0_; (with_reducible repeat (first | apply Kd.S_alloc | apply Kd.S_drewN | apply Kd.S_drew)); exact Kd.S_mono g0_ (fun k_ hk => ⟨⟨hk.1.1.1.2, hk.2⟩, fun e_ => e_.elim (fun h_ => hk.1.1.2 h_) (fun h_ => hk.1.2 h_)⟩)) : B := f a0.out
theorem zz55 {B A0 : Prop} (a0 : Aside0 A0) (f : A0 → B := by intro g0_; (with_reducible repeat (first | apply Kd.S_alloc | apply Kd.S_drewN | apply Kd.S_drew)); exact Kd.S_mono g0_ (fun k_ hk => ⟨trivial, fun e_ => hk.2 e_⟩)) : B := f a0.out
theorem zz58 {B A0 A1 : Prop} (a0 : Aside0 A0) (a1 : Aside0 A1) (f : A0 → A1 → B := by intro g0_ g1_; repeat (first | exact (Kd.C_below g0_ g1_) | (with_reducible refine Kd.C_alloc ?_ _) | (with_reducible refine Kd.C_drewN ?_ _) | (with_reducible refine Kd.C_drew ?_))) : B := f a0.out a1.out
theorem zz71 {B A0 : Prop} (a0 : Aside0 A0) (f : A0 → B := by intro g0_; first | ((repeat (first | (with_reducible first | exact g0_ | refine blk_drewN ?_ _ | refine blk_drew ?_ | refine blk_alloc ?_ _ | apply blk_put) | exact g0_)); all_goals rfl; done) | (apply blk_put (i := 3); apply blk_put (i := 2); apply blk_put (i := 1); apply blk_put (i := 0); exact g0_; all_goals rfl)) : B := f a0.out
theorem zz72 {B : Prop} (f : B := by first | exact Kd.R_nil _ _ _ _ _ | exact Kd.N_nil _ _ _ _ _ | exact Kd.V_nil _ _ _ _ _ | exact Kd.Q_nil _ _ _ _ _ | exact Kd.S_nil _ _ _ _ _) : B := f
theorem zz74 {B A0 : Prop} (a0 : Aside0 A0) (f : A0 → B := by intro g0_; (with_reducible repeat (first | apply Kd.R_alloc | apply Kd.R_drewN | apply Kd.R_drew)); exact Kd.R_mono g0_ (fun _ hk => hk.2)) : B := f a0.out
theorem zz75 {B A0 : Prop} (a0 : Aside0 A0) (f : A0 → B := by intro g0_; first | ((repeat (first | (with_reducible first | exact g0_ | refine blk_drewN ?_ _ | refine blk_drew ?_ | refine blk_alloc ?_ _ | apply blk_put) | exact g0_)); all_goals rfl; done) | (apply blk_put (i := 1); exact g0_; all_goals rfl)) : B := f a0.out
theorem zz76 {B A0 A1 : Prop} (a0 : Aside0 A0) (a1 : Aside0 A1) (f : A0 → A1 → B := by intro g0_ g1_; (with_reducible repeat (first | apply Kd.R_alloc | apply Kd.R_drewN | apply Kd.R_drew)); exact (Kd.R_mono (Kd.R_far (p := ⟨gb259, 2, none⟩) (Kd.R_types g0_ g1_ (by decide)) (fun _ hk => hk.2) (.bool true)) (fun _ h_ => h_.1))) : B := f a0.out a1.out
theorem zz77 {B A0 : Prop} (a0 : Aside0 A0) (f : A0 → B := by intro g0_; first | ((repeat (first | (with_reducible first | exact g0_ | refine blk_drewN ?_ _ | refine blk_drew ?_ | refine blk_alloc ?_ _ | apply blk_put) | exact g0_)); all_goals rfl; done) | (apply blk_put (i := 2); exact g0_; all_goals rfl)) : B := f a0.out
theorem zz78 {B A0 A1 : Prop} (a0 : Aside0 A0) (a1 : Aside0 A1) (f : A0 → A1 → B := by intro g0_ g1_; (with_reducible repeat (first | apply Kd.R_alloc | apply Kd.R_drewN | apply Kd.R_drew)); exact (Kd.R_mono (Kd.R_far (p := ⟨gb259, 3, none⟩) (Kd.R_types g0_ g1_ (by decide)) (fun _ hk => hk.2) (.string t275)) (fun _ h_ => h_.1))) : B := f a0.out a1.out
theorem zz85 {B A0 A1 : Prop} (a0 : Aside0 A0) (a1 : Aside0 A1) (f : A0 → A1 → B := by intro g0_ g1_; first | (rw [add_block]; exact Kd.own_blk (IsS50.own_ne g0_ g1_ (by decide))) | (show (Addr.add _ _).block ≠ _; rw [add_block]; exact Kd.own_blk (IsS50.own_ne g0_ g1_ (by decide))) | exact Kd.own_blk (IsS50.own_ne g0_ g1_ (by decide))) : B := f a0.out a1.out
theorem zz86 {B : Prop} (f : B := by first | (simp only [putAll, Act.put, List.setIfInBounds_toArray, List.set_cons_zero, List.set_cons_succ]; done) | (simp only [putAll, Act.put, List.setIfInBounds_toArray, List.set_cons_zero, List.set_cons_succ]; rfl)) : B := f
theorem zz87 {B A0 : Prop} (a0 : Aside0 A0) (f : A0 → B := by intro g0_; (with_reducible repeat (first | apply Kd.S_alloc | apply Kd.S_drewN | apply Kd.S_drew)); exact Kd.S_mono g0_ (fun _ hk => hk.2)) : B := f a0.out
theorem zz89 {B A0 : Prop} (a0 : Aside0 A0) (f : A0 → B := by intro g0_; repeat (first | exact (Kd.S_reads' g0_).2.2 | (with_reducible refine Kd.C_alloc ?_ _) | (with_reducible refine Kd.C_drewN ?_ _) | (with_reducible refine Kd.C_drew ?_))) : B := f a0.out
theorem zz90 {B A0 A1 : Prop} (a0 : Aside0 A0) (a1 : Aside0 A1) (f : A0 → A1 → B := by intro g0_ g1_; first | exact Kd.own_blk (Kd.R_ne g0_ g1_ (by decide)) | (rw [add_block]; exact Kd.own_blk (Kd.R_ne g0_ g1_ (by decide))) | (show (Addr.add _ _).block ≠ _; rw [add_block]; exact Kd.own_blk (Kd.R_ne g0_ g1_ (by decide))) | (dsimp only; exact Kd.own_blk (Kd.R_ne g0_ g1_ (by decide)))) : B := f a0.out a1.out
theorem zz92 {B A0 A1 : Prop} (a0 : Aside0 A0) (a1 : Aside0 A1) (f : A0 → A1 → B := by intro g0_ g1_; (with_reducible repeat (first | apply Kd.R_alloc | apply Kd.R_drewN | apply Kd.R_drew)); exact (Kd.R_mono (Kd.R_far (p := ⟨gb350, 3, none⟩) (Kd.R_far (p := ⟨gb350, 2, none⟩) (Kd.R_far (p := ⟨gb350, 1, none⟩) (Kd.R_far (p := ⟨gb350, 0, none⟩) (Kd.R_types g0_ g1_ (by decide)) (fun _ hk => hk.2) (.string (((⟨#[47, 47]⟩ : ByteArray) ++ (rdOf ByteArray.empty t333 x5_1)) ++ (⟨#[47, 110, 111, 116, 105, 99, 101]⟩ : ByteArray)))) (fun _ hk => hk.2) (.string t343)) (fun _ hk => hk.2) (.string (⟨#[]⟩ : ByteArray))) (fun _ hk => hk.2) (.int .i64 (rd y344 t347))) (fun _ h_ => h_.1))) : B := f a0.out a1.out
theorem zz95 {B A0 A1 : Prop} (a0 : Aside0 A0) (a1 : Aside0 A1) (f : A0 → A1 → B := by intro g0_ g1_; (with_reducible repeat (first | apply Kd.R_alloc | apply Kd.R_drewN | apply Kd.R_drew)); exact (Kd.R_mono (Kd.R_far (p := ⟨gb350, 1, none⟩) (Kd.R_types g0_ g1_ (by decide)) (fun _ hk => hk.2) (.string (⟨#[]⟩ : ByteArray))) (fun _ h_ => h_.1))) : B := f a0.out a1.out
theorem zz107 {B A0 : Prop} (a0 : Aside0 A0) (f : A0 → B := by intro g0_; (with_reducible repeat (first | apply Kd.R_alloc | apply Kd.R_drewN | apply Kd.R_drew)); exact Kd.R_mono g0_ (fun _ hk => trivial)) : B := f a0.out
theorem zz113 {B A0 : Prop} (a0 : Aside0 A0) (f : A0 → B := by intro g0_; (with_reducible repeat (first | apply Kd.R_alloc | apply Kd.R_drewN | apply Kd.R_drew)); exact (Kd.R_mono (Kd.R_far (p := ⟨gb373, 2, none⟩) (Kd.R_mono g0_ (fun k_ hk => (⟨hk, hk.2⟩ : _ ∧ k_ ≠ gb373))) (fun _ hk => hk.2) (.string t376)) (fun _ h_ => h_.1))) : B := f a0.out
theorem zz119 {B A0 A1 : Prop} (a0 : Aside0 A0) (a1 : Aside0 A1) (f : A0 → A1 → B := by intro g0_ g1_; (repeat (first | (with_reducible first | exact g0_ | refine blk_drewN ?_ _ | refine blk_drew ?_ | refine blk_alloc ?_ _ | apply blk_put | apply blk_far) | exact g0_)); all_goals first | rfl | exact g1_) : B := f a0.out a1.out
theorem zz122 {B A0 A1 A2 : Prop} (a0 : Aside0 A0) (a1 : Aside0 A1) (a2 : Aside0 A2) (f : A0 → A1 → A2 → B := by intro g0_ g1_ g2_; repeat (first | (with_reducible first | exact g0_ | apply IsS50.alloc | apply IsS50.drewN | apply IsS50.drew | apply IsS50.set_1 | refine IsS50.far ?_ g1_ _ | refine IsS50.far ?_ g2_ _) | exact g0_)) : B := f a0.out a1.out a2.out
theorem zz124 {B A0 A1 A2 : Prop} (a0 : Aside0 A0) (a1 : Aside0 A1) (a2 : Aside0 A2) (f : A0 → A1 → A2 → B := by intro g0_ g1_ g2_; repeat (first | (with_reducible first | exact g0_ | apply KeepBut.set_ | apply keep_drewN | apply keep_drew | apply keep_alloc | refine keep_far ?_ g1_ _ | refine keep_far ?_ g2_ _) | exact g0_)) : B := f a0.out a1.out a2.out
theorem zz126 {B A0 A1 A2 A3 : Prop} (a0 : Aside0 A0) (a1 : Aside0 A1) (a2 : Aside0 A2) (a3 : Aside0 A3) (f : A0 → A1 → A2 → A3 → B := by intro g0_ g1_ g2_ g3_; repeat (first | (with_reducible first | exact g0_ | apply below_alloc | apply pw_below_drewN | apply below_drew1 | refine below_set ?_ (IsS50.ge g1_) | refine below_set ?_ g2_ | refine below_set ?_ g3_) | exact g0_)) : B := f a0.out a1.out a2.out a3.out
theorem zz148 {B : Prop} (f : B := by first | rfl | (simp [errW_none, errW_some] <;> rfl) | (simp only [← hji4, ← hji9]; first | rfl | (simp [errW_none, errW_some] <;> rfl)) | (simp [*, errW_none, errW_some] <;> rfl)) : B := f
theorem zz157 {B A0 : Prop} (a0 : Aside0 A0) (f : A0 → B := by intro g0_; rw [g0_, List.length_take]; omega) : B := f a0.out
theorem zz168 {B A0 : Prop} (a0 : Aside0 A0) (f : A0 → B := by intro g0_; (with_reducible repeat (first | apply Kd.R_alloc | apply Kd.R_drewN | apply Kd.R_drew)); exact Kd.R_mono g0_ (fun _ hk => ⟨trivial, hk⟩)) : B := f a0.out
theorem zz169 {B A0 A1 : Prop} (a0 : Aside0 A0) (a1 : Aside0 A1) (f : A0 → A1 → B := by intro g0_ g1_; (with_reducible repeat (first | apply Kd.R_alloc | apply Kd.R_drewN | apply Kd.R_drew)); exact (Kd.R_mono (Kd.R_far (p := ⟨gb531, 3, none⟩) (Kd.R_far (p := ⟨gb531, 2, none⟩) (Kd.R_far (p := ⟨gb531, 1, none⟩) (Kd.R_far (p := ⟨gb531, 0, none⟩) (Kd.R_types g0_ g1_ (by decide)) (fun _ hk => hk.2) (.string a0)) (fun _ hk => hk.2) (.slice Ao31 t528.length co31)) (fun _ hk => hk.2) (.bool t513)) (fun _ hk => hk.2) (.string t514)) (fun _ h_ => h_.1))) : B := f a0.out a1.out
theorem zz171 {B A0 A1 A2 : Prop} (a0 : Aside0 A0) (a1 : Aside0 A1) (a2 : Aside0 A2) (f : A0 → A1 → A2 → B := by intro g0_ g1_ g2_; repeat (first | (with_reducible first | exact g0_ | apply below_alloc | apply pw_below_drewN | apply below_drew1 | refine below_set ?_ g1_ | refine below_set ?_ g2_) | exact g0_)) : B := f a0.out a1.out a2.out
theorem zz172 {B : Prop} (f : B := by (try simp only [List.map_toArray, List.map_cons, List.map_nil]); first | done | rfl | (simp only [List.length_drop, List.length_take]; rfl) | (simp <;> repeat' (first | rfl | constructor))) : B := f
theorem zz179 {B A0 : Prop} (a0 : Aside0 A0) (f : A0 → B := by intro g0_; (with_reducible repeat (first | apply Kd.R_alloc | apply Kd.R_drewN | apply Kd.R_drew)); exact Kd.R_mono g0_ (fun _ hk => ⟨hk.2, hk.1⟩)) : B := f a0.out
theorem zz180 {B A0 A1 A2 A3 : Prop} (a0 : Aside0 A0) (a1 : Aside0 A1) (a2 : Aside0 A2) (a3 : Aside0 A3) (f : A0 → A1 → A2 → A3 → B := by intro g0_ g1_ g2_ g3_; repeat (first | (with_reducible first | exact g0_ | apply below_alloc | apply pw_below_drewN | apply below_drew1 | refine below_set ?_ g1_ | refine below_set ?_ g2_ | refine below_set ?_ g3_) | exact g0_)) : B := f a0.out a1.out a2.out a3.out
theorem zz197 {B A0 : Prop} (a0 : Aside0 A0) (f : A0 → B := by intro g0_; repeat (first | (with_reducible exact g0_) | (with_reducible refine Kd.C_alloc ?_ _) | (with_reducible refine Kd.C_drewN ?_ _) | (with_reducible refine Kd.C_drew ?_) | exact g0_)) : B := f a0.out
theorem zz198 {B : Prop} (f : B := by repeat (first | exact (zz197 HR713) | (with_reducible refine Kd.C_alloc ?_ _) | (with_reducible refine Kd.C_drewN ?_ _) | (with_reducible refine Kd.C_drew ?_))) : B := f
theorem zz199 {B : Prop} (f : B := by repeat (first | exact (zz197 HR718) | (with_reducible refine Kd.C_alloc ?_ _) | (with_reducible refine Kd.C_drewN ?_ _) | (with_reducible refine Kd.C_drew ?_))) : B := f
end Go.Proofs.YtpomhjkbgbociaaDoor.P
end
section
namespace Go.Proofs.YtpomhjkbgbociaaDoor.P
open Go.RowKit Go.Proofs.YtpomhjkbgbociaaDoorW.PrintWords Go.Proofs.YtpomhjkbgbociaaDoorW.PrintLast Go.Proofs.YtpomhjkbgbociaaDoorW.PrintMore
attribute [local go_sem] max2_int min2_int max_two min_two max_three min_three max_four min_four
set_option linter.unusedVariables false
set_option linter.unusedSimpArgs false
set_option maxHeartbeats 8000000
set_option maxRecDepth 100000
def IsS50 (w0 W : World) (g : Nat) (f0 : List Int) (f1 : Int) : Prop := ∃ A0 c0, W.heap[g]? = some (.cells #[.slice A0 f0.length c0, .int .i64 f1] 50 (0, 0)) ∧ w0.heap.size ≤ g ∧ Kd.C (Kd.int .u8) w0 A0 f0.length f0
theorem IsS50.grown {w0 W : World} {g : Nat} {f0 : List Int} {f1 : Int} {W1 : World} {row : Option Nat} (h : IsS50 w0 W g f0 f1) (hw : W.grownBy W1 row) (hne : some g ≠ row) : IsS50 w0 W1 g f0 f1 := by
 obtain ⟨A0, c0, hb, hg, hr0⟩ := h;exact ⟨A0, c0, blk_grown hb hw hne, hg, hr0⟩
theorem IsS50.fresh {w0 W : World} {g : Nat} {f0 : List Int} {f1 : Int} (h : IsS50 w0 W g f0 f1) : ∀ k, W.heap.size ≤ k → k ≠ g := by
 obtain ⟨A0, c0, hb, hg, hr0⟩ := h;exact Kd.freshB hb
theorem IsS50.kept {w0 W : World} {g : Nat} {f0 : List Int} {f1 : Int} {W1 : World} {S : Nat → Prop} (h : IsS50 w0 W g f0 f1) (hk : Kept W W1 S) (hne : ¬ S g) : IsS50 w0 W1 g f0 f1 := by
 obtain ⟨A0, c0, hb, hg, hr0⟩ := h;exact ⟨A0, c0, blk_kept hb hk hne, hg, hr0⟩
theorem IsS50.below {w0 W : World} {g : Nat} {f0 : List Int} {f1 : Int} {W1 : World} (h : IsS50 w0 W g f0 f1) (hw : Below W.heap.size W W1) : IsS50 w0 W1 g f0 f1 := h.grown (grown_of_below hw none) (by simp)
theorem IsS50.alloc {w0 W : World} {g : Nat} {f0 : List Int} {f1 : Int} (h : IsS50 w0 W g f0 f1) (o : Obj) : IsS50 w0 (W.alloc o) g f0 f1 := h.below (below_alloc (Below.refl _ _) o)
theorem IsS50.drewN {w0 W : World} {g : Nat} {f0 : List Int} {f1 : Int} (h : IsS50 w0 W g f0 f1) (m : Nat) : IsS50 w0 (W.drewN m) g f0 f1 := h
theorem IsS50.drew {w0 W : World} {g : Nat} {f0 : List Int} {f1 : Int} (h : IsS50 w0 W g f0 f1) : IsS50 w0 W.drew g f0 f1 := h
theorem IsS50.at_ {w0 W : World} {g : Nat} {f0 : List Int} {f1 : Int} {w' : World} {m : Nat} (hq : W.drewN m = w') (h : IsS50 w0 W g f0 f1) : IsS50 w0 w' g f0 f1 := by subst hq; exact IsS50.drewN h m
theorem IsS50.apart {w0 W : World} {g : Nat} {f0 : List Int} {f1 : Int} {α : Type} {d : Kd α} {e : Nat} {base : Nat} {ok : Nat → Prop} {v : Value} {xs : List α} (h : IsS50 w0 W g f0 f1) (ho : d.R e W base ok v xs) (ht : ∀ q, q ∈ e :: d.E → q ≠ 50) : d.R e W base (fun k => ok k ∧ k ≠ g) v xs := by
 obtain ⟨A0, c0, hb, hg, hr0⟩ := h;exact Kd.R_types ho hb ht
theorem IsS50.own_ne {w0 W : World} {g : Nat} {f0 : List Int} {f1 : Int} {α : Type} {d : Kd α} {e : Nat} {base : Nat} {ok : Nat → Prop} {v : Value} {xs : List α} (h : IsS50 w0 W g f0 f1) (ho : d.R e W base ok v xs) (ht : e ≠ 50) : some g ≠ v.ownBlock := by
 obtain ⟨A0, c0, hb, hg, hr0⟩ := h;exact Kd.R_ne ho hb ht
theorem IsS50.apartS {w0 W : World} {g : Nat} {f0 : List Int} {f1 : Int} {α : Type} {d : Kd α} {e : Nat} {base : Nat} {ok : Nat → Prop} {v : Value} {xs : List α} (h : IsS50 w0 W g f0 f1) (ho : d.S e W base ok v xs) (ht : ∀ q, q ∈ e :: d.E → q ≠ 50) : d.S e W base (fun k => ok k ∧ k ≠ g) v xs := by
 obtain ⟨A0, c0, hb, hg, hr0⟩ := h;exact Kd.S_types ho hb ht
theorem IsS50.own_neS {w0 W : World} {g : Nat} {f0 : List Int} {f1 : Int} {α : Type} {d : Kd α} {e : Nat} {base : Nat} {ok : Nat → Prop} {v : Value} {xs : List α} (h : IsS50 w0 W g f0 f1) (ho : d.S e W base ok v xs) (ht : e ≠ 50) : some g ≠ v.ownBlock := by
 obtain ⟨A0, c0, hb, hg, hr0⟩ := h;exact Kd.S_ne ho hb ht
theorem IsS50.lt {w0 W : World} {g : Nat} {f0 : List Int} {f1 : Int} (h : IsS50 w0 W g f0 f1) : g < W.heap.size := by
 obtain ⟨A0, c0, hb, hg, hr0⟩ := h;exact blk_lt hb
theorem IsS50.ge {w0 W : World} {g : Nat} {f0 : List Int} {f1 : Int} (h : IsS50 w0 W g f0 f1) : w0.heap.size ≤ g := by
 obtain ⟨A0, c0, hb, hg, hr0⟩ := h;exact hg
theorem IsS50.far {w0 W : World} {g : Nat} {f0 : List Int} {f1 : Int} {p : Addr} (h : IsS50 w0 W g f0 f1) (hne : g ≠ p.block) (u : Value) : IsS50 w0 (W.setCell p u) g f0 f1 := by
 obtain ⟨A0, c0, hb, hg, hr0⟩ := h;exact ⟨A0, c0, blk_far hb hne u, hg, hr0⟩
theorem cellS50_0 {W : World} {g : Nat} {A0 : Option Addr} {c0 : Nat} {f0 : List Int} {f1 : Int} (h : W.heap[g]? = some (.cells #[.slice A0 f0.length c0, .int .i64 f1] 50 (0, 0))) : W.cell? ⟨g, 0, none⟩ = some (.slice A0 f0.length c0) := (blk_cell h 0).trans rfl
theorem cellS50_1 {W : World} {g : Nat} {A0 : Option Addr} {c0 : Nat} {f0 : List Int} {f1 : Int} (h : W.heap[g]? = some (.cells #[.slice A0 f0.length c0, .int .i64 f1] 50 (0, 0))) : W.cell? ⟨g, 1, none⟩ = some (.int .i64 f1) := (blk_cell h 1).trans rfl
theorem IsS50.set_1 {w0 W : World} {g : Nat} {f0 : List Int} {f1 : Int} (h : IsS50 w0 W g f0 f1) (x : Int) : IsS50 w0 (W.setCell ⟨g, 1, none⟩ (.int .i64 x)) g f0 x := by
 obtain ⟨A0, c0, hb, hg, hr0⟩ := h;exact ⟨A0, c0, (by simpa using blk_set hb 1 (.int .i64 x)), hg, hr0⟩
def spec_l6Open.f (l0 : List Int) : Option (List Int × Int) := if (l0.length : Int) > 2000 then (if 2000 ≤ (l0.length : Int) then (some (l0.take 2000, 0)) else (none)) else (some (l0, 0))
theorem spec_l6Open.calls (A0 : Option Addr) (c0 : Nat) (l0 : List Int) (r1 : List Int) (r2 : Int) (w0 w : World) (hB : Below w0.heap.size w0 w) (hr0 : Kd.C (Kd.int .u8) w0 A0 l0.length l0) (hc0 : l0.length ≤ c0) (h : spec_l6Open.f l0 = some (r1, r2)) :
  Calls Tryd.prog 9 #[.slice A0 l0.length c0] w fun e w' => ∃ g_ : Nat, e = .returned (.pointer (some ⟨g_, 0, none⟩)) ∧ IsS50 w0 w' g_ r1 r2 ∧ Below w0.heap.size w0 w' ∧ Below w.heap.size w w' := by
 have hu50 := Tryd.underlying50;have HR0 := A_ hr0;have HC0 := A_ hc0;clear hr0 hc0;have HBW := A_ (Below.refl w.heap.size w);have HW0 := A_ hB.size;have HB := A_ hB;clear hB;unfold spec_l6Open.f at h
 have H := h;clear h;replace H := iteE H;rcases H with ⟨c2, H⟩ | ⟨c2, H⟩
 ·have c2b0 := gtT c2
  have c2b1 : decide (2000 < l0.length) = true := dT (by omega);clear c2;replace H := iteN H;obtain ⟨c3, H⟩ := H;have c3b0 := eq_true c3;have c3b1 := dT c3;clear c3;simp only [Option.some.injEq, Prod.mk.injEq] at H
  obtain ⟨rfl, rfl⟩ := H;obtain ⟨i04, hi04, _, hsz4, _⟩ := info_parts info5;obtain ⟨hcut4, hA4, hC4⟩ := print_take_of (P := Tryd.prog) (Value.int .u8) 0 22 5 .i64 Tryd.underlying22 hi04 hsz4 A0 c0 l0 2000 (by omega) ofD HC0.out;have HR101 := A_ (Kd.C_of_reads (h1 := fun _ => rfl) (hA4 _ (Kd.reads_of_C HR0.out)));have HC101 := A_ hC4;clear hA4 hC4 hi04 hsz4;go_enter Tryd.func9, Tryd.ntmps9;go_wp2_with (first | ((with_reducible refine gD (N := 10) rfl ?_); refine boxE 10 #[.slice A0 (l0.take 2000).length c0, .int .i64 0] 50 ?_; intro gb102 hg w5 hbox hb; replace HB := A_ (bS (zz2 HB) hb); have BK102 := A_ (hbox); have GW102 := A_ ((by rw [hg]; exact (below_size (zz2 HBW)) : w.heap.size ≤ gb102)); have GE102 := A_ ((Nat.le_trans HW0.out (by rw [hg]; exact (below_size (zz2 HBW)) : w.heap.size ≤ gb102) : w0.heap.size ≤ gb102)); replace HBW := A_ (bS HBW.out hb); clear hb hbox hg))
  go_ret
  exact ⟨_, rfl, (show IsS50 w0 _ gb102 (l0.take 2000) 0 from ⟨_, _, (zz3 BK102), GE102.out, HR101.out⟩), (zz4 HB GE102), (zz4 HBW GW102)⟩
 ·have c2b0 := gtF c2
  have c2b1 : decide (2000 < l0.length) = false := dF (by omega);clear c2;simp only [Option.some.injEq, Prod.mk.injEq] at H
  obtain ⟨rfl, rfl⟩ := H;go_enter Tryd.func9, Tryd.ntmps9;go_wp2_with (first | ((with_reducible refine gD (N := 10) rfl ?_); refine boxE 10 #[.slice A0 l0.length c0, .int .i64 0] 50 ?_; intro gb103 hg w6 hbox hb; replace HB := A_ (bS (zz2 HB) hb); have BK103 := A_ (hbox); have GW103 := A_ ((by rw [hg]; exact (below_size (zz2 HBW)) : w.heap.size ≤ gb103)); have GE103 := A_ ((Nat.le_trans HW0.out (by rw [hg]; exact (below_size (zz2 HBW)) : w.heap.size ≤ gb103) : w0.heap.size ≤ gb103)); replace HBW := A_ (bS HBW.out hb); clear hb hbox hg))
  go_ret
  exact ⟨_, rfl, (show IsS50 w0 _ gb103 l0 0 from ⟨_, _, (zz3 BK103), GE103.out, HR0.out⟩), (zz4 HB GE103), (zz4 HBW GW103)⟩
def spec_l6Rd_pick.j0 : Nat → Int → Bool → List Int → Int → Option (Int × Int)
 | 0, _, _, _, _ => none
 | k + 1, x1, x24, x1000, x1001 => if x24 = true then (some (0, x1001)) else (if (wrap64 (x1001 - 1)) < (x1000.length : Int) then (if 0 ≤ (wrap64 (x1001 - 1)) then (if x1 = 0 then (none) else (some (Int.tmod (wrap64 (rd x1000 (wrap64 (x1001 - 1)))) x1, x1001))) else (none)) else (if (x1000.length : Int) = 0 then (none) else (if 0 ≤ (Int.tmod (wrap64 (x1001 - 1)) (x1000.length : Int)) then (if (Int.tmod (wrap64 (x1001 - 1)) (x1000.length : Int)) < (x1000.length : Int) then (if 0 ≤ (Int.tmod (wrap64 ((wrap64 ((wrap64 (x1001 - 1)) * 7)) + 3)) (x1000.length : Int)) then (if (Int.tmod (wrap64 ((wrap64 ((wrap64 (x1001 - 1)) * 7)) + 3)) (x1000.length : Int)) < (x1000.length : Int) then (if x1 = 0 then (none) else (some (Int.tmod (Go.bits .xor .i64 (wrap64 ((wrap64 ((wrap64 ((wrap64 ((wrap64 (rd x1000 (Int.tmod (wrap64 (x1001 - 1)) (x1000.length : Int)))) * 131)) + (wrap64 ((wrap64 (rd x1000 (Int.tmod (wrap64 ((wrap64 ((wrap64 (x1001 - 1)) * 7)) + 3)) (x1000.length : Int)))) * 1117)))) + (wrap64 ((wrap64 (x1001 - 1)) * 29)))) + (wrap64 ((wrap64 (Int.tdiv (wrap64 (x1001 - 1)) (x1000.length : Int))) * 53)))) (wrap64 (Int.tdiv (wrap64 ((wrap64 ((wrap64 ((wrap64 ((wrap64 (rd x1000 (Int.tmod (wrap64 (x1001 - 1)) (x1000.length : Int)))) * 131)) + (wrap64 ((wrap64 (rd x1000 (Int.tmod (wrap64 ((wrap64 ((wrap64 (x1001 - 1)) * 7)) + 3)) (x1000.length : Int)))) * 1117)))) + (wrap64 ((wrap64 (x1001 - 1)) * 29)))) + (wrap64 ((wrap64 (Int.tdiv (wrap64 (x1001 - 1)) (x1000.length : Int))) * 53)))) 64))) x1, x1001))) else (none)) else (none)) else (none)) else (none))))
def spec_l6Rd_pick.f (k : Nat) (s0_0 : List Int) (s0_1 : Int) (a1 : Int) : Option (Int × Int) := if a1 < 1 then (spec_l6Rd_pick.j0 k a1 true s0_0 (wrap64 (s0_1 + 1))) else (spec_l6Rd_pick.j0 k a1 ((s0_0.length : Int) == 0) s0_0 (wrap64 (s0_1 + 1)))
theorem spec_l6Rd_pick.mono_l : ∀ k, (∀ y0 y1 y2 y3, LeO (spec_l6Rd_pick.j0 k y0 y1 y2 y3) (spec_l6Rd_pick.j0 (k + 1) y0 y1 y2 y3))
 | 0 => by intros; intro r h; simp [spec_l6Rd_pick.j0] at h
 | k + 1 => by
  have ih0 := spec_l6Rd_pick.mono_l k; intros; unfold spec_l6Rd_pick.j0;repeat' first | (with_reducible first | exact ih0 _ _ _ _ | exact LeO.refl _ | exact LeO.none _ | refine LeO.ite ?_ ?_ | refine LeO.bind ?_ (fun _ => ?_)) | exact LeO.none _ | refine LeO.ite ?_ ?_ | refine LeO.bind ?_ (fun _ => ?_)
theorem spec_l6Rd_pick.mono : ∀ a0 a1 a2 k, LeO (spec_l6Rd_pick.f k a0 a1 a2) (spec_l6Rd_pick.f (k + 1) a0 a1 a2) := by
 intro a0 a1 a2 k;have ih0 := spec_l6Rd_pick.mono_l k;unfold spec_l6Rd_pick.f
 repeat' first | (with_reducible first | exact ih0 _ _ _ _ | exact LeO.refl _ | exact LeO.none _ | refine LeO.ite ?_ ?_ | refine LeO.bind ?_ (fun _ => ?_)) | exact LeO.none _ | refine LeO.ite ?_ ?_ | refine LeO.bind ?_ (fun _ => ?_)
theorem spec_l6Rd_pick.calls (k : Nat) (g : Nat) (s0_0 : List Int) (s0_1 : Int) (a1 : Int) (r1 : Int) (r2 : Int) (w0 w : World) (hI : IsS50 w0 w g s0_0 s0_1) (hB : Below w0.heap.size w0 w) (h : spec_l6Rd_pick.f k s0_0 s0_1 a1 = some (r1, r2)) :
  Calls Tryd.prog 11 #[.pointer (some ⟨g, 0, none⟩), .int .i64 a1] w fun e w' => e = .returned (.int .i64 r1) ∧ IsS50 w0 w' g s0_0 r2 ∧ Below w0.heap.size w0 w' ∧ KeepBut w w' g none := by
 have HI0 := A_ hI;have HK := A_ (KeepBut.refl w g none);have HL := A_ hB.size;clear hI;have HW0 := A_ hB.size;have HB := A_ hB;clear hB;unfold spec_l6Rd_pick.f at h
 have H := h;clear h;have HC3 := A_ H;clear H;obtain ⟨ASz4_0, cSz4_0, HGz4, hgz4, HSz4_0⟩ := HI0.out;have hcz4_0 := cellS50_0 HGz4;have hcz4_1 := cellS50_1 HGz4;have hfz4_1 := blk_frozen HGz4 1;clear HGz4 hgz4;go_enter Tryd.func11, Tryd.ntmps11;go_upto_region 2 with (fail)
 repeat (go_quiet (fail); go_upto_region 2 with (fail))
 go_cut [24] (fun v24 wc => ∃ (kq : Nat) (x24_2 : Bool), v24 = .bool x24_2 ∧ Aside0 (spec_l6Rd_pick.j0 kq a1 x24_2 s0_0 (wrap64 (s0_1 + 1)) = some (r1, r2)) ∧ Aside0 (kq ≤ k) ∧ Aside0 (IsS50 w0 wc g s0_0 (wrap64 (s0_1 + 1))) ∧ Aside0 (KeepBut w wc g none) ∧ Aside0 (Below w0.heap.size w0 wc))
 case first =>
  obtain ⟨H⟩ := HC3;replace H := iteEd H;rcases H with ⟨c5b0, H⟩ | ⟨c5b0, H⟩
  ·(first | rw [c5b0] | (simp only [i64_w, i32_w]; rw [c5b0]) | skip)
   have H' := A_ H;clear H;go_wp2
   repeat (go_quiet (fail); try go_wp2)
   go_meet
   case rel => exact ⟨_, (true), zz5, H', ⟨zz6⟩, ⟨(zz7 HI0)⟩, ⟨(zz8 HK)⟩, ⟨(zz9 HB HI0)⟩⟩
  ·(first | rw [c5b0] | (simp only [i64_w, i32_w]; rw [c5b0]) | skip)
   have H' := A_ H;clear H;obtain ⟨ASz6_0, cSz6_0, HGz6, hgz6, HSz6_0⟩ := HI0.out;have hcz6_0 := cellS50_0 HGz6;have hcz6_1 := cellS50_1 HGz6;have hfz6_1 := blk_frozen HGz6 1;clear HGz6 hgz6;go_wp2
   repeat (go_quiet (fail); try go_wp2)
   go_meet
   case rel => exact ⟨_, (((s0_0.length : Int) == 0)), zz5, H', ⟨zz6⟩, ⟨(zz7 HI0)⟩, ⟨(zz8 HK)⟩, ⟨(zz9 HB HI0)⟩⟩
 case rest =>
  clear HC3;obtain ⟨kq, x24_2, rfl, HA, HJ2, HI0, HK, HB⟩ := hcut;cases kq with
  | zero => exact absurd HA.out (by simp [spec_l6Rd_pick.j0])
  | succ kj2 =>
   obtain ⟨H⟩ := HA;simp only [spec_l6Rd_pick.j0] at H
   replace H := iteB H;rcases H with ⟨rfl, H⟩ | ⟨rfl, H⟩
   ·simp only [Option.some.injEq, Prod.mk.injEq] at H
    obtain ⟨rfl, rfl⟩ := H;go_wp2
    repeat (go_quiet (fail); try go_wp2)
    go_ret
    exact ⟨zz11, (zz7 HI0), (zz9 HB HI0), (zz8 HK)⟩
   ·replace H := iteE H
    rcases H with ⟨c8, H⟩ | ⟨c8, H⟩
    ·have c8b0 := dT c8
     clear c8;obtain ⟨ji9, hji9⟩ : ∃ j_ : Int, (wrap64 ((wrap64 (s0_1 + 1)) - 1)) = j_ := ⟨_, rfl⟩;(first | rw [hji9] at H | simp only [hji9] at H)
     (try rw [hji9] at c8b0)
     have hji9w : (IntKind.i64.wrap ((wrap64 (s0_1 + 1)) - 1)) = ji9 := (i64_w _).trans hji9;replace H := iteNd H;obtain ⟨c10b0, H⟩ := H;replace H := iteM H;obtain ⟨c11, H⟩ := H;obtain ⟨c11b0, c11b1⟩ := eqF c11;simp only [Option.some.injEq, Prod.mk.injEq] at H
     obtain ⟨rfl, rfl⟩ := H;obtain ⟨ASz12_0, cSz12_0, HGz12, hgz12, HSz12_0⟩ := HI0.out;have hcz12_0 := cellS50_0 HGz12;have hcz12_1 := cellS50_1 HGz12;have hfz12_1 := blk_frozen HGz12 1;clear HGz12 hgz12;obtain ⟨⟨ad104, e104, hx104_0⟩, p104, q104⟩ := atB (Kd.at_int HSz12_0 (ji9));cases e104
     replace hx104_0 := pw_cell_below HB.out hx104_0;go_wp2
     repeat (go_quiet (fail); try go_wp2)
     go_ret
     exact ⟨zz12, (zz7 HI0), (zz9 HB HI0), (zz8 HK)⟩
    ·have c8b0 := dF c8
     clear c8;replace H := iteM H;obtain ⟨c13, H⟩ := H;obtain ⟨c13b0, c13b1⟩ := eqF c13;have c13b2 : ¬ (s0_0 = []) := fun h_ => c13 (by rw [h_]; rfl)
     obtain ⟨ji14, hji14⟩ : ∃ j_ : Int, (Int.tmod (wrap64 ((wrap64 (s0_1 + 1)) - 1)) (s0_0.length : Int)) = j_ := ⟨_, rfl⟩;(first | rw [hji14] at H | simp only [hji14] at H)
     replace H := iteE H;rcases H with ⟨c15, H⟩ | ⟨c15, H⟩
     ·have c15b0 := dT c15
      clear c15;replace H := iteNd H;obtain ⟨c16b0, H⟩ := H;obtain ⟨ji17, hji17⟩ : ∃ j_ : Int, (Int.tmod (wrap64 ((wrap64 ((wrap64 ((wrap64 (s0_1 + 1)) - 1)) * 7)) + 3)) (s0_0.length : Int)) = j_ := ⟨_, rfl⟩;(first | rw [hji17] at H | simp only [hji17] at H)
      replace H := iteNd H;obtain ⟨c18b0, H⟩ := H;replace H := iteNd H;obtain ⟨c19b0, H⟩ := H;replace H := iteM H;obtain ⟨c20, H⟩ := H;obtain ⟨c20b0, c20b1⟩ := eqF c20;simp only [Option.some.injEq, Prod.mk.injEq] at H
      obtain ⟨rfl, rfl⟩ := H;obtain ⟨ASz21_0, cSz21_0, HGz21, hgz21, HSz21_0⟩ := HI0.out;have hcz21_0 := cellS50_0 HGz21;have hcz21_1 := cellS50_1 HGz21;have hfz21_1 := blk_frozen HGz21 1;clear HGz21 hgz21;obtain ⟨⟨ad105, e105, hx105_0⟩, p105, q105⟩ := atB (Kd.at_int HSz21_0 (ji14));cases e105
      replace hx105_0 := pw_cell_below HB.out hx105_0;obtain ⟨⟨ad106, e106, hx106_0⟩, p106, q106⟩ := atB (Kd.at_int HSz21_0 (ji17));obtain rfl : ad105 = ad106 := (by injection e106);replace hx106_0 := pw_cell_below HB.out hx106_0;go_wp2
      repeat (go_quiet (fail); try go_wp2)
      go_ret
      exact ⟨(by first | rfl | (simp [errW_none, errW_some] <;> rfl) | (simp only [← hji14, ← hji17]; first | rfl | (simp [errW_none, errW_some] <;> rfl)) | (simp [*, errW_none, errW_some] <;> rfl)), (zz7 HI0), (zz9 HB HI0), (zz8 HK)⟩
     ·exact absurd H (by simp)
def spec_l6Rd_of.f (k : Nat) (s0_0 : List Int) (s0_1 : Int) (l1 : List ByteArray) : Option (ByteArray × Int) := (spec_l6Rd_pick.f k s0_0 s0_1 (l1.length : Int)).bind fun bt107 => (if 0 ≤ bt107.1 then (if bt107.1 < (l1.length : Int) then (some (rdOf ByteArray.empty l1 bt107.1, bt107.2)) else (none)) else (none))
theorem spec_l6Rd_of.mono : ∀ a0 a1 a2 k, LeO (spec_l6Rd_of.f k a0 a1 a2) (spec_l6Rd_of.f (k + 1) a0 a1 a2) := by
 intro a0 a1 a2 k;unfold spec_l6Rd_of.f
 repeat' first | (with_reducible first | exact spec_l6Rd_pick.mono _ _ _ _ | exact LeO.refl _ | exact LeO.none _ | refine LeO.ite ?_ ?_ | refine LeO.bind ?_ (fun _ => ?_)) | exact LeO.none _ | refine LeO.ite ?_ ?_ | refine LeO.bind ?_ (fun _ => ?_)
theorem spec_l6Rd_of.calls (k : Nat) (g : Nat) (s0_0 : List Int) (s0_1 : Int) (A1 : Option Addr) (c1 : Nat) (l1 : List ByteArray) (r1 : ByteArray) (r2 : Int) (w0 w : World) (hI : IsS50 w0 w g s0_0 s0_1) (hB : Below w0.heap.size w0 w) (hr1 : Kd.C Kd.string w A1 l1.length l1) (hc1 : l1.length ≤ c1) (hf1 : ∀ ad, A1 = some ad → 0 < l1.length → ad.block ≠ g) (h : spec_l6Rd_of.f k s0_0 s0_1 l1 = some (r1, r2)) :
  Calls Tryd.prog 12 #[.pointer (some ⟨g, 0, none⟩), .slice A1 l1.length c1] w fun e w' => e = .returned (.string r1) ∧ IsS50 w0 w' g s0_0 r2 ∧ Below w0.heap.size w0 w' ∧ KeepBut w w' g none := by
 have HR1 := A_ hr1;have HC1 := A_ hc1;clear hr1 hc1;have HI0 := A_ hI;have HK := A_ (KeepBut.refl w g none);have HL := A_ hB.size;clear hI;have HW0 := A_ hB.size;have HB := A_ hB;clear hB;unfold spec_l6Rd_of.f at h
 have H := h;clear h;replace H := bindA H;obtain ⟨⟨t107, t108⟩, A3, H⟩ := H;try dsimp only at H
 replace H := iteE H;rcases H with ⟨c4, H⟩ | ⟨c4, H⟩
 ·have c4b0 := dT c4
  clear c4;replace H := iteNd H;obtain ⟨c5b0, H⟩ := H;simp only [Option.some.injEq, Prod.mk.injEq] at H
  obtain ⟨rfl, rfl⟩ := H;go_enter Tryd.func12, Tryd.ntmps12;go_wp2_with (first | ((with_reducible refine gC (f := 11) rfl ?_); refine gsL (some 9) Tryd.func11 #[.pointer (some ⟨g, 0, none⟩), .int .i64 (l1.length : Int)] ?_; (with_reducible refine mR (spec_l6Rd_pick.calls k g s0_0 s0_1 (l1.length : Int) t107 t108 w0 _ ?side1 ?side2 A3.out) ?_); (case side1 => exact (zz7 HI0)); (case side2 => exact (zz9 HB HI0)); rintro w6 ⟨hi, hb, hk⟩; replace HK := A_ (KeepBut.trans (zz8 HK) hk (.inl rfl)); replace HB := A_ (hb); replace HI0 := A_ (hi); (try clear hb hk hi); have p109 : 0 ≤ (t107 : Int) := ofD; have q109 : t107 < (l1.length : Int) := ofD; obtain ⟨ad109, e109, hx109_0⟩ := Kd.at_string HR1.out t107 p109 q109; cases e109; replace hx109_0 := keep_cell HK.out hx109_0 (by first | (rw [add_block]; exact hf1 _ rfl (by omega)) | exact hf1 _ rfl (by omega) | exact hf1 ad109 rfl (by omega)); replace p109 := eq_true p109; replace q109 := eq_true q109))
  go_ret
  exact ⟨zz11, (zz7 HI0), (zz9 HB HI0), (zz8 HK)⟩
 ·exact absurd H (by simp)
def spec_l6Dec.f : Nat → Int → Option (ByteArray)
 | 0, _ => none
 | k + 1, a0 => if a0 < (-9223372036854775807) then (some (⟨#[45, 57, 50, 50, 51, 51, 55, 50, 48, 51, 54, 56, 53, 52, 55, 55, 53, 56, 48, 56]⟩ : ByteArray)) else (if a0 < 0 then ((spec_l6Dec.f k (wrap64 (-a0))).bind fun t113 => (if 1 + t113.size ≤ 9223372036854775807 then (some ((⟨#[45]⟩ : ByteArray) ++ t113)) else (none))) else (if a0 < 10 then (some (strOfNums (([(wrap64 (48 + a0)) % 256] : List Int)))) else ((spec_l6Dec.f k (wrap64 (Int.tdiv a0 10))).bind fun t117 => ((some (([(wrap64 (48 + (Int.tmod a0 10))) % 256] : List Int) : List Int)).bind fun y118 => (if t117.size + (strOfNums y118).size ≤ 9223372036854775807 then (some (t117 ++ (strOfNums y118))) else (none))))))
theorem spec_l6Dec.mono_l : ∀ k, (∀ y0, LeO (spec_l6Dec.f k y0) (spec_l6Dec.f (k + 1) y0))
 | 0 => by intros; intro r h; simp [spec_l6Dec.f] at h
 | k + 1 => by
  have ih0 := spec_l6Dec.mono_l k; intros; unfold spec_l6Dec.f;repeat' first | (with_reducible first | exact ih0 _ | exact LeO.refl _ | exact LeO.none _ | refine LeO.ite ?_ ?_ | refine LeO.bind ?_ (fun _ => ?_)) | exact LeO.none _ | refine LeO.ite ?_ ?_ | refine LeO.bind ?_ (fun _ => ?_)
theorem spec_l6Dec.mono : ∀ a0 k, LeO (spec_l6Dec.f k a0) (spec_l6Dec.f (k + 1) a0) := by
 intro a0 k;have ih0 := spec_l6Dec.mono_l k;exact ih0 a0
def spec_l6Dec.T7 : Bool × List (List Nat × List Nat) := (true, [([], []), ([0], [0]), ([1], [1]), ([], []), ([3], [3]), ([4], [4]), ([5], [5]), ([6], [6]), ([7], [7]), ([2, 8], [2, 8]), ([9, 2, 0, 1, 2, 3, 4, 5, 6, 7, 8, 9], [9])])
def spec_l6Dec.B7 : List Nat := [0, 1, 3, 0, 8, 24, 56, 120, 248, 511, 1023]
theorem spec_l6Dec.tab7 : rtab .any (opsOf Tryd.f21 7) = spec_l6Dec.T7 := by kernel_rfl
theorem spec_l6Dec.bits7 : waitsOk spec_l6Dec.T7.2 spec_l6Dec.B7 = true := by kernel_rfl
theorem spec_l6Dec.calls (k : Nat) : ∀ (a0 : Int) (r : ByteArray) (w : World) (h : spec_l6Dec.f k a0 = some r),
  Calls Tryd.prog 21 #[.int .i64 a0] w fun e w' => e = .returned (.string r) ∧ Below w.heap.size w w' := by
 induction k using Nat.strongRecOn with
 | _ k ih =>
 intro a0 r w h;cases k with
 | zero => exact absurd h (by simp [spec_l6Dec.f])
 | succ k =>
 simp only [spec_l6Dec.f] at h
 have HB := A_ (Below.refl w.heap.size w);have H : (if a0 < (-9223372036854775807) then (some (⟨#[45, 57, 50, 50, 51, 51, 55, 50, 48, 51, 54, 56, 53, 52, 55, 55, 53, 56, 48, 56]⟩ : ByteArray)) else (if a0 < 0 then ((spec_l6Dec.f k (wrap64 (-a0))).bind fun t113 => (if 1 + t113.size ≤ 9223372036854775807 then (some ((⟨#[45]⟩ : ByteArray) ++ t113)) else (none))) else (if a0 < 10 then (some (strOfNums (([(wrap64 (48 + a0)) % 256] : List Int)))) else ((spec_l6Dec.f k (wrap64 (Int.tdiv a0 10))).bind fun t117 => ((some (([(wrap64 (48 + (Int.tmod a0 10))) % 256] : List Int) : List Int)).bind fun y118 => (if t117.size + (strOfNums y118).size ≤ 9223372036854775807 then (some (t117 ++ (strOfNums y118))) else (none))))))) = some r := h;clear h;replace H := iteEd H;rcases H with ⟨c2b0, H⟩ | ⟨c2b0, H⟩
 ·obtain rfl := sI H
  go_enter Tryd.func21, Tryd.ntmps21;go_wp2
  go_ret
  exact ⟨zz11, (zz2 HB)⟩
 ·replace H := iteEd H
  rcases H with ⟨c3b0, H⟩ | ⟨c3b0, H⟩
  ·replace H := Option.bind_eq_some_iff.mp H
   obtain ⟨t113, A40, H⟩ := H;replace H : (if 1 + t113.size ≤ 9223372036854775807 then (some ((⟨#[45]⟩ : ByteArray) ++ t113)) else (none)) = some r := H;have A4 := A_ A40;clear A40;replace H := iteN H;obtain ⟨c5, H⟩ := H;have c5b0 := eq_true c5;have c5b1 := dT c5;try have c5b2 : (9223372036854775807 < 1 + t113.size) = False := eq_false (Nat.not_lt.2 c5)
   obtain rfl := sI H;go_enter Tryd.func21, Tryd.ntmps21;go_wp2_with (first | ((with_reducible refine gC (f := 21) rfl ?_); refine gsL (some 9) Tryd.func21 #[.int .i64 (wrap64 (-a0))] ?_; (with_reducible refine mR (ih k (by omega) (wrap64 (-a0)) t113 _ A4.out) ?_); rintro w6 hb; replace HB := A_ (bS (zz2 HB) hb); (try clear hb)))
   go_ret
   exact ⟨zz11, (zz2 HB)⟩
  ·replace H := iteEd H
   rcases H with ⟨c7b0, H⟩ | ⟨c7b0, H⟩
   ·obtain ⟨y114, hy114⟩ : ∃ y_ : List Int, y_ = (([(wrap64 (48 + a0)) % 256] : List Int)) := ⟨_, rfl⟩
    replace H : (some (strOfNums y114)) = some r := by first | (rw [hy114]; with_reducible exact H) | (have H2_ := (Option.bind_some _ _).symm.trans H; rw [hy114]; with_reducible exact H2_) | (have H2_ := (Option.bind_some _ _).symm.trans H; with_reducible exact H2_) | with_reducible exact H | (rw [hy114]; exact H) | exact H
    have Ny114 := A_ hy114;clear hy114;obtain rfl := sI H;go_enter Tryd.func21, Tryd.ntmps21;go_wp2_with (first | ((with_reducible refine gD (N := 16) rfl ?_); refine Kd.R_lit (Kd.int .u8) _ 5 ?hg (N := 16) ?hd (xs := ([(wrap64 (48 + a0)) % 256] : List Int)) (inner := [.int .u8 ((wrap64 (48 + a0)) % 256)]) (ok := fun _ => True) (okp := fun _ => True) ?hr ?hp (fun _ hk => hk) trivial (Below.refl _ _) (Nat.le_refl _) (by simp) ?_; (case hd => rfl); (case hg => rfl); (case hr => exact zz16); (case hp => exact (Reps.one (show Kd.M (Kd.int .u8) _ _ _ ((wrap64 (48 + a0)) % 256) [.int .u8 ((wrap64 (48 + a0)) % 256)] from rfl) (Reps.none _ _))); intro v115 w8 ho9 hb hg_ hnew_; clear hg_ hnew_; (first | rw [← Ny114.out] at ho9 | (simp only [Int.reduceToNat] at ho9; rw [← Ny114.out] at ho9)); have HO116 := A_ (Kd.R_lower ho9 (below_size (zz2 HB))); replace HB := A_ (bS (zz2 HB) hb); clear hb ho9; have hcv10 := own_string (P := Tryd.prog) Tryd.underlying22 Tryd.underlying5 Tryd.underlying9 (Kd.own_of_R HO116.out)))
    go_ret
    exact ⟨zz11, (zz2 HB)⟩
   ·replace H := Option.bind_eq_some_iff.mp H
    obtain ⟨t117, A110, H⟩ := H;replace H : ((some (([(wrap64 (48 + (Int.tmod a0 10))) % 256] : List Int) : List Int)).bind fun y118 => (if t117.size + (strOfNums y118).size ≤ 9223372036854775807 then (some (t117 ++ (strOfNums y118))) else (none))) = some r := H;have A11 := A_ A110;clear A110;obtain ⟨y118, Ny118⟩ := toY (([(wrap64 (48 + (Int.tmod a0 10))) % 256] : List Int));(first | with_reducible replace H := bindZ Ny118 H | rw [← Ny118.out] at H | skip)
    replace H := iteE H;rcases H with ⟨c12, H⟩ | ⟨c12, H⟩
    ·have c12b0 := eq_true c12
     have c12b1 := dT c12;try have c12b2 : (9223372036854775807 < t117.size + (strOfNums y118).size) = False := eq_false (Nat.not_lt.2 c12)
     obtain rfl := sI H;go_enter Tryd.func21, Tryd.ntmps21;try go_wp2
     replace HB := A_ (below_drew1 HB.out);refine start_ (n := 11) (S := fun w' => True) (ds := []) #[false, false, false, false, false, false, false, false, false, false, false] (by kernel_rfl) rfl rfl trivial (fun hHeld => ?_); refine with_tabW spec_l6Dec.tab7 spec_l6Dec.bits7 (fun HT_ HW_ => ?_);generalize w.drew = w13 at HB hHeld ⊢;refine pureZ 0 (some 18) #[true, false, false, false, false, false, false, false, false, false, false] ?_;refine pureZ 1 (some 19) #[true, true, false, false, false, false, false, false, false, false, false] ?_;refine pureZ 3 (some 21) #[true, true, false, true, false, false, false, false, false, false, false] ?_;refine pureZ 4 (some 22) #[true, true, false, true, true, false, false, false, false, false, false] ?_;refine pureZ 5 (some 23) #[true, true, false, true, true, true, false, false, false, false, false] ?_;refine pureZ 6 (some 24) #[true, true, false, true, true, true, true, false, false, false, false] ?_;refine join_ (σ := Value) 2 #[true, true, true, true, true, true, true, true, true, false, false] (fun s_ => [(20, .string t117), (25, s_), (26, .string (strOfNums y118))]) (fun s_ w' => (Kd.R (Kd.int .u8) 5 w' w.heap.size (fun _ => True) s_ y118) ∧ (Below w.heap.size w w')) ?_ ?_;rotate_left
     ·intro hCont
      refine two_ (i := 2) (j := 7) (Ni := some 20) (Nj := some 25) #[true, true, true, true, true, true, true, false, false, false, false] #[true, true, false, true, true, true, true, true, false, false, false] rfl rfl rfl rfl (two_of HT_.out (by kernel_rfl)) (by decide) (by decide) (fun K hK => ?_) (fun K hK => ?_)
      ·skip
       refine goes_ Tryd.func21 (by kernel_rfl) rfl #[.int .i64 (wrap64 (Int.tdiv a0 10))] (by rfl) rfl rfl zz17 ?_;with_reducible refine (ih k (by omega) (wrap64 (Int.tdiv a0 10)) t117 _ A11.out).mono ?_
       rintro e w14 ⟨rfl, hb⟩;refine ⟨_, rfl, ?_⟩;replace HB := A_ (bS (zz2 HB) hb);(try clear hb)
       (try clear hb2)
       (try clear hk)
       (try clear hi)
       refine hK.out _ _ trivial (fun hHeld => ?_);clear hK K;refine norm_ (a' := ?_) ?_ ?_;rotate_left
       ·show Act.put _ (some 20) _ = _
        simp only [Act.put, List.setIfInBounds_toArray, List.set_cons_zero, List.set_cons_succ, i64_w, i32_w]
        rfl
       refine one_ (i := 7) (N := some 25) #[true, true, true, true, true, true, true, true, false, false, false] rfl rfl (one_of HT_.out (by kernel_rfl)) (by decide) (fun K hK => ?_);refine Kd.R_lit_step (Kd.int .u8) _ 5 ?hg (N := 25) ?hd (xs := ([(wrap64 (48 + (Int.tmod a0 10))) % 256] : List Int)) (inner := [.int .u8 ((wrap64 (48 + (Int.tmod a0 10))) % 256)]) (ok := fun _ => True) (okp := fun _ => True) ?hr ?hp (fun _ hk => hk) trivial (Below.refl _ _) (Nat.le_refl _) (by simp) ?_; (case hd => rfl); (case hg => rfl); (case hr => exact zz16); (case hp => exact (Reps.one (show Kd.M (Kd.int .u8) _ _ _ ((wrap64 (48 + (Int.tmod a0 10))) % 256) [.int .u8 ((wrap64 (48 + (Int.tmod a0 10))) % 256)] from rfl) (Reps.none _ _)));intro v119 w15 ho16 hb hg_ hnew_;clear hg_ hnew_;(first | rw [← Ny118.out] at ho16 | (simp only [Int.reduceToNat] at ho16; rw [← Ny118.out] at ho16))
       have HO120 := A_ (Kd.R_lower ho16 (below_size (zz2 HB)));replace HB := A_ (bS (zz2 HB) hb);clear hb ho16;refine hK.out _ _ trivial (fun hHeld => ?_);clear hK K;refine norm_ (a' := ?_) ?_ ?_;rotate_left
       ·show Act.put _ (some 25) _ = _
        simp only [Act.put, List.setIfInBounds_toArray, List.set_cons_zero, List.set_cons_succ, i64_w, i32_w]
        rfl
       refine one_ (i := 8) (N := some 26) #[true, true, true, true, true, true, true, true, true, false, false] rfl rfl (one_of HT_.out (by kernel_rfl)) (by decide) (fun K hK => ?_);have hcv17 := own_string (P := Tryd.prog) Tryd.underlying22 Tryd.underlying5 Tryd.underlying9 (Kd.own_of_R HO120.out);refine value_ (w1 := ?_) (v := ?_) (by rfl) rfl ?_ ?_;rotate_left 2
       ·go_simp
        constructor
        ·rfl
        ·rfl
       clear hcv17;refine hK.out _ _ trivial (fun hHeld => ?_);clear hK K;refine norm_ (a' := ?_) ?_ ?_;rotate_left
       ·show Act.put _ (some 26) _ = _
        simp only [Act.put, List.setIfInBounds_toArray, List.set_cons_zero, List.set_cons_succ, i64_w, i32_w]
        rfl
       exact norm_ viaP (hCont (v119) _ ⟨(zz18 HO120), (zz2 HB)⟩)
      ·skip
       refine Kd.R_lit_step (Kd.int .u8) _ 5 ?hg (N := 25) ?hd (xs := ([(wrap64 (48 + (Int.tmod a0 10))) % 256] : List Int)) (inner := [.int .u8 ((wrap64 (48 + (Int.tmod a0 10))) % 256)]) (ok := fun _ => True) (okp := fun _ => True) ?hr ?hp (fun _ hk => hk) trivial (Below.refl _ _) (Nat.le_refl _) (by simp) ?_; (case hd => rfl); (case hg => rfl); (case hr => exact zz16); (case hp => exact (Reps.one (show Kd.M (Kd.int .u8) _ _ _ ((wrap64 (48 + (Int.tmod a0 10))) % 256) [.int .u8 ((wrap64 (48 + (Int.tmod a0 10))) % 256)] from rfl) (Reps.none _ _)));intro v119 w14 ho15 hb hg_ hnew_;clear hg_ hnew_;(first | rw [← Ny118.out] at ho15 | (simp only [Int.reduceToNat] at ho15; rw [← Ny118.out] at ho15))
       have HO120 := A_ (Kd.R_lower ho15 (below_size (zz2 HB)));replace HB := A_ (bS (zz2 HB) hb);clear hb ho15;refine hK.out _ _ trivial (fun hHeld => ?_);clear hK K;refine norm_ (a' := ?_) ?_ ?_;rotate_left
       ·show Act.put _ (some 25) _ = _
        simp only [Act.put, List.setIfInBounds_toArray, List.set_cons_zero, List.set_cons_succ, i64_w, i32_w]
        rfl
       refine two_ (i := 2) (j := 8) (Ni := some 20) (Nj := some 26) #[true, true, true, true, true, true, true, true, false, false, false] #[true, true, false, true, true, true, true, true, true, false, false] rfl rfl rfl rfl (two_of HT_.out (by kernel_rfl)) (by decide) (by decide) (fun K hK => ?_) (fun K hK => ?_)
       ·skip
        refine goes_ Tryd.func21 (by kernel_rfl) rfl #[.int .i64 (wrap64 (Int.tdiv a0 10))] (by rfl) rfl rfl zz17 ?_;with_reducible refine (ih k (by omega) (wrap64 (Int.tdiv a0 10)) t117 _ A11.out).mono ?_
        rintro e w16 ⟨rfl, hb⟩;refine ⟨_, rfl, ?_⟩;replace HO120 := A_ (rB (zz18 HO120) hb);replace HB := A_ (bS (zz2 HB) hb);(try clear hb)
        (try clear hb2)
        (try clear hk)
        (try clear hi)
        refine hK.out _ _ trivial (fun hHeld => ?_);clear hK K;refine norm_ (a' := ?_) ?_ ?_;rotate_left
        ·show Act.put _ (some 20) _ = _
         simp only [Act.put, List.setIfInBounds_toArray, List.set_cons_zero, List.set_cons_succ, i64_w, i32_w]
         rfl
        refine one_ (i := 8) (N := some 26) #[true, true, true, true, true, true, true, true, true, false, false] rfl rfl (one_of HT_.out (by kernel_rfl)) (by decide) (fun K hK => ?_);have hcv17 := own_string (P := Tryd.prog) Tryd.underlying22 Tryd.underlying5 Tryd.underlying9 (Kd.own_of_R HO120.out);refine value_ (w1 := ?_) (v := ?_) (by rfl) rfl ?_ ?_;rotate_left 2
        ·go_simp
         constructor
         ·rfl
         ·rfl
        clear hcv17;refine hK.out _ _ trivial (fun hHeld => ?_);clear hK K;refine norm_ (a' := ?_) ?_ ?_;rotate_left
        ·show Act.put _ (some 26) _ = _
         simp only [Act.put, List.setIfInBounds_toArray, List.set_cons_zero, List.set_cons_succ, i64_w, i32_w]
         rfl
        exact norm_ viaP (hCont (v119) _ ⟨(zz18 HO120), (zz2 HB)⟩)
       ·skip
        have hcv16 := own_string (P := Tryd.prog) Tryd.underlying22 Tryd.underlying5 Tryd.underlying9 (Kd.own_of_R HO120.out);refine value_ (w1 := ?_) (v := ?_) (by rfl) rfl ?_ ?_;rotate_left 2
        ·go_simp
         constructor
         ·rfl
         ·rfl
        clear hcv16;refine hK.out _ _ trivial (fun hHeld => ?_);clear hK K;refine norm_ (a' := ?_) ?_ ?_;rotate_left
        ·show Act.put _ (some 26) _ = _
         simp only [Act.put, List.setIfInBounds_toArray, List.set_cons_zero, List.set_cons_succ, i64_w, i32_w]
         rfl
        refine one_ (i := 2) (N := some 20) #[true, true, true, true, true, true, true, true, true, false, false] rfl rfl (one_of HT_.out (by kernel_rfl)) (by decide) (fun K hK => ?_);refine goes_ Tryd.func21 (by kernel_rfl) rfl #[.int .i64 (wrap64 (Int.tdiv a0 10))] (by rfl) rfl rfl zz17 ?_;with_reducible refine (ih k (by omega) (wrap64 (Int.tdiv a0 10)) t117 _ A11.out).mono ?_
        rintro e w17 ⟨rfl, hb⟩;refine ⟨_, rfl, ?_⟩;replace HO120 := A_ (rB (zz18 HO120) hb);replace HB := A_ (bS (zz2 HB) hb);(try clear hb)
        (try clear hb2)
        (try clear hk)
        (try clear hi)
        refine hK.out _ _ trivial (fun hHeld => ?_);clear hK K;refine norm_ (a' := ?_) ?_ ?_;rotate_left
        ·show Act.put _ (some 20) _ = _
         simp only [Act.put, List.setIfInBounds_toArray, List.set_cons_zero, List.set_cons_succ, i64_w, i32_w]
         rfl
        exact norm_ viaP (hCont (v119) _ ⟨(zz18 HO120), (zz2 HB)⟩)
     rintro v119 w18 ⟨h0_, h1_⟩;have n0_ : Aside0 (Kd.R (Kd.int .u8) 5 w18 w.heap.size (fun _ => True) v119 y118) := ⟨h0_⟩;have n1_ : Aside0 (Below w.heap.size w w18) := ⟨h1_⟩;clear HB;clear h0_ h1_;have HO120 := n0_;have HB := n1_;clear n0_ n1_;have hHeld := trivial;refine norm_ (a' := ?_) ?_ ?_;rotate_left
     ·simp only [putAll, Act.put, List.setIfInBounds_toArray, List.set_cons_zero, List.set_cons_succ]
      rfl
     refine pureZ 9 (some 27) #[true, true, true, true, true, true, true, true, true, true, false] ?_;refine pureZ 10 (some 2) #[true, true, true, true, true, true, true, true, true, true, true] ?_;refine done_ (done_of HT_.out (by kernel_rfl)) ?_;try go_wp2
     go_ret
     exact ⟨zz11, (zz2 HB)⟩
    ·exact absurd H (by simp)
def spec_l71Houses.f  : Option (List ByteArray) := some (([(⟨#[97, 98]⟩ : ByteArray), (⟨#[99, 100]⟩ : ByteArray), (⟨#[101]⟩ : ByteArray), (⟨#[102, 111, 120]⟩ : ByteArray)] : List ByteArray))
theorem spec_l71Houses.calls  (r : List ByteArray) (w : World) (h : spec_l71Houses.f  = some r) :
  Calls Tryd.prog 33 #[] w fun e w' => ∃ v0_ : Value, e = .returned (v0_) ∧ Kd.R Kd.string 9 w' w.heap.size (fun _ => True) v0_ r ∧ Below w.heap.size w w' := by
 have HB := A_ (Below.refl w.heap.size w);unfold spec_l71Houses.f at h
 have H := h;clear h;obtain ⟨y110, Ny110⟩ := toY (([(⟨#[97, 98]⟩ : ByteArray), (⟨#[99, 100]⟩ : ByteArray), (⟨#[101]⟩ : ByteArray), (⟨#[102, 111, 120]⟩ : ByteArray)] : List ByteArray));(first | with_reducible replace H := bindZ Ny110 H | rw [← Ny110.out] at H | skip)
 obtain rfl := sI H;go_enter Tryd.func33, Tryd.ntmps33;go_wp2_with (first | ((with_reducible refine gD (N := 1) rfl ?_); refine Kd.R_lit Kd.string _ 9 ?hg (N := 1) ?hd (xs := ([(⟨#[97, 98]⟩ : ByteArray), (⟨#[99, 100]⟩ : ByteArray), (⟨#[101]⟩ : ByteArray), (⟨#[102, 111, 120]⟩ : ByteArray)] : List ByteArray)) (inner := [.string (⟨#[97, 98]⟩ : ByteArray), .string (⟨#[99, 100]⟩ : ByteArray), .string (⟨#[101]⟩ : ByteArray), .string (⟨#[102, 111, 120]⟩ : ByteArray)]) (ok := fun _ => True) (okp := fun _ => True) ?hr ?hp (fun _ hk => hk) trivial (Below.refl _ _) (Nat.le_refl _) (by simp) ?_; (case hd => rfl); (case hg => rfl); (case hr => exact zz16); (case hp => exact (Reps.one (show Kd.M Kd.string _ _ _ (⟨#[97, 98]⟩ : ByteArray) [.string (⟨#[97, 98]⟩ : ByteArray)] from rfl) (Reps.one (show Kd.M Kd.string _ _ _ (⟨#[99, 100]⟩ : ByteArray) [.string (⟨#[99, 100]⟩ : ByteArray)] from rfl) (Reps.one (show Kd.M Kd.string _ _ _ (⟨#[101]⟩ : ByteArray) [.string (⟨#[101]⟩ : ByteArray)] from rfl) (Reps.one (show Kd.M Kd.string _ _ _ (⟨#[102, 111, 120]⟩ : ByteArray) [.string (⟨#[102, 111, 120]⟩ : ByteArray)] from rfl) (Reps.none _ _)))))); intro v111 w1 ho2 hb hg_ hnew_; clear hg_ hnew_; (first | rw [← Ny110.out] at ho2 | (simp only [Int.reduceToNat] at ho2; rw [← Ny110.out] at ho2)); have HO112 := A_ (Kd.R_lower ho2 (below_size (zz2 HB))); replace HB := A_ (bS (zz2 HB) hb); clear hb ho2))
 go_ret
 exact ⟨_, zz11, (zz18 HO112), (zz2 HB)⟩
def spec_l6In.f (a0 : Int) (a1 : Int) (a2 : Int) : Option (Bool) := if a0 ≥ a1 then (some (decide (a0 ≤ a2))) else (some false)
theorem spec_l6In.calls (a0 : Int) (a1 : Int) (a2 : Int) (r : Bool) (w : World) (h : spec_l6In.f a0 a1 a2 = some r) :
  Calls Tryd.prog 15 #[.int .i64 a0, .int .i64 a1, .int .i64 a2] w fun e w' => e = .returned (.bool r) ∧ Drawn0 w w' := by
 unfold spec_l6In.f at h
 have H := h;clear h;replace H := iteEe H;rcases H with ⟨c4b0, H⟩ | ⟨c4b0, H⟩
 ·obtain rfl := sI H
  go_enter Tryd.func15, Tryd.ntmps15;go_wp2
  go_ret
  exact ⟨zz5, zz19⟩
 ·obtain rfl := sI H
  go_enter Tryd.func15, Tryd.ntmps15;go_wp2
  go_ret
  exact ⟨zz5, zz19⟩
def spec_l2Name.l0 : Nat → ByteArray → Int → Option (Bool)
 | 0, _, _ => none
 | k + 1, x0, x3 => if x3 < (x0.size : Int) then (if 0 ≤ x3 then (if (bt x0 x3) < 97 then (some false) else (if (bt x0 x3) > 122 then (some false) else (spec_l2Name.l0 k x0 (wrap64 (x3 + 1))))) else (none)) else ((spec_l6In.f (x0.size : Int) 1 8).bind fun t121 => (some t121))
def spec_l2Name.f (k : Nat) (a0 : ByteArray) : Option (Bool) := spec_l2Name.l0 k a0 0
theorem spec_l2Name.mono_l : ∀ k, (∀ y0 y1, LeO (spec_l2Name.l0 k y0 y1) (spec_l2Name.l0 (k + 1) y0 y1))
 | 0 => by intros; intro r h; simp [spec_l2Name.l0] at h
 | k + 1 => by
  have ih0 := spec_l2Name.mono_l k; intros; unfold spec_l2Name.l0;repeat' first | (with_reducible first | exact ih0 _ _ | exact LeO.refl _ | exact LeO.none _ | refine LeO.ite ?_ ?_ | refine LeO.bind ?_ (fun _ => ?_)) | exact LeO.none _ | refine LeO.ite ?_ ?_ | refine LeO.bind ?_ (fun _ => ?_)
theorem spec_l2Name.mono : ∀ a0 k, LeO (spec_l2Name.f k a0) (spec_l2Name.f (k + 1) a0) := by
 intro a0 k;have ih0 := spec_l2Name.mono_l k;unfold spec_l2Name.f
 repeat' first | (with_reducible first | exact ih0 _ _ | exact LeO.refl _ | exact LeO.none _ | refine LeO.ite ?_ ?_ | refine LeO.bind ?_ (fun _ => ?_)) | exact LeO.none _ | refine LeO.ite ?_ ?_ | refine LeO.bind ?_ (fun _ => ?_)
theorem spec_l2Name.calls (k : Nat) (a0 : ByteArray) (r : Bool) (w : World) (h : spec_l2Name.f k a0 = some r) :
  Calls Tryd.prog 78 #[.string a0] w fun e w' => e = .returned (.bool r) ∧ Drawn0 w w' := by
 unfold spec_l2Name.f at h
 have H := h;clear h;have H' := A_ H;clear H;go_enter Tryd.func78, Tryd.ntmps78;go_wp2
 go_loopg [3] k (fun kq v3 w' => ∃ (x3_1 : Int), v3 = .int .i64 x3_1 ∧ Aside0 (spec_l2Name.l0 kq a0 x3_1 = some r) ∧ Aside0 (kq ≤ k) ∧ Drawn0 w w')
 case atStart => exact ⟨(0), zz5, H', ⟨Nat.le_refl _⟩, zz19⟩
 case round =>
  clear H';obtain ⟨x3_1, rfl, HA, HK1, ⟨m1, rfl⟩⟩ := hrel;cases gk with
  | zero => exact absurd HA.out (by simp [spec_l2Name.l0])
  | succ k1 =>
   obtain ⟨H⟩ := HA;simp only [spec_l2Name.l0] at H
   replace H := iteEd H;rcases H with ⟨c2b0, H⟩ | ⟨c2b0, H⟩
   ·replace H := iteNd H
    obtain ⟨c3b0, H⟩ := H;replace H := iteEd H;rcases H with ⟨c5b0, H⟩ | ⟨c5b0, H⟩
    ·obtain rfl := sI H
     have p4 : 0 ≤ (x3_1 : Int) := ofD;have q4 : x3_1 < (a0.size : Int) := ofD;have hx4 := bt_at a0 x3_1;replace p4 := eq_true p4;replace q4 := eq_true q4;go_wp2
     go_ret
     exact ⟨zz5, zz19⟩
    ·replace H := iteEg H
     rcases H with ⟨c7b0, H⟩ | ⟨c7b0, H⟩
     ·obtain rfl := sI H
      have p4 : 0 ≤ (x3_1 : Int) := ofD;have q4 : x3_1 < (a0.size : Int) := ofD;have hx4 := bt_at a0 x3_1;replace p4 := eq_true p4;replace q4 := eq_true q4;have p6 : 0 ≤ (x3_1 : Int) := ofD;have q6 : x3_1 < (a0.size : Int) := ofD;have hx6 := bt_at a0 x3_1;replace p6 := eq_true p6;replace q6 := eq_true q6;go_wp2
      go_ret
      exact ⟨zz5, zz19⟩
     ·have H' := A_ H
      clear H;have p4 : 0 ≤ (x3_1 : Int) := ofD;have q4 : x3_1 < (a0.size : Int) := ofD;have hx4 := bt_at a0 x3_1;replace p4 := eq_true p4;replace q4 := eq_true q4;have p6 : 0 ≤ (x3_1 : Int) := ofD;have q6 : x3_1 < (a0.size : Int) := ofD;have hx6 := bt_at a0 x3_1;replace p6 := eq_true p6;replace q6 := eq_true q6;go_wp2
      go_roundg k1
      case measure => have := HK1.out; omega
      case rel => exact ⟨(wrap64 (x3_1 + 1)), zz5, H', ⟨(zz21 HK1)⟩, zz19⟩
   ·replace H := Option.bind_eq_some_iff.mp H
    obtain ⟨t121, A80, H⟩ := H;replace H : (some t121) = some r := H;have A8 := A_ A80;clear A80;obtain rfl := sI H;go_wp2_with (first | ((with_reducible refine gC (f := 15) rfl ?_); refine gsL (some 22) Tryd.func15 #[.int .i64 (a0.size : Int), .int .i64 1, .int .i64 8] ?_; (with_reducible refine (spec_l6In.calls (a0.size : Int) 1 8 t121 _ A8.out).mono ?_); rintro e w' ⟨rfl, ⟨nd, rfl⟩⟩; refine ⟨_, rfl, ?_⟩))
    go_ret
    exact ⟨zz5, zz19⟩
def spec_l1Plain.f (a0 : Int) : Option (Bool) := if a0 ≥ 97 then (if a0 ≤ 122 then (some true) else (if a0 ≥ 48 then (if a0 ≤ 57 then (some true) else (if a0 = 46 then (some true) else (some (a0 == 45)))) else (if a0 = 46 then (some true) else (some (a0 == 45))))) else (if a0 ≥ 48 then (if a0 ≤ 57 then (some true) else (if a0 = 46 then (some true) else (some (a0 == 45)))) else (if a0 = 46 then (some true) else (some (a0 == 45))))
theorem spec_l1Plain.calls (a0 : Int) (r : Bool) (w : World) (h : spec_l1Plain.f a0 = some r) :
  Calls Tryd.prog 92 #[.int .u8 a0] w fun e w' => e = .returned (.bool r) ∧ Drawn0 w w' := by
 unfold spec_l1Plain.f at h
 have H := h;clear h;replace H := iteEe H;rcases H with ⟨c2b0, H⟩ | ⟨c2b0, H⟩
 ·replace H := iteEd H
  rcases H with ⟨c3b0, H⟩ | ⟨c3b0, H⟩
  ·obtain rfl := sI H
   go_enter Tryd.func92, Tryd.ntmps92;go_wp2
   go_ret
   exact ⟨zz5, zz19⟩
  ·replace H := iteEe H
   rcases H with ⟨c4b0, H⟩ | ⟨c4b0, H⟩
   ·replace H := iteEd H
    rcases H with ⟨c5b0, H⟩ | ⟨c5b0, H⟩
    ·obtain rfl := sI H
     go_enter Tryd.func92, Tryd.ntmps92;go_wp2
     go_ret
     exact ⟨zz5, zz19⟩
    ·replace H := iteEq H
     rcases H with ⟨c6b0, c6b1, H⟩ | ⟨c6b0, c6b1, c6, H⟩
     ·obtain rfl := sI H
      go_enter Tryd.func92, Tryd.ntmps92;go_wp2
      go_ret
      exact ⟨zz5, zz19⟩
     ·obtain rfl := sI H
      go_enter Tryd.func92, Tryd.ntmps92;go_wp2
      go_ret
      exact ⟨zz5, zz19⟩
   ·replace H := iteEq H
    rcases H with ⟨c7b0, c7b1, H⟩ | ⟨c7b0, c7b1, c7, H⟩
    ·obtain rfl := sI H
     go_enter Tryd.func92, Tryd.ntmps92;go_wp2
     go_ret
     exact ⟨zz5, zz19⟩
    ·obtain rfl := sI H
     go_enter Tryd.func92, Tryd.ntmps92;go_wp2
     go_ret
     exact ⟨zz5, zz19⟩
 ·replace H := iteEe H
  rcases H with ⟨c8b0, H⟩ | ⟨c8b0, H⟩
  ·replace H := iteEd H
   rcases H with ⟨c9b0, H⟩ | ⟨c9b0, H⟩
   ·obtain rfl := sI H
    go_enter Tryd.func92, Tryd.ntmps92;go_wp2
    go_ret
    exact ⟨zz5, zz19⟩
   ·replace H := iteEq H
    rcases H with ⟨c10b0, c10b1, H⟩ | ⟨c10b0, c10b1, c10, H⟩
    ·obtain rfl := sI H
     go_enter Tryd.func92, Tryd.ntmps92;go_wp2
     go_ret
     exact ⟨zz5, zz19⟩
    ·obtain rfl := sI H
     go_enter Tryd.func92, Tryd.ntmps92;go_wp2
     go_ret
     exact ⟨zz5, zz19⟩
  ·replace H := iteEq H
   rcases H with ⟨c11b0, c11b1, H⟩ | ⟨c11b0, c11b1, c11, H⟩
   ·obtain rfl := sI H
    go_enter Tryd.func92, Tryd.ntmps92;go_wp2
    go_ret
    exact ⟨zz5, zz19⟩
   ·obtain rfl := sI H
    go_enter Tryd.func92, Tryd.ntmps92;go_wp2
    go_ret
    exact ⟨zz5, zz19⟩
mutual
def spec_RuleOk.j0 : Nat → ByteArray → Bool → Option (Bool)
 | 0, _, _ => none
 | k + 1, x0, x16 => if x16 = true then (some false) else (spec_RuleOk.l0 k x0 0)
def spec_RuleOk.l0 : Nat → ByteArray → Int → Option (Bool)
 | 0, _, _ => none
 | k + 1, x0, x3 => if x3 < (x0.size : Int) then (if 0 ≤ x3 then ((spec_l1Plain.f (bt x0 x3)).bind fun t122 => (if t122 = true then (spec_RuleOk.l0 k x0 (wrap64 (x3 + 1))) else (if (bt x0 x3) = 47 then (spec_RuleOk.l0 k x0 (wrap64 (x3 + 1))) else (if (bt x0 x3) = 42 then (spec_RuleOk.l0 k x0 (wrap64 (x3 + 1))) else (if (bt x0 x3) = 63 then (spec_RuleOk.l0 k x0 (wrap64 (x3 + 1))) else (if (bt x0 x3) = 37 then (spec_RuleOk.l0 k x0 (wrap64 (x3 + 1))) else (if (bt x0 x3) ≥ 65 then (if ((bt x0 x3) ≤ 70) then (spec_RuleOk.l0 k x0 (wrap64 (x3 + 1))) else (if (bt x0 x3) = 36 then (if (x3 = (wrap64 ((x0.size : Int) - 1))) then (spec_RuleOk.l0 k x0 (wrap64 (x3 + 1))) else (some false)) else (some false))) else (if (bt x0 x3) = 36 then (if (x3 = (wrap64 ((x0.size : Int) - 1))) then (spec_RuleOk.l0 k x0 (wrap64 (x3 + 1))) else (some false)) else (some false))))))))) else (none)) else (some true)
end
def spec_RuleOk.f (k : Nat) (a0 : ByteArray) : Option (Bool) := if (a0.size : Int) > 16 then (spec_RuleOk.j0 k a0 true) else (if a0.toList = ([] : List UInt8) then (spec_RuleOk.j0 k a0 true) else (if 0 < (a0.size : Int) then (spec_RuleOk.j0 k a0 ((bt a0 0) != 47)) else (none)))
theorem spec_RuleOk.calls (k : Nat) (a0 : ByteArray) (r : Bool) (w : World) (h : spec_RuleOk.f k a0 = some r) :
  Calls Tryd.prog 79 #[.string a0] w fun e w' => e = .returned (.bool r) ∧ Drawn0 w w' := by
 unfold spec_RuleOk.f at h
 have H := h;clear h;have HC2 := A_ H;clear H;go_enter Tryd.func79, Tryd.ntmps79;go_upto_region 1 with (fail)
 go_cut [16] (fun v16 wc => ∃ (kq : Nat) (x16_1 : Bool), v16 = .bool x16_1 ∧ Aside0 (spec_RuleOk.j0 kq a0 x16_1 = some r) ∧ Aside0 (kq ≤ k) ∧ Drawn0 w wc)
 case first =>
  obtain ⟨H⟩ := HC2;replace H := iteE H;rcases H with ⟨c3, H⟩ | ⟨c3, H⟩
  ·have c3b0 := gtT c3
   have c3b1 : decide (16 < a0.size) = true := dT (by omega);clear c3;(first | rw [c3b0] | (simp only [i64_w, i32_w]; rw [c3b0]) | skip)
   have H' := A_ H;clear H;go_wp2
   go_meet
   case rel => exact ⟨_, (true), zz5, H', ⟨zz6⟩, zz19⟩
  ·have c3b0 := gtF c3
   have c3b1 : decide (16 < a0.size) = false := dF (by omega);clear c3;(first | rw [c3b0] | (simp only [i64_w, i32_w]; rw [c3b0]) | skip)
   replace H := iteEq H;rcases H with ⟨c4b0, c4b1, H⟩ | ⟨c4b0, c4b1, c4, H⟩
   ·have H' := A_ H
    clear H;go_wp2
    go_meet
    case rel => exact ⟨_, (true), zz5, H', ⟨zz6⟩, zz19⟩
   ·replace H := iteN H
    obtain ⟨c5, H⟩ := H;have c5b0 := dT c5;have c5b1 : decide (0 < a0.size) = true := dT (by omega);clear c5;have H' := A_ H;clear H;have p6 : 0 ≤ (0 : Int) := (by omega);have q6 : 0 < a0.size := (by have : (0 : Int) < (a0.size : Int) := ofD; omega);have hx6 : ∀ h : 0 < a0.size, ((a0[0]'h).toNat : Int) = bt a0 0 := bt_at a0 0;clear p6;have qi6 : (0 < (a0.size : Int)) = True := eq_true ofD;replace q6 := eq_true q6;go_wp2
    go_meet
    case rel => exact ⟨_, (((bt a0 0) != 47)), zz5, H', ⟨zz6⟩, zz19⟩
 case rest =>
  clear HC2;obtain ⟨kq, x16_1, rfl, HA, HJ1, ⟨mc1, rfl⟩⟩ := hcut;cases kq with
  | zero => exact absurd HA.out (by simp [spec_RuleOk.j0])
  | succ kj1 =>
   obtain ⟨H⟩ := HA;simp only [spec_RuleOk.j0] at H
   replace H := iteB H;rcases H with ⟨rfl, H⟩ | ⟨rfl, H⟩
   ·obtain rfl := sI H
    go_wp2
    go_ret
    exact ⟨zz5, zz19⟩
   ·have H' := A_ H
    clear H;go_wp2
    go_loopg [3] kj1 (fun kq v3 w' => ∃ (x3_2 : Int), v3 = .int .i64 x3_2 ∧ Aside0 (spec_RuleOk.l0 kq a0 x3_2 = some r) ∧ Aside0 (kq ≤ kj1) ∧ Drawn0 w w')
    case atStart => exact ⟨(0), zz5, H', ⟨Nat.le_refl _⟩, zz19⟩
    case round =>
     clear H';obtain ⟨x3_2, rfl, HA, HK2, ⟨m2, rfl⟩⟩ := hrel;cases gk with
     | zero => exact absurd HA.out (by simp [spec_RuleOk.l0])
     | succ k2 =>
      obtain ⟨H⟩ := HA;simp only [spec_RuleOk.l0] at H
      replace H := iteEd H;rcases H with ⟨c8b0, H⟩ | ⟨c8b0, H⟩
      ·replace H := iteNd H
       obtain ⟨c9b0, H⟩ := H;replace H := bindA H;obtain ⟨t122, A11, H⟩ := H;have HF12 := A_ H;clear H;have p10 : 0 ≤ (x3_2 : Int) := ofD;have q10 : x3_2 < (a0.size : Int) := ofD;have hx10 := bt_at a0 x3_2;replace p10 := eq_true p10;replace q10 := eq_true q10;go_wp2_with (first | ((with_reducible refine gC (f := 92) rfl ?_); refine gsL (some 27) Tryd.func92 #[.int .u8 (bt a0 x3_2)] ?_; (with_reducible refine (spec_l1Plain.calls (bt a0 x3_2) t122 _ A11.out).mono ?_); rintro e w' ⟨rfl, ⟨nd, rfl⟩⟩; refine ⟨_, rfl, ?_⟩) | ((with_reducible refine atG ?_ ?_ fun K_ hK_ => ?_); rfl; exact undecG) | ((with_reducible refine atI ?_ fun K_ hK_ => ?_); exact undecI))
       refine unG hK_ ?_; clear hK_ K_;obtain ⟨H⟩ := HF12;replace H := iteB H;rcases H with ⟨rfl, H⟩ | ⟨rfl, H⟩
       ·(first | refine iteT ?_ | refine iteF ?_ | skip)
        have H' := A_ H;clear H;(try ((with_reducible refine upS ?_); go_simp))
        go_wp2
        go_roundg k2
        case measure => have := HJ1.out; have := HK2.out; omega
        case rel => exact ⟨(wrap64 (x3_2 + 1)), zz5, H', ⟨(zz24 HJ1 HK2)⟩, zz19⟩
       ·(first | refine iteT ?_ | refine iteF ?_ | skip)
        replace H := iteEq H;rcases H with ⟨c14b0, c14b1, H⟩ | ⟨c14b0, c14b1, c14, H⟩
        ·have H' := A_ H
         clear H;go_wp2
         go_roundg k2
         case measure => have := HJ1.out; have := HK2.out; omega
         case rel => exact ⟨(wrap64 (x3_2 + 1)), zz5, H', ⟨(zz24 HJ1 HK2)⟩, zz19⟩
        ·replace H := iteEq H
         rcases H with ⟨c15b0, c15b1, H⟩ | ⟨c15b0, c15b1, c15, H⟩
         ·have H' := A_ H
          clear H;go_wp2
          go_roundg k2
          case measure => have := HJ1.out; have := HK2.out; omega
          case rel => exact ⟨(wrap64 (x3_2 + 1)), zz5, H', ⟨(zz24 HJ1 HK2)⟩, zz19⟩
         ·replace H := iteEq H
          rcases H with ⟨c16b0, c16b1, H⟩ | ⟨c16b0, c16b1, c16, H⟩
          ·have H' := A_ H
           clear H;go_wp2
           go_roundg k2
           case measure => have := HJ1.out; have := HK2.out; omega
           case rel => exact ⟨(wrap64 (x3_2 + 1)), zz5, H', ⟨(zz24 HJ1 HK2)⟩, zz19⟩
          ·replace H := iteEq H
           rcases H with ⟨c17b0, c17b1, H⟩ | ⟨c17b0, c17b1, c17, H⟩
           ·have H' := A_ H
            clear H;go_wp2
            go_roundg k2
            case measure => have := HJ1.out; have := HK2.out; omega
            case rel => exact ⟨(wrap64 (x3_2 + 1)), zz5, H', ⟨(zz24 HJ1 HK2)⟩, zz19⟩
           ·replace H := iteEe H
            rcases H with ⟨c18b0, H⟩ | ⟨c18b0, H⟩
            ·replace H := iteE H
             rcases H with ⟨c19, H⟩ | ⟨c19, H⟩
             ·have c19b0 : decide ((bt a0 x3_2) ≤ 70) = true := dT c19
              clear c19;have H' := A_ H;clear H;go_wp2
              go_roundg k2
              case measure => have := HJ1.out; have := HK2.out; omega
              case rel => exact ⟨(wrap64 (x3_2 + 1)), zz5, H', ⟨(zz24 HJ1 HK2)⟩, zz19⟩
             ·have c19b0 : decide ((bt a0 x3_2) ≤ 70) = false := dF c19
              clear c19;replace H := iteEq H;rcases H with ⟨c20b0, c20b1, H⟩ | ⟨c20b0, c20b1, c20, H⟩
              ·replace H := iteEq H
               rcases H with ⟨c21b0, c21b1, H⟩ | ⟨c21b0, c21b1, c21, H⟩
               ·have H' := A_ H
                clear H;go_wp2
                go_roundg k2
                case measure => have := HJ1.out; have := HK2.out; omega
                case rel => exact ⟨(wrap64 (x3_2 + 1)), zz5, H', ⟨(zz24 HJ1 HK2)⟩, zz19⟩
               ·obtain rfl := sI H
                go_wp2
                go_ret
                exact ⟨zz5, zz19⟩
              ·obtain rfl := sI H
               go_wp2
               go_ret
               exact ⟨zz5, zz19⟩
            ·replace H := iteEq H
             rcases H with ⟨c22b0, c22b1, H⟩ | ⟨c22b0, c22b1, c22, H⟩
             ·replace H := iteEq H
              rcases H with ⟨c23b0, c23b1, H⟩ | ⟨c23b0, c23b1, c23, H⟩
              ·have H' := A_ H
               clear H;go_wp2
               go_roundg k2
               case measure => have := HJ1.out; have := HK2.out; omega
               case rel => exact ⟨(wrap64 (x3_2 + 1)), zz5, H', ⟨(zz24 HJ1 HK2)⟩, zz19⟩
              ·obtain rfl := sI H
               go_wp2
               go_ret
               exact ⟨zz5, zz19⟩
             ·obtain rfl := sI H
              go_wp2
              go_ret
              exact ⟨zz5, zz19⟩
      ·obtain rfl := sI H
       go_wp2
       go_ret
       exact ⟨zz5, zz19⟩
mutual
def spec_NoticeOk.l0 : Nat → List (S81) → Int → Int → Option (Bool)
 | 0, _, _, _ => none
 | k + 1, x0, x3, x4 => if x4 < (x0.length : Int) then (if 0 ≤ x4 then (if (((rd_T81 x0 x4).f0).length : Int) = 0 then (spec_NoticeOk.j1 k x0 x3 x4 true ((rd_T81 x0 x4).f0) ((rd_T81 x0 x4).f1) ((rd_T81 x0 x4).f2)) else (if (((rd_T81 x0 x4).f1).length : Int) = 0 then (if ((rd_T81 x0 x4).f2) = 0 then (spec_NoticeOk.j1 k x0 x3 x4 true ((rd_T81 x0 x4).f0) ((rd_T81 x0 x4).f1) ((rd_T81 x0 x4).f2)) else (if (((rd_T81 x0 x4).f1).length : Int) > 6 then (spec_NoticeOk.j1 k x0 x3 x4 true ((rd_T81 x0 x4).f0) ((rd_T81 x0 x4).f1) ((rd_T81 x0 x4).f2)) else ((spec_l6In.f ((rd_T81 x0 x4).f2) 0 20).bind fun t125 => (spec_NoticeOk.j1 k x0 x3 x4 (!t125) ((rd_T81 x0 x4).f0) ((rd_T81 x0 x4).f1) ((rd_T81 x0 x4).f2))))) else (if (((rd_T81 x0 x4).f1).length : Int) > 6 then (spec_NoticeOk.j1 k x0 x3 x4 true ((rd_T81 x0 x4).f0) ((rd_T81 x0 x4).f1) ((rd_T81 x0 x4).f2)) else ((spec_l6In.f ((rd_T81 x0 x4).f2) 0 20).bind fun t126 => (spec_NoticeOk.j1 k x0 x3 x4 (!t126) ((rd_T81 x0 x4).f0) ((rd_T81 x0 x4).f1) ((rd_T81 x0 x4).f2)))))) else (none)) else (some (decide (x3 ≤ 40)))
def spec_NoticeOk.j1 : Nat → List (S81) → Int → Int → Bool → List ByteArray → List (S83) → Int → Option (Bool)
 | 0, _, _, _, _, _, _, _ => none
 | k + 1, x0, x3, x4, x44, x125000, x125001, x125002 => if x44 = true then (some false) else (spec_NoticeOk.l1 k x0 x3 x4 0 x125000 x125001 x125002)
def spec_NoticeOk.l1 : Nat → List (S81) → Int → Int → Int → List ByteArray → List (S83) → Int → Option (Bool)
 | 0, _, _, _, _, _, _, _ => none
 | k + 1, x0, x3, x4, x6, x125000, x125001, x125002 => if x6 < (x125000.length : Int) then (if 0 ≤ x6 then (if (rdOf ByteArray.empty x125000 x6).toList = ([42] : List UInt8) then (spec_NoticeOk.l1 k x0 x3 x4 (wrap64 (x6 + 1)) x125000 x125001 x125002) else ((spec_l2Name.f k (rdOf ByteArray.empty x125000 x6)).bind fun t129 => (if t129 = true then (spec_NoticeOk.l1 k x0 x3 x4 (wrap64 (x6 + 1)) x125000 x125001 x125002) else (some false)))) else (none)) else (spec_NoticeOk.l2 k x0 x3 x4 0 x125000 x125001 x125002)
def spec_NoticeOk.l2 : Nat → List (S81) → Int → Int → Int → List ByteArray → List (S83) → Int → Option (Bool)
 | 0, _, _, _, _, _, _, _ => none
 | k + 1, x0, x3, x4, x7, x125000, x125001, x125002 => if x7 < (x125001.length : Int) then (if 0 ≤ x7 then ((spec_RuleOk.f k ((rd_T83 x125001 x7).f1)).bind fun t131 => (if t131 = true then (spec_NoticeOk.l2 k x0 x3 x4 (wrap64 (x7 + 1)) x125000 x125001 x125002) else (some false))) else (none)) else (spec_NoticeOk.l0 k x0 (wrap64 ((wrap64 ((wrap64 (x3 + (x125000.length : Int))) + (x125001.length : Int))) + 1)) (wrap64 (x4 + 1)))
end
def spec_NoticeOk.f (k : Nat) (l0 : List (S81)) : Option (Bool) := spec_NoticeOk.l0 k l0 0 0
theorem spec_NoticeOk.calls (k : Nat) (A0 : Option Addr) (c0 : Nat) (l0 : List (S81)) (r : Bool) (w : World) (hr0 : Kd.C k81 w A0 l0.length l0) (hc0 : l0.length ≤ c0) (h : spec_NoticeOk.f k l0 = some r) :
  Calls Tryd.prog 56 #[.slice A0 l0.length c0] w fun e w' => e = .returned (.bool r) ∧ Below w.heap.size w w' := by
 have hu81 := Tryd.underlying81;have HR0 := A_ hr0;have HC0 := A_ hc0;clear hr0 hc0;have HB := A_ (Below.refl w.heap.size w);unfold spec_NoticeOk.f at h
 have H := h;clear h;have H' := A_ H;clear H;go_enter Tryd.func56, Tryd.ntmps56;go_wp2
 go_loopg [3, 4] k (fun kq v3 v4 w' => ∃ (x3_1 : Int) (x4_1 : Int), v3 = .int .i64 x3_1 ∧ v4 = .int .i64 x4_1 ∧ Aside0 (spec_NoticeOk.l0 kq l0 x3_1 x4_1 = some r) ∧ Aside0 (kq ≤ k) ∧ Aside0 (Below w.heap.size w w'))
 case atStart => exact ⟨(0), (0), zz5, zz5, H', ⟨Nat.le_refl _⟩, ⟨(zz2 HB)⟩⟩
 case round =>
  clear H';obtain ⟨x3_1, x4_1, rfl, rfl, HA, HK1, HB⟩ := hrel;cases gk with
  | zero => exact absurd HA.out (by simp [spec_NoticeOk.l0])
  | succ k1 =>
   obtain ⟨H⟩ := HA;simp only [spec_NoticeOk.l0] at H
   replace H := iteEd H;rcases H with ⟨c2b0, H⟩ | ⟨c2b0, H⟩
   ·replace H := iteNd H
    obtain ⟨c3b0, H⟩ := H;have HC4 := A_ H;clear H;obtain ⟨⟨ad123, A123_0, c123_0, A123_1, c123_1, e123, hx123_0, hx123_1, hx123_2, hl123_0, hi123_0, hl123_1, hi123_1⟩, p123, q123⟩ := atB (at_T81 HR0.out x4_1);cases e123
    obtain ⟨hx123_0, hx123_1, hx123_2⟩ := cb3 HB hx123_0 hx123_1 hx123_2;have HR123_0 := A_ hi123_0;have HC123_0 := A_ hl123_0;clear hi123_0 hl123_0;have HR123_1 := A_ hi123_1;have HC123_1 := A_ hl123_1;clear hi123_1 hl123_1;go_upto_region 6 with (first | ((with_reducible refine gD (N := 5) rfl ?_); (try (refine gate_guard (by rfl) ?_; dsimp only)); refine boxE 5 #[.slice none 0 0, .slice none 0 0, .int .i64 0] 81 ?_; intro gb124 hg w5 hbox hb; have BK124 := A_ (hbox); have GE124 := geB hg (zz2 HB); replace HB := A_ (bS (zz2 HB) hb); clear hb hbox hg; obtain ⟨_, _, _, _, _, _⟩ := cf3 BK124))
    (try simp only [Act.put, List.setIfInBounds_toArray, List.set_cons_zero, List.set_cons_succ])
    go_cut [44] (fun v44 wc => ∃ (kq : Nat) (x44_3 : Bool), v44 = .bool x44_3 ∧ Aside0 (spec_NoticeOk.j1 kq l0 x3_1 x4_1 x44_3 ((rd_T81 l0 x4_1).f0) ((rd_T81 l0 x4_1).f1) ((rd_T81 l0 x4_1).f2) = some r) ∧ Aside0 (kq ≤ k1) ∧ Aside0 (wc.heap[gb124]? = some (.cells #[(.slice A123_0 ((rd_T81 l0 x4_1).f0).length c123_0), (.slice A123_1 ((rd_T81 l0 x4_1).f1).length c123_1), .int .i64 ((rd_T81 l0 x4_1).f2)] 81 (0, 0))) ∧ Aside0 (Below w.heap.size w wc))
    case first =>
     obtain ⟨H⟩ := HC4;replace H := iteEq H;rcases H with ⟨c7b0, c7b1, H⟩ | ⟨c7b0, c7b1, c7, H⟩
     ·(first | rw [c7b0] | (simp only [i64_w, i32_w]; rw [c7b0]) | skip)
      have H' := A_ H;clear H;obtain ⟨_, _, _, _, _, _⟩ := cf3 BK124;go_wp2
      go_meet
      case rel => exact ⟨_, (true), zz5, H', ⟨(zz26 HK1)⟩, ⟨(zz27 BK124)⟩, ⟨(zz4 HB GE124)⟩⟩
     ·have c7b2 : ¬ (((rd_T81 l0 x4_1).f0) = []) := fun h_ => c7 (by rw [h_]; rfl)
      (first | rw [c7b0] | (simp only [i64_w, i32_w]; rw [c7b0]) | skip)
      replace H := iteEq H;rcases H with ⟨c9b0, c9b1, H⟩ | ⟨c9b0, c9b1, c9, H⟩
      ·replace H := iteEq H
       rcases H with ⟨c10b0, c10b1, H⟩ | ⟨c10b0, c10b1, c10, H⟩
       ·have H' := A_ H
        clear H;obtain ⟨_, _, _, _, _, _⟩ := cf3 BK124;go_wp2
        go_meet
        case rel => exact ⟨_, (true), zz5, H', ⟨(zz26 HK1)⟩, ⟨(zz27 BK124)⟩, ⟨(zz4 HB GE124)⟩⟩
       ·replace H := iteE H
        rcases H with ⟨c12, H⟩ | ⟨c12, H⟩
        ·have c12b0 := gtT c12
         have c12b1 : decide (6 < ((rd_T81 l0 x4_1).f1).length) = true := dT (by omega);clear c12;have H' := A_ H;clear H;obtain ⟨_, _, _, _, _, _⟩ := cf3 BK124;go_wp2
         go_meet
         case rel => exact ⟨_, (true), zz5, H', ⟨(zz26 HK1)⟩, ⟨(zz27 BK124)⟩, ⟨(zz4 HB GE124)⟩⟩
        ·have c12b0 := gtF c12
         have c12b1 : decide (6 < ((rd_T81 l0 x4_1).f1).length) = false := dF (by omega);clear c12;replace H := bindA H;obtain ⟨t125, A14, H⟩ := H;have H' := A_ H;clear H;obtain ⟨_, _, _, _, _, _⟩ := cf3 BK124;go_wp2_with (first | (go_at_call 15; (with_reducible refine (spec_l6In.calls ((rd_T81 l0 x4_1).f2) 0 20 t125 _ A14.out).mono ?_); rintro e w' ⟨rfl, ⟨nd, rfl⟩⟩))
         go_meet
         case rel => exact ⟨_, (!t125), zz5, H', ⟨(zz26 HK1)⟩, ⟨(zz27 BK124)⟩, ⟨(zz4 HB GE124)⟩⟩
      ·have c9b2 : ¬ (((rd_T81 l0 x4_1).f1) = []) := fun h_ => c9 (by rw [h_]; rfl)
       replace H := iteE H;rcases H with ⟨c16, H⟩ | ⟨c16, H⟩
       ·have c16b0 := gtT c16
        have c16b1 : decide (6 < ((rd_T81 l0 x4_1).f1).length) = true := dT (by omega);clear c16;have H' := A_ H;clear H;obtain ⟨_, _, _, _, _, _⟩ := cf3 BK124;go_wp2
        go_meet
        case rel => exact ⟨_, (true), zz5, H', ⟨(zz26 HK1)⟩, ⟨(zz27 BK124)⟩, ⟨(zz4 HB GE124)⟩⟩
       ·have c16b0 := gtF c16
        have c16b1 : decide (6 < ((rd_T81 l0 x4_1).f1).length) = false := dF (by omega);clear c16;replace H := bindA H;obtain ⟨t126, A18, H⟩ := H;have H' := A_ H;clear H;obtain ⟨_, _, _, _, _, _⟩ := cf3 BK124;go_wp2_with (first | (go_at_call 15; (with_reducible refine (spec_l6In.calls ((rd_T81 l0 x4_1).f2) 0 20 t126 _ A18.out).mono ?_); rintro e w' ⟨rfl, ⟨nd, rfl⟩⟩))
        go_meet
        case rel => exact ⟨_, (!t126), zz5, H', ⟨(zz26 HK1)⟩, ⟨(zz27 BK124)⟩, ⟨(zz4 HB GE124)⟩⟩
    case rest =>
     clear HC4;obtain ⟨kq, x44_3, rfl, HA, HJ3, BK124, HB⟩ := hcut;cases kq with
     | zero => exact absurd HA.out (by simp [spec_NoticeOk.j1])
     | succ kj3 =>
      obtain ⟨H⟩ := HA;simp only [spec_NoticeOk.j1] at H
      replace H := iteB H;rcases H with ⟨rfl, H⟩ | ⟨rfl, H⟩
      ·obtain rfl := sI H
       go_wp2
       go_ret
       exact ⟨zz11, (zz4 HB GE124)⟩
      ·have H' := A_ H
       clear H;go_wp2
       go_loopg [6] kj3 (fun kq v6 w' => ∃ (x6_3 : Int), v6 = .int .i64 x6_3 ∧ Aside0 (spec_NoticeOk.l1 kq l0 x3_1 x4_1 x6_3 ((rd_T81 l0 x4_1).f0) ((rd_T81 l0 x4_1).f1) ((rd_T81 l0 x4_1).f2) = some r) ∧ Aside0 (kq ≤ kj3) ∧ Aside0 (w'.heap[gb124]? = some (.cells #[(.slice A123_0 ((rd_T81 l0 x4_1).f0).length c123_0), (.slice A123_1 ((rd_T81 l0 x4_1).f1).length c123_1), .int .i64 ((rd_T81 l0 x4_1).f2)] 81 (0, 0))) ∧ Aside0 (Below w.heap.size w w'))
       case atStart => exact ⟨(0), zz5, H', ⟨Nat.le_refl _⟩, ⟨(zz3 BK124)⟩, ⟨(zz4 HB GE124)⟩⟩
       case round =>
        clear H';obtain ⟨x6_3, rfl, HA, HK3, BK124, HB⟩ := hrel;cases gk with
        | zero => exact absurd HA.out (by simp [spec_NoticeOk.l1])
        | succ k3 =>
         obtain ⟨H⟩ := HA;simp only [spec_NoticeOk.l1] at H
         replace H := iteEd H;rcases H with ⟨c21b0, H⟩ | ⟨c21b0, H⟩
         ·replace H := iteNd H
          obtain ⟨c22b0, H⟩ := H;replace H := iteEq H;rcases H with ⟨c23b0, c23b1, H⟩ | ⟨c23b0, c23b1, c23, H⟩
          ·have H' := A_ H
           clear H;obtain ⟨_, _, _, _, _, _⟩ := cf3 BK124;obtain ⟨⟨ad127, e127, hx127_0⟩, p127, q127⟩ := atB (Kd.at_string HR123_0.out x6_3);cases e127
           replace hx127_0 := cbl HB hx127_0;go_wp2
           go_roundg k3
           case measure => have := HK1.out; have := HJ3.out; have := HK3.out; omega
           case rel => exact ⟨(wrap64 (x6_3 + 1)), zz5, H', ⟨(zz30 HK1 HJ3 HK3)⟩, ⟨(zz3 BK124)⟩, ⟨(zz4 HB GE124)⟩⟩
          ·replace H := Option.bind_eq_some_iff.mp H
           obtain ⟨t129, A250, H⟩ := H;replace H : (if t129 = true then (spec_NoticeOk.l1 k3 l0 x3_1 x4_1 (wrap64 (x6_3 + 1)) ((rd_T81 l0 x4_1).f0) ((rd_T81 l0 x4_1).f1) ((rd_T81 l0 x4_1).f2)) else (some false)) = some r := H;have A25 := A_ A250;clear A250;have HF26 := A_ H;clear H;obtain ⟨_, _, _, _, _, _⟩ := cf3 BK124;obtain ⟨⟨ad127, e127, hx127_0⟩, p127, q127⟩ := atB (Kd.at_string HR123_0.out x6_3);cases e127
           replace hx127_0 := cbl HB hx127_0;obtain ⟨⟨ad128, e128, hx128_0⟩, p128, q128⟩ := atB (Kd.at_string HR123_0.out x6_3);obtain rfl : ad127 = ad128 := (by injection e128);replace hx128_0 := cbl HB hx128_0;go_upto_if 66 with (first | (go_at_call 78; (with_reducible refine (spec_l2Name.calls k3 (rdOf ByteArray.empty ((rd_T81 l0 x4_1).f0) x6_3) t129 _ A25.out).mono ?_); rintro e w' ⟨rfl, ⟨nd, rfl⟩⟩))
           obtain ⟨H⟩ := HF26;replace H := iteB H;rcases H with ⟨rfl, H⟩ | ⟨rfl, H⟩
           ·have H' := A_ H
            clear H;go_wp2
            go_roundg k3
            case measure => have := HK1.out; have := HJ3.out; have := HK3.out; omega
            case rel => exact ⟨(wrap64 (x6_3 + 1)), zz5, H', ⟨(zz30 HK1 HJ3 HK3)⟩, ⟨(zz3 BK124)⟩, ⟨(zz4 HB GE124)⟩⟩
           ·obtain rfl := sI H
            go_wp2
            go_ret
            exact ⟨zz11, (zz4 HB GE124)⟩
         ·have H' := A_ H
          clear H;obtain ⟨_, _, _, _, _, _⟩ := cf3 BK124;go_wp2
          go_loopg [7] k3 (fun kq v7 w' => ∃ (x7_4 : Int), v7 = .int .i64 x7_4 ∧ Aside0 (spec_NoticeOk.l2 kq l0 x3_1 x4_1 x7_4 ((rd_T81 l0 x4_1).f0) ((rd_T81 l0 x4_1).f1) ((rd_T81 l0 x4_1).f2) = some r) ∧ Aside0 (kq ≤ k3) ∧ Aside0 (w'.heap[gb124]? = some (.cells #[(.slice A123_0 ((rd_T81 l0 x4_1).f0).length c123_0), (.slice A123_1 ((rd_T81 l0 x4_1).f1).length c123_1), .int .i64 ((rd_T81 l0 x4_1).f2)] 81 (0, 0))) ∧ Aside0 (Below w.heap.size w w'))
          case atStart => exact ⟨(0), zz5, H', ⟨Nat.le_refl _⟩, ⟨(zz3 BK124)⟩, ⟨(zz4 HB GE124)⟩⟩
          case round =>
           clear H';obtain ⟨x7_4, rfl, HA, HK4, BK124, HB⟩ := hrel;cases gk with
           | zero => exact absurd HA.out (by simp [spec_NoticeOk.l2])
           | succ k4 =>
            obtain ⟨H⟩ := HA;simp only [spec_NoticeOk.l2] at H
            replace H := iteEd H;rcases H with ⟨c30b0, H⟩ | ⟨c30b0, H⟩
            ·replace H := iteNd H
             obtain ⟨c31b0, H⟩ := H;replace H := bindA H;obtain ⟨t131, A32, H⟩ := H;have HF33 := A_ H;clear H;obtain ⟨_, _, _, _, _, _⟩ := cf3 BK124;obtain ⟨⟨ad130, e130, hx130_0, hx130_1⟩, p130, q130⟩ := atB (at_T83 HR123_1.out x7_4);cases e130
             obtain ⟨hx130_0, hx130_1⟩ := cb2 HB hx130_0 hx130_1;go_upto_if 81 with (first | ((with_reducible refine gC (f := 79) rfl ?_); refine gsL (some 80) Tryd.func79 #[.string ((rd_T83 ((rd_T81 l0 x4_1).f1) x7_4).f1)] ?_; (with_reducible refine (spec_RuleOk.calls k4 ((rd_T83 ((rd_T81 l0 x4_1).f1) x7_4).f1) t131 _ A32.out).mono ?_); rintro e w' ⟨rfl, ⟨nd, rfl⟩⟩; refine ⟨_, rfl, ?_⟩))
             obtain ⟨H⟩ := HF33;replace H := iteB H;rcases H with ⟨rfl, H⟩ | ⟨rfl, H⟩
             ·have H' := A_ H
              clear H;go_wp2
              go_roundg k4
              case measure => have := HK1.out; have := HJ3.out; have := HK3.out; have := HK4.out; omega
              case rel => exact ⟨(wrap64 (x7_4 + 1)), zz5, H', ⟨(by have := HK1.out; have := HJ3.out; have := HK3.out; have := HK4.out; omega)⟩, ⟨(zz3 BK124)⟩, ⟨(zz4 HB GE124)⟩⟩
             ·obtain rfl := sI H
              go_wp2
              go_ret
              exact ⟨zz11, (zz4 HB GE124)⟩
            ·have H' := A_ H
             clear H;obtain ⟨_, _, _, _, _, _⟩ := cf3 BK124;go_wp2
             go_roundg k4
             case measure => have := HK1.out; have := HJ3.out; have := HK3.out; have := HK4.out; omega
             case rel => exact ⟨(wrap64 ((wrap64 ((wrap64 (x3_1 + (((rd_T81 l0 x4_1).f0).length : Int))) + (((rd_T81 l0 x4_1).f1).length : Int))) + 1)), (wrap64 (x4_1 + 1)), zz5, zz5, H', ⟨(by have := HK1.out; have := HJ3.out; have := HK3.out; have := HK4.out; omega)⟩, ⟨(zz4 HB GE124)⟩⟩
   ·obtain rfl := sI H
    go_wp2
    go_ret
    exact ⟨zz11, (zz2 HB)⟩
mutual
def spec_NoticeText.l0 : Nat → List (S81) → ByteArray → Int → Option (ByteArray)
 | 0, _, _, _ => none
 | k + 1, x0, x3, x4 => if x4 < (x0.length : Int) then (spec_NoticeText.l1 k x0 x3 x4 0) else (some x3)
def spec_NoticeText.l1 : Nat → List (S81) → ByteArray → Int → Int → Option (ByteArray)
 | 0, _, _, _, _ => none
 | k + 1, x0, x3, x4, x5 => if 0 ≤ x4 then (if x4 < (x0.length : Int) then (if x5 < (((rd_T81 x0 x4).f0).length : Int) then (if x3.size + 7 ≤ 9223372036854775807 then (if 0 ≤ x5 then (if x3.size + 7 + (rdOf ByteArray.empty ((rd_T81 x0 x4).f0) x5).size ≤ 9223372036854775807 then (if x3.size + 7 + (rdOf ByteArray.empty ((rd_T81 x0 x4).f0) x5).size + 1 ≤ 9223372036854775807 then (spec_NoticeText.l1 k x0 (((x3 ++ (⟨#[99, 97, 108, 108, 101, 114, 32]⟩ : ByteArray)) ++ (rdOf ByteArray.empty ((rd_T81 x0 x4).f0) x5)) ++ (⟨#[10]⟩ : ByteArray)) x4 (wrap64 (x5 + 1))) else (none)) else (none)) else (none)) else (none)) else (spec_NoticeText.l2 k x0 x3 x4 0)) else (none)) else (none)
def spec_NoticeText.l2 : Nat → List (S81) → ByteArray → Int → Int → Option (ByteArray)
 | 0, _, _, _, _ => none
 | k + 1, x0, x3, x4, x6 => if 0 ≤ x4 then (if x4 < (x0.length : Int) then (if x6 < (((rd_T81 x0 x4).f1).length : Int) then (if 0 ≤ x6 then (if (rd_T83 ((rd_T81 x0 x4).f1) x6).f0 = true then (if x3.size + 4 ≤ 9223372036854775807 then (if x3.size + 4 + ((rd_T83 ((rd_T81 x0 x4).f1) x6).f1).size ≤ 9223372036854775807 then (if x3.size + 4 + ((rd_T83 ((rd_T81 x0 x4).f1) x6).f1).size + 1 ≤ 9223372036854775807 then (spec_NoticeText.l2 k x0 (((x3 ++ (⟨#[108, 101, 116, 32]⟩ : ByteArray)) ++ ((rd_T83 ((rd_T81 x0 x4).f1) x6).f1)) ++ (⟨#[10]⟩ : ByteArray)) x4 (wrap64 (x6 + 1))) else (none)) else (none)) else (none)) else (if x3.size + 4 ≤ 9223372036854775807 then (if x3.size + 4 + ((rd_T83 ((rd_T81 x0 x4).f1) x6).f1).size ≤ 9223372036854775807 then (if x3.size + 4 + ((rd_T83 ((rd_T81 x0 x4).f1) x6).f1).size + 1 ≤ 9223372036854775807 then (spec_NoticeText.l2 k x0 (((x3 ++ (⟨#[98, 97, 114, 32]⟩ : ByteArray)) ++ ((rd_T83 ((rd_T81 x0 x4).f1) x6).f1)) ++ (⟨#[10]⟩ : ByteArray)) x4 (wrap64 (x6 + 1))) else (none)) else (none)) else (none))) else (none)) else (if ((rd_T81 x0 x4).f2) > 0 then (if x3.size + 5 ≤ 9223372036854775807 then ((spec_l6Dec.f k ((rd_T81 x0 x4).f2)).bind fun t145 => (if x3.size + 5 + t145.size ≤ 9223372036854775807 then (if x3.size + 5 + t145.size + 1 ≤ 9223372036854775807 then (spec_NoticeText.l0 k x0 (((x3 ++ (⟨#[119, 97, 105, 116, 32]⟩ : ByteArray)) ++ t145) ++ (⟨#[10]⟩ : ByteArray)) (wrap64 (x4 + 1))) else (none)) else (none))) else (none)) else (spec_NoticeText.l0 k x0 x3 (wrap64 (x4 + 1))))) else (none)) else (none)
end
def spec_NoticeText.f (k : Nat) (l0 : List (S81)) : Option (ByteArray) := (spec_NoticeOk.f k l0).bind fun t132 => (if t132 = true then (spec_NoticeText.l0 k l0 (⟨#[]⟩ : ByteArray) 0) else (some (⟨#[]⟩ : ByteArray)))
theorem spec_NoticeText.calls (k : Nat) (A0 : Option Addr) (c0 : Nat) (l0 : List (S81)) (r : ByteArray) (w : World) (hr0 : Kd.C k81 w A0 l0.length l0) (hc0 : l0.length ≤ c0) (h : spec_NoticeText.f k l0 = some r) :
  Calls Tryd.prog 34 #[.slice A0 l0.length c0] w fun e w' => e = .returned (.string r) ∧ Below w.heap.size w w' := by
 have HR0 := A_ hr0;have HC0 := A_ hc0;clear hr0 hc0;have HB := A_ (Below.refl w.heap.size w);unfold spec_NoticeText.f at h
 have H := h;clear h;replace H := bindA H;obtain ⟨t132, A2, H⟩ := H;have HF3 := A_ H;clear H;go_enter Tryd.func34, Tryd.ntmps34;go_upto_if 10 with (first | ((with_reducible refine gC (f := 56) rfl ?_); refine gsL (some 9) Tryd.func56 #[.slice A0 l0.length c0] ?_; (with_reducible refine mR (spec_NoticeOk.calls k _ _ l0 t132 _ ?side1 ?side2 A2.out) ?_); (case side1 => exact (zz33 HR0)); (case side2 => exact HC0.out); rintro w4 hb; replace HB := A_ (bS (zz2 HB) hb); (try clear hb)))
 obtain ⟨H⟩ := HF3;replace H := iteB H;rcases H with ⟨rfl, H⟩ | ⟨rfl, H⟩
 ·have H' := A_ H
  clear H;go_wp2
  go_loopg [3, 4] k (fun kq v3 v4 w' => ∃ (x3_1 : ByteArray) (x4_1 : Int), v3 = .string x3_1 ∧ v4 = .int .i64 x4_1 ∧ Aside0 (spec_NoticeText.l0 kq l0 x3_1 x4_1 = some r) ∧ Aside0 (kq ≤ k) ∧ Aside0 (Below w.heap.size w w'))
  case atStart => exact ⟨((⟨#[]⟩ : ByteArray)), (0), zz5, zz5, H', ⟨Nat.le_refl _⟩, ⟨(zz2 HB)⟩⟩
  case round =>
   clear H';obtain ⟨x3_1, x4_1, rfl, rfl, HA, HK1, HB⟩ := hrel;cases gk with
   | zero => exact absurd HA.out (by simp [spec_NoticeText.l0])
   | succ k1 =>
    obtain ⟨H⟩ := HA;simp only [spec_NoticeText.l0] at H
    replace H := iteEd H;rcases H with ⟨c6b0, H⟩ | ⟨c6b0, H⟩
    ·(first | rw [c6b0] | (simp only [i64_w, i32_w]; rw [c6b0]) | skip)
     have H' := A_ H;clear H;go_wp2
     go_loopg [3, 5] k1 (fun kq v3 v5 w' => ∃ (x3_2 : ByteArray) (x5_2 : Int), v3 = .string x3_2 ∧ v5 = .int .i64 x5_2 ∧ Aside0 (spec_NoticeText.l1 kq l0 x3_2 x4_1 x5_2 = some r) ∧ Aside0 (kq ≤ k1) ∧ Aside0 (Below w.heap.size w w'))
     case atStart => exact ⟨(x3_1), (0), zz5, zz5, H', ⟨Nat.le_refl _⟩, ⟨(zz2 HB)⟩⟩
     case round =>
      clear H';obtain ⟨x3_2, x5_2, rfl, rfl, HA, HK2, HB⟩ := hrel;cases gk with
      | zero => exact absurd HA.out (by simp [spec_NoticeText.l1])
      | succ k2 =>
       obtain ⟨H⟩ := HA;simp only [spec_NoticeText.l1] at H
       replace H := iteNd H;obtain ⟨c7b0, H⟩ := H;replace H := iteNd H;obtain ⟨c8b0, H⟩ := H;replace H := iteEd H;rcases H with ⟨c9b0, H⟩ | ⟨c9b0, H⟩
       ·replace H := iteN H
        obtain ⟨c10, H⟩ := H;have c10b0 := eq_true c10;have c10b1 := dT c10;try have c10b2 : (9223372036854775807 < x3_2.size + 7) = False := eq_false (Nat.not_lt.2 c10)
        replace H := iteNd H;obtain ⟨c11b0, H⟩ := H;replace H := iteN H;obtain ⟨c12, H⟩ := H;have c12b0 := eq_true c12;have c12b1 := dT c12;try have c12b2 : (9223372036854775807 < x3_2.size + 7 + (rdOf ByteArray.empty ((rd_T81 l0 x4_1).f0) x5_2).size) = False := eq_false (Nat.not_lt.2 c12)
        replace H := iteN H;obtain ⟨c13, H⟩ := H;have c13b0 := eq_true c13;have c13b1 := dT c13;try have c13b2 : (9223372036854775807 < x3_2.size + 7 + (rdOf ByteArray.empty ((rd_T81 l0 x4_1).f0) x5_2).size + 1) = False := eq_false (Nat.not_lt.2 c13)
        have H' := A_ H;clear H;obtain ⟨⟨ad133, A133_0, c133_0, A133_1, c133_1, e133, hx133_0, hx133_1, hx133_2, hl133_0, hi133_0, hl133_1, hi133_1⟩, p133, q133⟩ := atB (at_T81 HR0.out x4_1);cases e133
        obtain ⟨hx133_0, hx133_1, hx133_2⟩ := cb3 HB hx133_0 hx133_1 hx133_2;have HR133_0 := A_ hi133_0;have HC133_0 := A_ hl133_0;clear hi133_0 hl133_0;have HR133_1 := A_ hi133_1;have HC133_1 := A_ hl133_1;clear hi133_1 hl133_1;obtain ⟨⟨ad134, A134_0, c134_0, A134_1, c134_1, e134, hx134_0, hx134_1, hx134_2, hl134_0, hi134_0, hl134_1, hi134_1⟩, p134, q134⟩ := atB (at_T81 HR0.out x4_1);obtain rfl : ad133 = ad134 := (by injection e134);obtain ⟨hx134_0, hx134_1, hx134_2⟩ := cb3 HB hx134_0 hx134_1 hx134_2;have HR134_0 := A_ hi134_0;have HC134_0 := A_ hl134_0;clear hi134_0 hl134_0;have HR134_1 := A_ hi134_1;have HC134_1 := A_ hl134_1;clear hi134_1 hl134_1;have ea_ := sI (hx133_0.symm.trans hx134_0);injection ea_ with ea_ en_ ec_
        subst ea_;subst ec_;clear en_;have ea_ := sI (hx133_1.symm.trans hx134_1);injection ea_ with ea_ en_ ec_
        subst ea_;subst ec_;clear en_;obtain ⟨⟨ad135, e135, hx135_0⟩, p135, q135⟩ := atB (Kd.at_string HR134_0.out x5_2);cases e135
        replace hx135_0 := cbl HB hx135_0;go_wp2
        go_roundg k2
        case measure => have := HK1.out; have := HK2.out; omega
        case rel => exact ⟨(((x3_2 ++ (⟨#[99, 97, 108, 108, 101, 114, 32]⟩ : ByteArray)) ++ (rdOf ByteArray.empty ((rd_T81 l0 x4_1).f0) x5_2)) ++ (⟨#[10]⟩ : ByteArray)), (wrap64 (x5_2 + 1)), zz5, zz5, H', ⟨(zz24 HK1 HK2)⟩, ⟨(zz2 HB)⟩⟩
       ·have H' := A_ H
        clear H;obtain ⟨⟨ad133, A133_0, c133_0, A133_1, c133_1, e133, hx133_0, hx133_1, hx133_2, hl133_0, hi133_0, hl133_1, hi133_1⟩, p133, q133⟩ := atB (at_T81 HR0.out x4_1);cases e133
        obtain ⟨hx133_0, hx133_1, hx133_2⟩ := cb3 HB hx133_0 hx133_1 hx133_2;have HR133_0 := A_ hi133_0;have HC133_0 := A_ hl133_0;clear hi133_0 hl133_0;have HR133_1 := A_ hi133_1;have HC133_1 := A_ hl133_1;clear hi133_1 hl133_1;go_wp2
        go_loopg [3, 6] k2 (fun kq v3 v6 w' => ∃ (x3_3 : ByteArray) (x6_3 : Int), v3 = .string x3_3 ∧ v6 = .int .i64 x6_3 ∧ Aside0 (spec_NoticeText.l2 kq l0 x3_3 x4_1 x6_3 = some r) ∧ Aside0 (kq ≤ k2) ∧ Aside0 (Below w.heap.size w w'))
        case atStart => exact ⟨(x3_2), (0), zz5, zz5, H', ⟨Nat.le_refl _⟩, ⟨(zz2 HB)⟩⟩
        case round =>
         clear H';obtain ⟨x3_3, x6_3, rfl, rfl, HA, HK3, HB⟩ := hrel;cases gk with
         | zero => exact absurd HA.out (by simp [spec_NoticeText.l2])
         | succ k3 =>
          obtain ⟨H⟩ := HA;simp only [spec_NoticeText.l2] at H
          replace H := iteNd H;obtain ⟨c14b0, H⟩ := H;replace H := iteNd H;obtain ⟨c15b0, H⟩ := H;replace H := iteEd H;rcases H with ⟨c16b0, H⟩ | ⟨c16b0, H⟩
          ·replace H := iteNd H
           obtain ⟨c17b0, H⟩ := H;obtain ⟨bq18, hbq18⟩ : ∃ b_ : Bool, b_ = ((rd_T83 ((rd_T81 l0 x4_1).f1) x6_3).f0) := ⟨_, rfl⟩;rw [← hbq18] at H;have Nbq18 := A_ hbq18;clear hbq18;replace H := iteB H;rcases H with ⟨rfl, H⟩ | ⟨rfl, H⟩
           ·replace H := iteN H
            obtain ⟨c20, H⟩ := H;have c20b0 := eq_true c20;have c20b1 := dT c20;try have c20b2 : (9223372036854775807 < x3_3.size + 4) = False := eq_false (Nat.not_lt.2 c20)
            replace H := iteN H;obtain ⟨c21, H⟩ := H;have c21b0 := eq_true c21;have c21b1 := dT c21;try have c21b2 : (9223372036854775807 < x3_3.size + 4 + ((rd_T83 ((rd_T81 l0 x4_1).f1) x6_3).f1).size) = False := eq_false (Nat.not_lt.2 c21)
            replace H := iteN H;obtain ⟨c22, H⟩ := H;have c22b0 := eq_true c22;have c22b1 := dT c22;try have c22b2 : (9223372036854775807 < x3_3.size + 4 + ((rd_T83 ((rd_T81 l0 x4_1).f1) x6_3).f1).size + 1) = False := eq_false (Nat.not_lt.2 c22)
            have H' := A_ H;clear H;obtain ⟨⟨ad136, A136_0, c136_0, A136_1, c136_1, e136, hx136_0, hx136_1, hx136_2, hl136_0, hi136_0, hl136_1, hi136_1⟩, p136, q136⟩ := atB (at_T81 HR0.out x4_1);obtain rfl : ad133 = ad136 := (by injection e136);obtain ⟨hx136_0, hx136_1, hx136_2⟩ := cb3 HB hx136_0 hx136_1 hx136_2;have HR136_0 := A_ hi136_0;have HC136_0 := A_ hl136_0;clear hi136_0 hl136_0;have HR136_1 := A_ hi136_1;have HC136_1 := A_ hl136_1;clear hi136_1 hl136_1;obtain ⟨⟨ad137, A137_0, c137_0, A137_1, c137_1, e137, hx137_0, hx137_1, hx137_2, hl137_0, hi137_0, hl137_1, hi137_1⟩, p137, q137⟩ := atB (at_T81 HR0.out x4_1);obtain rfl : ad133 = ad137 := (by injection e137);obtain ⟨hx137_0, hx137_1, hx137_2⟩ := cb3 HB hx137_0 hx137_1 hx137_2;have HR137_0 := A_ hi137_0;have HC137_0 := A_ hl137_0;clear hi137_0 hl137_0;have HR137_1 := A_ hi137_1;have HC137_1 := A_ hl137_1;clear hi137_1 hl137_1;have ea_ := sI (hx136_0.symm.trans hx137_0);injection ea_ with ea_ en_ ec_
            subst ea_;subst ec_;clear en_;have ea_ := sI (hx136_1.symm.trans hx137_1);injection ea_ with ea_ en_ ec_
            subst ea_;subst ec_;clear en_;obtain ⟨⟨ad138, e138, hx138_0, hx138_1⟩, p138, q138⟩ := atB (at_T83 HR137_1.out x6_3);(try rw [← Nbq18.out] at hx138_0)
            cases e138
            obtain ⟨hx138_0, hx138_1⟩ := cb2 HB hx138_0 hx138_1;obtain ⟨⟨ad139, A139_0, c139_0, A139_1, c139_1, e139, hx139_0, hx139_1, hx139_2, hl139_0, hi139_0, hl139_1, hi139_1⟩, p139, q139⟩ := atB (at_T81 HR0.out x4_1);obtain rfl : ad133 = ad139 := (by injection e139);obtain ⟨hx139_0, hx139_1, hx139_2⟩ := cb3 HB hx139_0 hx139_1 hx139_2;have HR139_0 := A_ hi139_0;have HC139_0 := A_ hl139_0;clear hi139_0 hl139_0;have HR139_1 := A_ hi139_1;have HC139_1 := A_ hl139_1;clear hi139_1 hl139_1;have ea_ := sI (hx136_0.symm.trans hx139_0);injection ea_ with ea_ en_ ec_
            subst ea_;subst ec_;clear en_;have ea_ := sI (hx136_1.symm.trans hx139_1);injection ea_ with ea_ en_ ec_
            subst ea_;subst ec_;clear en_;obtain ⟨⟨ad140, e140, hx140_0, hx140_1⟩, p140, q140⟩ := atB (at_T83 HR139_1.out x6_3);(try rw [← Nbq18.out] at hx140_0)
            cases e140
            obtain ⟨hx140_0, hx140_1⟩ := cb2 HB hx140_0 hx140_1;go_wp2
            go_roundg k3
            case measure => have := HK1.out; have := HK2.out; have := HK3.out; omega
            case rel => exact ⟨(((x3_3 ++ (⟨#[108, 101, 116, 32]⟩ : ByteArray)) ++ ((rd_T83 ((rd_T81 l0 x4_1).f1) x6_3).f1)) ++ (⟨#[10]⟩ : ByteArray)), (wrap64 (x6_3 + 1)), zz5, zz5, H', ⟨(zz30 HK1 HK2 HK3)⟩, ⟨(zz2 HB)⟩⟩
           ·replace H := iteN H
            obtain ⟨c23, H⟩ := H;have c23b0 := eq_true c23;have c23b1 := dT c23;try have c23b2 : (9223372036854775807 < x3_3.size + 4) = False := eq_false (Nat.not_lt.2 c23)
            replace H := iteN H;obtain ⟨c24, H⟩ := H;have c24b0 := eq_true c24;have c24b1 := dT c24;try have c24b2 : (9223372036854775807 < x3_3.size + 4 + ((rd_T83 ((rd_T81 l0 x4_1).f1) x6_3).f1).size) = False := eq_false (Nat.not_lt.2 c24)
            replace H := iteN H;obtain ⟨c25, H⟩ := H;have c25b0 := eq_true c25;have c25b1 := dT c25;try have c25b2 : (9223372036854775807 < x3_3.size + 4 + ((rd_T83 ((rd_T81 l0 x4_1).f1) x6_3).f1).size + 1) = False := eq_false (Nat.not_lt.2 c25)
            have H' := A_ H;clear H;obtain ⟨⟨ad136, A136_0, c136_0, A136_1, c136_1, e136, hx136_0, hx136_1, hx136_2, hl136_0, hi136_0, hl136_1, hi136_1⟩, p136, q136⟩ := atB (at_T81 HR0.out x4_1);obtain rfl : ad133 = ad136 := (by injection e136);obtain ⟨hx136_0, hx136_1, hx136_2⟩ := cb3 HB hx136_0 hx136_1 hx136_2;have HR136_0 := A_ hi136_0;have HC136_0 := A_ hl136_0;clear hi136_0 hl136_0;have HR136_1 := A_ hi136_1;have HC136_1 := A_ hl136_1;clear hi136_1 hl136_1;obtain ⟨⟨ad137, A137_0, c137_0, A137_1, c137_1, e137, hx137_0, hx137_1, hx137_2, hl137_0, hi137_0, hl137_1, hi137_1⟩, p137, q137⟩ := atB (at_T81 HR0.out x4_1);obtain rfl : ad133 = ad137 := (by injection e137);obtain ⟨hx137_0, hx137_1, hx137_2⟩ := cb3 HB hx137_0 hx137_1 hx137_2;have HR137_0 := A_ hi137_0;have HC137_0 := A_ hl137_0;clear hi137_0 hl137_0;have HR137_1 := A_ hi137_1;have HC137_1 := A_ hl137_1;clear hi137_1 hl137_1;have ea_ := sI (hx136_0.symm.trans hx137_0);injection ea_ with ea_ en_ ec_
            subst ea_;subst ec_;clear en_;have ea_ := sI (hx136_1.symm.trans hx137_1);injection ea_ with ea_ en_ ec_
            subst ea_;subst ec_;clear en_;obtain ⟨⟨ad138, e138, hx138_0, hx138_1⟩, p138, q138⟩ := atB (at_T83 HR137_1.out x6_3);(try rw [← Nbq18.out] at hx138_0)
            cases e138
            obtain ⟨hx138_0, hx138_1⟩ := cb2 HB hx138_0 hx138_1;obtain ⟨⟨ad141, A141_0, c141_0, A141_1, c141_1, e141, hx141_0, hx141_1, hx141_2, hl141_0, hi141_0, hl141_1, hi141_1⟩, p141, q141⟩ := atB (at_T81 HR0.out x4_1);obtain rfl : ad133 = ad141 := (by injection e141);obtain ⟨hx141_0, hx141_1, hx141_2⟩ := cb3 HB hx141_0 hx141_1 hx141_2;have HR141_0 := A_ hi141_0;have HC141_0 := A_ hl141_0;clear hi141_0 hl141_0;have HR141_1 := A_ hi141_1;have HC141_1 := A_ hl141_1;clear hi141_1 hl141_1;have ea_ := sI (hx136_0.symm.trans hx141_0);injection ea_ with ea_ en_ ec_
            subst ea_;subst ec_;clear en_;have ea_ := sI (hx136_1.symm.trans hx141_1);injection ea_ with ea_ en_ ec_
            subst ea_;subst ec_;clear en_;obtain ⟨⟨ad142, e142, hx142_0, hx142_1⟩, p142, q142⟩ := atB (at_T83 HR141_1.out x6_3);(try rw [← Nbq18.out] at hx142_0)
            cases e142
            obtain ⟨hx142_0, hx142_1⟩ := cb2 HB hx142_0 hx142_1;go_wp2
            go_roundg k3
            case measure => have := HK1.out; have := HK2.out; have := HK3.out; omega
            case rel => exact ⟨(((x3_3 ++ (⟨#[98, 97, 114, 32]⟩ : ByteArray)) ++ ((rd_T83 ((rd_T81 l0 x4_1).f1) x6_3).f1)) ++ (⟨#[10]⟩ : ByteArray)), (wrap64 (x6_3 + 1)), zz5, zz5, H', ⟨(zz30 HK1 HK2 HK3)⟩, ⟨(zz2 HB)⟩⟩
          ·replace H := iteEg H
           rcases H with ⟨c26b0, H⟩ | ⟨c26b0, H⟩
           ·replace H := iteN H
            obtain ⟨c27, H⟩ := H;have c27b0 := eq_true c27;have c27b1 := dT c27;try have c27b2 : (9223372036854775807 < x3_3.size + 5) = False := eq_false (Nat.not_lt.2 c27)
            replace H := bindA H;obtain ⟨t145, A28, H⟩ := H;replace H := iteN H;obtain ⟨c29, H⟩ := H;have c29b0 := eq_true c29;have c29b1 := dT c29;try have c29b2 : (9223372036854775807 < x3_3.size + 5 + t145.size) = False := eq_false (Nat.not_lt.2 c29)
            replace H := iteN H;obtain ⟨c30, H⟩ := H;have c30b0 := eq_true c30;have c30b1 := dT c30;try have c30b2 : (9223372036854775807 < x3_3.size + 5 + t145.size + 1) = False := eq_false (Nat.not_lt.2 c30)
            have H' := A_ H;clear H;obtain ⟨⟨ad136, A136_0, c136_0, A136_1, c136_1, e136, hx136_0, hx136_1, hx136_2, hl136_0, hi136_0, hl136_1, hi136_1⟩, p136, q136⟩ := atB (at_T81 HR0.out x4_1);obtain rfl : ad133 = ad136 := (by injection e136);obtain ⟨hx136_0, hx136_1, hx136_2⟩ := cb3 HB hx136_0 hx136_1 hx136_2;have HR136_0 := A_ hi136_0;have HC136_0 := A_ hl136_0;clear hi136_0 hl136_0;have HR136_1 := A_ hi136_1;have HC136_1 := A_ hl136_1;clear hi136_1 hl136_1;obtain ⟨⟨ad143, A143_0, c143_0, A143_1, c143_1, e143, hx143_0, hx143_1, hx143_2, hl143_0, hi143_0, hl143_1, hi143_1⟩, p143, q143⟩ := atB (at_T81 HR0.out x4_1);obtain rfl : ad133 = ad143 := (by injection e143);obtain ⟨hx143_0, hx143_1, hx143_2⟩ := cb3 HB hx143_0 hx143_1 hx143_2;have HR143_0 := A_ hi143_0;have HC143_0 := A_ hl143_0;clear hi143_0 hl143_0;have HR143_1 := A_ hi143_1;have HC143_1 := A_ hl143_1;clear hi143_1 hl143_1;have ea_ := sI (hx136_0.symm.trans hx143_0);injection ea_ with ea_ en_ ec_
            subst ea_;subst ec_;clear en_;have ea_ := sI (hx136_1.symm.trans hx143_1);injection ea_ with ea_ en_ ec_
            subst ea_;subst ec_;clear en_;obtain ⟨⟨ad144, A144_0, c144_0, A144_1, c144_1, e144, hx144_0, hx144_1, hx144_2, hl144_0, hi144_0, hl144_1, hi144_1⟩, p144, q144⟩ := atB (at_T81 HR0.out x4_1);obtain rfl : ad133 = ad144 := (by injection e144);obtain ⟨hx144_0, hx144_1, hx144_2⟩ := cb3 HB hx144_0 hx144_1 hx144_2;have HR144_0 := A_ hi144_0;have HC144_0 := A_ hl144_0;clear hi144_0 hl144_0;have HR144_1 := A_ hi144_1;have HC144_1 := A_ hl144_1;clear hi144_1 hl144_1;have ea_ := sI (hx136_0.symm.trans hx144_0);injection ea_ with ea_ en_ ec_
            subst ea_;subst ec_;clear en_;have ea_ := sI (hx136_1.symm.trans hx144_1);injection ea_ with ea_ en_ ec_
            subst ea_;subst ec_;clear en_;go_wp2_with (first | ((with_reducible refine gC (f := 21) rfl ?_); refine gsL (some 85) Tryd.func21 #[.int .i64 ((rd_T81 l0 x4_1).f2)] ?_; (with_reducible refine mR (spec_l6Dec.calls k3 ((rd_T81 l0 x4_1).f2) t145 _ A28.out) ?_); rintro w31 hb; replace HB := A_ (bS (zz2 HB) hb); (try clear hb)))
            go_roundg k3
            case measure => have := HK1.out; have := HK2.out; have := HK3.out; omega
            case rel => exact ⟨(((x3_3 ++ (⟨#[119, 97, 105, 116, 32]⟩ : ByteArray)) ++ t145) ++ (⟨#[10]⟩ : ByteArray)), (wrap64 (x4_1 + 1)), zz5, zz5, H', ⟨(zz30 HK1 HK2 HK3)⟩, ⟨(zz2 HB)⟩⟩
           ·have H' := A_ H
            clear H;obtain ⟨⟨ad136, A136_0, c136_0, A136_1, c136_1, e136, hx136_0, hx136_1, hx136_2, hl136_0, hi136_0, hl136_1, hi136_1⟩, p136, q136⟩ := atB (at_T81 HR0.out x4_1);obtain rfl : ad133 = ad136 := (by injection e136);obtain ⟨hx136_0, hx136_1, hx136_2⟩ := cb3 HB hx136_0 hx136_1 hx136_2;have HR136_0 := A_ hi136_0;have HC136_0 := A_ hl136_0;clear hi136_0 hl136_0;have HR136_1 := A_ hi136_1;have HC136_1 := A_ hl136_1;clear hi136_1 hl136_1;obtain ⟨⟨ad143, A143_0, c143_0, A143_1, c143_1, e143, hx143_0, hx143_1, hx143_2, hl143_0, hi143_0, hl143_1, hi143_1⟩, p143, q143⟩ := atB (at_T81 HR0.out x4_1);obtain rfl : ad133 = ad143 := (by injection e143);obtain ⟨hx143_0, hx143_1, hx143_2⟩ := cb3 HB hx143_0 hx143_1 hx143_2;have HR143_0 := A_ hi143_0;have HC143_0 := A_ hl143_0;clear hi143_0 hl143_0;have HR143_1 := A_ hi143_1;have HC143_1 := A_ hl143_1;clear hi143_1 hl143_1;have ea_ := sI (hx136_0.symm.trans hx143_0);injection ea_ with ea_ en_ ec_
            subst ea_;subst ec_;clear en_;have ea_ := sI (hx136_1.symm.trans hx143_1);injection ea_ with ea_ en_ ec_
            subst ea_;subst ec_;clear en_;go_wp2
            go_roundg k3
            case measure => have := HK1.out; have := HK2.out; have := HK3.out; omega
            case rel => exact ⟨(x3_3), (wrap64 (x4_1 + 1)), zz5, zz5, H', ⟨(zz30 HK1 HK2 HK3)⟩, ⟨(zz2 HB)⟩⟩
    ·(first | rw [c6b0] | (simp only [i64_w, i32_w]; rw [c6b0]) | skip)
     obtain rfl := sI H;go_wp2
     go_ret
     exact ⟨zz11, (zz2 HB)⟩
 ·obtain rfl := sI H
  go_wp2
  go_ret
  exact ⟨zz11, (zz2 HB)⟩
def spec_l71Rule.f (k : Nat) (s0_0 : List Int) (s0_1 : Int) : Option (ByteArray × Int) := (spec_l6Rd_of.f k s0_0 s0_1 (([(⟨#[47]⟩ : ByteArray), (⟨#[47, 97]⟩ : ByteArray), (⟨#[47, 98]⟩ : ByteArray), (⟨#[47, 97, 47]⟩ : ByteArray), (⟨#[47, 42, 98]⟩ : ByteArray), (⟨#[47, 97, 36]⟩ : ByteArray), (⟨#[47, 99]⟩ : ByteArray), (⟨#[47, 42, 63]⟩ : ByteArray), (⟨#[47, 97, 47, 98]⟩ : ByteArray), (⟨#[47, 42, 47, 98, 36]⟩ : ByteArray), (⟨#[47, 36]⟩ : ByteArray), (⟨#[47, 98, 42, 99]⟩ : ByteArray), (⟨#[47, 110, 111, 116, 105, 99, 101]⟩ : ByteArray), (⟨#[47, 42]⟩ : ByteArray)] : List ByteArray))).bind fun bt149 => (some (bt149.1, bt149.2))
theorem spec_l71Rule.calls (k : Nat) (g : Nat) (s0_0 : List Int) (s0_1 : Int) (r1 : ByteArray) (r2 : Int) (w0 w : World) (hI : IsS50 w0 w g s0_0 s0_1) (hB : Below w0.heap.size w0 w) (h : spec_l71Rule.f k s0_0 s0_1 = some (r1, r2)) :
  Calls Tryd.prog 80 #[.pointer (some ⟨g, 0, none⟩)] w fun e w' => e = .returned (.string r1) ∧ IsS50 w0 w' g s0_0 r2 ∧ Below w0.heap.size w0 w' ∧ KeepBut w w' g none := by
 have HI0 := A_ hI;have HK := A_ (KeepBut.refl w g none);have HL := A_ hB.size;clear hI;have HW0 := A_ hB.size;have HB := A_ hB;clear hB;unfold spec_l71Rule.f at h
 have H := h;clear h;obtain ⟨y146, Ny146⟩ := toY (([(⟨#[47]⟩ : ByteArray), (⟨#[47, 97]⟩ : ByteArray), (⟨#[47, 98]⟩ : ByteArray), (⟨#[47, 97, 47]⟩ : ByteArray), (⟨#[47, 42, 98]⟩ : ByteArray), (⟨#[47, 97, 36]⟩ : ByteArray), (⟨#[47, 99]⟩ : ByteArray), (⟨#[47, 42, 63]⟩ : ByteArray), (⟨#[47, 97, 47, 98]⟩ : ByteArray), (⟨#[47, 42, 47, 98, 36]⟩ : ByteArray), (⟨#[47, 36]⟩ : ByteArray), (⟨#[47, 98, 42, 99]⟩ : ByteArray), (⟨#[47, 110, 111, 116, 105, 99, 101]⟩ : ByteArray), (⟨#[47, 42]⟩ : ByteArray)] : List ByteArray));(first | with_reducible replace H := bindZ Ny146 H | rw [← Ny146.out] at H | skip)
 replace H := bindA H;obtain ⟨⟨t149, t150⟩, A2, H⟩ := H;try dsimp only at H
 simp only [Option.some.injEq, Prod.mk.injEq] at H
 obtain ⟨rfl, rfl⟩ := H;go_enter Tryd.func80, Tryd.ntmps80;go_wp2_with (first | ((with_reducible refine gD (N := 4) rfl ?_); refine Kd.R_lit Kd.string _ 9 ?hg (N := 4) ?hd (xs := ([(⟨#[47]⟩ : ByteArray), (⟨#[47, 97]⟩ : ByteArray), (⟨#[47, 98]⟩ : ByteArray), (⟨#[47, 97, 47]⟩ : ByteArray), (⟨#[47, 42, 98]⟩ : ByteArray), (⟨#[47, 97, 36]⟩ : ByteArray), (⟨#[47, 99]⟩ : ByteArray), (⟨#[47, 42, 63]⟩ : ByteArray), (⟨#[47, 97, 47, 98]⟩ : ByteArray), (⟨#[47, 42, 47, 98, 36]⟩ : ByteArray), (⟨#[47, 36]⟩ : ByteArray), (⟨#[47, 98, 42, 99]⟩ : ByteArray), (⟨#[47, 110, 111, 116, 105, 99, 101]⟩ : ByteArray), (⟨#[47, 42]⟩ : ByteArray)] : List ByteArray)) (inner := [.string (⟨#[47]⟩ : ByteArray), .string (⟨#[47, 97]⟩ : ByteArray), .string (⟨#[47, 98]⟩ : ByteArray), .string (⟨#[47, 97, 47]⟩ : ByteArray), .string (⟨#[47, 42, 98]⟩ : ByteArray), .string (⟨#[47, 97, 36]⟩ : ByteArray), .string (⟨#[47, 99]⟩ : ByteArray), .string (⟨#[47, 42, 63]⟩ : ByteArray), .string (⟨#[47, 97, 47, 98]⟩ : ByteArray), .string (⟨#[47, 42, 47, 98, 36]⟩ : ByteArray), .string (⟨#[47, 36]⟩ : ByteArray), .string (⟨#[47, 98, 42, 99]⟩ : ByteArray), .string (⟨#[47, 110, 111, 116, 105, 99, 101]⟩ : ByteArray), .string (⟨#[47, 42]⟩ : ByteArray)]) (ok := fun _ => True) (okp := fun _ => True) ?hr ?hp (fun _ hk => hk) trivial (Below.refl _ _) (Nat.le_refl _) (by simp) ?_; (case hd => rfl); (case hg => rfl); (case hr => exact zz16); (case hp => exact (Reps.one (show Kd.M Kd.string _ _ _ (⟨#[47]⟩ : ByteArray) [.string (⟨#[47]⟩ : ByteArray)] from rfl) (Reps.one (show Kd.M Kd.string _ _ _ (⟨#[47, 97]⟩ : ByteArray) [.string (⟨#[47, 97]⟩ : ByteArray)] from rfl) (Reps.one (show Kd.M Kd.string _ _ _ (⟨#[47, 98]⟩ : ByteArray) [.string (⟨#[47, 98]⟩ : ByteArray)] from rfl) (Reps.one (show Kd.M Kd.string _ _ _ (⟨#[47, 97, 47]⟩ : ByteArray) [.string (⟨#[47, 97, 47]⟩ : ByteArray)] from rfl) (Reps.one (show Kd.M Kd.string _ _ _ (⟨#[47, 42, 98]⟩ : ByteArray) [.string (⟨#[47, 42, 98]⟩ : ByteArray)] from rfl) (Reps.one (show Kd.M Kd.string _ _ _ (⟨#[47, 97, 36]⟩ : ByteArray) [.string (⟨#[47, 97, 36]⟩ : ByteArray)] from rfl) (Reps.one (show Kd.M Kd.string _ _ _ (⟨#[47, 99]⟩ : ByteArray) [.string (⟨#[47, 99]⟩ : ByteArray)] from rfl) (Reps.one (show Kd.M Kd.string _ _ _ (⟨#[47, 42, 63]⟩ : ByteArray) [.string (⟨#[47, 42, 63]⟩ : ByteArray)] from rfl) (Reps.one (show Kd.M Kd.string _ _ _ (⟨#[47, 97, 47, 98]⟩ : ByteArray) [.string (⟨#[47, 97, 47, 98]⟩ : ByteArray)] from rfl) (Reps.one (show Kd.M Kd.string _ _ _ (⟨#[47, 42, 47, 98, 36]⟩ : ByteArray) [.string (⟨#[47, 42, 47, 98, 36]⟩ : ByteArray)] from rfl) (Reps.one (show Kd.M Kd.string _ _ _ (⟨#[47, 36]⟩ : ByteArray) [.string (⟨#[47, 36]⟩ : ByteArray)] from rfl) (Reps.one (show Kd.M Kd.string _ _ _ (⟨#[47, 98, 42, 99]⟩ : ByteArray) [.string (⟨#[47, 98, 42, 99]⟩ : ByteArray)] from rfl) (Reps.one (show Kd.M Kd.string _ _ _ (⟨#[47, 110, 111, 116, 105, 99, 101]⟩ : ByteArray) [.string (⟨#[47, 110, 111, 116, 105, 99, 101]⟩ : ByteArray)] from rfl) (Reps.one (show Kd.M Kd.string _ _ _ (⟨#[47, 42]⟩ : ByteArray) [.string (⟨#[47, 42]⟩ : ByteArray)] from rfl) (Reps.none _ _)))))))))))))))); intro v147 w3 ho4 hb hg_ hnew_; clear hg_ hnew_; (first | rw [← Ny146.out] at ho4 | (simp only [Int.reduceToNat] at ho4; rw [← Ny146.out] at ho4)); have HO148 := A_ (Kd.R_lower ho4 (keep_size (w := w) (g := g) (row := none) (zz8 HK))); replace HK := A_ (KeepBut.trans (zz8 HK) (KeepBut.of_below hb g none) (.inl rfl)); replace HB := A_ (bS (zz9 HB HI0) hb); replace HI0 := A_ (IsS50.below (zz7 HI0) hb); clear hb ho4; obtain ⟨Ao5, co5, eo5⟩ := Kd.R_slice HO148.out; subst eo5) | ((with_reducible refine gC (f := 12) rfl ?_); refine gsL (some 5) Tryd.func12 #[.pointer (some ⟨g, 0, none⟩), .slice Ao5 y146.length co5] ?_; (with_reducible refine mR (spec_l6Rd_of.calls k g s0_0 s0_1 _ _ y146 t149 t150 w0 _ ?side1 ?side2 ?side3 ?side4 ?side5 A2.out) ?_); (case side1 => exact (zz7 HI0)); (case side2 => exact (zz9 HB HI0)); (case side3 => exact (zz37 HO148)); (case side4 => exact (Kd.R_reads' HO148.out).2.1); (case side5 => exact far_slice (IsS50.own_ne HI0.out HO148.out (by decide))); rintro w6 ⟨hi, hb, hk⟩; replace HO148 := A_ (Kd.R_mono (Kd.R_keep (IsS50.apart (show IsS50 w0 _ g s0_0 s0_1 from (zz7 HI0)) (zz18 HO148) (by decide)) hk (fun _ h => h.2)) (fun _ h => h.1)); replace HK := A_ (KeepBut.trans (zz8 HK) hk (.inl rfl)); replace HB := A_ (hb); replace HI0 := A_ (hi); (try clear hb hk hi)))
 go_ret
 exact ⟨zz11, (zz7 HI0), (zz9 HB HI0), (zz8 HK)⟩
def spec_l71Rules.l0 : Nat → List (S83) → Int → List Int → Int → Option ((List (S83)) × Int)
 | 0, _, _, _, _ => none
 | k + 1, x3, x4, x1000, x1001 => if x4 > 0 then ((spec_l6Rd_pick.f k x1000 x1001 2).bind fun bt156 => ((spec_l71Rule.f k x1000 bt156.2).bind fun bt158 => (if x3.length < 5864062014805 then (spec_l71Rules.l0 k (x3 ++ [(⟨(bt156.1 == 0), bt158.1⟩ : S83)]) (wrap64 (x4 - 1)) x1000 bt158.2) else (none)))) else (some (x3, x1001))
def spec_l71Rules.f (k : Nat) (s0_0 : List Int) (s0_1 : Int) : Option ((List (S83)) × Int) := (spec_l6Rd_pick.f k s0_0 s0_1 5).bind fun bt154 => (spec_l71Rules.l0 k (([] : List (S83))) bt154.1 s0_0 bt154.2)
theorem spec_l71Rules.calls (k : Nat) (g : Nat) (s0_0 : List Int) (s0_1 : Int) (r1 : List (S83)) (r2 : Int) (w0 w : World) (hI : IsS50 w0 w g s0_0 s0_1) (hB : Below w0.heap.size w0 w) (h : spec_l71Rules.f k s0_0 s0_1 = some (r1, r2)) :
  Calls Tryd.prog 57 #[.pointer (some ⟨g, 0, none⟩)] w fun e w' => ∃ v0_ : Value, e = .returned (v0_) ∧ Kd.R k83 83 w' w.heap.size (fun _ => True) v0_ r1 ∧ IsS50 w0 w' g s0_0 r2 ∧ Below w0.heap.size w0 w' ∧ KeepBut w w' g none := by
 have hu83 := Tryd.underlying83;have HI0 := A_ hI;have HK := A_ (KeepBut.refl w g none);have HL := A_ hB.size;clear hI;have HW0 := A_ hB.size;have HB := A_ hB;clear hB;unfold spec_l71Rules.f at h
 have H := h;clear h;obtain ⟨y151, Ny151⟩ := toY (([] : List (S83)));(first | with_reducible replace H := bindZ Ny151 H | rw [← Ny151.out] at H | skip)
 replace H := bindA H;obtain ⟨⟨t154, t155⟩, A2, H⟩ := H;try dsimp only at H
 have H' := A_ H;clear H;go_enter Tryd.func57, Tryd.ntmps57;go_wp2_with (first | ((with_reducible refine gD (N := 5) rfl ?_); refine Kd.R_lit k83 _ 83 ?hg (N := 5) ?hd (xs := ([] : List (S83))) (inner := []) (ok := fun _ => True) (okp := fun _ => True) ?hr ?hp (fun _ hk => hk) trivial (Below.refl _ _) (Nat.le_refl _) (by simp) ?_; (case hd => rfl); (case hg => rfl); (case hr => exact zz16); (case hp => exact (Reps.none _ _)); intro v152 w3 ho4 hb hg_ hnew_; clear hg_ hnew_; (first | rw [← Ny151.out] at ho4 | (simp only [Int.reduceToNat] at ho4; rw [← Ny151.out] at ho4)); have HO153 := A_ (Kd.R_lower ho4 (keep_size (w := w) (g := g) (row := none) (zz8 HK))); replace HK := A_ (KeepBut.trans (zz8 HK) (KeepBut.of_below hb g none) (.inl rfl)); replace HB := A_ (bS (zz9 HB HI0) hb); replace HI0 := A_ (IsS50.below (zz7 HI0) hb); clear hb ho4) | ((with_reducible refine gC (f := 11) rfl ?_); refine gsL (some 7) Tryd.func11 #[.pointer (some ⟨g, 0, none⟩), .int .i64 5] ?_; (with_reducible refine mR (spec_l6Rd_pick.calls k g s0_0 s0_1 5 t154 t155 w0 _ ?side1 ?side2 A2.out) ?_); (case side1 => exact (zz7 HI0)); (case side2 => exact (zz9 HB HI0)); rintro w5 ⟨hi, hb, hk⟩; replace HO153 := A_ (Kd.R_mono (Kd.R_keep (IsS50.apart (show IsS50 w0 _ g s0_0 s0_1 from (zz7 HI0)) (zz18 HO153) (by decide)) hk (fun _ h => h.2)) (fun _ h => h.1)); replace HK := A_ (KeepBut.trans (zz8 HK) hk (.inl rfl)); replace HB := A_ (hb); replace HI0 := A_ (hi); (try clear hb hk hi)))
 go_loopg [3, 4] k (fun kq v3 v4 w' => ∃ (x3_1 : List (S83)) (x4_1 : Int) (x1001_1 : Int), v4 = .int .i64 x4_1 ∧ Aside0 (spec_l71Rules.l0 kq x3_1 x4_1 s0_0 x1001_1 = some (r1, r2)) ∧ Aside0 (kq ≤ k) ∧ Aside0 (Kd.R k83 83 w' w.heap.size (fun _ => True) v3 x3_1) ∧ Aside0 (IsS50 w0 w' g s0_0 x1001_1) ∧ Aside0 (KeepBut w w' g none) ∧ Aside0 (Below w0.heap.size w0 w'))
 case atStart => exact ⟨(y151), (t154), (t155), zz5, H', ⟨Nat.le_refl _⟩, ⟨(zz18 HO153)⟩, ⟨(zz7 HI0)⟩, ⟨(zz8 HK)⟩, ⟨(zz9 HB HI0)⟩⟩
 case round =>
  clear H';obtain ⟨x3_1, x4_1, x1001_1, rfl, HA, HK1, HO_3, HI0, HK, HB⟩ := hrel;cases gk with
  | zero => exact absurd HA.out (by simp [spec_l71Rules.l0])
  | succ k1 =>
   obtain ⟨H⟩ := HA;simp only [spec_l71Rules.l0] at H
   replace H := iteEg H;rcases H with ⟨c6b0, H⟩ | ⟨c6b0, H⟩
   ·replace H := Option.bind_eq_some_iff.mp H
    obtain ⟨⟨t156, t157⟩, A70, H⟩ := H;replace H : ((spec_l71Rule.f k1 s0_0 t157).bind fun bt158 => (if x3_1.length < 5864062014805 then (spec_l71Rules.l0 k1 (x3_1 ++ [(⟨(t156 == 0), bt158.1⟩ : S83)]) (wrap64 (x4_1 - 1)) s0_0 bt158.2) else (none))) = some (r1, r2) := H;have A7 := A_ A70;clear A70;replace H := bindA H;obtain ⟨⟨t158, t159⟩, A8, H⟩ := H;try dsimp only at H
    replace H := iteN H;obtain ⟨c9, H⟩ := H;have LMc9 := A_ c9;clear c9;obtain ⟨y160, Ny160⟩ := toY (x3_1 ++ [(⟨(t156 == 0), t158⟩ : S83)]);(first | with_reducible replace H := bindZ Ny160 H | rw [← Ny160.out] at H | skip)
    have H' := A_ H;clear H;go_wp2_with (first | ((with_reducible refine gC (f := 11) rfl ?_); refine gsL (some 14) Tryd.func11 #[.pointer (some ⟨g, 0, none⟩), .int .i64 2] ?_; (with_reducible refine mR (spec_l6Rd_pick.calls k1 g s0_0 x1001_1 2 t156 t157 w0 _ ?side1 ?side2 A7.out) ?_); (case side1 => exact (zz7 HI0)); (case side2 => exact (zz9 HB HI0)); rintro w10 ⟨hi, hb, hk⟩; replace HO_3 := A_ (Kd.R_mono (Kd.R_keep (IsS50.apart (show IsS50 w0 _ g s0_0 x1001_1 from (zz7 HI0)) (zz18 HO_3) (by decide)) hk (fun _ h => h.2)) (fun _ h => h.1)); replace HK := A_ (KeepBut.trans (zz8 HK) hk (.inl rfl)); replace HB := A_ (hb); replace HI0 := A_ (hi); (try clear hb hk hi)) | ((with_reducible refine gC (f := 80) rfl ?_); refine gsL (some 17) Tryd.func80 #[.pointer (some ⟨g, 0, none⟩)] ?_; (with_reducible refine mR (spec_l71Rule.calls k1 g s0_0 t157 t158 t159 w0 _ ?side1 ?side2 A8.out) ?_); (case side1 => exact (zz7 HI0)); (case side2 => exact (zz9 HB HI0)); rintro w11 ⟨hi, hb, hk⟩; replace HO_3 := A_ (Kd.R_mono (Kd.R_keep (IsS50.apart (show IsS50 w0 _ g s0_0 t157 from (zz7 HI0)) (zz18 HO_3) (by decide)) hk (fun _ h => h.2)) (fun _ h => h.1)); replace HK := A_ (KeepBut.trans (zz8 HK) hk (.inl rfl)); replace HB := A_ (hb); replace HI0 := A_ (hi); (try clear hb hk hi)) | ((with_reducible refine gate_builtin (b := .append) (xs := #[.tmp 12, .tmp 19]) rfl ?_); at_builtin; refine Kd.R_append k83 w.heap.size rfl (.tmp 12) (.tmp 19) 79 83 (.agg #[(.bool false), (.string ⟨#[]⟩)]) 24 rfl Tryd.underlying79 info83 rfl (by decide) (by omega) u3 x3_1 (⟨(t156 == 0), t158⟩ : S83) [.bool (t156 == 0), .string t158] (fun _ => True) (fun _ => False) rfl rfl ?aP (fun _ hk => hk.elim) ?aF ?aO (Below.refl _ _) ?aS ?aL ?_; (case aP => exact k83_mkM _ _ _ (⟨(t156 == 0), t158⟩ : S83)); (case aF => exact (fun _ _ => trivial)); (case aO => exact (zz18 HO_3)); (case aS => exact (keep_size (w := w) (g := g) (row := none) (zz8 HK))); (case aL => exact (zz21 LMc9)); intro v161 w12 ho hb hg hat; rw [← Ny160.out] at ho; replace HB := A_ (below_weaken (zz9 HB HI0) HL.out hb); replace HI0 := A_ (IsS50.grown (zz7 HI0) hg (IsS50.own_ne HI0.out HO_3.out (by decide))); replace HK := A_ (KeepBut.trans (zz8 HK) (KeepBut.of_grown hg g) (Kd.R_base2 HO_3.out)); have HO162 := A_ (ho); clear HO_3; clear ho hb hg hat))
    go_roundg k1
    case measure => have := HK1.out; omega
    case rel => exact ⟨(y160), (wrap64 (x4_1 - 1)), (t159), zz5, H', ⟨(zz21 HK1)⟩, ⟨(zz18 HO162)⟩, ⟨(zz7 HI0)⟩, ⟨(zz8 HK)⟩, ⟨(zz9 HB HI0)⟩⟩
   ·simp only [Option.some.injEq, Prod.mk.injEq] at H
    obtain ⟨rfl, rfl⟩ := H;go_wp2
    go_ret
    exact ⟨_, zz11, (zz18 HO_3), (zz7 HI0), (zz9 HB HI0), (zz8 HK)⟩
def spec_l71Groups.l0 : Nat → List (S81) → Int → List Int → Int → Option ((List (S81)) × Int)
 | 0, _, _, _, _ => none
 | k + 1, x3, x4, x1000, x1001 => if x4 > 0 then ((spec_l6Rd_of.f k x1000 x1001 (([(⟨#[42]⟩ : ByteArray), (⟨#[114, 111, 118, 101, 114]⟩ : ByteArray), (⟨#[115, 99, 111, 117, 116]⟩ : ByteArray)] : List ByteArray))).bind fun bt171 => ((some (([bt171.1] : List ByteArray) : List ByteArray)).bind fun y173 => ((spec_l71Rules.f k x1000 bt171.2).bind fun bt176 => ((spec_l6Rd_pick.f k x1000 bt176.2 4).bind fun bt180 => ((spec_l6Rd_pick.f k x1000 bt180.2 3).bind fun bt182 => ((spec_l6Rd_pick.f k x1000 bt182.2 4).bind fun bt185 => (if bt185.1 = 0 then ((spec_l6Rd_of.f k x1000 bt185.2 (([(⟨#[42]⟩ : ByteArray), (⟨#[114, 111, 118, 101, 114]⟩ : ByteArray), (⟨#[120]⟩ : ByteArray)] : List ByteArray))).bind fun bt190 => (if y173.length < 8796093022208 then ((some (y173 ++ [bt190.1] : List ByteArray)).bind fun y192 => (if (bt176.1.length : Int) > 0 then (if x3.length < 2513169434916 then (spec_l71Groups.l0 k (x3 ++ [(⟨y192, bt176.1, wrap64 (bt180.1 * bt182.1)⟩ : S81)]) (wrap64 (x4 - 1)) x1000 bt190.2) else (none)) else (if (wrap64 (bt180.1 * bt182.1)) > 0 then (if x3.length < 2513169434916 then (spec_l71Groups.l0 k (x3 ++ [(⟨y192, bt176.1, wrap64 (bt180.1 * bt182.1)⟩ : S81)]) (wrap64 (x4 - 1)) x1000 bt190.2) else (none)) else (spec_l71Groups.l0 k x3 (wrap64 (x4 - 1)) x1000 bt190.2)))) else (none))) else (if (bt176.1.length : Int) > 0 then (if x3.length < 2513169434916 then (spec_l71Groups.l0 k (x3 ++ [(⟨y173, bt176.1, wrap64 (bt180.1 * bt182.1)⟩ : S81)]) (wrap64 (x4 - 1)) x1000 bt185.2) else (none)) else (if (wrap64 (bt180.1 * bt182.1)) > 0 then (if x3.length < 2513169434916 then (spec_l71Groups.l0 k (x3 ++ [(⟨y173, bt176.1, wrap64 (bt180.1 * bt182.1)⟩ : S81)]) (wrap64 (x4 - 1)) x1000 bt185.2) else (none)) else (spec_l71Groups.l0 k x3 (wrap64 (x4 - 1)) x1000 bt185.2)))))))))) else ((spec_l6Rd_pick.f k x1000 x1001 24).bind fun bt207 => (if bt207.1 = 0 then (if x3.length < 2513169434916 then (some ((x3 ++ [(⟨(([(⟨#[120]⟩ : ByteArray)] : List ByteArray)), ([] : List (S83)), 0⟩ : S81)]), bt207.2)) else (none)) else (if bt207.1 = 1 then (if x3.length < 2513169434916 then (some ((x3 ++ [(⟨([] : List ByteArray), ([] : List (S83)), 2⟩ : S81)]), bt207.2)) else (none)) else (if bt207.1 = 2 then (if x3.length < 2513169434916 then (some ((x3 ++ [(⟨(([(⟨#[88]⟩ : ByteArray)] : List ByteArray)), ([] : List (S83)), 2⟩ : S81)]), bt207.2)) else (none)) else (some (x3, bt207.2))))))
def spec_l71Groups.f (k : Nat) (s0_0 : List Int) (s0_1 : Int) : Option ((List (S81)) × Int) := (spec_l6Rd_pick.f k s0_0 s0_1 4).bind fun bt166 => (spec_l71Groups.l0 k (([] : List (S81))) bt166.1 s0_0 bt166.2)
def spec_l71Groups.T7 : Bool × List (List Nat × List Nat) := (true, [([], []), ([0], [0]), ([], []), ([], []), ([2, 3], [2, 3]), ([4], [4]), ([1, 5, 4], [1, 5]), ([0, 1, 2, 3, 4, 5, 6], []), ([7, 6, 6, 0, 1, 2, 3, 4, 5, 6], [6, 7])])
def spec_l71Groups.B7 : List Nat := [0, 1, 0, 0, 12, 28, 63, 127, 255]
theorem spec_l71Groups.tab7 : rtab .any (opsOf Tryd.f35 7) = spec_l71Groups.T7 := by kernel_rfl
theorem spec_l71Groups.bits7 : waitsOk spec_l71Groups.T7.2 spec_l71Groups.B7 = true := by kernel_rfl
theorem spec_l71Groups.calls (k : Nat) (g : Nat) (s0_0 : List Int) (s0_1 : Int) (r1 : List (S81)) (r2 : Int) (w0 w : World) (hI : IsS50 w0 w g s0_0 s0_1) (hB : Below w0.heap.size w0 w) (h : spec_l71Groups.f k s0_0 s0_1 = some (r1, r2)) :
  Calls Tryd.prog 35 #[.pointer (some ⟨g, 0, none⟩)] w fun e w' => ∃ v0_ : Value, e = .returned (v0_) ∧ Kd.S k81 81 w' w.heap.size (fun _ => True) v0_ r1 ∧ IsS50 w0 w' g s0_0 r2 ∧ Below w0.heap.size w0 w' ∧ KeepBut w w' g none := by
 have hu81 := Tryd.underlying81;have HI0 := A_ hI;have HK := A_ (KeepBut.refl w g none);have HL := A_ hB.size;clear hI;have HW0 := A_ hB.size;have HB := A_ hB;clear hB;unfold spec_l71Groups.f at h
 have H := h;clear h;obtain ⟨y163, Ny163⟩ := toY (([] : List (S81)));(first | with_reducible replace H := bindZ Ny163 H | rw [← Ny163.out] at H | skip)
 replace H := bindA H;obtain ⟨⟨t166, t167⟩, A2, H⟩ := H;try dsimp only at H
 have H' := A_ H;clear H;go_enter Tryd.func35, Tryd.ntmps35;go_wp2_with (first | ((with_reducible refine gD (N := 6) rfl ?_); refine Kd.S_lit k81 _ 81 ?hg (N := 6) ?hd (xs := ([] : List (S81))) (inner := []) (ok := fun _ => True) (okp := fun _ => True) ?hr ?hp (fun _ hk => hk) trivial (Below.refl _ _) (Nat.le_refl _) (by simp) ?_; (case hd => rfl); (case hg => rfl); (case hr => exact zz16); (case hp => exact (Reps.none _ _)); intro v164 w3 ho4 hb hg_ hnew_; clear hg_ hnew_; (first | rw [← Ny163.out] at ho4 | (simp only [Int.reduceToNat] at ho4; rw [← Ny163.out] at ho4)); have HO165 := A_ (Kd.S_lower ho4 (keep_size (w := w) (g := g) (row := none) (zz8 HK))); replace HK := A_ (KeepBut.trans (zz8 HK) (KeepBut.of_below hb g none) (.inl rfl)); replace HB := A_ (bS (zz9 HB HI0) hb); replace HI0 := A_ (IsS50.below (zz7 HI0) hb); clear hb ho4) | ((with_reducible refine gC (f := 11) rfl ?_); refine gsL (some 8) Tryd.func11 #[.pointer (some ⟨g, 0, none⟩), .int .i64 4] ?_; (with_reducible refine mR (spec_l6Rd_pick.calls k g s0_0 s0_1 4 t166 t167 w0 _ ?side1 ?side2 A2.out) ?_); (case side1 => exact (zz7 HI0)); (case side2 => exact (zz9 HB HI0)); rintro w5 ⟨hi, hb, hk⟩; replace HO165 := A_ (Kd.S_mono (Kd.S_keep (IsS50.apartS (show IsS50 w0 _ g s0_0 s0_1 from (zz7 HI0)) (zz39 HO165) (by decide)) hk (fun _ h => h.2)) (fun _ h => h.1)); replace HK := A_ (KeepBut.trans (zz8 HK) hk (.inl rfl)); replace HB := A_ (hb); replace HI0 := A_ (hi); (try clear hb hk hi)))
 go_loopg [3, 4] k (fun kq v3 v4 w' => ∃ (x3_1 : List (S81)) (x4_1 : Int) (x1001_1 : Int), v4 = .int .i64 x4_1 ∧ Aside0 (spec_l71Groups.l0 kq x3_1 x4_1 s0_0 x1001_1 = some (r1, r2)) ∧ Aside0 (kq ≤ k) ∧ Aside0 (Kd.S k81 81 w' w.heap.size (fun _ => True) v3 x3_1) ∧ Aside0 (IsS50 w0 w' g s0_0 x1001_1) ∧ Aside0 (KeepBut w w' g none) ∧ Aside0 (Below w0.heap.size w0 w'))
 case atStart => exact ⟨(y163), (t166), (t167), zz5, H', ⟨Nat.le_refl _⟩, ⟨(zz39 HO165)⟩, ⟨(zz7 HI0)⟩, ⟨(zz8 HK)⟩, ⟨(zz9 HB HI0)⟩⟩
 case round =>
  clear H';obtain ⟨x3_1, x4_1, x1001_1, rfl, HA, HK1, HO_3, HI0, HK, HB⟩ := hrel;cases gk with
  | zero => exact absurd HA.out (by simp [spec_l71Groups.l0])
  | succ k1 =>
   obtain ⟨H⟩ := HA;simp only [spec_l71Groups.l0] at H
   replace H := iteEg H;rcases H with ⟨c6b0, H⟩ | ⟨c6b0, H⟩
   ·obtain ⟨y168, hy168⟩ : ∃ y_ : List ByteArray, y_ = (([(⟨#[42]⟩ : ByteArray), (⟨#[114, 111, 118, 101, 114]⟩ : ByteArray), (⟨#[115, 99, 111, 117, 116]⟩ : ByteArray)] : List ByteArray)) := ⟨_, rfl⟩
    replace H : ((spec_l6Rd_of.f k1 s0_0 x1001_1 y168).bind fun bt171 => ((some (([bt171.1] : List ByteArray) : List ByteArray)).bind fun y173 => ((spec_l71Rules.f k1 s0_0 bt171.2).bind fun bt176 => ((spec_l6Rd_pick.f k1 s0_0 bt176.2 4).bind fun bt180 => ((spec_l6Rd_pick.f k1 s0_0 bt180.2 3).bind fun bt182 => ((spec_l6Rd_pick.f k1 s0_0 bt182.2 4).bind fun bt185 => (if bt185.1 = 0 then ((spec_l6Rd_of.f k1 s0_0 bt185.2 (([(⟨#[42]⟩ : ByteArray), (⟨#[114, 111, 118, 101, 114]⟩ : ByteArray), (⟨#[120]⟩ : ByteArray)] : List ByteArray))).bind fun bt190 => (if y173.length < 8796093022208 then ((some (y173 ++ [bt190.1] : List ByteArray)).bind fun y192 => (if (bt176.1.length : Int) > 0 then (if x3_1.length < 2513169434916 then (spec_l71Groups.l0 k1 (x3_1 ++ [(⟨y192, bt176.1, wrap64 (bt180.1 * bt182.1)⟩ : S81)]) (wrap64 (x4_1 - 1)) s0_0 bt190.2) else (none)) else (if (wrap64 (bt180.1 * bt182.1)) > 0 then (if x3_1.length < 2513169434916 then (spec_l71Groups.l0 k1 (x3_1 ++ [(⟨y192, bt176.1, wrap64 (bt180.1 * bt182.1)⟩ : S81)]) (wrap64 (x4_1 - 1)) s0_0 bt190.2) else (none)) else (spec_l71Groups.l0 k1 x3_1 (wrap64 (x4_1 - 1)) s0_0 bt190.2)))) else (none))) else (if (bt176.1.length : Int) > 0 then (if x3_1.length < 2513169434916 then (spec_l71Groups.l0 k1 (x3_1 ++ [(⟨y173, bt176.1, wrap64 (bt180.1 * bt182.1)⟩ : S81)]) (wrap64 (x4_1 - 1)) s0_0 bt185.2) else (none)) else (if (wrap64 (bt180.1 * bt182.1)) > 0 then (if x3_1.length < 2513169434916 then (spec_l71Groups.l0 k1 (x3_1 ++ [(⟨y173, bt176.1, wrap64 (bt180.1 * bt182.1)⟩ : S81)]) (wrap64 (x4_1 - 1)) s0_0 bt185.2) else (none)) else (spec_l71Groups.l0 k1 x3_1 (wrap64 (x4_1 - 1)) s0_0 bt185.2)))))))))) = some (r1, r2) := by first | (rw [hy168]; with_reducible exact H) | (have H2_ := (Option.bind_some _ _).symm.trans H; rw [hy168]; with_reducible exact H2_) | (have H2_ := (Option.bind_some _ _).symm.trans H; with_reducible exact H2_) | with_reducible exact H | (rw [hy168]; exact H) | exact H
    have Ny168 := A_ hy168;clear hy168;replace H := bindA H;obtain ⟨⟨t171, t172⟩, A7, H⟩ := H;try dsimp only at H
    obtain ⟨y173, Ny173⟩ := toY (([t171] : List ByteArray));(first | with_reducible replace H := bindZ Ny173 H | rw [← Ny173.out] at H | skip)
    replace H := bindA H;obtain ⟨⟨t176, t179⟩, A8, H⟩ := H;try dsimp only at H
    replace H := bindA H;obtain ⟨⟨t180, t181⟩, A9, H⟩ := H;try dsimp only at H
    replace H := bindA H;obtain ⟨⟨t182, t183⟩, A10, H⟩ := H;try dsimp only at H
    replace H := bindA H;obtain ⟨⟨t185, t186⟩, A11, H⟩ := H;try dsimp only at H
    have HF12 := A_ H;clear H;go_upto_if 27 with (first | ((with_reducible refine gD (N := 14) rfl ?_); refine Kd.R_lit Kd.string _ 9 ?hg (N := 14) ?hd (xs := ([(⟨#[42]⟩ : ByteArray), (⟨#[114, 111, 118, 101, 114]⟩ : ByteArray), (⟨#[115, 99, 111, 117, 116]⟩ : ByteArray)] : List ByteArray)) (inner := [.string (⟨#[42]⟩ : ByteArray), .string (⟨#[114, 111, 118, 101, 114]⟩ : ByteArray), .string (⟨#[115, 99, 111, 117, 116]⟩ : ByteArray)]) (ok := fun _ => True) (okp := fun _ => True) ?hr ?hp (fun _ hk => hk) trivial (Below.refl _ _) (Nat.le_refl _) (by simp) ?_; (case hd => rfl); (case hg => rfl); (case hr => exact zz16); (case hp => exact (Reps.one (show Kd.M Kd.string _ _ _ (⟨#[42]⟩ : ByteArray) [.string (⟨#[42]⟩ : ByteArray)] from rfl) (Reps.one (show Kd.M Kd.string _ _ _ (⟨#[114, 111, 118, 101, 114]⟩ : ByteArray) [.string (⟨#[114, 111, 118, 101, 114]⟩ : ByteArray)] from rfl) (Reps.one (show Kd.M Kd.string _ _ _ (⟨#[115, 99, 111, 117, 116]⟩ : ByteArray) [.string (⟨#[115, 99, 111, 117, 116]⟩ : ByteArray)] from rfl) (Reps.none _ _))))); intro v169 w13 ho14 hb hg_ hnew_; clear hg_ hnew_; (first | rw [← Ny168.out] at ho14 | (simp only [Int.reduceToNat] at ho14; rw [← Ny168.out] at ho14)); replace HO_3 := A_ (Kd.S_elder' (zz39 HO_3) (Kd.R_base ho14) hb); have HO170 := A_ (Kd.R_lower ho14 (keep_size (w := w) (g := g) (row := none) (zz8 HK))); replace HK := A_ (KeepBut.trans (zz8 HK) (KeepBut.of_below hb g none) (.inl rfl)); replace HB := A_ (bS (zz9 HB HI0) hb); replace HI0 := A_ (IsS50.below (zz7 HI0) hb); clear hb ho14; obtain ⟨Ao15, co15, eo15⟩ := Kd.R_slice HO170.out; subst eo15) | ((with_reducible refine gC (f := 12) rfl ?_); refine gsL (some 15) Tryd.func12 #[.pointer (some ⟨g, 0, none⟩), .slice Ao15 y168.length co15] ?_; (with_reducible refine mR (spec_l6Rd_of.calls k1 g s0_0 x1001_1 _ _ y168 t171 t172 w0 _ ?side1 ?side2 ?side3 ?side4 ?side5 A7.out) ?_); (case side1 => exact (zz7 HI0)); (case side2 => exact (zz9 HB HI0)); (case side3 => exact (zz37 HO170)); (case side4 => exact (Kd.R_reads' HO170.out).2.1); (case side5 => exact far_slice (IsS50.own_ne HI0.out HO170.out (by decide))); rintro w16 ⟨hi, hb, hk⟩; replace HO_3 := A_ (Kd.S_mono (Kd.S_keep (IsS50.apartS (show IsS50 w0 _ g s0_0 x1001_1 from (zz7 HI0)) (zz39 HO_3) (by decide)) hk (fun _ h => h.2)) (fun _ h => h.1)); replace HO170 := A_ (Kd.R_mono (Kd.R_keep (IsS50.apart (show IsS50 w0 _ g s0_0 x1001_1 from (zz7 HI0)) (zz18 HO170) (by decide)) hk (fun _ h => h.2)) (fun _ h => h.1)); replace HK := A_ (KeepBut.trans (zz8 HK) hk (.inl rfl)); replace HB := A_ (hb); replace HI0 := A_ (hi); (try clear hb hk hi)) | ((with_reducible refine gD (N := 16) rfl ?_); refine Kd.R_lit Kd.string _ 9 ?hg (N := 16) ?hd (xs := ([t171] : List ByteArray)) (inner := [.string t171]) (ok := fun _ => True) (okp := fun _ => True) ?hr ?hp (fun _ hk => hk) trivial (Below.refl _ _) (Nat.le_refl _) (by simp) ?_; (case hd => rfl); (case hg => rfl); (case hr => exact zz16); (case hp => exact (Reps.one (show Kd.M Kd.string _ _ _ t171 [.string t171] from rfl) (Reps.none _ _))); intro v174 w17 ho18 hb hg_ hnew_; clear hg_ hnew_; (first | rw [← Ny173.out] at ho18 | (simp only [Int.reduceToNat] at ho18; rw [← Ny173.out] at ho18)); replace HO_3 := A_ (Kd.S_elder' (zz39 HO_3) (Kd.R_base ho18) hb); have HO175 := A_ (Kd.R_lower (Kd.R_new' ho18 (Kd.R_lt (zz18 HO170))) (keep_size (w := w) (g := g) (row := none) (zz8 HK))); replace HO170 := A_ (Kd.R_elder' (zz18 HO170) (Kd.R_base ho18) hb); replace HK := A_ (KeepBut.trans (zz8 HK) (KeepBut.of_below hb g none) (.inl rfl)); replace HB := A_ (bS (zz9 HB HI0) hb); replace HI0 := A_ (IsS50.below (zz7 HI0) hb); clear hb ho18) | ((with_reducible refine gC (f := 57) rfl ?_); refine gsL (some 18) Tryd.func57 #[.pointer (some ⟨g, 0, none⟩)] ?_; (with_reducible refine mV (spec_l71Rules.calls k1 g s0_0 t172 t176 t179 w0 _ ?side1 ?side2 A8.out) ?_); (case side1 => exact (zz7 HI0)); (case side2 => exact (zz9 HB HI0)); rintro v177 w19 ⟨ho0, hi, hb, hk⟩; replace HO_3 := A_ (Kd.S_mono (Kd.S_told (Kd.S_oldK (IsS50.apartS (show IsS50 w0 _ g s0_0 t172 from (zz7 HI0)) (zz39 HO_3) (by decide)) hk) (Kd.R_base ho0)) (fun _ h_ => h_.1)); replace HO170 := A_ (Kd.R_mono (Kd.R_keep (IsS50.apart (show IsS50 w0 _ g s0_0 t172 from (zz7 HI0)) (zz18 HO170) (by decide)) hk (fun _ h => h.2)) (fun _ h => h.1)); replace HO175 := A_ (Kd.R_mono (Kd.R_keep (IsS50.apart (show IsS50 w0 _ g s0_0 t172 from (zz7 HI0)) (zz18 HO175) (by decide)) hk (fun _ h => h.2)) (fun _ h => h.1)); have HO178 := A_ (Kd.R_lower ho0 (keep_size (w := w) (g := g) (row := none) (zz8 HK))); replace HK := A_ (KeepBut.trans (zz8 HK) hk (.inl rfl)); replace HB := A_ (hb); replace HI0 := A_ (hi); (try clear hb hk hi ho0)) | ((with_reducible refine gC (f := 11) rfl ?_); refine gsL (some 20) Tryd.func11 #[.pointer (some ⟨g, 0, none⟩), .int .i64 4] ?_; (with_reducible refine mR (spec_l6Rd_pick.calls k1 g s0_0 t179 4 t180 t181 w0 _ ?side1 ?side2 A9.out) ?_); (case side1 => exact (zz7 HI0)); (case side2 => exact (zz9 HB HI0)); rintro w20 ⟨hi, hb, hk⟩; replace HO_3 := A_ (Kd.S_mono (Kd.S_keep (IsS50.apartS (show IsS50 w0 _ g s0_0 t179 from (zz7 HI0)) (zz39 HO_3) (by decide)) hk (fun _ h => h.2)) (fun _ h => h.1)); replace HO170 := A_ (Kd.R_mono (Kd.R_keep (IsS50.apart (show IsS50 w0 _ g s0_0 t179 from (zz7 HI0)) (zz18 HO170) (by decide)) hk (fun _ h => h.2)) (fun _ h => h.1)); replace HO175 := A_ (Kd.R_mono (Kd.R_keep (IsS50.apart (show IsS50 w0 _ g s0_0 t179 from (zz7 HI0)) (zz18 HO175) (by decide)) hk (fun _ h => h.2)) (fun _ h => h.1)); replace HO178 := A_ (Kd.R_mono (Kd.R_keep (IsS50.apart (show IsS50 w0 _ g s0_0 t179 from (zz7 HI0)) (zz18 HO178) (by decide)) hk (fun _ h => h.2)) (fun _ h => h.1)); replace HK := A_ (KeepBut.trans (zz8 HK) hk (.inl rfl)); replace HB := A_ (hb); replace HI0 := A_ (hi); (try clear hb hk hi)) | ((with_reducible refine gC (f := 11) rfl ?_); refine gsL (some 22) Tryd.func11 #[.pointer (some ⟨g, 0, none⟩), .int .i64 3] ?_; (with_reducible refine mR (spec_l6Rd_pick.calls k1 g s0_0 t181 3 t182 t183 w0 _ ?side1 ?side2 A10.out) ?_); (case side1 => exact (zz7 HI0)); (case side2 => exact (zz9 HB HI0)); rintro w21 ⟨hi, hb, hk⟩; replace HO_3 := A_ (Kd.S_mono (Kd.S_keep (IsS50.apartS (show IsS50 w0 _ g s0_0 t181 from (zz7 HI0)) (zz39 HO_3) (by decide)) hk (fun _ h => h.2)) (fun _ h => h.1)); replace HO170 := A_ (Kd.R_mono (Kd.R_keep (IsS50.apart (show IsS50 w0 _ g s0_0 t181 from (zz7 HI0)) (zz18 HO170) (by decide)) hk (fun _ h => h.2)) (fun _ h => h.1)); replace HO175 := A_ (Kd.R_mono (Kd.R_keep (IsS50.apart (show IsS50 w0 _ g s0_0 t181 from (zz7 HI0)) (zz18 HO175) (by decide)) hk (fun _ h => h.2)) (fun _ h => h.1)); replace HO178 := A_ (Kd.R_mono (Kd.R_keep (IsS50.apart (show IsS50 w0 _ g s0_0 t181 from (zz7 HI0)) (zz18 HO178) (by decide)) hk (fun _ h => h.2)) (fun _ h => h.1)); replace HK := A_ (KeepBut.trans (zz8 HK) hk (.inl rfl)); replace HB := A_ (hb); replace HI0 := A_ (hi); (try clear hb hk hi); obtain ⟨Ao22, co22, eo22⟩ := Kd.R_slice HO178.out; subst eo22; obtain ⟨Ao23, co23, eo23⟩ := Kd.R_slice HO175.out; subst eo23) | ((with_reducible refine gD (N := 5) rfl ?_); refine boxE 5 #[.slice none 0 0, .slice none 0 0, .int .i64 0] 81 ?_; intro gb184 hg w24 hbox hb; replace HO_3 := A_ (Kd.S_below (Kd.S_elderB (zz39 HO_3) gb184 (Nat.le_of_eq hg.symm)) hb); replace HO170 := A_ (rB (zz18 HO170) hb); replace HO175 := A_ (rB (zz18 HO175) hb); replace HO178 := A_ (rB (zz18 HO178) hb); replace HB := A_ (bS (zz9 HB HI0) hb); have BK184 := A_ (hbox); have GW184 := A_ ((by rw [hg]; exact (keep_size (w := w) (g := g) (row := none) (zz8 HK)) : w.heap.size ≤ gb184)); have GE184 := A_ ((Nat.le_trans HW0.out (by rw [hg]; exact (keep_size (w := w) (g := g) (row := none) (zz8 HK)) : w.heap.size ≤ gb184) : w0.heap.size ≤ gb184)); replace HK := A_ (KeepBut.trans (zz8 HK) (KeepBut.of_below hb g none) (.inl rfl)); have NB0_184 := A_ ((by rw [hg]; exact Nat.ne_of_lt (IsS50.lt (show IsS50 w0 _ g s0_0 t183 from (zz7 HI0))) : g ≠ gb184)); have NB184_0 := A_ ((by rw [hg]; exact Nat.ne_of_gt (IsS50.lt (show IsS50 w0 _ g s0_0 t183 from (zz7 HI0))) : gb184 ≠ g)); replace HI0 := A_ (IsS50.below (zz7 HI0) hb); clear hb hbox hg; have hnb25 := NB184_0.out; have hnc25 := NB0_184.out; obtain ⟨_, _, _, _, _, _⟩ := cf3 BK184) | ((with_reducible refine gC (f := 11) rfl ?_); refine gsL (some 26) Tryd.func11 #[.pointer (some ⟨g, 0, none⟩), .int .i64 4] ?_; (with_reducible refine mR (spec_l6Rd_pick.calls k1 g s0_0 t183 4 t185 t186 w0 _ ?side1 ?side2 A11.out) ?_); (case side1 => exact (zz41 HI0 NB0_184)); (case side2 => exact (zz42 HB HI0 GE184)); rintro w27 ⟨hi, hb, hk⟩; replace HO_3 := A_ (Kd.S_mono (Kd.S_keep (IsS50.apartS (show IsS50 w0 _ g s0_0 t183 from (zz41 HI0 NB0_184)) (by (with_reducible repeat (first | apply Kd.S_alloc | apply Kd.S_drewN | apply Kd.S_drew)); exact (Kd.S_mono (Kd.S_far (p := ⟨gb184, 2, none⟩) (Kd.S_far (p := ⟨gb184, 1, none⟩) (Kd.S_far (p := ⟨gb184, 0, none⟩) (Kd.S_mono HO_3.out (fun k_ hk => (⟨hk, hk.2⟩ : _ ∧ k_ ≠ gb184))) (fun _ hk => hk.2) (.slice Ao23 y173.length co23)) (fun _ hk => hk.2) (.slice Ao22 t176.length co22)) (fun _ hk => hk.2) (.int .i64 (wrap64 (t180 * t182)))) (fun _ h_ => h_.1))) (by decide)) hk (fun _ h => h.2)) (fun _ h => h.1)); replace HO170 := A_ (Kd.R_mono (Kd.R_keep (IsS50.apart (show IsS50 w0 _ g s0_0 t183 from (zz41 HI0 NB0_184)) (zz44 HO170 BK184) (by decide)) hk (fun _ h => h.2)) (fun _ h => h.1)); replace HO175 := A_ (Kd.R_mono (Kd.R_keep (IsS50.apart (show IsS50 w0 _ g s0_0 t183 from (zz41 HI0 NB0_184)) (zz44 HO175 BK184) (by decide)) hk (fun _ h => h.2)) (fun _ h => h.1)); replace HO178 := A_ (Kd.R_mono (Kd.R_keep (IsS50.apart (show IsS50 w0 _ g s0_0 t183 from (zz41 HI0 NB0_184)) (zz44 HO178 BK184) (by decide)) hk (fun _ h => h.2)) (fun _ h => h.1)); replace BK184 := A_ (KeepBut.blk hk (g' := gb184) (o := .cells #[.slice Ao23 y173.length co23, .slice Ao22 t176.length co22, .int .i64 (wrap64 (t180 * t182))] 81 (0, 0)) (zz27 BK184) NB184_0.out (by simp)); replace HK := A_ (KeepBut.trans (zz45 HK GW184) hk (.inl rfl)); replace HB := A_ (hb); replace HI0 := A_ (hi); (try clear hb hk hi)))
    obtain ⟨H⟩ := HF12;replace H := iteEq H;rcases H with ⟨c28b0, c28b1, H⟩ | ⟨c28b0, c28b1, c28, H⟩
    ·(first | rw [c28b0] | (simp only [i64_w, i32_w]; rw [c28b0]) | skip)
     obtain ⟨y187, Ny187⟩ := toY (([(⟨#[42]⟩ : ByteArray), (⟨#[114, 111, 118, 101, 114]⟩ : ByteArray), (⟨#[120]⟩ : ByteArray)] : List ByteArray));(first | with_reducible replace H := bindZ Ny187 H | rw [← Ny187.out] at H | skip)
     replace H := bindA H;obtain ⟨⟨t190, t191⟩, A29, H⟩ := H;try dsimp only at H
     replace H := iteN H;obtain ⟨c30, H⟩ := H;have LMc30 := A_ c30;clear c30;obtain ⟨y192, Ny192⟩ := toY (y173 ++ [t190]);(first | with_reducible replace H := bindZ Ny192 H | rw [← Ny192.out] at H | skip)
     have HF31 := A_ H;clear H;try go_wp2
     replace HO_3 := A_ (Kd.S_drew HO_3.out);replace HO170 := A_ (Kd.R_drew HO170.out);replace HO175 := A_ (Kd.R_drew HO175.out);replace HO178 := A_ (Kd.R_drew HO178.out);replace BK184 := A_ (blk_drew BK184.out);replace HI0 := A_ (IsS50.drew HI0.out);replace HK := A_ (keep_drew HK.out);replace HB := A_ (below_drew1 HB.out);refine start_ (n := 9) (S := fun w' => w'.cell? ⟨gb184, 0, none⟩ = some (.slice Ao23 y173.length co23) ∧ w'.cell? ⟨gb184, 1, none⟩ = some (.slice Ao22 t176.length co22) ∧ w'.cell? ⟨gb184, 2, none⟩ = some (.int .i64 (wrap64 (t180 * t182)))) (ds := [8]) #[false, false, false, false, false, false, false, false, false] (by kernel_rfl) rfl rfl ⟨(blk_cell BK184.out 0).trans rfl, (blk_cell BK184.out 1).trans rfl, (blk_cell BK184.out 2).trans rfl⟩ (fun hHeld => ?_); refine with_tabW spec_l71Groups.tab7 spec_l71Groups.bits7 (fun HT_ HW_ => ?_);generalize w27.drew = w32 at HO_3 HO170 HO175 HO178 BK184 HI0 HK HB hHeld ⊢;refine pureZ 0 (some 28) #[true, false, false, false, false, false, false, false, false] ?_;refine pureZ 2 (some 30) #[true, false, true, false, false, false, false, false, false] ?_;refine takeZ3 1 (some 29) #[true, true, true, false, false, false, false, false, false] hHeld ?_;refine one_ (i := 3) (N := some 31) #[true, true, true, true, false, false, false, false, false] rfl rfl (one_of HT_.out (by kernel_rfl)) (by decide) (fun K hK => ?_);refine Kd.R_lit_step Kd.string _ 9 ?hg (N := 31) ?hd (xs := ([(⟨#[42]⟩ : ByteArray), (⟨#[114, 111, 118, 101, 114]⟩ : ByteArray), (⟨#[120]⟩ : ByteArray)] : List ByteArray)) (inner := [.string (⟨#[42]⟩ : ByteArray), .string (⟨#[114, 111, 118, 101, 114]⟩ : ByteArray), .string (⟨#[120]⟩ : ByteArray)]) (ok := fun _ => True) (okp := fun _ => True) ?hr ?hp (fun _ hk => hk) trivial (Below.refl _ _) (Nat.le_refl _) (by simp) ?_; (case hd => rfl); (case hg => rfl); (case hr => exact zz16); (case hp => exact (Reps.one (show Kd.M Kd.string _ _ _ (⟨#[42]⟩ : ByteArray) [.string (⟨#[42]⟩ : ByteArray)] from rfl) (Reps.one (show Kd.M Kd.string _ _ _ (⟨#[114, 111, 118, 101, 114]⟩ : ByteArray) [.string (⟨#[114, 111, 118, 101, 114]⟩ : ByteArray)] from rfl) (Reps.one (show Kd.M Kd.string _ _ _ (⟨#[120]⟩ : ByteArray) [.string (⟨#[120]⟩ : ByteArray)] from rfl) (Reps.none _ _)))));intro v188 w33 ho34 hb hg_ hnew_;clear hg_ hnew_;(first | rw [← Ny187.out] at ho34 | (simp only [Int.reduceToNat] at ho34; rw [← Ny187.out] at ho34))
     replace HO_3 := A_ (Kd.S_elder' (zz39 HO_3) (Kd.R_base ho34) hb);replace HO178 := A_ (rB (zz18 HO178) hb);have HO189 := A_ (Kd.R_lower (Kd.R_new' (Kd.R_new' ho34 (Kd.R_lt (zz18 HO170))) (Kd.R_lt (zz18 HO175))) (keep_size (w := w) (g := g) (row := none) (zz45 HK GW184)));replace HO170 := A_ (Kd.R_elder' (zz18 HO170) (Kd.R_base ho34) hb);replace HO175 := A_ (Kd.R_elder' (zz18 HO175) (Kd.R_base ho34) hb);replace BK184 := A_ (bB (zz3 BK184) hb);replace HK := A_ (KeepBut.trans (zz45 HK GW184) (KeepBut.of_below hb g none) (.inl rfl));replace HB := A_ (bS (zz42 HB HI0 GE184) hb);replace HI0 := A_ (IsS50.below (zz41 HI0 NB0_184) hb);clear hb ho34;obtain ⟨Ao35, co35, eo35⟩ := Kd.R_slice HO189.out;(first | subst eo35 | (injection eo35 with f1_ f2_ f3_; have f4_ := f1_.symm; have f5_ := f3_.symm; clear f1_ f2_ f3_; subst f4_; subst f5_))
     refine hK.out _ _ ⟨(blk_cell BK184.out 0).trans rfl, (blk_cell BK184.out 1).trans rfl, (blk_cell BK184.out 2).trans rfl⟩ (fun hHeld => ?_);clear hK K;refine norm_ (a' := ?_) ?_ ?_;rotate_left
     ·show Act.put _ (some 31) _ = _
      simp only [Act.put, List.setIfInBounds_toArray, List.set_cons_zero, List.set_cons_succ, i64_w, i32_w]
      rfl
     refine one_ (i := 4) (N := some 32) #[true, true, true, true, true, false, false, false, false] rfl rfl (one_of HT_.out (by kernel_rfl)) (by decide) (fun K hK => ?_);refine goes_ Tryd.func12 (by kernel_rfl) rfl #[.pointer (some ⟨g, 0, none⟩), .slice Ao35 y187.length co35] (by rfl) rfl rfl zz17 ?_;with_reducible refine (spec_l6Rd_of.calls k1 g s0_0 t186 _ _ y187 t190 t191 w0 _ ?side1 ?side2 ?side3 ?side4 ?side5 A29.out).mono ?_
     (case side1 => exact (zz41 HI0 NB0_184))
     (case side2 => exact (zz42 HB HI0 GE184))
     (case side3 => exact (zz37 HO189))
     (case side4 => exact (Kd.R_reads' HO189.out).2.1)
     (case side5 => exact far_slice (IsS50.own_ne HI0.out HO189.out (by decide)))
     rintro e w36 ⟨rfl, hi, hb, hk⟩;refine ⟨_, rfl, ?_⟩;replace HO_3 := A_ (Kd.S_mono (Kd.S_keep (IsS50.apartS (show IsS50 w0 _ g s0_0 t186 from (zz41 HI0 NB0_184)) (zz39 HO_3) (by decide)) hk (fun _ h => h.2)) (fun _ h => h.1));replace HO170 := A_ (Kd.R_mono (Kd.R_keep (IsS50.apart (show IsS50 w0 _ g s0_0 t186 from (zz41 HI0 NB0_184)) (zz18 HO170) (by decide)) hk (fun _ h => h.2)) (fun _ h => h.1));replace HO175 := A_ (Kd.R_mono (Kd.R_keep (IsS50.apart (show IsS50 w0 _ g s0_0 t186 from (zz41 HI0 NB0_184)) (zz18 HO175) (by decide)) hk (fun _ h => h.2)) (fun _ h => h.1));replace HO178 := A_ (Kd.R_mono (Kd.R_keep (IsS50.apart (show IsS50 w0 _ g s0_0 t186 from (zz41 HI0 NB0_184)) (zz18 HO178) (by decide)) hk (fun _ h => h.2)) (fun _ h => h.1));replace BK184 := A_ (KeepBut.blk hk (g' := gb184) (o := .cells #[.slice Ao23 y173.length co23, .slice Ao22 t176.length co22, .int .i64 (wrap64 (t180 * t182))] 81 (0, 0)) (zz3 BK184) NB184_0.out (by simp));replace HO189 := A_ (Kd.R_mono (Kd.R_keep (IsS50.apart (show IsS50 w0 _ g s0_0 t186 from (zz41 HI0 NB0_184)) (zz18 HO189) (by decide)) hk (fun _ h => h.2)) (fun _ h => h.1));replace HK := A_ (KeepBut.trans (zz45 HK GW184) hk (.inl rfl));replace HB := A_ (hb);replace HI0 := A_ (hi);(try clear hb)
     (try clear hb2)
     (try clear hk)
     (try clear hi)
     refine hK.out _ _ ⟨(blk_cell BK184.out 0).trans rfl, (blk_cell BK184.out 1).trans rfl, (blk_cell BK184.out 2).trans rfl⟩ (fun hHeld => ?_);clear hK K;refine norm_ (a' := ?_) ?_ ?_;rotate_left
     ·show Act.put _ (some 32) _ = _
      simp only [Act.put, List.setIfInBounds_toArray, List.set_cons_zero, List.set_cons_succ, i64_w, i32_w]
      rfl
     refine one_ (i := 5) (N := some 33) #[true, true, true, true, true, true, false, false, false] rfl rfl (one_of HT_.out (by kernel_rfl)) (by decide) (fun K hK => ?_);refine value_ (w1 := ?_) (v := ?_) (by rfl) rfl ?_ ?_;rotate_left 2
     ·go_simp
      constructor
      ·rfl
      ·rfl
     refine hK.out _ _ ⟨(blk_cell (blk_alloc BK184.out _) 0).trans rfl, (blk_cell (blk_alloc BK184.out _) 1).trans rfl, (blk_cell (blk_alloc BK184.out _) 2).trans rfl⟩ (fun hHeld => ?_);clear hK K;refine norm_ (a' := ?_) ?_ ?_;rotate_left
     ·show Act.put _ (some 33) _ = _
      simp only [Act.put, List.setIfInBounds_toArray, List.set_cons_zero, List.set_cons_succ, i64_w, i32_w]
      rfl
     refine one_ (i := 6) (N := some 34) #[true, true, true, true, true, true, true, false, false] rfl rfl (one_of HT_.out (by kernel_rfl)) (by decide) (fun K hK => ?_);refine Kd.R_append_step Kd.string w.heap.size (by rfl) (.tmp 29) (.tmp 33) 26 9 (.string ⟨#[]⟩) 16 rfl Tryd.underlying26 info9 rfl (by decide) (by omega) (.slice Ao23 y173.length co23) y173 t190 [.string t190] (fun k_ => some k_ ≠ (.slice Ao15 y168.length co15 : Value).ownBlock ∧ some k_ ≠ (.slice Ao35 y187.length co35 : Value).ownBlock) (fun _ => False) rfl rfl ?aP (fun _ hk => hk.elim) ?aF ?aO (Below.refl _ _) ?aS ?aL ?_;(case aP => exact rfl)
     (case aF => exact (fun k_ hk => ⟨Kd.fresh' (Kd.R_lt (zz18 HO170)) k_ hk, Kd.fresh' (Kd.R_lt (zz18 HO189)) k_ hk⟩))
     (case aO => exact (zz46 HO175))
     (case aS => exact (keep_size (w := w) (g := g) (row := none) (zz45 HK GW184)))
     (case aL => exact (zz21 LMc30))
     intro v193 w37 ho hb hg hat;rw [← Ny192.out] at ho;replace HO_3 := A_ (Kd.S_after (ok := (fun k_ => some k_ ≠ (.slice Ao15 y168.length co15 : Value).ownBlock ∧ some k_ ≠ (.slice Ao22 t176.length co22 : Value).ownBlock ∧ some k_ ≠ (.slice Ao35 y187.length co35 : Value).ownBlock ∧ k_ ≠ gb184)) (by (with_reducible repeat (first | apply Kd.S_alloc | apply Kd.S_drewN | apply Kd.S_drew)); exact Kd.S_mono HO_3.out (fun _ hk => ⟨⟨hk.1.1.1.1.2, ⟨hk.1.1.2, ⟨hk.2, hk.1.2⟩⟩⟩, hk.1.1.1.2⟩)) hg hat);replace HO170 := A_ (Kd.R_after (ok := (fun k_ => some k_ ≠ (.slice Ao35 y187.length co35 : Value).ownBlock)) (by (with_reducible repeat (first | apply Kd.R_alloc | apply Kd.R_drewN | apply Kd.R_drew)); exact Kd.R_mono HO170.out (fun _ hk => ⟨hk.2, hk.1.2⟩)) hg hat);replace HO178 := A_ (Kd.R_over' (zz18 HO178) (Kd.R_typed (zz18 HO175)) (by decide) hg);replace BK184 := A_ (blk_grown (zz3 BK184) hg (Kd.R_ne HO175.out BK184.out (by decide)));replace HO189 := A_ (Kd.R_after (ok := (fun k_ => some k_ ≠ (.slice Ao15 y168.length co15 : Value).ownBlock)) (zz46 HO189) hg hat);replace HB := A_ (below_weaken (zz42 HB HI0 GE184) HL.out hb);replace HI0 := A_ (IsS50.grown (zz41 HI0 NB0_184) hg (IsS50.own_ne HI0.out HO175.out (by decide)));replace HK := A_ (KeepBut.trans (zz45 HK GW184) (KeepBut.of_grown hg g) (Kd.R_base2 HO175.out));have HO194 := A_ (ho);clear HO175;clear ho hb hg hat;obtain ⟨Ao38, co38, eo38⟩ := Kd.R_slice HO194.out;(first | subst eo38 | (injection eo38 with f1_ f2_ f3_; have f4_ := f1_.symm; have f5_ := f3_.symm; clear f1_ f2_ f3_; subst f4_; subst f5_))
     refine hK.out _ _ ⟨(blk_cell BK184.out 0).trans rfl, (blk_cell BK184.out 1).trans rfl, (blk_cell BK184.out 2).trans rfl⟩ (fun hHeld => ?_);clear hK K;refine norm_ (a' := ?_) ?_ ?_;rotate_left
     ·show Act.put _ (some 34) _ = _
      simp only [Act.put, List.setIfInBounds_toArray, List.set_cons_zero, List.set_cons_succ, i64_w, i32_w]
      rfl
     refine pureZ 7 (some 35) #[true, true, true, true, true, true, true, true, false] ?_;refine last_ (i := 8) (N := none) #[true, true, true, true, true, true, true, true, true] rfl rfl (one_of HT_.out (by kernel_rfl)) (by decide) (fun K hK => ?_);have hs39 : w37.cell? ⟨gb184, 0, none⟩ = some (.slice Ao23 y173.length co23) := (blk_cell BK184.out 0).trans rfl;have hfs39 := blk_frozen BK184.out 0;refine skip_ (w1 := ?_) (by rfl) rfl ?_ ?_;rotate_left
     ·go_simp
      rfl
     refine hK.out _ _ ?_;clear hK K;refine done_ (done_of HT_.out (by kernel_rfl)) ?_;have n0_ : Aside0 (Kd.S k81 81 (w37.setCell ⟨gb184, 0, none⟩ (.slice Ao38 y192.length co38)) w.heap.size (fun k_ => some k_ ≠ (.slice Ao15 y168.length co15 : Value).ownBlock ∧ some k_ ≠ (.slice Ao22 t176.length co22 : Value).ownBlock ∧ some k_ ≠ (.slice Ao35 y187.length co35 : Value).ownBlock ∧ some k_ ≠ (.slice Ao38 y192.length co38 : Value).ownBlock ∧ k_ ≠ gb184) u3 x3_1) := ⟨(by (with_reducible repeat (first | apply Kd.S_alloc | apply Kd.S_drewN | apply Kd.S_drew)); exact Kd.S_mono (Kd.S_far (p := ⟨gb184, 0, none⟩) (Kd.S_mono HO_3.out (fun k_ hk => (⟨hk, hk.1.2.2.2⟩ : _ ∧ k_ ≠ gb184))) (fun _ hk => hk.2) (.slice Ao38 y192.length co38)) (fun _ hk => ⟨hk.1.1.1, ⟨hk.1.1.2.1, ⟨hk.1.1.2.2.1, ⟨hk.1.2, hk.1.1.2.2.2⟩⟩⟩⟩))⟩;have n1_ : Aside0 (Kd.R Kd.string 9 (w37.setCell ⟨gb184, 0, none⟩ (.slice Ao38 y192.length co38)) w.heap.size (fun k_ => some k_ ≠ (.slice Ao35 y187.length co35 : Value).ownBlock ∧ some k_ ≠ (.slice Ao38 y192.length co38 : Value).ownBlock) (.slice Ao15 y168.length co15) y168) := ⟨(zz50 (rt HO170 BK184))⟩;have n2_ : Aside0 (Kd.R k83 83 (w37.setCell ⟨gb184, 0, none⟩ (.slice Ao38 y192.length co38)) w.heap.size (fun _ => True) (.slice Ao22 t176.length co22) t176) := ⟨(zz50 (rt HO178 BK184))⟩;have n3_ : Aside0 (Kd.R Kd.string 9 (w37.setCell ⟨gb184, 0, none⟩ (.slice Ao38 y192.length co38)) w.heap.size (fun k_ => some k_ ≠ (.slice Ao15 y168.length co15 : Value).ownBlock ∧ some k_ ≠ (.slice Ao38 y192.length co38 : Value).ownBlock) (.slice Ao35 y187.length co35) y187) := ⟨(zz50 (rt HO189 BK184))⟩;have n4_ : Aside0 (Kd.R Kd.string 9 (w37.setCell ⟨gb184, 0, none⟩ (.slice Ao38 y192.length co38)) w.heap.size (fun k_ => some k_ ≠ (.slice Ao15 y168.length co15 : Value).ownBlock ∧ some k_ ≠ (.slice Ao35 y187.length co35 : Value).ownBlock) (.slice Ao38 y192.length co38) y192) := ⟨(zz50 (rt HO194 BK184))⟩;have n5_ : Aside0 ((w37.setCell ⟨gb184, 0, none⟩ (.slice Ao38 y192.length co38)).heap[gb184]? = some (.cells #[.slice Ao38 y192.length co38, .slice Ao22 t176.length co22, .int .i64 (wrap64 (t180 * t182))] 81 (0, 0))) := ⟨(by first | ((repeat (first | (with_reducible first | exact BK184.out | refine blk_drewN ?_ _ | refine blk_drew ?_ | refine blk_alloc ?_ _ | apply blk_put) | exact BK184.out)); all_goals rfl; done) | (apply blk_put (i := 0); exact BK184.out; all_goals rfl))⟩;have n6_ : Aside0 (IsS50 w0 (w37.setCell ⟨gb184, 0, none⟩ (.slice Ao38 y192.length co38)) g s0_0 t191) := ⟨(zz41 HI0 NB0_184)⟩;have n7_ : Aside0 (KeepBut w (w37.setCell ⟨gb184, 0, none⟩ (.slice Ao38 y192.length co38)) g none) := ⟨(zz45 HK GW184)⟩;have n8_ : Aside0 (Below w0.heap.size w0 (w37.setCell ⟨gb184, 0, none⟩ (.slice Ao38 y192.length co38))) := ⟨(zz42 HB HI0 GE184)⟩;(try clear HO_3)
     (try clear HO170)
     (try clear HO178)
     (try clear HO189)
     (try clear HO194)
     (try clear BK184)
     (try clear HI0)
     (try clear HK)
     (try clear HB)
     generalize (w37.setCell ⟨gb184, 0, none⟩ (.slice Ao38 y192.length co38)) = w40 at n0_ n1_ n2_ n3_ n4_ n5_ n6_ n7_ n8_ ⊢;have HO_3 := n0_;have HO170 := n1_;have HO178 := n2_;have HO189 := n3_;have HO194 := n4_;have BK184 := n5_;have HI0 := n6_;have HK := n7_;have HB := n8_;clear n0_ n1_ n2_ n3_ n4_ n5_ n6_ n7_ n8_;have hnb41 := NB184_0.out;have hnc41 := NB0_184.out;obtain ⟨_, _, _, _, _, _⟩ := cf3 BK184;go_wp2_with (first | ((with_reducible refine atG ?_ ?_ fun K_ hK_ => ?_); rfl; exact undecG) | ((with_reducible refine atI ?_ fun K_ hK_ => ?_); exact undecI))
     refine unG hK_ ?_; clear hK_ K_;obtain ⟨H⟩ := HF31;replace H := iteE H;rcases H with ⟨c43, H⟩ | ⟨c43, H⟩
     ·have c43b0 := gtT c43
      have c43b1 : decide (0 < t176.length) = true := dT (by omega);(first | refine iteT ?_ | refine iteF ?_ | skip)
      clear c43;(first | rw [c43b0] | (simp only [i64_w, i32_w]; rw [c43b0]) | skip)
      replace H := iteN H;obtain ⟨c44, H⟩ := H;have LMc44 := A_ c44;clear c44;obtain ⟨y195, Ny195⟩ := toY (x3_1 ++ [(⟨y192, t176, wrap64 (t180 * t182)⟩ : S81)]);(first | with_reducible replace H := bindZ Ny195 H | rw [← Ny195.out] at H | skip)
      have H' := A_ H;clear H;have hnb45 := NB184_0.out;have hnc45 := NB0_184.out;obtain ⟨_, _, _, _, _, _⟩ := cf3 BK184;go_wp2_with (first | ((with_reducible refine gate_builtin (b := .append) (xs := #[.tmp 45, .tmp 47]) rfl ?_); at_builtin; refine Kd.S_append k81 w.heap.size rfl (.tmp 45) (.tmp 47) 60 81 (.agg #[(.slice none 0 0), (.slice none 0 0), (.int .i64 0)]) 56 rfl Tryd.underlying60 info81 rfl (by decide) (by omega) u3 x3_1 (⟨y192, t176, wrap64 (t180 * t182)⟩ : S81) [.slice Ao38 y192.length co38, .slice Ao22 t176.length co22, .int .i64 (wrap64 (t180 * t182))] (fun k_ => some k_ ≠ (.slice Ao15 y168.length co15 : Value).ownBlock ∧ some k_ ≠ (.slice Ao35 y187.length co35 : Value).ownBlock ∧ k_ ≠ gb184) (fun k_ => some k_ = (.slice Ao38 y192.length co38 : Value).ownBlock ∨ some k_ = (.slice Ao22 t176.length co22 : Value).ownBlock) rfl rfl ?aP (fun k_ hk_ => hk_.elim (fun h_ => ((Kd.R_mono (ok' := fun k_ => ((fun k_ => some k_ ≠ (.slice Ao15 y168.length co15 : Value).ownBlock ∧ some k_ ≠ (.slice Ao35 y187.length co35 : Value).ownBlock ∧ k_ ≠ gb184)) k_ ∧ some k_ ≠ (u3 : Value).ownBlock) (Kd.R_types (Kd.R_apart' (HO194.out) (Kd.S_typed HO_3.out) (by decide)) BK184.out (by decide)) (fun k_ hk => ⟨⟨hk.1.1.1, ⟨hk.1.1.2, hk.2⟩⟩, hk.1.2⟩))).1 k_ h_.symm) (fun h_ => ((Kd.R_mono (ok' := fun k_ => ((fun k_ => some k_ ≠ (.slice Ao15 y168.length co15 : Value).ownBlock ∧ some k_ ≠ (.slice Ao35 y187.length co35 : Value).ownBlock ∧ k_ ≠ gb184)) k_ ∧ some k_ ≠ (u3 : Value).ownBlock) (Kd.R_types (Kd.R_apart' (Kd.R_apart' (Kd.R_apart' (HO178.out) (Kd.R_typed HO170.out) (by decide)) (Kd.R_typed HO189.out) (by decide)) (Kd.S_typed HO_3.out) (by decide)) BK184.out (by decide)) (fun k_ hk => ⟨⟨hk.1.1.1.2, ⟨hk.1.1.2, hk.2⟩⟩, hk.1.2⟩))).1 k_ h_.symm)) ?aF ?aO (Below.refl _ _) ?aS ?aL ?_; (case aP => exact k81_mkM _ _ _ (⟨y192, t176, wrap64 (t180 * t182)⟩ : S81) (Kd.R_mono (Kd.R_tight rfl (Kd.R_mono (ok' := fun k_ => ((fun k_ => some k_ ≠ (.slice Ao15 y168.length co15 : Value).ownBlock ∧ some k_ ≠ (.slice Ao35 y187.length co35 : Value).ownBlock ∧ k_ ≠ gb184)) k_ ∧ some k_ ≠ (u3 : Value).ownBlock) (Kd.R_types (Kd.R_apart' (HO194.out) (Kd.S_typed HO_3.out) (by decide)) BK184.out (by decide)) (fun k_ hk => ⟨⟨hk.1.1.1, ⟨hk.1.1.2, hk.2⟩⟩, hk.1.2⟩))) (fun _ h_ => Or.inl h_)) (Kd.R_mono (Kd.R_tight rfl (Kd.R_mono (ok' := fun k_ => ((fun k_ => some k_ ≠ (.slice Ao15 y168.length co15 : Value).ownBlock ∧ some k_ ≠ (.slice Ao35 y187.length co35 : Value).ownBlock ∧ k_ ≠ gb184)) k_ ∧ some k_ ≠ (u3 : Value).ownBlock) (Kd.R_types (Kd.R_apart' (Kd.R_apart' (Kd.R_apart' (HO178.out) (Kd.R_typed HO170.out) (by decide)) (Kd.R_typed HO189.out) (by decide)) (Kd.S_typed HO_3.out) (by decide)) BK184.out (by decide)) (fun k_ hk => ⟨⟨hk.1.1.1.2, ⟨hk.1.1.2, hk.2⟩⟩, hk.1.2⟩))) (fun _ h_ => Or.inr (h_)))); (case aF => exact (fun k_ hk => ⟨Kd.fresh' (Kd.R_lt (zz18 HO170)) k_ hk, Kd.fresh' (Kd.R_lt (zz18 HO189)) k_ hk, Kd.freshB (zz3 BK184) k_ hk⟩)); (case aO => exact (zz52 HO_3)); (case aS => exact (keep_size (w := w) (g := g) (row := none) (zz45 HK GW184))); (case aL => exact (zz21 LMc44)); intro v196 w47 ho hb hg hat; rw [← Ny195.out] at ho; replace HO170 := A_ (Kd.R_over' (zz18 HO170) (Kd.S_typed (zz39 HO_3)) (by decide) hg); replace BK184 := A_ (blk_grown (zz3 BK184) hg (Kd.S_away HO_3.out (fun _ hk => hk.2.2.2.2))); replace HO189 := A_ (Kd.R_over' (zz18 HO189) (Kd.S_typed (zz39 HO_3)) (by decide) hg); replace HB := A_ (below_weaken (zz42 HB HI0 GE184) HL.out hb); replace HI0 := A_ (IsS50.grown (zz41 HI0 NB0_184) hg (IsS50.own_neS HI0.out HO_3.out (by decide))); replace HK := A_ (KeepBut.trans (zz45 HK GW184) (KeepBut.of_grown hg g) (Kd.S_base2 HO_3.out)); have HO197 := A_ (ho); clear HO_3; clear HO178; clear HO194; clear ho hb hg hat))
      go_roundg k1
      case measure => have := HK1.out; omega
      case rel => exact ⟨(y195), (wrap64 (x4_1 - 1)), (t191), zz5, H', ⟨(zz21 HK1)⟩, ⟨(zz53 HO197)⟩, ⟨(zz41 HI0 NB0_184)⟩, ⟨(zz45 HK GW184)⟩, ⟨(zz42 HB HI0 GE184)⟩⟩
     ·have c43b0 := gtF c43
      have c43b1 : decide (0 < t176.length) = false := dF (by omega);(first | refine iteT ?_ | refine iteF ?_ | skip)
      clear c43;(first | rw [c43b0] | (simp only [i64_w, i32_w]; rw [c43b0]) | skip)
      replace H := iteEg H;rcases H with ⟨c48b0, H⟩ | ⟨c48b0, H⟩
      ·replace H := iteN H
       obtain ⟨c49, H⟩ := H;have LMc49 := A_ c49;clear c49;obtain ⟨y198, Ny198⟩ := toY (x3_1 ++ [(⟨y192, t176, wrap64 (t180 * t182)⟩ : S81)]);(first | with_reducible replace H := bindZ Ny198 H | rw [← Ny198.out] at H | skip)
       have H' := A_ H;clear H;have hnb50 := NB184_0.out;have hnc50 := NB0_184.out;obtain ⟨_, _, _, _, _, _⟩ := cf3 BK184;go_wp2_with (first | ((with_reducible refine gate_builtin (b := .append) (xs := #[.tmp 45, .tmp 47]) rfl ?_); at_builtin; refine Kd.S_append k81 w.heap.size rfl (.tmp 45) (.tmp 47) 60 81 (.agg #[(.slice none 0 0), (.slice none 0 0), (.int .i64 0)]) 56 rfl Tryd.underlying60 info81 rfl (by decide) (by omega) u3 x3_1 (⟨y192, t176, wrap64 (t180 * t182)⟩ : S81) [.slice Ao38 y192.length co38, .slice Ao22 t176.length co22, .int .i64 (wrap64 (t180 * t182))] (fun k_ => some k_ ≠ (.slice Ao15 y168.length co15 : Value).ownBlock ∧ some k_ ≠ (.slice Ao35 y187.length co35 : Value).ownBlock ∧ k_ ≠ gb184) (fun k_ => some k_ = (.slice Ao38 y192.length co38 : Value).ownBlock ∨ some k_ = (.slice Ao22 t176.length co22 : Value).ownBlock) rfl rfl ?aP (fun k_ hk_ => hk_.elim (fun h_ => ((Kd.R_mono (ok' := fun k_ => ((fun k_ => some k_ ≠ (.slice Ao15 y168.length co15 : Value).ownBlock ∧ some k_ ≠ (.slice Ao35 y187.length co35 : Value).ownBlock ∧ k_ ≠ gb184)) k_ ∧ some k_ ≠ (u3 : Value).ownBlock) (Kd.R_types (Kd.R_apart' (HO194.out) (Kd.S_typed HO_3.out) (by decide)) BK184.out (by decide)) (fun k_ hk => ⟨⟨hk.1.1.1, ⟨hk.1.1.2, hk.2⟩⟩, hk.1.2⟩))).1 k_ h_.symm) (fun h_ => ((Kd.R_mono (ok' := fun k_ => ((fun k_ => some k_ ≠ (.slice Ao15 y168.length co15 : Value).ownBlock ∧ some k_ ≠ (.slice Ao35 y187.length co35 : Value).ownBlock ∧ k_ ≠ gb184)) k_ ∧ some k_ ≠ (u3 : Value).ownBlock) (Kd.R_types (Kd.R_apart' (Kd.R_apart' (Kd.R_apart' (HO178.out) (Kd.R_typed HO170.out) (by decide)) (Kd.R_typed HO189.out) (by decide)) (Kd.S_typed HO_3.out) (by decide)) BK184.out (by decide)) (fun k_ hk => ⟨⟨hk.1.1.1.2, ⟨hk.1.1.2, hk.2⟩⟩, hk.1.2⟩))).1 k_ h_.symm)) ?aF ?aO (Below.refl _ _) ?aS ?aL ?_; (case aP => exact k81_mkM _ _ _ (⟨y192, t176, wrap64 (t180 * t182)⟩ : S81) (Kd.R_mono (Kd.R_tight rfl (Kd.R_mono (ok' := fun k_ => ((fun k_ => some k_ ≠ (.slice Ao15 y168.length co15 : Value).ownBlock ∧ some k_ ≠ (.slice Ao35 y187.length co35 : Value).ownBlock ∧ k_ ≠ gb184)) k_ ∧ some k_ ≠ (u3 : Value).ownBlock) (Kd.R_types (Kd.R_apart' (HO194.out) (Kd.S_typed HO_3.out) (by decide)) BK184.out (by decide)) (fun k_ hk => ⟨⟨hk.1.1.1, ⟨hk.1.1.2, hk.2⟩⟩, hk.1.2⟩))) (fun _ h_ => Or.inl h_)) (Kd.R_mono (Kd.R_tight rfl (Kd.R_mono (ok' := fun k_ => ((fun k_ => some k_ ≠ (.slice Ao15 y168.length co15 : Value).ownBlock ∧ some k_ ≠ (.slice Ao35 y187.length co35 : Value).ownBlock ∧ k_ ≠ gb184)) k_ ∧ some k_ ≠ (u3 : Value).ownBlock) (Kd.R_types (Kd.R_apart' (Kd.R_apart' (Kd.R_apart' (HO178.out) (Kd.R_typed HO170.out) (by decide)) (Kd.R_typed HO189.out) (by decide)) (Kd.S_typed HO_3.out) (by decide)) BK184.out (by decide)) (fun k_ hk => ⟨⟨hk.1.1.1.2, ⟨hk.1.1.2, hk.2⟩⟩, hk.1.2⟩))) (fun _ h_ => Or.inr (h_)))); (case aF => exact (fun k_ hk => ⟨Kd.fresh' (Kd.R_lt (zz18 HO170)) k_ hk, Kd.fresh' (Kd.R_lt (zz18 HO189)) k_ hk, Kd.freshB (zz3 BK184) k_ hk⟩)); (case aO => exact (zz52 HO_3)); (case aS => exact (keep_size (w := w) (g := g) (row := none) (zz45 HK GW184))); (case aL => exact (zz21 LMc49)); intro v199 w52 ho hb hg hat; rw [← Ny198.out] at ho; replace HO170 := A_ (Kd.R_over' (zz18 HO170) (Kd.S_typed (zz39 HO_3)) (by decide) hg); replace BK184 := A_ (blk_grown (zz3 BK184) hg (Kd.S_away HO_3.out (fun _ hk => hk.2.2.2.2))); replace HO189 := A_ (Kd.R_over' (zz18 HO189) (Kd.S_typed (zz39 HO_3)) (by decide) hg); replace HB := A_ (below_weaken (zz42 HB HI0 GE184) HL.out hb); replace HI0 := A_ (IsS50.grown (zz41 HI0 NB0_184) hg (IsS50.own_neS HI0.out HO_3.out (by decide))); replace HK := A_ (KeepBut.trans (zz45 HK GW184) (KeepBut.of_grown hg g) (Kd.S_base2 HO_3.out)); have HO200 := A_ (ho); clear HO_3; clear HO178; clear HO194; clear ho hb hg hat))
       go_roundg k1
       case measure => have := HK1.out; omega
       case rel => exact ⟨(y198), (wrap64 (x4_1 - 1)), (t191), zz5, H', ⟨(zz21 HK1)⟩, ⟨(zz53 HO200)⟩, ⟨(zz41 HI0 NB0_184)⟩, ⟨(zz45 HK GW184)⟩, ⟨(zz42 HB HI0 GE184)⟩⟩
      ·have H' := A_ H
       clear H;have hnb53 := NB184_0.out;have hnc53 := NB0_184.out;obtain ⟨_, _, _, _, _, _⟩ := cf3 BK184;go_wp2
       go_roundg k1
       case measure => have := HK1.out; omega
       case rel => exact ⟨(x3_1), (wrap64 (x4_1 - 1)), (t191), zz5, H', ⟨(zz21 HK1)⟩, ⟨(zz53 HO_3)⟩, ⟨(zz41 HI0 NB0_184)⟩, ⟨(zz45 HK GW184)⟩, ⟨(zz42 HB HI0 GE184)⟩⟩
    ·(first | rw [c28b0] | (simp only [i64_w, i32_w]; rw [c28b0]) | skip)
     replace H := iteE H;rcases H with ⟨c55, H⟩ | ⟨c55, H⟩
     ·have c55b0 := gtT c55
      have c55b1 : decide (0 < t176.length) = true := dT (by omega);clear c55;replace H := iteN H;obtain ⟨c56, H⟩ := H;have LMc56 := A_ c56;clear c56;obtain ⟨y201, Ny201⟩ := toY (x3_1 ++ [(⟨y173, t176, wrap64 (t180 * t182)⟩ : S81)]);(first | with_reducible replace H := bindZ Ny201 H | rw [← Ny201.out] at H | skip)
      have H' := A_ H;clear H;have hnb57 := NB184_0.out;have hnc57 := NB0_184.out;obtain ⟨_, _, _, _, _, _⟩ := cf3 BK184;go_wp2_with (first | ((with_reducible refine gate_builtin (b := .append) (xs := #[.tmp 45, .tmp 47]) rfl ?_); at_builtin; refine Kd.S_append k81 w.heap.size rfl (.tmp 45) (.tmp 47) 60 81 (.agg #[(.slice none 0 0), (.slice none 0 0), (.int .i64 0)]) 56 rfl Tryd.underlying60 info81 rfl (by decide) (by omega) u3 x3_1 (⟨y173, t176, wrap64 (t180 * t182)⟩ : S81) [.slice Ao23 y173.length co23, .slice Ao22 t176.length co22, .int .i64 (wrap64 (t180 * t182))] (fun k_ => some k_ ≠ (.slice Ao15 y168.length co15 : Value).ownBlock ∧ k_ ≠ gb184) (fun k_ => some k_ = (.slice Ao23 y173.length co23 : Value).ownBlock ∨ some k_ = (.slice Ao22 t176.length co22 : Value).ownBlock) rfl rfl ?aP (fun k_ hk_ => hk_.elim (fun h_ => ((Kd.R_mono (ok' := fun k_ => ((fun k_ => some k_ ≠ (.slice Ao15 y168.length co15 : Value).ownBlock ∧ k_ ≠ gb184)) k_ ∧ some k_ ≠ (u3 : Value).ownBlock) (Kd.R_types (Kd.R_apart' (HO175.out) (Kd.S_typed HO_3.out) (by decide)) BK184.out (by decide)) (fun k_ hk => ⟨⟨hk.1.1.2, hk.2⟩, hk.1.2⟩))).1 k_ h_.symm) (fun h_ => ((Kd.R_mono (ok' := fun k_ => ((fun k_ => some k_ ≠ (.slice Ao15 y168.length co15 : Value).ownBlock ∧ k_ ≠ gb184)) k_ ∧ some k_ ≠ (u3 : Value).ownBlock) (Kd.R_types (Kd.R_apart' (Kd.R_apart' (HO178.out) (Kd.R_typed HO170.out) (by decide)) (Kd.S_typed HO_3.out) (by decide)) BK184.out (by decide)) (fun k_ hk => ⟨⟨hk.1.1.2, hk.2⟩, hk.1.2⟩))).1 k_ h_.symm)) ?aF ?aO (Below.refl _ _) ?aS ?aL ?_; (case aP => exact k81_mkM _ _ _ (⟨y173, t176, wrap64 (t180 * t182)⟩ : S81) (Kd.R_mono (Kd.R_tight rfl (Kd.R_mono (ok' := fun k_ => ((fun k_ => some k_ ≠ (.slice Ao15 y168.length co15 : Value).ownBlock ∧ k_ ≠ gb184)) k_ ∧ some k_ ≠ (u3 : Value).ownBlock) (Kd.R_types (Kd.R_apart' (HO175.out) (Kd.S_typed HO_3.out) (by decide)) BK184.out (by decide)) (fun k_ hk => ⟨⟨hk.1.1.2, hk.2⟩, hk.1.2⟩))) (fun _ h_ => Or.inl h_)) (Kd.R_mono (Kd.R_tight rfl (Kd.R_mono (ok' := fun k_ => ((fun k_ => some k_ ≠ (.slice Ao15 y168.length co15 : Value).ownBlock ∧ k_ ≠ gb184)) k_ ∧ some k_ ≠ (u3 : Value).ownBlock) (Kd.R_types (Kd.R_apart' (Kd.R_apart' (HO178.out) (Kd.R_typed HO170.out) (by decide)) (Kd.S_typed HO_3.out) (by decide)) BK184.out (by decide)) (fun k_ hk => ⟨⟨hk.1.1.2, hk.2⟩, hk.1.2⟩))) (fun _ h_ => Or.inr (h_)))); (case aF => exact (fun k_ hk => ⟨Kd.fresh' (Kd.R_lt (zz18 HO170)) k_ hk, Kd.freshB (zz3 BK184) k_ hk⟩)); (case aO => exact (zz54 HO_3)); (case aS => exact (keep_size (w := w) (g := g) (row := none) (zz45 HK GW184))); (case aL => exact (zz21 LMc56)); intro v202 w59 ho hb hg hat; rw [← Ny201.out] at ho; replace HO170 := A_ (Kd.R_over' (zz18 HO170) (Kd.S_typed (zz39 HO_3)) (by decide) hg); replace BK184 := A_ (blk_grown (zz3 BK184) hg (Kd.S_away HO_3.out (fun _ hk => hk.2))); replace HB := A_ (below_weaken (zz42 HB HI0 GE184) HL.out hb); replace HI0 := A_ (IsS50.grown (zz41 HI0 NB0_184) hg (IsS50.own_neS HI0.out HO_3.out (by decide))); replace HK := A_ (KeepBut.trans (zz45 HK GW184) (KeepBut.of_grown hg g) (Kd.S_base2 HO_3.out)); have HO203 := A_ (ho); clear HO_3; clear HO175; clear HO178; clear ho hb hg hat))
      go_roundg k1
      case measure => have := HK1.out; omega
      case rel => exact ⟨(y201), (wrap64 (x4_1 - 1)), (t186), zz5, H', ⟨(zz21 HK1)⟩, ⟨(zz53 HO203)⟩, ⟨(zz41 HI0 NB0_184)⟩, ⟨(zz45 HK GW184)⟩, ⟨(zz42 HB HI0 GE184)⟩⟩
     ·have c55b0 := gtF c55
      have c55b1 : decide (0 < t176.length) = false := dF (by omega);clear c55;replace H := iteEg H;rcases H with ⟨c60b0, H⟩ | ⟨c60b0, H⟩
      ·replace H := iteN H
       obtain ⟨c61, H⟩ := H;have LMc61 := A_ c61;clear c61;obtain ⟨y204, Ny204⟩ := toY (x3_1 ++ [(⟨y173, t176, wrap64 (t180 * t182)⟩ : S81)]);(first | with_reducible replace H := bindZ Ny204 H | rw [← Ny204.out] at H | skip)
       have H' := A_ H;clear H;have hnb62 := NB184_0.out;have hnc62 := NB0_184.out;obtain ⟨_, _, _, _, _, _⟩ := cf3 BK184;go_wp2_with (first | ((with_reducible refine gate_builtin (b := .append) (xs := #[.tmp 45, .tmp 47]) rfl ?_); at_builtin; refine Kd.S_append k81 w.heap.size rfl (.tmp 45) (.tmp 47) 60 81 (.agg #[(.slice none 0 0), (.slice none 0 0), (.int .i64 0)]) 56 rfl Tryd.underlying60 info81 rfl (by decide) (by omega) u3 x3_1 (⟨y173, t176, wrap64 (t180 * t182)⟩ : S81) [.slice Ao23 y173.length co23, .slice Ao22 t176.length co22, .int .i64 (wrap64 (t180 * t182))] (fun k_ => some k_ ≠ (.slice Ao15 y168.length co15 : Value).ownBlock ∧ k_ ≠ gb184) (fun k_ => some k_ = (.slice Ao23 y173.length co23 : Value).ownBlock ∨ some k_ = (.slice Ao22 t176.length co22 : Value).ownBlock) rfl rfl ?aP (fun k_ hk_ => hk_.elim (fun h_ => ((Kd.R_mono (ok' := fun k_ => ((fun k_ => some k_ ≠ (.slice Ao15 y168.length co15 : Value).ownBlock ∧ k_ ≠ gb184)) k_ ∧ some k_ ≠ (u3 : Value).ownBlock) (Kd.R_types (Kd.R_apart' (HO175.out) (Kd.S_typed HO_3.out) (by decide)) BK184.out (by decide)) (fun k_ hk => ⟨⟨hk.1.1.2, hk.2⟩, hk.1.2⟩))).1 k_ h_.symm) (fun h_ => ((Kd.R_mono (ok' := fun k_ => ((fun k_ => some k_ ≠ (.slice Ao15 y168.length co15 : Value).ownBlock ∧ k_ ≠ gb184)) k_ ∧ some k_ ≠ (u3 : Value).ownBlock) (Kd.R_types (Kd.R_apart' (Kd.R_apart' (HO178.out) (Kd.R_typed HO170.out) (by decide)) (Kd.S_typed HO_3.out) (by decide)) BK184.out (by decide)) (fun k_ hk => ⟨⟨hk.1.1.2, hk.2⟩, hk.1.2⟩))).1 k_ h_.symm)) ?aF ?aO (Below.refl _ _) ?aS ?aL ?_; (case aP => exact k81_mkM _ _ _ (⟨y173, t176, wrap64 (t180 * t182)⟩ : S81) (Kd.R_mono (Kd.R_tight rfl (Kd.R_mono (ok' := fun k_ => ((fun k_ => some k_ ≠ (.slice Ao15 y168.length co15 : Value).ownBlock ∧ k_ ≠ gb184)) k_ ∧ some k_ ≠ (u3 : Value).ownBlock) (Kd.R_types (Kd.R_apart' (HO175.out) (Kd.S_typed HO_3.out) (by decide)) BK184.out (by decide)) (fun k_ hk => ⟨⟨hk.1.1.2, hk.2⟩, hk.1.2⟩))) (fun _ h_ => Or.inl h_)) (Kd.R_mono (Kd.R_tight rfl (Kd.R_mono (ok' := fun k_ => ((fun k_ => some k_ ≠ (.slice Ao15 y168.length co15 : Value).ownBlock ∧ k_ ≠ gb184)) k_ ∧ some k_ ≠ (u3 : Value).ownBlock) (Kd.R_types (Kd.R_apart' (Kd.R_apart' (HO178.out) (Kd.R_typed HO170.out) (by decide)) (Kd.S_typed HO_3.out) (by decide)) BK184.out (by decide)) (fun k_ hk => ⟨⟨hk.1.1.2, hk.2⟩, hk.1.2⟩))) (fun _ h_ => Or.inr (h_)))); (case aF => exact (fun k_ hk => ⟨Kd.fresh' (Kd.R_lt (zz18 HO170)) k_ hk, Kd.freshB (zz3 BK184) k_ hk⟩)); (case aO => exact (zz54 HO_3)); (case aS => exact (keep_size (w := w) (g := g) (row := none) (zz45 HK GW184))); (case aL => exact (zz21 LMc61)); intro v205 w64 ho hb hg hat; rw [← Ny204.out] at ho; replace HO170 := A_ (Kd.R_over' (zz18 HO170) (Kd.S_typed (zz39 HO_3)) (by decide) hg); replace BK184 := A_ (blk_grown (zz3 BK184) hg (Kd.S_away HO_3.out (fun _ hk => hk.2))); replace HB := A_ (below_weaken (zz42 HB HI0 GE184) HL.out hb); replace HI0 := A_ (IsS50.grown (zz41 HI0 NB0_184) hg (IsS50.own_neS HI0.out HO_3.out (by decide))); replace HK := A_ (KeepBut.trans (zz45 HK GW184) (KeepBut.of_grown hg g) (Kd.S_base2 HO_3.out)); have HO206 := A_ (ho); clear HO_3; clear HO175; clear HO178; clear ho hb hg hat))
       go_roundg k1
       case measure => have := HK1.out; omega
       case rel => exact ⟨(y204), (wrap64 (x4_1 - 1)), (t186), zz5, H', ⟨(zz21 HK1)⟩, ⟨(zz53 HO206)⟩, ⟨(zz41 HI0 NB0_184)⟩, ⟨(zz45 HK GW184)⟩, ⟨(zz42 HB HI0 GE184)⟩⟩
      ·have H' := A_ H
       clear H;have hnb65 := NB184_0.out;have hnc65 := NB0_184.out;obtain ⟨_, _, _, _, _, _⟩ := cf3 BK184;go_wp2
       go_roundg k1
       case measure => have := HK1.out; omega
       case rel => exact ⟨(x3_1), (wrap64 (x4_1 - 1)), (t186), zz5, H', ⟨(zz21 HK1)⟩, ⟨(zz53 HO_3)⟩, ⟨(zz41 HI0 NB0_184)⟩, ⟨(zz45 HK GW184)⟩, ⟨(zz42 HB HI0 GE184)⟩⟩
   ·replace H := Option.bind_eq_some_iff.mp H
    obtain ⟨⟨t207, t208⟩, A670, H⟩ := H;replace H : (if t207 = 0 then (if x3_1.length < 2513169434916 then (some ((x3_1 ++ [(⟨(([(⟨#[120]⟩ : ByteArray)] : List ByteArray)), ([] : List (S83)), 0⟩ : S81)]), t208)) else (none)) else (if t207 = 1 then (if x3_1.length < 2513169434916 then (some ((x3_1 ++ [(⟨([] : List ByteArray), ([] : List (S83)), 2⟩ : S81)]), t208)) else (none)) else (if t207 = 2 then (if x3_1.length < 2513169434916 then (some ((x3_1 ++ [(⟨(([(⟨#[88]⟩ : ByteArray)] : List ByteArray)), ([] : List (S83)), 2⟩ : S81)]), t208)) else (none)) else (some (x3_1, t208))))) = some (r1, r2) := H;have A67 := A_ A670;clear A670;have HF68 := A_ H;clear H;go_upto_if 51 with (first | ((with_reducible refine gC (f := 11) rfl ?_); refine gsL (some 50) Tryd.func11 #[.pointer (some ⟨g, 0, none⟩), .int .i64 24] ?_; (with_reducible refine mR (spec_l6Rd_pick.calls k1 g s0_0 x1001_1 24 t207 t208 w0 _ ?side1 ?side2 A67.out) ?_); (case side1 => exact (zz7 HI0)); (case side2 => exact (zz9 HB HI0)); rintro w69 ⟨hi, hb, hk⟩; replace HO_3 := A_ (Kd.S_mono (Kd.S_keep (IsS50.apartS (show IsS50 w0 _ g s0_0 x1001_1 from (zz7 HI0)) (zz39 HO_3) (by decide)) hk (fun _ h => h.2)) (fun _ h => h.1)); replace HK := A_ (KeepBut.trans (zz8 HK) hk (.inl rfl)); replace HB := A_ (hb); replace HI0 := A_ (hi); (try clear hb hk hi)))
    obtain ⟨H⟩ := HF68;replace H := iteEq H;rcases H with ⟨c70b0, c70b1, H⟩ | ⟨c70b0, c70b1, c70, H⟩
    ·(first | rw [c70b0] | (simp only [i64_w, i32_w]; rw [c70b0]) | skip)
     obtain ⟨y209, Ny209⟩ := toY (([(⟨#[120]⟩ : ByteArray)] : List ByteArray));(first | with_reducible replace H := bindZ Ny209 H | rw [← Ny209.out] at H | skip)
     replace H := iteN H;obtain ⟨c71, H⟩ := H;have LMc71 := A_ c71;clear c71;obtain ⟨y212, Ny212⟩ := toY (x3_1 ++ [(⟨y209, ([] : List (S83)), 0⟩ : S81)]);(first | with_reducible replace H := bindZ Ny212 H | rw [← Ny212.out] at H | skip)
     simp only [Option.some.injEq, Prod.mk.injEq] at H
     obtain ⟨rfl, rfl⟩ := H;go_wp2_with (first | ((with_reducible refine gD (N := 54) rfl ?_); refine Kd.R_lit Kd.string _ 9 ?hg (N := 54) ?hd (xs := ([(⟨#[120]⟩ : ByteArray)] : List ByteArray)) (inner := [.string (⟨#[120]⟩ : ByteArray)]) (ok := fun _ => True) (okp := fun _ => True) ?hr ?hp (fun _ hk => hk) trivial (Below.refl _ _) (Nat.le_refl _) (by simp) ?_; (case hd => rfl); (case hg => rfl); (case hr => exact zz16); (case hp => exact (Reps.one (show Kd.M Kd.string _ _ _ (⟨#[120]⟩ : ByteArray) [.string (⟨#[120]⟩ : ByteArray)] from rfl) (Reps.none _ _))); intro v210 w72 ho73 hb hg_ hnew_; clear hg_ hnew_; (first | rw [← Ny209.out] at ho73 | (simp only [Int.reduceToNat] at ho73; rw [← Ny209.out] at ho73)); replace HO_3 := A_ (Kd.S_elder' (zz39 HO_3) (Kd.R_base ho73) hb); have HO211 := A_ (Kd.R_lower ho73 (keep_size (w := w) (g := g) (row := none) (zz8 HK))); replace HK := A_ (KeepBut.trans (zz8 HK) (KeepBut.of_below hb g none) (.inl rfl)); replace HB := A_ (bS (zz9 HB HI0) hb); replace HI0 := A_ (IsS50.below (zz7 HI0) hb); clear hb ho73; obtain ⟨Ao74, co74, eo74⟩ := Kd.R_slice HO211.out; subst eo74) | ((with_reducible refine gate_builtin (b := .append) (xs := #[.tmp 53, .tmp 56]) rfl ?_); at_builtin; refine Kd.S_append k81 w.heap.size rfl (.tmp 53) (.tmp 56) 60 81 (.agg #[(.slice none 0 0), (.slice none 0 0), (.int .i64 0)]) 56 rfl Tryd.underlying60 info81 rfl (by decide) (by omega) u3 x3_1 (⟨y209, ([] : List (S83)), 0⟩ : S81) [.slice Ao74 y209.length co74, .slice none 0 0, .int .i64 0] (fun _ => True) (fun k_ => some k_ = (.slice Ao74 y209.length co74 : Value).ownBlock) rfl rfl ?aP (fun k_ hk_ => ((Kd.R_mono (ok' := fun k_ => ((fun _ => True)) k_ ∧ some k_ ≠ (u3 : Value).ownBlock) (Kd.R_apart' (HO211.out) (Kd.S_typed HO_3.out) (by decide)) (fun k_ hk => ⟨trivial, hk.2⟩))).1 k_ hk_.symm) ?aF ?aO (Below.refl _ _) ?aS ?aL ?_; (case aP => exact k81_mkM _ _ _ (⟨y209, ([] : List (S83)), 0⟩ : S81) (Kd.R_mono (Kd.R_tight rfl (Kd.R_mono (ok' := fun k_ => ((fun _ => True)) k_ ∧ some k_ ≠ (u3 : Value).ownBlock) (Kd.R_apart' (HO211.out) (Kd.S_typed HO_3.out) (by decide)) (fun k_ hk => ⟨trivial, hk.2⟩))) (fun _ h_ => h_)) (Kd.R_nil _ _ _ _ _)); (case aF => exact (fun _ _ => trivial)); (case aO => exact (zz55 HO_3)); (case aS => exact (keep_size (w := w) (g := g) (row := none) (zz8 HK))); (case aL => exact (zz21 LMc71)); intro v213 w75 ho hb hg hat; rw [← Ny212.out] at ho; replace HB := A_ (below_weaken (zz9 HB HI0) HL.out hb); replace HI0 := A_ (IsS50.grown (zz7 HI0) hg (IsS50.own_neS HI0.out HO_3.out (by decide))); replace HK := A_ (KeepBut.trans (zz8 HK) (KeepBut.of_grown hg g) (Kd.S_base2 HO_3.out)); have HO214 := A_ (ho); clear HO_3; clear HO211; clear ho hb hg hat))
     go_ret
     exact ⟨_, zz11, (zz39 HO214), (zz7 HI0), (zz9 HB HI0), (zz8 HK)⟩
    ·(first | rw [c70b0] | (simp only [i64_w, i32_w]; rw [c70b0]) | skip)
     replace H := iteEq H;rcases H with ⟨c76b0, c76b1, H⟩ | ⟨c76b0, c76b1, c76, H⟩
     ·replace H := iteN H
      obtain ⟨c77, H⟩ := H;have LMc77 := A_ c77;clear c77;obtain ⟨y215, Ny215⟩ := toY (x3_1 ++ [(⟨([] : List ByteArray), ([] : List (S83)), 2⟩ : S81)]);(first | with_reducible replace H := bindZ Ny215 H | rw [← Ny215.out] at H | skip)
      simp only [Option.some.injEq, Prod.mk.injEq] at H
      obtain ⟨rfl, rfl⟩ := H;go_wp2_with (first | ((with_reducible refine gate_builtin (b := .append) (xs := #[.tmp 60, .tmp 62]) rfl ?_); at_builtin; refine Kd.S_append k81 w.heap.size rfl (.tmp 60) (.tmp 62) 60 81 (.agg #[(.slice none 0 0), (.slice none 0 0), (.int .i64 0)]) 56 rfl Tryd.underlying60 info81 rfl (by decide) (by omega) u3 x3_1 (⟨([] : List ByteArray), ([] : List (S83)), 2⟩ : S81) [.slice none 0 0, .slice none 0 0, .int .i64 2] (fun _ => True) (fun _ => False) rfl rfl ?aP (fun k_ hk_ => hk_.elim) ?aF ?aO (Below.refl _ _) ?aS ?aL ?_; (case aP => exact k81_mkM _ _ _ (⟨([] : List ByteArray), ([] : List (S83)), 2⟩ : S81) (Kd.R_nil _ _ _ _ _) (Kd.R_nil _ _ _ _ _)); (case aF => exact (fun _ _ => trivial)); (case aO => exact (by (with_reducible repeat (first | apply Kd.S_alloc | apply Kd.S_drewN | apply Kd.S_drew)); exact Kd.S_mono HO_3.out (fun k_ hk => ⟨trivial, fun e_ => e_⟩))); (case aS => exact (keep_size (w := w) (g := g) (row := none) (zz8 HK))); (case aL => exact (zz21 LMc77)); intro v216 w78 ho hb hg hat; rw [← Ny215.out] at ho; replace HB := A_ (below_weaken (zz9 HB HI0) HL.out hb); replace HI0 := A_ (IsS50.grown (zz7 HI0) hg (IsS50.own_neS HI0.out HO_3.out (by decide))); replace HK := A_ (KeepBut.trans (zz8 HK) (KeepBut.of_grown hg g) (Kd.S_base2 HO_3.out)); have HO217 := A_ (ho); clear HO_3; clear ho hb hg hat))
      go_ret
      exact ⟨_, zz11, (zz39 HO217), (zz7 HI0), (zz9 HB HI0), (zz8 HK)⟩
     ·replace H := iteEq H
      rcases H with ⟨c79b0, c79b1, H⟩ | ⟨c79b0, c79b1, c79, H⟩
      ·obtain ⟨y218, hy218⟩ : ∃ y_ : List ByteArray, y_ = (([(⟨#[88]⟩ : ByteArray)] : List ByteArray)) := ⟨_, rfl⟩
       replace H : (if x3_1.length < 2513169434916 then (some ((x3_1 ++ [(⟨y218, ([] : List (S83)), 2⟩ : S81)]), t208)) else (none)) = some (r1, r2) := by first | (rw [hy218]; with_reducible exact H) | (have H2_ := (Option.bind_some _ _).symm.trans H; rw [hy218]; with_reducible exact H2_) | (have H2_ := (Option.bind_some _ _).symm.trans H; with_reducible exact H2_) | with_reducible exact H | (rw [hy218]; exact H) | exact H
       have Ny218 := A_ hy218;clear hy218;replace H := iteN H;obtain ⟨c80, H⟩ := H;have LMc80 := A_ c80;clear c80;obtain ⟨y221, Ny221⟩ := toY (x3_1 ++ [(⟨y218, ([] : List (S83)), 2⟩ : S81)]);(first | with_reducible replace H := bindZ Ny221 H | rw [← Ny221.out] at H | skip)
       simp only [Option.some.injEq, Prod.mk.injEq] at H
       obtain ⟨rfl, rfl⟩ := H;go_wp2_with (first | ((with_reducible refine gD (N := 67) rfl ?_); refine Kd.R_lit Kd.string _ 9 ?hg (N := 67) ?hd (xs := ([(⟨#[88]⟩ : ByteArray)] : List ByteArray)) (inner := [.string (⟨#[88]⟩ : ByteArray)]) (ok := fun _ => True) (okp := fun _ => True) ?hr ?hp (fun _ hk => hk) trivial (Below.refl _ _) (Nat.le_refl _) (by simp) ?_; (case hd => rfl); (case hg => rfl); (case hr => exact zz16); (case hp => exact (Reps.one (show Kd.M Kd.string _ _ _ (⟨#[88]⟩ : ByteArray) [.string (⟨#[88]⟩ : ByteArray)] from rfl) (Reps.none _ _))); intro v219 w81 ho82 hb hg_ hnew_; clear hg_ hnew_; (first | rw [← Ny218.out] at ho82 | (simp only [Int.reduceToNat] at ho82; rw [← Ny218.out] at ho82)); replace HO_3 := A_ (Kd.S_elder' (zz39 HO_3) (Kd.R_base ho82) hb); have HO220 := A_ (Kd.R_lower ho82 (keep_size (w := w) (g := g) (row := none) (zz8 HK))); replace HK := A_ (KeepBut.trans (zz8 HK) (KeepBut.of_below hb g none) (.inl rfl)); replace HB := A_ (bS (zz9 HB HI0) hb); replace HI0 := A_ (IsS50.below (zz7 HI0) hb); clear hb ho82; obtain ⟨Ao83, co83, eo83⟩ := Kd.R_slice HO220.out; subst eo83) | ((with_reducible refine gate_builtin (b := .append) (xs := #[.tmp 66, .tmp 69]) rfl ?_); at_builtin; refine Kd.S_append k81 w.heap.size rfl (.tmp 66) (.tmp 69) 60 81 (.agg #[(.slice none 0 0), (.slice none 0 0), (.int .i64 0)]) 56 rfl Tryd.underlying60 info81 rfl (by decide) (by omega) u3 x3_1 (⟨y218, ([] : List (S83)), 2⟩ : S81) [.slice Ao83 y218.length co83, .slice none 0 0, .int .i64 2] (fun _ => True) (fun k_ => some k_ = (.slice Ao83 y218.length co83 : Value).ownBlock) rfl rfl ?aP (fun k_ hk_ => ((Kd.R_mono (ok' := fun k_ => ((fun _ => True)) k_ ∧ some k_ ≠ (u3 : Value).ownBlock) (Kd.R_apart' (HO220.out) (Kd.S_typed HO_3.out) (by decide)) (fun k_ hk => ⟨trivial, hk.2⟩))).1 k_ hk_.symm) ?aF ?aO (Below.refl _ _) ?aS ?aL ?_; (case aP => exact k81_mkM _ _ _ (⟨y218, ([] : List (S83)), 2⟩ : S81) (Kd.R_mono (Kd.R_tight rfl (Kd.R_mono (ok' := fun k_ => ((fun _ => True)) k_ ∧ some k_ ≠ (u3 : Value).ownBlock) (Kd.R_apart' (HO220.out) (Kd.S_typed HO_3.out) (by decide)) (fun k_ hk => ⟨trivial, hk.2⟩))) (fun _ h_ => h_)) (Kd.R_nil _ _ _ _ _)); (case aF => exact (fun _ _ => trivial)); (case aO => exact (zz55 HO_3)); (case aS => exact (keep_size (w := w) (g := g) (row := none) (zz8 HK))); (case aL => exact (zz21 LMc80)); intro v222 w84 ho hb hg hat; rw [← Ny221.out] at ho; replace HB := A_ (below_weaken (zz9 HB HI0) HL.out hb); replace HI0 := A_ (IsS50.grown (zz7 HI0) hg (IsS50.own_neS HI0.out HO_3.out (by decide))); replace HK := A_ (KeepBut.trans (zz8 HK) (KeepBut.of_grown hg g) (Kd.S_base2 HO_3.out)); have HO223 := A_ (ho); clear HO_3; clear HO220; clear ho hb hg hat))
       go_ret
       exact ⟨_, zz11, (zz39 HO223), (zz7 HI0), (zz9 HB HI0), (zz8 HK)⟩
      ·simp only [Option.some.injEq, Prod.mk.injEq] at H
       obtain ⟨rfl, rfl⟩ := H;go_wp2
       go_ret
       exact ⟨_, zz11, (zz39 HO_3), (zz7 HI0), (zz9 HB HI0), (zz8 HK)⟩
def spec_l1Path.l0 : Nat → ByteArray → Int → ByteArray → List ByteArray → Bool → ByteArray → Option (ByteArray)
 | 0, _, _, _, _, _, _ => none
 | k + 1, x3, x4, x225000, x225001, x225002, x225003 => if x4 < (x225001.length : Int) then (if x4 > 0 then (if x3.size + 1 ≤ 9223372036854775807 then (if 0 ≤ x4 then (if x3.size + 1 + (rdOf ByteArray.empty x225001 x4).size ≤ 9223372036854775807 then (spec_l1Path.l0 k ((x3 ++ (⟨#[47]⟩ : ByteArray)) ++ (rdOf ByteArray.empty x225001 x4)) (wrap64 (x4 + 1)) x225000 x225001 x225002 x225003) else (none)) else (none)) else (none)) else (if 0 ≤ x4 then (if x3.size + (rdOf ByteArray.empty x225001 x4).size ≤ 9223372036854775807 then (spec_l1Path.l0 k (x3 ++ (rdOf ByteArray.empty x225001 x4)) (wrap64 (x4 + 1)) x225000 x225001 x225002 x225003) else (none)) else (none))) else (if x225002 = true then (if x3.size + 1 ≤ 9223372036854775807 then (if x3.size + 1 + x225003.size ≤ 9223372036854775807 then (some ((x3 ++ (⟨#[63]⟩ : ByteArray)) ++ x225003)) else (none)) else (none)) else (some x3))
def spec_l1Path.f (k : Nat) (a0_0 : ByteArray) (l0_1 : List ByteArray) (a0_2 : Bool) (a0_3 : ByteArray) : Option (ByteArray) := spec_l1Path.l0 k (⟨#[47]⟩ : ByteArray) 0 a0_0 l0_1 a0_2 a0_3
theorem spec_l1Path.mono_l : ∀ k, (∀ y0 y1 y2 y3 y4 y5, LeO (spec_l1Path.l0 k y0 y1 y2 y3 y4 y5) (spec_l1Path.l0 (k + 1) y0 y1 y2 y3 y4 y5))
 | 0 => by intros; intro r h; simp [spec_l1Path.l0] at h
 | k + 1 => by
  have ih0 := spec_l1Path.mono_l k; intros; unfold spec_l1Path.l0;repeat' first | (with_reducible first | exact ih0 _ _ _ _ _ _ | exact LeO.refl _ | exact LeO.none _ | refine LeO.ite ?_ ?_ | refine LeO.bind ?_ (fun _ => ?_)) | exact LeO.none _ | refine LeO.ite ?_ ?_ | refine LeO.bind ?_ (fun _ => ?_)
theorem spec_l1Path.mono : ∀ a0 a1 a2 a3 k, LeO (spec_l1Path.f k a0 a1 a2 a3) (spec_l1Path.f (k + 1) a0 a1 a2 a3) := by
 intro a0 a1 a2 a3 k;have ih0 := spec_l1Path.mono_l k;unfold spec_l1Path.f
 repeat' first | (with_reducible first | exact ih0 _ _ _ _ _ _ | exact LeO.refl _ | exact LeO.none _ | refine LeO.ite ?_ ?_ | refine LeO.bind ?_ (fun _ => ?_)) | exact LeO.none _ | refine LeO.ite ?_ ?_ | refine LeO.bind ?_ (fun _ => ?_)
theorem spec_l1Path.calls (k : Nat) (a0_0 : ByteArray) (A0_1 : Option Addr) (c0_1 : Nat) (l0_1 : List ByteArray) (a0_2 : Bool) (a0_3 : ByteArray) (r : ByteArray) (w : World) (hr0_1 : Kd.C Kd.string w A0_1 l0_1.length l0_1) (hc0_1 : l0_1.length ≤ c0_1) (h : spec_l1Path.f k a0_0 l0_1 a0_2 a0_3 = some r) :
  Calls Tryd.prog 64 #[.agg #[.string a0_0, .slice A0_1 l0_1.length c0_1, .bool a0_2, .string a0_3]] w fun e w' => e = .returned (.string r) ∧ Below w.heap.size w w' := by
 have hu28 := Tryd.underlying28;have HR0_1 := A_ hr0_1;have HC0_1 := A_ hc0_1;clear hr0_1 hc0_1;have HB := A_ (Below.refl w.heap.size w);unfold spec_l1Path.f at h
 have H := h;clear h;have H' := A_ H;clear H;go_enter Tryd.func64, Tryd.ntmps64;go_wp2_with (first | ((with_reducible refine gD (N := 1) rfl ?_); refine boxE 1 #[.string a0_0, .slice A0_1 l0_1.length c0_1, .bool a0_2, .string a0_3] 28 ?_; intro gb224 hg w2 hbox hb; have BK224 := A_ (hbox); have GE224 := geB hg (zz2 HB); replace HB := A_ (bS (zz2 HB) hb); clear hb hbox hg))
 go_loopg [3, 4] k (fun kq v3 v4 w' => ∃ (x3_1 : ByteArray) (x4_1 : Int), v3 = .string x3_1 ∧ v4 = .int .i64 x4_1 ∧ Aside0 (spec_l1Path.l0 kq x3_1 x4_1 a0_0 l0_1 a0_2 a0_3 = some r) ∧ Aside0 (kq ≤ k) ∧ Aside0 (w'.heap[gb224]? = some (.cells #[.string a0_0, (.slice A0_1 l0_1.length c0_1), .bool a0_2, .string a0_3] 28 (0, 0))) ∧ Aside0 (Below w.heap.size w w'))
 case atStart => exact ⟨((⟨#[47]⟩ : ByteArray)), (0), zz5, zz5, H', ⟨Nat.le_refl _⟩, ⟨(zz3 BK224)⟩, ⟨(zz4 HB GE224)⟩⟩
 case round =>
  clear H';obtain ⟨x3_1, x4_1, rfl, rfl, HA, HK1, BK224, HB⟩ := hrel;cases gk with
  | zero => exact absurd HA.out (by simp [spec_l1Path.l0])
  | succ k1 =>
   obtain ⟨H⟩ := HA;simp only [spec_l1Path.l0] at H
   replace H := iteEd H;rcases H with ⟨c3b0, H⟩ | ⟨c3b0, H⟩
   ·replace H := iteEg H
    rcases H with ⟨c4b0, H⟩ | ⟨c4b0, H⟩
    ·replace H := iteN H
     obtain ⟨c5, H⟩ := H;have c5b0 := eq_true c5;have c5b1 := dT c5;try have c5b2 : (9223372036854775807 < x3_1.size + 1) = False := eq_false (Nat.not_lt.2 c5)
     replace H := iteNd H;obtain ⟨c6b0, H⟩ := H;replace H := iteN H;obtain ⟨c7, H⟩ := H;have c7b0 := eq_true c7;have c7b1 := dT c7;try have c7b2 : (9223372036854775807 < x3_1.size + 1 + (rdOf ByteArray.empty l0_1 x4_1).size) = False := eq_false (Nat.not_lt.2 c7)
     have H' := A_ H;clear H;obtain ⟨_, _, _, _, _, _, _, _⟩ := cf4 BK224;obtain ⟨⟨ad225, e225, hx225_0⟩, p225, q225⟩ := atB (Kd.at_string HR0_1.out x4_1);cases e225
     replace hx225_0 := cbl HB hx225_0;go_wp2
     go_roundg k1
     case measure => have := HK1.out; omega
     case rel => exact ⟨((x3_1 ++ (⟨#[47]⟩ : ByteArray)) ++ (rdOf ByteArray.empty l0_1 x4_1)), (wrap64 (x4_1 + 1)), zz5, zz5, H', ⟨(zz21 HK1)⟩, ⟨(zz3 BK224)⟩, ⟨(zz4 HB GE224)⟩⟩
    ·replace H := iteNd H
     obtain ⟨c9b0, H⟩ := H;replace H := iteN H;obtain ⟨c10, H⟩ := H;have c10b0 := eq_true c10;have c10b1 := dT c10;try have c10b2 : (9223372036854775807 < x3_1.size + (rdOf ByteArray.empty l0_1 x4_1).size) = False := eq_false (Nat.not_lt.2 c10)
     have H' := A_ H;clear H;obtain ⟨_, _, _, _, _, _, _, _⟩ := cf4 BK224;obtain ⟨⟨ad226, e226, hx226_0⟩, p226, q226⟩ := atB (Kd.at_string HR0_1.out x4_1);cases e226
     replace hx226_0 := cbl HB hx226_0;go_wp2
     go_roundg k1
     case measure => have := HK1.out; omega
     case rel => exact ⟨(x3_1 ++ (rdOf ByteArray.empty l0_1 x4_1)), (wrap64 (x4_1 + 1)), zz5, zz5, H', ⟨(zz21 HK1)⟩, ⟨(zz3 BK224)⟩, ⟨(zz4 HB GE224)⟩⟩
   ·replace H := iteB H
    rcases H with ⟨rfl, H⟩ | ⟨rfl, H⟩
    ·replace H := iteN H
     obtain ⟨c13, H⟩ := H;have c13b0 := eq_true c13;have c13b1 := dT c13;try have c13b2 : (9223372036854775807 < x3_1.size + 1) = False := eq_false (Nat.not_lt.2 c13)
     replace H := iteN H;obtain ⟨c14, H⟩ := H;have c14b0 := eq_true c14;have c14b1 := dT c14;try have c14b2 : (9223372036854775807 < x3_1.size + 1 + a0_3.size) = False := eq_false (Nat.not_lt.2 c14)
     obtain rfl := sI H;obtain ⟨_, _, _, _, _, _, _, _⟩ := cf4 BK224;go_wp2
     go_ret
     exact ⟨zz11, (zz4 HB GE224)⟩
    ·obtain rfl := sI H
     obtain ⟨_, _, _, _, _, _, _, _⟩ := cf4 BK224;go_wp2
     go_ret
     exact ⟨zz11, (zz4 HB GE224)⟩
def spec_l1Text.f (k : Nat) (a0_0 : ByteArray) (l0_1 : List ByteArray) (a0_2 : Bool) (a0_3 : ByteArray) : Option (ByteArray) := if 2 + a0_0.size ≤ 9223372036854775807 then ((spec_l1Path.f k a0_0 l0_1 a0_2 a0_3).bind fun t228 => (if 2 + a0_0.size + t228.size ≤ 9223372036854775807 then (some (((⟨#[47, 47]⟩ : ByteArray) ++ a0_0) ++ t228)) else (none))) else (none)
theorem spec_l1Text.mono : ∀ a0 a1 a2 a3 k, LeO (spec_l1Text.f k a0 a1 a2 a3) (spec_l1Text.f (k + 1) a0 a1 a2 a3) := by
 intro a0 a1 a2 a3 k;unfold spec_l1Text.f
 repeat' first | (with_reducible first | exact spec_l1Path.mono _ _ _ _ _ | exact LeO.refl _ | exact LeO.none _ | refine LeO.ite ?_ ?_ | refine LeO.bind ?_ (fun _ => ?_)) | exact LeO.none _ | refine LeO.ite ?_ ?_ | refine LeO.bind ?_ (fun _ => ?_)
theorem spec_l1Text.calls (k : Nat) (a0_0 : ByteArray) (A0_1 : Option Addr) (c0_1 : Nat) (l0_1 : List ByteArray) (a0_2 : Bool) (a0_3 : ByteArray) (r : ByteArray) (w : World) (hr0_1 : Kd.C Kd.string w A0_1 l0_1.length l0_1) (hc0_1 : l0_1.length ≤ c0_1) (h : spec_l1Text.f k a0_0 l0_1 a0_2 a0_3 = some r) :
  Calls Tryd.prog 43 #[.agg #[.string a0_0, .slice A0_1 l0_1.length c0_1, .bool a0_2, .string a0_3]] w fun e w' => e = .returned (.string r) ∧ Below w.heap.size w w' := by
 have hu28 := Tryd.underlying28;have HR0_1 := A_ hr0_1;have HC0_1 := A_ hc0_1;clear hr0_1 hc0_1;have HB := A_ (Below.refl w.heap.size w);unfold spec_l1Text.f at h
 have H := h;clear h;replace H := iteE H;rcases H with ⟨c2, H⟩ | ⟨c2, H⟩
 ·have c2b0 := eq_true c2
  have c2b1 := dT c2;try have c2b2 : (9223372036854775807 < 2 + a0_0.size) = False := eq_false (Nat.not_lt.2 c2)
  replace H := bindA H;obtain ⟨t228, A3, H⟩ := H;replace H := iteN H;obtain ⟨c4, H⟩ := H;have c4b0 := eq_true c4;have c4b1 := dT c4;try have c4b2 : (9223372036854775807 < 2 + a0_0.size + t228.size) = False := eq_false (Nat.not_lt.2 c4)
  obtain rfl := sI H;go_enter Tryd.func43, Tryd.ntmps43;try go_wp2_with (first | ((with_reducible refine gD (N := 1) rfl ?_); refine boxE 1 #[.string a0_0, .slice A0_1 l0_1.length c0_1, .bool a0_2, .string a0_3] 28 ?_; intro gb227 hg w5 hbox hb; have BK227 := A_ (hbox); have GE227 := geB hg (zz2 HB); replace HB := A_ (bS (zz2 HB) hb); clear hb hbox hg))
  replace BK227 := A_ (blk_drew BK227.out);replace HB := A_ (below_drew1 HB.out);refine start_ (n := 7) (S := fun w' => w'.cell? ⟨gb227, 0, none⟩ = some (.string a0_0) ∧ w'.cell? ⟨gb227, 1, none⟩ = some (.slice A0_1 l0_1.length c0_1) ∧ w'.cell? ⟨gb227, 2, none⟩ = some (.bool a0_2) ∧ w'.cell? ⟨gb227, 3, none⟩ = some (.string a0_3)) (ds := []) #[false, false, false, false, false, false, false] (by kernel_rfl) rfl rfl ⟨(blk_cell BK227.out 0).trans rfl, (blk_cell BK227.out 1).trans rfl, (blk_cell BK227.out 2).trans rfl, (blk_cell BK227.out 3).trans rfl⟩ (fun hHeld => ?_);generalize w5.drew = w6 at BK227 HB hHeld ⊢;refine pureY 0 (some 3) #[true, false, false, false, false, false, false] ?_;refine takeY4 1 (some 4) #[true, true, false, false, false, false, false] hHeld ?_;refine pureY 2 (some 5) #[true, true, true, false, false, false, false] ?_;refine takeY4 3 (some 6) #[true, true, true, true, false, false, false] hHeld ?_;refine one_ (i := 4) (N := some 7) #[true, true, true, true, true, false, false] rfl rfl (by kernel_rfl) (by decide) (fun K hK => ?_);refine goes_ Tryd.func64 (by kernel_rfl) rfl #[.agg #[.string a0_0, .slice A0_1 l0_1.length c0_1, .bool a0_2, .string a0_3]] (by rfl) rfl rfl zz17 ?_;with_reducible refine (spec_l1Path.calls k a0_0 _ _ l0_1 a0_2 a0_3 t228 _ ?side1 ?side2 A3.out).mono ?_
  (case side1 => exact (zz58 HR0_1 HB))
  (case side2 => exact HC0_1.out)
  rintro e w7 ⟨rfl, hb⟩;refine ⟨_, rfl, ?_⟩;replace BK227 := A_ (bB (zz3 BK227) hb);replace HB := A_ (bS (zz4 HB GE227) hb);(try clear hb)
  (try clear hb2)
  (try clear hk)
  (try clear hi)
  refine hK.out _ _ ⟨(blk_cell BK227.out 0).trans rfl, (blk_cell BK227.out 1).trans rfl, (blk_cell BK227.out 2).trans rfl, (blk_cell BK227.out 3).trans rfl⟩ (fun hHeld => ?_);clear hK K;refine norm_ (a' := ?_) ?_ ?_;rotate_left
  ·show Act.put _ (some 7) _ = _
   simp only [Act.put, List.setIfInBounds_toArray, List.set_cons_zero, List.set_cons_succ, i64_w, i32_w]
   rfl
  refine pureY 5 (some 8) #[true, true, true, true, true, true, false] ?_;refine pureY 6 (some 2) #[true, true, true, true, true, true, true] ?_;refine done_ (by kernel_rfl) ?_;try go_wp2
  go_ret
  exact ⟨zz11, (zz4 HB GE227)⟩
 ·exact absurd H (by simp)
def spec_l1House.l0 : Nat → ByteArray → Int → Option (Bool)
 | 0, _, _ => none
 | k + 1, x0, x3 => if x3 < (x0.size : Int) then (if 0 ≤ x3 then (if (bt x0 x3) < 97 then (some false) else (if (bt x0 x3) > 122 then (some false) else (spec_l1House.l0 k x0 (wrap64 (x3 + 1))))) else (none)) else ((spec_l6In.f (x0.size : Int) 1 5).bind fun t229 => (some t229))
def spec_l1House.f (k : Nat) (a0 : ByteArray) : Option (Bool) := spec_l1House.l0 k a0 0
theorem spec_l1House.mono_l : ∀ k, (∀ y0 y1, LeO (spec_l1House.l0 k y0 y1) (spec_l1House.l0 (k + 1) y0 y1))
 | 0 => by intros; intro r h; simp [spec_l1House.l0] at h
 | k + 1 => by
  have ih0 := spec_l1House.mono_l k; intros; unfold spec_l1House.l0;repeat' first | (with_reducible first | exact ih0 _ _ | exact LeO.refl _ | exact LeO.none _ | refine LeO.ite ?_ ?_ | refine LeO.bind ?_ (fun _ => ?_)) | exact LeO.none _ | refine LeO.ite ?_ ?_ | refine LeO.bind ?_ (fun _ => ?_)
theorem spec_l1House.mono : ∀ a0 k, LeO (spec_l1House.f k a0) (spec_l1House.f (k + 1) a0) := by
 intro a0 k;have ih0 := spec_l1House.mono_l k;unfold spec_l1House.f
 repeat' first | (with_reducible first | exact ih0 _ _ | exact LeO.refl _ | exact LeO.none _ | refine LeO.ite ?_ ?_ | refine LeO.bind ?_ (fun _ => ?_)) | exact LeO.none _ | refine LeO.ite ?_ ?_ | refine LeO.bind ?_ (fun _ => ?_)
theorem spec_l1House.calls (k : Nat) (a0 : ByteArray) (r : Bool) (w : World) (h : spec_l1House.f k a0 = some r) :
  Calls Tryd.prog 62 #[.string a0] w fun e w' => e = .returned (.bool r) ∧ Drawn0 w w' := by
 unfold spec_l1House.f at h
 have H := h;clear h;have H' := A_ H;clear H;go_enter Tryd.func62, Tryd.ntmps62;go_wp2
 go_loopg [3] k (fun kq v3 w' => ∃ (x3_1 : Int), v3 = .int .i64 x3_1 ∧ Aside0 (spec_l1House.l0 kq a0 x3_1 = some r) ∧ Aside0 (kq ≤ k) ∧ Drawn0 w w')
 case atStart => exact ⟨(0), zz5, H', ⟨Nat.le_refl _⟩, zz19⟩
 case round =>
  clear H';obtain ⟨x3_1, rfl, HA, HK1, ⟨m1, rfl⟩⟩ := hrel;cases gk with
  | zero => exact absurd HA.out (by simp [spec_l1House.l0])
  | succ k1 =>
   obtain ⟨H⟩ := HA;simp only [spec_l1House.l0] at H
   replace H := iteEd H;rcases H with ⟨c2b0, H⟩ | ⟨c2b0, H⟩
   ·replace H := iteNd H
    obtain ⟨c3b0, H⟩ := H;replace H := iteEd H;rcases H with ⟨c5b0, H⟩ | ⟨c5b0, H⟩
    ·obtain rfl := sI H
     have p4 : 0 ≤ (x3_1 : Int) := ofD;have q4 : x3_1 < (a0.size : Int) := ofD;have hx4 := bt_at a0 x3_1;replace p4 := eq_true p4;replace q4 := eq_true q4;go_wp2
     go_ret
     exact ⟨zz5, zz19⟩
    ·replace H := iteEg H
     rcases H with ⟨c7b0, H⟩ | ⟨c7b0, H⟩
     ·obtain rfl := sI H
      have p4 : 0 ≤ (x3_1 : Int) := ofD;have q4 : x3_1 < (a0.size : Int) := ofD;have hx4 := bt_at a0 x3_1;replace p4 := eq_true p4;replace q4 := eq_true q4;have p6 : 0 ≤ (x3_1 : Int) := ofD;have q6 : x3_1 < (a0.size : Int) := ofD;have hx6 := bt_at a0 x3_1;replace p6 := eq_true p6;replace q6 := eq_true q6;go_wp2
      go_ret
      exact ⟨zz5, zz19⟩
     ·have H' := A_ H
      clear H;have p4 : 0 ≤ (x3_1 : Int) := ofD;have q4 : x3_1 < (a0.size : Int) := ofD;have hx4 := bt_at a0 x3_1;replace p4 := eq_true p4;replace q4 := eq_true q4;have p6 : 0 ≤ (x3_1 : Int) := ofD;have q6 : x3_1 < (a0.size : Int) := ofD;have hx6 := bt_at a0 x3_1;replace p6 := eq_true p6;replace q6 := eq_true q6;go_wp2
      go_roundg k1
      case measure => have := HK1.out; omega
      case rel => exact ⟨(wrap64 (x3_1 + 1)), zz5, H', ⟨(zz21 HK1)⟩, zz19⟩
   ·replace H := Option.bind_eq_some_iff.mp H
    obtain ⟨t229, A80, H⟩ := H;replace H : (some t229) = some r := H;have A8 := A_ A80;clear A80;obtain rfl := sI H;go_wp2_with (first | ((with_reducible refine gC (f := 15) rfl ?_); refine gsL (some 22) Tryd.func15 #[.int .i64 (a0.size : Int), .int .i64 1, .int .i64 5] ?_; (with_reducible refine (spec_l6In.calls (a0.size : Int) 1 5 t229 _ A8.out).mono ?_); rintro e w' ⟨rfl, ⟨nd, rfl⟩⟩; refine ⟨_, rfl, ?_⟩))
    go_ret
    exact ⟨zz5, zz19⟩
mutual
def spec_l1Hex.j0 : Nat → Int → Bool → Option (Int)
 | 0, _, _ => none
 | k + 1, x0, x3 => if x3 = true then (some ((x0 - 48) % 256)) else (if x0 ≥ 97 then (spec_l1Hex.j1 k x0 (decide (x0 ≤ 102))) else (spec_l1Hex.j1 k x0 false))
def spec_l1Hex.j1 : Nat → Int → Bool → Option (Int)
 | 0, _, _ => none
 | k + 1, x0, x13 => if x13 = true then (some (((x0 - 97) % 256) + 10)) else (if x0 ≥ 65 then (if x0 ≤ 70 then (some (((x0 - 65) % 256) + 10)) else (some (-1))) else (some (-1)))
end
def spec_l1Hex.f (k : Nat) (a0 : Int) : Option (Int) := if a0 ≥ 48 then (spec_l1Hex.j0 k a0 (decide (a0 ≤ 57))) else (spec_l1Hex.j0 k a0 false)
theorem spec_l1Hex.mono_l : ∀ k, (∀ y0 y1, LeO (spec_l1Hex.j0 k y0 y1) (spec_l1Hex.j0 (k + 1) y0 y1)) ∧ (∀ y0 y1, LeO (spec_l1Hex.j1 k y0 y1) (spec_l1Hex.j1 (k + 1) y0 y1))
 | 0 => by refine ⟨?_, ?_⟩ <;> (intros; intro r h; simp [spec_l1Hex.j0, spec_l1Hex.j1] at h)
 | k + 1 => by
  obtain ⟨ih0, ih1⟩ := spec_l1Hex.mono_l k;refine ⟨?_, ?_⟩ <;> intros <;> (first | unfold spec_l1Hex.j0 | unfold spec_l1Hex.j1) <;>
  repeat' first | (with_reducible first | exact ih0 _ _ | exact ih1 _ _ | exact LeO.refl _ | exact LeO.none _ | refine LeO.ite ?_ ?_ | refine LeO.bind ?_ (fun _ => ?_)) | exact LeO.none _ | refine LeO.ite ?_ ?_ | refine LeO.bind ?_ (fun _ => ?_)
theorem spec_l1Hex.mono : ∀ a0 k, LeO (spec_l1Hex.f k a0) (spec_l1Hex.f (k + 1) a0) := by
 intro a0 k;obtain ⟨ih0, ih1⟩ := spec_l1Hex.mono_l k;unfold spec_l1Hex.f
 repeat' first | (with_reducible first | exact ih0 _ _ | exact ih1 _ _ | exact LeO.refl _ | exact LeO.none _ | refine LeO.ite ?_ ?_ | refine LeO.bind ?_ (fun _ => ?_)) | exact LeO.none _ | refine LeO.ite ?_ ?_ | refine LeO.bind ?_ (fun _ => ?_)
theorem spec_l1Hex.calls (k : Nat) (a0 : Int) (r : Int) (w : World) (h : spec_l1Hex.f k a0 = some r) :
  Calls Tryd.prog 93 #[.int .u8 a0] w fun e w' => e = .returned (.int .i64 r) ∧ Drawn0 w w' := by
 unfold spec_l1Hex.f at h
 have H := h;clear h;have HC2 := A_ H;clear H;go_enter Tryd.func93, Tryd.ntmps93;go_upto_region 1 with (fail)
 go_cut [3] (fun v3 wc => ∃ (kq : Nat) (x3_1 : Bool), v3 = .bool x3_1 ∧ Aside0 (spec_l1Hex.j0 kq a0 x3_1 = some r) ∧ Aside0 (kq ≤ k) ∧ Drawn0 w wc)
 case first =>
  obtain ⟨H⟩ := HC2;replace H := iteEe H;rcases H with ⟨c3b0, H⟩ | ⟨c3b0, H⟩
  ·(first | rw [c3b0] | (simp only [i64_w, i32_w]; rw [c3b0]) | skip)
   have H' := A_ H;clear H;go_wp2
   go_meet
   case rel => exact ⟨_, (decide (a0 ≤ 57)), zz5, H', ⟨zz6⟩, zz19⟩
  ·(first | rw [c3b0] | (simp only [i64_w, i32_w]; rw [c3b0]) | skip)
   have H' := A_ H;clear H;go_wp2
   go_meet
   case rel => exact ⟨_, (false), zz5, H', ⟨zz6⟩, zz19⟩
 case rest =>
  clear HC2;obtain ⟨kq, x3_1, rfl, HA, HJ1, ⟨mc1, rfl⟩⟩ := hcut;cases kq with
  | zero => exact absurd HA.out (by simp [spec_l1Hex.j0])
  | succ kj1 =>
   obtain ⟨H⟩ := HA;simp only [spec_l1Hex.j0] at H
   replace H := iteB H;rcases H with ⟨rfl, H⟩ | ⟨rfl, H⟩
   ·obtain rfl := sI H
    go_wp2
    go_ret
    exact ⟨zz5, zz19⟩
   ·have HC5 := A_ H
    clear H;go_upto_region 3 with (fail)
    go_cut [13] (fun v13 wc => ∃ (kq : Nat) (x13_4 : Bool), v13 = .bool x13_4 ∧ Aside0 (spec_l1Hex.j1 kq a0 x13_4 = some r) ∧ Aside0 (kq ≤ kj1) ∧ Drawn0 w wc)
    case first =>
     obtain ⟨H⟩ := HC5;replace H := iteEe H;rcases H with ⟨c6b0, H⟩ | ⟨c6b0, H⟩
     ·(first | rw [c6b0] | (simp only [i64_w, i32_w]; rw [c6b0]) | skip)
      have H' := A_ H;clear H;go_wp2
      go_meet
      case rel => exact ⟨_, (decide (a0 ≤ 102)), zz5, H', ⟨(zz26 HJ1)⟩, zz19⟩
     ·(first | rw [c6b0] | (simp only [i64_w, i32_w]; rw [c6b0]) | skip)
      have H' := A_ H;clear H;go_wp2
      go_meet
      case rel => exact ⟨_, (false), zz5, H', ⟨(zz26 HJ1)⟩, zz19⟩
    case rest =>
     clear HC5;obtain ⟨kq, x13_4, rfl, HA, HJ4, ⟨mc4, rfl⟩⟩ := hcut;cases kq with
     | zero => exact absurd HA.out (by simp [spec_l1Hex.j1])
     | succ kj4 =>
      obtain ⟨H⟩ := HA;simp only [spec_l1Hex.j1] at H
      replace H := iteB H;rcases H with ⟨rfl, H⟩ | ⟨rfl, H⟩
      ·obtain rfl := sI H
       go_wp2
       go_ret
       exact ⟨zz5, zz19⟩
      ·replace H := iteE H
       rcases H with ⟨c8, H⟩ | ⟨c8, H⟩
       ·have c8b0 := geT c8
        clear c8;replace H := iteEd H;rcases H with ⟨c9b0, H⟩ | ⟨c9b0, H⟩
        ·obtain rfl := sI H
         go_wp2
         go_ret
         exact ⟨zz5, zz19⟩
        ·obtain rfl := sI H
         go_wp2
         go_ret
         exact ⟨zz5, zz19⟩
       ·have c8b0 := geF c8
        clear c8;obtain rfl := sI H;go_wp2
        go_ret
        exact ⟨zz5, zz19⟩
def spec_l1Sign.f (a0 : Int) : Option (ByteArray) := if 0 ≤ (wrap64 (Int.tdiv a0 16)) then (if (wrap64 (Int.tdiv a0 16)) ≤ (wrap64 ((wrap64 (Int.tdiv a0 16)) + 1)) then (if (wrap64 ((wrap64 (Int.tdiv a0 16)) + 1)) ≤ 16 then (if 1 + ((⟨#[48, 49, 50, 51, 52, 53, 54, 55, 56, 57, 65, 66, 67, 68, 69, 70]⟩ : ByteArray).extract ((wrap64 (Int.tdiv a0 16)) : Int).toNat ((wrap64 ((wrap64 (Int.tdiv a0 16)) + 1)) : Int).toNat).size ≤ 9223372036854775807 then (if 0 ≤ (Int.tmod a0 16) then (if (Int.tmod a0 16) ≤ (wrap64 ((Int.tmod a0 16) + 1)) then (if (wrap64 ((Int.tmod a0 16) + 1)) ≤ 16 then (if 1 + (((⟨#[48, 49, 50, 51, 52, 53, 54, 55, 56, 57, 65, 66, 67, 68, 69, 70]⟩ : ByteArray).extract ((wrap64 (Int.tdiv a0 16)) : Int).toNat ((wrap64 ((wrap64 (Int.tdiv a0 16)) + 1)) : Int).toNat).size) + ((⟨#[48, 49, 50, 51, 52, 53, 54, 55, 56, 57, 65, 66, 67, 68, 69, 70]⟩ : ByteArray).extract ((Int.tmod a0 16) : Int).toNat ((wrap64 ((Int.tmod a0 16) + 1)) : Int).toNat).size ≤ 9223372036854775807 then (some (((⟨#[37]⟩ : ByteArray) ++ ((⟨#[48, 49, 50, 51, 52, 53, 54, 55, 56, 57, 65, 66, 67, 68, 69, 70]⟩ : ByteArray).extract ((wrap64 (Int.tdiv a0 16)) : Int).toNat ((wrap64 ((wrap64 (Int.tdiv a0 16)) + 1)) : Int).toNat)) ++ ((⟨#[48, 49, 50, 51, 52, 53, 54, 55, 56, 57, 65, 66, 67, 68, 69, 70]⟩ : ByteArray).extract ((Int.tmod a0 16) : Int).toNat ((wrap64 ((Int.tmod a0 16) + 1)) : Int).toNat))) else (none)) else (none)) else (none)) else (none)) else (none)) else (none)) else (none)) else (none)
theorem spec_l1Sign.calls (a0 : Int) (r : ByteArray) (w : World) (h : spec_l1Sign.f a0 = some r) :
  Calls Tryd.prog 94 #[.int .i64 a0] w fun e w' => e = .returned (.string r) ∧ Drawn0 w w' := by
 unfold spec_l1Sign.f at h
 have H := h;clear h;obtain ⟨ji2, hji2⟩ : ∃ j_ : Int, (wrap64 (Int.tdiv a0 16)) = j_ := ⟨_, rfl⟩;(first | rw [hji2] at H | simp only [hji2] at H)
 have hji2w : (IntKind.i64.wrap (Int.tdiv a0 16)) = ji2 := (i64_w _).trans hji2;replace H := iteE H;rcases H with ⟨c3, H⟩ | ⟨c3, H⟩
 ·have c3b0 := eq_true c3
  have c3b1 := dT c3;clear c3;replace H := iteN H;obtain ⟨c4, H⟩ := H;have c4b0 := eq_true c4;have c4b1 := dT c4;replace H := iteN H;obtain ⟨c5, H⟩ := H;have c5b0 := eq_true c5;have c5b1 := dT c5;replace H := iteN H;obtain ⟨c6, H⟩ := H;have c6b0 := eq_true c6;have c6b1 := dT c6;try have c6b2 : (9223372036854775807 < 1 + ((⟨#[48, 49, 50, 51, 52, 53, 54, 55, 56, 57, 65, 66, 67, 68, 69, 70]⟩ : ByteArray).extract ((ji2) : Int).toNat ((wrap64 ((ji2) + 1)) : Int).toNat).size) = False := eq_false (Nat.not_lt.2 c6)
  obtain ⟨ji7, hji7⟩ : ∃ j_ : Int, (Int.tmod a0 16) = j_ := ⟨_, rfl⟩;(first | rw [hji7] at H | simp only [hji7] at H)
  replace H := iteN H;obtain ⟨c8, H⟩ := H;have c8b0 := eq_true c8;have c8b1 := dT c8;clear c8;replace H := iteN H;obtain ⟨c9, H⟩ := H;have c9b0 := eq_true c9;have c9b1 := dT c9;replace H := iteN H;obtain ⟨c10, H⟩ := H;have c10b0 := eq_true c10;have c10b1 := dT c10;replace H := iteN H;obtain ⟨c11, H⟩ := H;have c11b0 := eq_true c11;have c11b1 := dT c11;try have c11b2 : (9223372036854775807 < 1 + (((⟨#[48, 49, 50, 51, 52, 53, 54, 55, 56, 57, 65, 66, 67, 68, 69, 70]⟩ : ByteArray).extract ((ji2) : Int).toNat ((wrap64 ((ji2) + 1)) : Int).toNat).size) + ((⟨#[48, 49, 50, 51, 52, 53, 54, 55, 56, 57, 65, 66, 67, 68, 69, 70]⟩ : ByteArray).extract ((ji7) : Int).toNat ((wrap64 ((ji7) + 1)) : Int).toNat).size) = False := eq_false (Nat.not_lt.2 c11)
  obtain rfl := sI H;go_enter Tryd.func94, Tryd.ntmps94;go_wp2
  repeat (go_quiet (fail); try go_wp2)
  go_ret
  exact ⟨(by first | rfl | (simp only [i64_w, i32_w]; done) | (simp only [aid_isEmpty, aid_isEmpty2]; done) | (simp; done) | (simp only [← hji2, ← hji7] <;> (first | rfl | simp)) | (simp [*]; done)), zz19⟩
 ·exact absurd H (by simp)
mutual
def spec_EscNorm.l0 : Nat → ByteArray → ByteArray → Int → Option (ByteArray × Bool)
 | 0, _, _, _ => none
 | k + 1, x0, x4, x5 => if x5 < (x0.size : Int) then (if 0 ≤ x5 then (if (bt x0 x5) = 37 then (if (wrap64 (x5 + 2)) ≥ (x0.size : Int) then (spec_EscNorm.j1 k x0 x4 x5 true) else (if 0 ≤ (wrap64 (x5 + 1)) then (if (wrap64 (x5 + 1)) < (x0.size : Int) then ((spec_l1Hex.f k (bt x0 (wrap64 (x5 + 1)))).bind fun t230 => (if t230 < 0 then (spec_EscNorm.j1 k x0 x4 x5 true) else (if 0 ≤ (wrap64 (x5 + 2)) then (if (wrap64 (x5 + 2)) < (x0.size : Int) then ((spec_l1Hex.f k (bt x0 (wrap64 (x5 + 2)))).bind fun t231 => (spec_EscNorm.j1 k x0 x4 x5 (decide (t231 < 0)))) else (none)) else (none)))) else (none)) else (none))) else (spec_EscNorm.j2 k x0 x4 x5 (wrap64 (bt x0 x5)))) else (none)) else (some (x4, true))
def spec_EscNorm.j2 : Nat → ByteArray → ByteArray → Int → Int → Option (ByteArray × Bool)
 | 0, _, _, _, _ => none
 | k + 1, x0, x4, x5, x6 => (spec_l1Plain.f ((x6) % 256)).bind fun t234 => (if t234 = true then ((some (([(x6) % 256] : List Int) : List Int)).bind fun y235 => (if x4.size + (strOfNums y235).size ≤ 9223372036854775807 then (spec_EscNorm.l0 k x0 (x4 ++ (strOfNums y235)) (wrap64 (x5 + 1))) else (none))) else ((spec_l1Sign.f x6).bind fun t238 => (if x4.size + t238.size ≤ 9223372036854775807 then (spec_EscNorm.l0 k x0 (x4 ++ t238) (wrap64 (x5 + 1))) else (none))))
def spec_EscNorm.j1 : Nat → ByteArray → ByteArray → Int → Bool → Option (ByteArray × Bool)
 | 0, _, _, _, _ => none
 | k + 1, x0, x4, x5, x44 => if x44 = true then (some ((⟨#[]⟩ : ByteArray), false)) else (if 0 ≤ (wrap64 (x5 + 1)) then (if (wrap64 (x5 + 1)) < (x0.size : Int) then ((spec_l1Hex.f k (bt x0 (wrap64 (x5 + 1)))).bind fun t232 => (if 0 ≤ (wrap64 (x5 + 2)) then (if (wrap64 (x5 + 2)) < (x0.size : Int) then ((spec_l1Hex.f k (bt x0 (wrap64 (x5 + 2)))).bind fun t233 => (spec_EscNorm.j2 k x0 x4 (wrap64 (x5 + 2)) (wrap64 ((wrap64 (t232 * 16)) + t233)))) else (none)) else (none))) else (none)) else (none))
end
def spec_EscNorm.f (k : Nat) (a0 : ByteArray) : Option (ByteArray × Bool) := if (a0.size : Int) > 60 then (some ((⟨#[]⟩ : ByteArray), false)) else (spec_EscNorm.l0 k a0 (⟨#[]⟩ : ByteArray) 0)
theorem spec_EscNorm.mono_l : ∀ k, (∀ y0 y1 y2, LeO (spec_EscNorm.l0 k y0 y1 y2) (spec_EscNorm.l0 (k + 1) y0 y1 y2)) ∧ (∀ y0 y1 y2 y3, LeO (spec_EscNorm.j2 k y0 y1 y2 y3) (spec_EscNorm.j2 (k + 1) y0 y1 y2 y3)) ∧ (∀ y0 y1 y2 y3, LeO (spec_EscNorm.j1 k y0 y1 y2 y3) (spec_EscNorm.j1 (k + 1) y0 y1 y2 y3))
 | 0 => by refine ⟨?_, ?_, ?_⟩ <;> (intros; intro r h; simp [spec_EscNorm.l0, spec_EscNorm.j2, spec_EscNorm.j1] at h)
 | k + 1 => by
  obtain ⟨ih0, ih1, ih2⟩ := spec_EscNorm.mono_l k;refine ⟨?_, ?_, ?_⟩ <;> intros <;> (first | unfold spec_EscNorm.l0 | unfold spec_EscNorm.j2 | unfold spec_EscNorm.j1) <;>
  repeat' first | (with_reducible first | exact ih0 _ _ _ | exact ih1 _ _ _ _ | exact ih2 _ _ _ _ | exact spec_l1Hex.mono _ _ | exact LeO.refl _ | exact LeO.none _ | refine LeO.ite ?_ ?_ | refine LeO.bind ?_ (fun _ => ?_)) | exact LeO.none _ | refine LeO.ite ?_ ?_ | refine LeO.bind ?_ (fun _ => ?_)
theorem spec_EscNorm.mono : ∀ a0 k, LeO (spec_EscNorm.f k a0) (spec_EscNorm.f (k + 1) a0) := by
 intro a0 k;obtain ⟨ih0, ih1, ih2⟩ := spec_EscNorm.mono_l k;unfold spec_EscNorm.f
 repeat' first | (with_reducible first | exact ih0 _ _ _ | exact ih1 _ _ _ _ | exact ih2 _ _ _ _ | exact spec_l1Hex.mono _ _ | exact LeO.refl _ | exact LeO.none _ | refine LeO.ite ?_ ?_ | refine LeO.bind ?_ (fun _ => ?_)) | exact LeO.none _ | refine LeO.ite ?_ ?_ | refine LeO.bind ?_ (fun _ => ?_)
theorem spec_EscNorm.calls (k : Nat) (a0 : ByteArray) (r1 : ByteArray) (r2 : Bool) (w : World) (h : spec_EscNorm.f k a0 = some (r1, r2)) :
  Calls Tryd.prog 82 #[.string a0] w fun e w' => e = .returned (.tuple #[.string r1, .bool r2]) ∧ Below w.heap.size w w' := by
 have HB := A_ (Below.refl w.heap.size w);unfold spec_EscNorm.f at h
 have H := h;clear h;replace H := iteE H;rcases H with ⟨c2, H⟩ | ⟨c2, H⟩
 ·have c2b0 := gtT c2
  have c2b1 : decide (60 < a0.size) = true := dT (by omega);clear c2;simp only [Option.some.injEq, Prod.mk.injEq] at H
  obtain ⟨rfl, rfl⟩ := H;go_enter Tryd.func82, Tryd.ntmps82;go_wp2
  repeat (go_quiet (fail); try go_wp2)
  go_ret2
  exact ⟨zz11, (zz2 HB)⟩
 ·have c2b0 := gtF c2
  have c2b1 : decide (60 < a0.size) = false := dF (by omega);clear c2;have H' := A_ H;clear H;go_enter Tryd.func82, Tryd.ntmps82;go_wp2
  repeat (go_quiet (fail); try go_wp2)
  go_loopg [4, 5] k (fun kq v4 v5 w' => ∃ (x4_1 : ByteArray) (x5_1 : Int), v4 = .string x4_1 ∧ v5 = .int .i64 x5_1 ∧ Aside0 (spec_EscNorm.l0 kq a0 x4_1 x5_1 = some (r1, r2)) ∧ Aside0 (kq ≤ k) ∧ Aside0 (Below w.heap.size w w'))
  case atStart => exact ⟨((⟨#[]⟩ : ByteArray)), (0), zz5, zz5, H', ⟨Nat.le_refl _⟩, ⟨(zz2 HB)⟩⟩
  case round =>
   clear H';obtain ⟨x4_1, x5_1, rfl, rfl, HA, HK1, HB⟩ := hrel;cases gk with
   | zero => exact absurd HA.out (by simp [spec_EscNorm.l0])
   | succ k1 =>
    obtain ⟨H⟩ := HA;simp only [spec_EscNorm.l0] at H
    replace H := iteEd H;rcases H with ⟨c3b0, H⟩ | ⟨c3b0, H⟩
    ·replace H := iteNd H
     obtain ⟨c4b0, H⟩ := H;have HC7 := A_ H;clear H;have p5 : 0 ≤ (x5_1 : Int) := ofD;have q5 : x5_1 < (a0.size : Int) := ofD;have hx5 := bt_at a0 x5_1;replace p5 := eq_true p5;replace q5 := eq_true q5;have p6 : 0 ≤ (x5_1 : Int) := ofD;have q6 : x5_1 < (a0.size : Int) := ofD;have hx6 := bt_at a0 x5_1;replace p6 := eq_true p6;replace q6 := eq_true q6;go_upto_if 23 with (fail)
     repeat (go_quiet (fail); go_upto_if 23 with (fail))
     go_cut [5, 6] (fun v5 v6 wc => ∃ (kq : Nat) (x5_6 : Int) (x6_6 : Int), v5 = .int .i64 x5_6 ∧ v6 = .int .i64 x6_6 ∧ Aside0 (spec_EscNorm.j2 kq a0 x4_1 x5_6 x6_6 = some (r1, r2)) ∧ Aside0 (kq ≤ k1) ∧ Aside0 (Below w.heap.size w wc))
     case first =>
      obtain ⟨H⟩ := HC7;replace H := iteEq H;rcases H with ⟨c8b0, c8b1, H⟩ | ⟨c8b0, c8b1, c8, H⟩
      ·(first | rw [c8b0] | (simp only [i64_w, i32_w]; rw [c8b0]) | skip)
       have HC9 := A_ H;clear H;go_upto_region 9 with (fail)
       repeat (go_quiet (fail); go_upto_region 9 with (fail))
       go_cut [44] (fun v44 wc => ∃ (kq : Nat) (x44_8 : Bool), v44 = .bool x44_8 ∧ Aside0 (spec_EscNorm.j1 kq a0 x4_1 x5_1 x44_8 = some (r1, r2)) ∧ Aside0 (kq ≤ k1) ∧ Aside0 (Below w.heap.size w wc))
       case first =>
        obtain ⟨H⟩ := HC9;replace H := iteEe H;rcases H with ⟨c10b0, H⟩ | ⟨c10b0, H⟩
        ·(first | rw [c10b0] | (simp only [i64_w, i32_w]; rw [c10b0]) | skip)
         have H' := A_ H;clear H;go_wp2
         repeat (go_quiet (fail); try go_wp2)
         go_meet
         case rel => exact ⟨_, (true), zz5, H', ⟨(zz26 HK1)⟩, ⟨(zz2 HB)⟩⟩
        ·(first | rw [c10b0] | (simp only [i64_w, i32_w]; rw [c10b0]) | skip)
         obtain ⟨ji11, hji11⟩ : ∃ j_ : Int, (wrap64 (x5_1 + 1)) = j_ := ⟨_, rfl⟩;(first | rw [hji11] at H | simp only [hji11] at H)
         have hji11w : (IntKind.i64.wrap (x5_1 + 1)) = ji11 := (i64_w _).trans hji11;replace H := iteNd H;obtain ⟨c12b0, H⟩ := H;replace H := iteNd H;obtain ⟨c13b0, H⟩ := H;replace H := bindA H;obtain ⟨t230, A15, H⟩ := H;have HF16 := A_ H;clear H;have p14 : 0 ≤ ((ji11) : Int) := ofD;have q14 : (ji11) < (a0.size : Int) := ofD;have hx14 := bt_at a0 (ji11);replace p14 := eq_true p14;replace q14 := eq_true q14;go_wp2_with (first | (go_at_call 93; (with_reducible refine (spec_l1Hex.calls k1 (bt a0 (ji11)) t230 _ A15.out).mono ?_); rintro e w' ⟨rfl, ⟨nd, rfl⟩⟩; (try first | exact ⟨rfl, _, World.drewN_drewN _ _ _⟩ | exact ⟨rfl, _, Eq.trans (World.drewN_drewN _ _ _) (congrArg (World.drewN _) (Nat.add_assoc _ _ _))⟩)) | ((with_reducible refine atG ?_ ?_ fun K_ hK_ => ?_); rfl; exact undecG) | ((with_reducible refine atI ?_ fun K_ hK_ => ?_); exact undecI))
         repeat (go_quiet (first | (go_at_call 93; (with_reducible refine (spec_l1Hex.calls k1 (bt a0 (ji11)) t230 _ A15.out).mono ?_); rintro e w' ⟨rfl, ⟨nd, rfl⟩⟩; (try first | exact ⟨rfl, _, World.drewN_drewN _ _ _⟩ | exact ⟨rfl, _, Eq.trans (World.drewN_drewN _ _ _) (congrArg (World.drewN _) (Nat.add_assoc _ _ _))⟩)) | ((with_reducible refine atG ?_ ?_ fun K_ hK_ => ?_); rfl; exact undecG) | ((with_reducible refine atI ?_ fun K_ hK_ => ?_); exact undecI)); go_wp2_with (first | (go_at_call 93; (with_reducible refine (spec_l1Hex.calls k1 (bt a0 (ji11)) t230 _ A15.out).mono ?_); rintro e w' ⟨rfl, ⟨nd, rfl⟩⟩; (try first | exact ⟨rfl, _, World.drewN_drewN _ _ _⟩ | exact ⟨rfl, _, Eq.trans (World.drewN_drewN _ _ _) (congrArg (World.drewN _) (Nat.add_assoc _ _ _))⟩)) | ((with_reducible refine atG ?_ ?_ fun K_ hK_ => ?_); rfl; exact undecG) | ((with_reducible refine atI ?_ fun K_ hK_ => ?_); exact undecI)))
         refine unG hK_ ?_; clear hK_ K_;obtain ⟨H⟩ := HF16;replace H := iteE H;rcases H with ⟨c17, H⟩ | ⟨c17, H⟩
         ·have c17b0 := dT c17
          (first | refine iteT ?_ | refine iteF ?_ | skip)
          clear c17;(first | rw [c17b0] | (simp only [i64_w, i32_w]; rw [c17b0]) | skip)
          have H' := A_ H;clear H;(try ((with_reducible refine upS ?_); go_simp))
          go_wp2
          repeat (go_quiet (fail); try go_wp2)
          go_meet
          case rel => exact ⟨_, (true), zz5, H', ⟨(zz26 HK1)⟩, ⟨(zz2 HB)⟩⟩
         ·have c17b0 := dF c17
          (first | refine iteT ?_ | refine iteF ?_ | skip)
          clear c17;(first | rw [c17b0] | (simp only [i64_w, i32_w]; rw [c17b0]) | skip)
          obtain ⟨ji18, hji18⟩ : ∃ j_ : Int, (wrap64 (x5_1 + 2)) = j_ := ⟨_, rfl⟩;(first | rw [hji18] at H | simp only [hji18] at H)
          (try rw [hji18] at c10b0)
          have hji18w : (IntKind.i64.wrap (x5_1 + 2)) = ji18 := (i64_w _).trans hji18;replace H := iteNd H;obtain ⟨c19b0, H⟩ := H;replace H := iteNd H;obtain ⟨c20b0, H⟩ := H;replace H := bindA H;obtain ⟨t231, A22, H⟩ := H;have H' := A_ H;clear H;have p21 : 0 ≤ ((ji18) : Int) := ofD;have q21 : (ji18) < (a0.size : Int) := ofD;have hx21 := bt_at a0 (ji18);replace p21 := eq_true p21;replace q21 := eq_true q21;go_wp2_with (first | (go_at_call 93; (with_reducible refine (spec_l1Hex.calls k1 (bt a0 (ji18)) t231 _ A22.out).mono ?_); rintro e w' ⟨rfl, ⟨nd, rfl⟩⟩; (try first | exact ⟨rfl, _, World.drewN_drewN _ _ _⟩ | exact ⟨rfl, _, Eq.trans (World.drewN_drewN _ _ _) (congrArg (World.drewN _) (Nat.add_assoc _ _ _))⟩)))
          repeat (go_quiet (first | (go_at_call 93; (with_reducible refine (spec_l1Hex.calls k1 (bt a0 (ji18)) t231 _ A22.out).mono ?_); rintro e w' ⟨rfl, ⟨nd, rfl⟩⟩; (try first | exact ⟨rfl, _, World.drewN_drewN _ _ _⟩ | exact ⟨rfl, _, Eq.trans (World.drewN_drewN _ _ _) (congrArg (World.drewN _) (Nat.add_assoc _ _ _))⟩))); try go_wp2_with (first | (go_at_call 93; (with_reducible refine (spec_l1Hex.calls k1 (bt a0 (ji18)) t231 _ A22.out).mono ?_); rintro e w' ⟨rfl, ⟨nd, rfl⟩⟩; (try first | exact ⟨rfl, _, World.drewN_drewN _ _ _⟩ | exact ⟨rfl, _, Eq.trans (World.drewN_drewN _ _ _) (congrArg (World.drewN _) (Nat.add_assoc _ _ _))⟩))))
          go_meet
          case rel => exact ⟨_, (decide (t231 < 0)), zz5, H', ⟨(zz26 HK1)⟩, ⟨(zz2 HB)⟩⟩
       case rest =>
        clear HC9;obtain ⟨kq, x44_8, rfl, HA, HJ8, HB⟩ := hcut;cases kq with
        | zero => exact absurd HA.out (by simp [spec_EscNorm.j1])
        | succ kj8 =>
         obtain ⟨H⟩ := HA;simp only [spec_EscNorm.j1] at H
         replace H := iteB H;rcases H with ⟨rfl, H⟩ | ⟨rfl, H⟩
         ·simp only [Option.some.injEq, Prod.mk.injEq] at H
          obtain ⟨rfl, rfl⟩ := H;go_wp2
          repeat (go_quiet (fail); try go_wp2)
          go_ret2
          exact ⟨zz11, (zz2 HB)⟩
         ·obtain ⟨ji24, hji24⟩ : ∃ j_ : Int, (wrap64 (x5_1 + 1)) = j_ := ⟨_, rfl⟩
          (first | rw [hji24] at H | simp only [hji24] at H)
          have hji24w : (IntKind.i64.wrap (x5_1 + 1)) = ji24 := (i64_w _).trans hji24;replace H := iteNd H;obtain ⟨c25b0, H⟩ := H;replace H := iteNd H;obtain ⟨c26b0, H⟩ := H;replace H := bindA H;obtain ⟨t232, A28, H⟩ := H;obtain ⟨ji29, hji29⟩ : ∃ j_ : Int, (wrap64 (x5_1 + 2)) = j_ := ⟨_, rfl⟩;(first | rw [hji29] at H | simp only [hji29] at H)
          (try rw [hji29] at A28)
          have hji29w : (IntKind.i64.wrap (x5_1 + 2)) = ji29 := (i64_w _).trans hji29;replace H := iteNd H;obtain ⟨c30b0, H⟩ := H;replace H := iteNd H;obtain ⟨c31b0, H⟩ := H;replace H := bindA H;obtain ⟨t233, A33, H⟩ := H;have H' := A_ H;clear H;have p27 : 0 ≤ ((ji24) : Int) := ofD;have q27 : (ji24) < (a0.size : Int) := ofD;have hx27 := bt_at a0 (ji24);replace p27 := eq_true p27;replace q27 := eq_true q27;go_wp2_with (first | (go_at_call 93; (with_reducible refine (spec_l1Hex.calls kj8 (bt a0 (ji24)) t232 _ A28.out).mono ?_); rintro e w' ⟨rfl, ⟨nd, rfl⟩⟩; (try first | exact ⟨rfl, _, World.drewN_drewN _ _ _⟩ | exact ⟨rfl, _, Eq.trans (World.drewN_drewN _ _ _) (congrArg (World.drewN _) (Nat.add_assoc _ _ _))⟩); have p32 : 0 ≤ ((ji29) : Int) := ofD; have q32 : (ji29) < (a0.size : Int) := ofD; have hx32 := bt_at a0 (ji29); replace p32 := eq_true p32; replace q32 := eq_true q32) | (go_at_call 93; (with_reducible refine (spec_l1Hex.calls kj8 (bt a0 (ji29)) t233 _ A33.out).mono ?_); rintro e w' ⟨rfl, ⟨nd, rfl⟩⟩; (try first | exact ⟨rfl, _, World.drewN_drewN _ _ _⟩ | exact ⟨rfl, _, Eq.trans (World.drewN_drewN _ _ _) (congrArg (World.drewN _) (Nat.add_assoc _ _ _))⟩)))
          repeat (go_quiet (first | (go_at_call 93; (with_reducible refine (spec_l1Hex.calls kj8 (bt a0 (ji24)) t232 _ A28.out).mono ?_); rintro e w' ⟨rfl, ⟨nd, rfl⟩⟩; (try first | exact ⟨rfl, _, World.drewN_drewN _ _ _⟩ | exact ⟨rfl, _, Eq.trans (World.drewN_drewN _ _ _) (congrArg (World.drewN _) (Nat.add_assoc _ _ _))⟩); have p32 : 0 ≤ ((ji29) : Int) := ofD; have q32 : (ji29) < (a0.size : Int) := ofD; have hx32 := bt_at a0 (ji29); replace p32 := eq_true p32; replace q32 := eq_true q32) | (go_at_call 93; (with_reducible refine (spec_l1Hex.calls kj8 (bt a0 (ji29)) t233 _ A33.out).mono ?_); rintro e w' ⟨rfl, ⟨nd, rfl⟩⟩; (try first | exact ⟨rfl, _, World.drewN_drewN _ _ _⟩ | exact ⟨rfl, _, Eq.trans (World.drewN_drewN _ _ _) (congrArg (World.drewN _) (Nat.add_assoc _ _ _))⟩))); try go_wp2_with (first | (go_at_call 93; (with_reducible refine (spec_l1Hex.calls kj8 (bt a0 (ji24)) t232 _ A28.out).mono ?_); rintro e w' ⟨rfl, ⟨nd, rfl⟩⟩; (try first | exact ⟨rfl, _, World.drewN_drewN _ _ _⟩ | exact ⟨rfl, _, Eq.trans (World.drewN_drewN _ _ _) (congrArg (World.drewN _) (Nat.add_assoc _ _ _))⟩); have p32 : 0 ≤ ((ji29) : Int) := ofD; have q32 : (ji29) < (a0.size : Int) := ofD; have hx32 := bt_at a0 (ji29); replace p32 := eq_true p32; replace q32 := eq_true q32) | (go_at_call 93; (with_reducible refine (spec_l1Hex.calls kj8 (bt a0 (ji29)) t233 _ A33.out).mono ?_); rintro e w' ⟨rfl, ⟨nd, rfl⟩⟩; (try first | exact ⟨rfl, _, World.drewN_drewN _ _ _⟩ | exact ⟨rfl, _, Eq.trans (World.drewN_drewN _ _ _) (congrArg (World.drewN _) (Nat.add_assoc _ _ _))⟩))))
          go_meet
          case rel => exact ⟨_, (ji29), (wrap64 ((wrap64 (t232 * 16)) + t233)), (by first | rfl | (simp only [i64_w, i32_w]; done) | (simp only [aid_isEmpty, aid_isEmpty2]; done) | (simp; done) | ((simp only [← hji29] <;> (first | rfl | simp)); done) | (simp [*]; done)), zz5, H', ⟨(by have := HK1.out; have := HJ8.out; first | omega | exact Nat.le_refl _)⟩, ⟨(zz2 HB)⟩⟩
      ·(first | rw [c8b0] | (simp only [i64_w, i32_w]; rw [c8b0]) | skip)
       have H' := A_ H;clear H;go_wp2
       repeat (go_quiet (fail); try go_wp2)
       go_meet
       case rel => exact ⟨_, (x5_1), (wrap64 (bt a0 x5_1)), zz5, zz5, H', ⟨(zz26 HK1)⟩, ⟨(zz2 HB)⟩⟩
     case rest =>
      clear HC7;obtain ⟨kq, x5_6, x6_6, rfl, rfl, HA, HJ6, HB⟩ := hcut;cases kq with
      | zero => exact absurd HA.out (by simp [spec_EscNorm.j2])
      | succ kj6 =>
       obtain ⟨H⟩ := HA;simp only [spec_EscNorm.j2] at H
       replace H := bindA H;obtain ⟨t234, A34, H⟩ := H;have HF35 := A_ H;clear H;go_upto_if 61 with (first | (go_at_call 92; (with_reducible refine (spec_l1Plain.calls ((x6_6) % 256) t234 _ A34.out).mono ?_); rintro e w' ⟨rfl, ⟨nd, rfl⟩⟩; (try first | exact ⟨rfl, _, World.drewN_drewN _ _ _⟩ | exact ⟨rfl, _, Eq.trans (World.drewN_drewN _ _ _) (congrArg (World.drewN _) (Nat.add_assoc _ _ _))⟩)))
       repeat (go_quiet (first | (go_at_call 92; (with_reducible refine (spec_l1Plain.calls ((x6_6) % 256) t234 _ A34.out).mono ?_); rintro e w' ⟨rfl, ⟨nd, rfl⟩⟩; (try first | exact ⟨rfl, _, World.drewN_drewN _ _ _⟩ | exact ⟨rfl, _, Eq.trans (World.drewN_drewN _ _ _) (congrArg (World.drewN _) (Nat.add_assoc _ _ _))⟩))); go_upto_if 61 with (first | (go_at_call 92; (with_reducible refine (spec_l1Plain.calls ((x6_6) % 256) t234 _ A34.out).mono ?_); rintro e w' ⟨rfl, ⟨nd, rfl⟩⟩; (try first | exact ⟨rfl, _, World.drewN_drewN _ _ _⟩ | exact ⟨rfl, _, Eq.trans (World.drewN_drewN _ _ _) (congrArg (World.drewN _) (Nat.add_assoc _ _ _))⟩))))
       obtain ⟨H⟩ := HF35;replace H := iteB H;rcases H with ⟨rfl, H⟩ | ⟨rfl, H⟩
       ·obtain ⟨y235, hy235⟩ : ∃ y_ : List Int, y_ = (([(x6_6) % 256] : List Int)) := ⟨_, rfl⟩
        replace H : (if x4_1.size + (strOfNums y235).size ≤ 9223372036854775807 then (spec_EscNorm.l0 kj6 a0 (x4_1 ++ (strOfNums y235)) (wrap64 (x5_6 + 1))) else (none)) = some (r1, r2) := by first | (rw [hy235]; with_reducible exact H) | (have H2_ := (Option.bind_some _ _).symm.trans H; rw [hy235]; with_reducible exact H2_) | (have H2_ := (Option.bind_some _ _).symm.trans H; with_reducible exact H2_) | with_reducible exact H | (rw [hy235]; exact H) | exact H
        have Ny235 := A_ hy235;clear hy235;replace H := iteN H;obtain ⟨c37, H⟩ := H;have c37b0 := eq_true c37;have c37b1 := dT c37;try have c37b2 : (9223372036854775807 < x4_1.size + (strOfNums y235).size) = False := eq_false (Nat.not_lt.2 c37)
        have H' := A_ H;clear H;go_wp2_with (first | ((with_reducible refine gD (N := 65) rfl ?_); refine Kd.R_lit (Kd.int .u8) _ 5 ?hg (N := 65) ?hd (xs := ([(x6_6) % 256] : List Int)) (inner := [.int .u8 ((x6_6) % 256)]) (ok := fun _ => True) (okp := fun _ => True) ?hr ?hp (fun _ hk => hk) trivial (Below.refl _ _) (Nat.le_refl _) (by simp) ?_; (case hd => rfl); (case hg => rfl); (case hr => exact zz16); (case hp => exact (Reps.one (show Kd.M (Kd.int .u8) _ _ _ ((x6_6) % 256) [.int .u8 ((x6_6) % 256)] from rfl) (Reps.none _ _))); intro v236 w38 ho39 hb hg_ hnew_; clear hg_ hnew_; (first | rw [← Ny235.out] at ho39 | (simp only [Int.reduceToNat] at ho39; rw [← Ny235.out] at ho39)); have HO237 := A_ (Kd.R_lower ho39 (below_size (zz2 HB))); replace HB := A_ (bS (zz2 HB) hb); clear hb ho39; have hcv40 := own_string (P := Tryd.prog) Tryd.underlying22 Tryd.underlying5 Tryd.underlying9 (Kd.own_of_R HO237.out)))
        repeat (go_quiet (first | ((with_reducible refine gD (N := 65) rfl ?_); refine Kd.R_lit (Kd.int .u8) _ 5 ?hg (N := 65) ?hd (xs := ([(x6_6) % 256] : List Int)) (inner := [.int .u8 ((x6_6) % 256)]) (ok := fun _ => True) (okp := fun _ => True) ?hr ?hp (fun _ hk => hk) trivial (Below.refl _ _) (Nat.le_refl _) (by simp) ?_; (case hd => rfl); (case hg => rfl); (case hr => exact zz16); (case hp => exact (Reps.one (show Kd.M (Kd.int .u8) _ _ _ ((x6_6) % 256) [.int .u8 ((x6_6) % 256)] from rfl) (Reps.none _ _))); intro v236 w38 ho39 hb hg_ hnew_; clear hg_ hnew_; (first | rw [← Ny235.out] at ho39 | (simp only [Int.reduceToNat] at ho39; rw [← Ny235.out] at ho39)); have HO237 := A_ (Kd.R_lower ho39 (below_size (zz2 HB))); replace HB := A_ (bS (zz2 HB) hb); clear hb ho39; have hcv40 := own_string (P := Tryd.prog) Tryd.underlying22 Tryd.underlying5 Tryd.underlying9 (Kd.own_of_R HO237.out))); try go_wp2_with (first | ((with_reducible refine gD (N := 65) rfl ?_); refine Kd.R_lit (Kd.int .u8) _ 5 ?hg (N := 65) ?hd (xs := ([(x6_6) % 256] : List Int)) (inner := [.int .u8 ((x6_6) % 256)]) (ok := fun _ => True) (okp := fun _ => True) ?hr ?hp (fun _ hk => hk) trivial (Below.refl _ _) (Nat.le_refl _) (by simp) ?_; (case hd => rfl); (case hg => rfl); (case hr => exact zz16); (case hp => exact (Reps.one (show Kd.M (Kd.int .u8) _ _ _ ((x6_6) % 256) [.int .u8 ((x6_6) % 256)] from rfl) (Reps.none _ _))); intro v236 w38 ho39 hb hg_ hnew_; clear hg_ hnew_; (first | rw [← Ny235.out] at ho39 | (simp only [Int.reduceToNat] at ho39; rw [← Ny235.out] at ho39)); have HO237 := A_ (Kd.R_lower ho39 (below_size (zz2 HB))); replace HB := A_ (bS (zz2 HB) hb); clear hb ho39; have hcv40 := own_string (P := Tryd.prog) Tryd.underlying22 Tryd.underlying5 Tryd.underlying9 (Kd.own_of_R HO237.out))))
        go_roundg kj6
        case measure => have := HK1.out; have := HJ6.out; omega
        case rel => exact ⟨(x4_1 ++ (strOfNums y235)), (wrap64 (x5_6 + 1)), zz5, zz5, H', ⟨(zz24 HK1 HJ6)⟩, ⟨(zz2 HB)⟩⟩
       ·replace H := Option.bind_eq_some_iff.mp H
        obtain ⟨t238, A410, H⟩ := H;replace H : (if x4_1.size + t238.size ≤ 9223372036854775807 then (spec_EscNorm.l0 kj6 a0 (x4_1 ++ t238) (wrap64 (x5_6 + 1))) else (none)) = some (r1, r2) := H;have A41 := A_ A410;clear A410;replace H := iteN H;obtain ⟨c42, H⟩ := H;have c42b0 := eq_true c42;have c42b1 := dT c42;try have c42b2 : (9223372036854775807 < x4_1.size + t238.size) = False := eq_false (Nat.not_lt.2 c42)
        have H' := A_ H;clear H;go_wp2_with (first | (go_at_call 94; (with_reducible refine (spec_l1Sign.calls x6_6 t238 _ A41.out).mono ?_); rintro e w' ⟨rfl, ⟨nd, rfl⟩⟩; (try first | exact ⟨rfl, _, World.drewN_drewN _ _ _⟩ | exact ⟨rfl, _, Eq.trans (World.drewN_drewN _ _ _) (congrArg (World.drewN _) (Nat.add_assoc _ _ _))⟩)))
        repeat (go_quiet (first | (go_at_call 94; (with_reducible refine (spec_l1Sign.calls x6_6 t238 _ A41.out).mono ?_); rintro e w' ⟨rfl, ⟨nd, rfl⟩⟩; (try first | exact ⟨rfl, _, World.drewN_drewN _ _ _⟩ | exact ⟨rfl, _, Eq.trans (World.drewN_drewN _ _ _) (congrArg (World.drewN _) (Nat.add_assoc _ _ _))⟩))); try go_wp2_with (first | (go_at_call 94; (with_reducible refine (spec_l1Sign.calls x6_6 t238 _ A41.out).mono ?_); rintro e w' ⟨rfl, ⟨nd, rfl⟩⟩; (try first | exact ⟨rfl, _, World.drewN_drewN _ _ _⟩ | exact ⟨rfl, _, Eq.trans (World.drewN_drewN _ _ _) (congrArg (World.drewN _) (Nat.add_assoc _ _ _))⟩))))
        go_roundg kj6
        case measure => have := HK1.out; have := HJ6.out; omega
        case rel => exact ⟨(x4_1 ++ t238), (wrap64 (x5_6 + 1)), zz5, zz5, H', ⟨(zz24 HK1 HJ6)⟩, ⟨(zz2 HB)⟩⟩
    ·simp only [Option.some.injEq, Prod.mk.injEq] at H
     obtain ⟨rfl, rfl⟩ := H;go_wp2
     repeat (go_quiet (fail); try go_wp2)
     go_ret2
     exact ⟨zz11, (zz2 HB)⟩
def spec_l1Norm.f (k : Nat) (a0 : ByteArray) : Option (Bool) := (spec_EscNorm.f k a0).bind fun bt239 => (if bt239.2 = true then (some (bt239.1.toList == a0.toList)) else (some false))
theorem spec_l1Norm.mono : ∀ a0 k, LeO (spec_l1Norm.f k a0) (spec_l1Norm.f (k + 1) a0) := by
 intro a0 k;unfold spec_l1Norm.f
 repeat' first | (with_reducible first | exact spec_EscNorm.mono _ _ | exact LeO.refl _ | exact LeO.none _ | refine LeO.ite ?_ ?_ | refine LeO.bind ?_ (fun _ => ?_)) | exact LeO.none _ | refine LeO.ite ?_ ?_ | refine LeO.bind ?_ (fun _ => ?_)
theorem spec_l1Norm.calls (k : Nat) (a0 : ByteArray) (r : Bool) (w : World) (h : spec_l1Norm.f k a0 = some r) :
  Calls Tryd.prog 63 #[.string a0] w fun e w' => e = .returned (.bool r) ∧ Below w.heap.size w w' := by
 have HB := A_ (Below.refl w.heap.size w);unfold spec_l1Norm.f at h
 have H := h;clear h;replace H := bindA H;obtain ⟨⟨t239, t240⟩, A2, H⟩ := H;try dsimp only at H
 have HF3 := A_ H;clear H;go_enter Tryd.func63, Tryd.ntmps63;go_wp2_with (first | ((with_reducible refine gC (f := 82) rfl ?_); refine gsL (some 7) Tryd.func82 #[.string a0] ?_; (with_reducible refine mR (spec_EscNorm.calls k a0 t239 t240 _ A2.out) ?_); rintro w4 hb; replace HB := A_ (bS (zz2 HB) hb); (try clear hb)) | ((with_reducible refine atG ?_ ?_ fun K_ hK_ => ?_); rfl; exact undecG) | ((with_reducible refine atI ?_ fun K_ hK_ => ?_); exact undecI))
 refine unG hK_ ?_; clear hK_ K_;obtain ⟨H⟩ := HF3;replace H := iteB H;rcases H with ⟨rfl, H⟩ | ⟨rfl, H⟩
 ·(first | refine iteT ?_ | refine iteF ?_ | skip)
  obtain rfl := sI H;(try ((with_reducible refine upS ?_); go_simp))
  go_wp2
  go_ret
  exact ⟨zz11, (zz2 HB)⟩
 ·(first | refine iteT ?_ | refine iteF ?_ | skip)
  obtain rfl := sI H;(try ((with_reducible refine upS ?_); go_simp))
  go_wp2
  go_ret
  exact ⟨zz11, (zz2 HB)⟩
mutual
def spec_AddrOk.j0 : Nat → Bool → ByteArray → List ByteArray → Bool → ByteArray → Option (Bool)
 | 0, _, _, _, _, _ => none
 | k + 1, x29, x242000, x242001, x242002, x242003 => if x29 = true then (some false) else (spec_AddrOk.l0 k 0 x242000 x242001 x242002 x242003)
def spec_AddrOk.l0 : Nat → Int → ByteArray → List ByteArray → Bool → ByteArray → Option (Bool)
 | 0, _, _, _, _, _ => none
 | k + 1, x3, x242000, x242001, x242002, x242003 => if x3 < (x242001.length : Int) then (if 0 ≤ x3 then ((spec_l1Norm.f k (rdOf ByteArray.empty x242001 x3)).bind fun t245 => (if t245 = true then (if (rdOf ByteArray.empty x242001 x3).toList = ([] : List UInt8) then (some false) else (if (rdOf ByteArray.empty x242001 x3).toList = ([46] : List UInt8) then (some false) else (if (rdOf ByteArray.empty x242001 x3).toList = ([46, 46] : List UInt8) then (some false) else (spec_AddrOk.l0 k (wrap64 (x3 + 1)) x242000 x242001 x242002 x242003)))) else (some false))) else (none)) else ((spec_l1Text.f k x242000 x242001 x242002 x242003).bind fun t249 => (some (decide ((t249.size : Int) ≤ 60))))
end
def spec_AddrOk.f (k : Nat) (a0_0 : ByteArray) (l0_1 : List ByteArray) (a0_2 : Bool) (a0_3 : ByteArray) : Option (Bool) := (spec_l1House.f k a0_0).bind fun t242 => (if t242 = true then (if (l0_1.length : Int) > 5 then (spec_AddrOk.j0 k true a0_0 l0_1 a0_2 a0_3) else ((spec_l1Norm.f k a0_3).bind fun t243 => (if t243 = true then (if a0_2 = true then (spec_AddrOk.j0 k false a0_0 l0_1 a0_2 a0_3) else (spec_AddrOk.j0 k (a0_3.toList != ([] : List UInt8)) a0_0 l0_1 a0_2 a0_3)) else (spec_AddrOk.j0 k true a0_0 l0_1 a0_2 a0_3)))) else (spec_AddrOk.j0 k true a0_0 l0_1 a0_2 a0_3))
theorem spec_AddrOk.mono_l : ∀ k, (∀ y0 y1 y2 y3 y4, LeO (spec_AddrOk.j0 k y0 y1 y2 y3 y4) (spec_AddrOk.j0 (k + 1) y0 y1 y2 y3 y4)) ∧ (∀ y0 y1 y2 y3 y4, LeO (spec_AddrOk.l0 k y0 y1 y2 y3 y4) (spec_AddrOk.l0 (k + 1) y0 y1 y2 y3 y4))
 | 0 => by refine ⟨?_, ?_⟩ <;> (intros; intro r h; simp [spec_AddrOk.j0, spec_AddrOk.l0] at h)
 | k + 1 => by
  obtain ⟨ih0, ih1⟩ := spec_AddrOk.mono_l k;refine ⟨?_, ?_⟩ <;> intros <;> (first | unfold spec_AddrOk.j0 | unfold spec_AddrOk.l0) <;>
  repeat' first | (with_reducible first | exact ih0 _ _ _ _ _ | exact ih1 _ _ _ _ _ | exact spec_l1House.mono _ _ | exact spec_l1Norm.mono _ _ | exact spec_l1Text.mono _ _ _ _ _ | exact LeO.refl _ | exact LeO.none _ | refine LeO.ite ?_ ?_ | refine LeO.bind ?_ (fun _ => ?_)) | exact LeO.none _ | refine LeO.ite ?_ ?_ | refine LeO.bind ?_ (fun _ => ?_)
theorem spec_AddrOk.mono : ∀ a0 a1 a2 a3 k, LeO (spec_AddrOk.f k a0 a1 a2 a3) (spec_AddrOk.f (k + 1) a0 a1 a2 a3) := by
 intro a0 a1 a2 a3 k;obtain ⟨ih0, ih1⟩ := spec_AddrOk.mono_l k;unfold spec_AddrOk.f
 repeat' first | (with_reducible first | exact ih0 _ _ _ _ _ | exact ih1 _ _ _ _ _ | exact spec_l1House.mono _ _ | exact spec_l1Norm.mono _ _ | exact spec_l1Text.mono _ _ _ _ _ | exact LeO.refl _ | exact LeO.none _ | refine LeO.ite ?_ ?_ | refine LeO.bind ?_ (fun _ => ?_)) | exact LeO.none _ | refine LeO.ite ?_ ?_ | refine LeO.bind ?_ (fun _ => ?_)
theorem spec_AddrOk.calls (k : Nat) (a0_0 : ByteArray) (A0_1 : Option Addr) (c0_1 : Nat) (l0_1 : List ByteArray) (a0_2 : Bool) (a0_3 : ByteArray) (r : Bool) (w : World) (hr0_1 : Kd.C Kd.string w A0_1 l0_1.length l0_1) (hc0_1 : l0_1.length ≤ c0_1) (h : spec_AddrOk.f k a0_0 l0_1 a0_2 a0_3 = some r) :
  Calls Tryd.prog 42 #[.agg #[.string a0_0, .slice A0_1 l0_1.length c0_1, .bool a0_2, .string a0_3]] w fun e w' => e = .returned (.bool r) ∧ Below w.heap.size w w' := by
 have hu28 := Tryd.underlying28;have HR0_1 := A_ hr0_1;have HC0_1 := A_ hc0_1;clear hr0_1 hc0_1;have HB := A_ (Below.refl w.heap.size w);unfold spec_AddrOk.f at h
 have H := h;clear h;have HC2 := A_ H;clear H;go_enter Tryd.func42, Tryd.ntmps42;go_upto_region 1 with (first | ((with_reducible refine gD (N := 1) rfl ?_); (try (refine gate_guard (by rfl) ?_; dsimp only)); refine boxE 1 #[.string a0_0, .slice A0_1 l0_1.length c0_1, .bool a0_2, .string a0_3] 28 ?_; intro gb241 hg w3 hbox hb; have BK241 := A_ (hbox); have GE241 := geB hg (zz2 HB); replace HB := A_ (bS (zz2 HB) hb); clear hb hbox hg))
 (try simp only [Act.put, List.setIfInBounds_toArray, List.set_cons_zero, List.set_cons_succ])
 go_cut [29] (fun v29 wc => ∃ (kq : Nat) (x29_1 : Bool), v29 = .bool x29_1 ∧ Aside0 (spec_AddrOk.j0 kq x29_1 a0_0 l0_1 a0_2 a0_3 = some r) ∧ Aside0 (kq ≤ k) ∧ Aside0 (wc.heap[gb241]? = some (.cells #[.string a0_0, (.slice A0_1 l0_1.length c0_1), .bool a0_2, .string a0_3] 28 (0, 0))) ∧ Aside0 (Below w.heap.size w wc))
 case first =>
  obtain ⟨H⟩ := HC2;replace H := bindA H;obtain ⟨t242, A4, H⟩ := H;have HF5 := A_ H;clear H;obtain ⟨_, _, _, _, _, _, _, _⟩ := cf4 BK241;go_wp2_with (first | ((with_reducible refine gC (f := 62) rfl ?_); refine gsL (some 6) Tryd.func62 #[.string a0_0] ?_; (with_reducible refine (spec_l1House.calls k a0_0 t242 _ A4.out).mono ?_); rintro e w' ⟨rfl, ⟨nd, rfl⟩⟩; refine ⟨_, rfl, ?_⟩) | ((with_reducible refine atG ?_ ?_ fun K_ hK_ => ?_); rfl; exact undecG) | ((with_reducible refine atI ?_ fun K_ hK_ => ?_); exact undecI))
  refine unG hK_ ?_; clear hK_ K_;obtain ⟨H⟩ := HF5;replace H := iteB H;rcases H with ⟨rfl, H⟩ | ⟨rfl, H⟩
  ·(first | refine iteT ?_ | refine iteF ?_ | skip)
   replace H := iteE H;rcases H with ⟨c8, H⟩ | ⟨c8, H⟩
   ·have c8b0 := gtT c8
    have c8b1 : decide (5 < l0_1.length) = true := dT (by omega);clear c8;have H' := A_ H;clear H;obtain ⟨_, _, _, _, _, _, _, _⟩ := cf4 BK241;go_wp2
    go_meet
    case rel => exact ⟨_, (true), zz5, H', ⟨zz6⟩, ⟨(zz3 BK241)⟩, ⟨(zz4 HB GE241)⟩⟩
   ·have c8b0 := gtF c8
    have c8b1 : decide (5 < l0_1.length) = false := dF (by omega);clear c8;replace H := bindA H;obtain ⟨t243, A10, H⟩ := H;have HF11 := A_ H;clear H;obtain ⟨_, _, _, _, _, _, _, _⟩ := cf4 BK241;go_wp2_with (first | (go_at_call 63; (with_reducible refine (spec_l1Norm.calls k a0_3 t243 _ A10.out).mono ?_); rintro e w13 ⟨rfl, hb⟩; replace BK241 := A_ (bB (zz3 BK241) hb); replace HB := A_ (bS (zz4 HB GE241) hb); (try clear hb)) | ((with_reducible refine atG ?_ ?_ fun K_ hK_ => ?_); rfl; exact undecG) | ((with_reducible refine atI ?_ fun K_ hK_ => ?_); exact undecI))
    refine unG hK_ ?_; clear hK_ K_;obtain ⟨H⟩ := HF11;replace H := iteB H;rcases H with ⟨rfl, H⟩ | ⟨rfl, H⟩
    ·(first | refine iteT ?_ | refine iteF ?_ | skip)
     replace H := iteB H;rcases H with ⟨rfl, H⟩ | ⟨rfl, H⟩
     ·have H' := A_ H
      clear H;obtain ⟨_, _, _, _, _, _, _, _⟩ := cf4 BK241;go_wp2
      go_meet
      case rel => exact ⟨_, (false), zz5, H', ⟨zz6⟩, ⟨(zz3 BK241)⟩, ⟨(zz4 HB GE241)⟩⟩
     ·have H' := A_ H
      clear H;obtain ⟨_, _, _, _, _, _, _, _⟩ := cf4 BK241;go_wp2
      go_meet
      case rel => exact ⟨_, ((a0_3.toList != ([] : List UInt8))), zz5, H', ⟨zz6⟩, ⟨(zz3 BK241)⟩, ⟨(zz4 HB GE241)⟩⟩
    ·(first | refine iteT ?_ | refine iteF ?_ | skip)
     have H' := A_ H;clear H;(try ((with_reducible refine upS ?_); go_simp))
     go_wp2
     go_meet
     case rel => exact ⟨_, (true), zz5, H', ⟨zz6⟩, ⟨(zz3 BK241)⟩, ⟨(zz4 HB GE241)⟩⟩
  ·(first | refine iteT ?_ | refine iteF ?_ | skip)
   have H' := A_ H;clear H;(try ((with_reducible refine upS ?_); go_simp))
   go_wp2
   go_meet
   case rel => exact ⟨_, (true), zz5, H', ⟨zz6⟩, ⟨(zz3 BK241)⟩, ⟨(zz4 HB GE241)⟩⟩
 case rest =>
  clear HC2;obtain ⟨kq, x29_1, rfl, HA, HJ1, BK241, HB⟩ := hcut;cases kq with
  | zero => exact absurd HA.out (by simp [spec_AddrOk.j0])
  | succ kj1 =>
   obtain ⟨H⟩ := HA;simp only [spec_AddrOk.j0] at H
   replace H := iteB H;rcases H with ⟨rfl, H⟩ | ⟨rfl, H⟩
   ·obtain rfl := sI H
    go_wp2
    go_ret
    exact ⟨zz11, (zz4 HB GE241)⟩
   ·have H' := A_ H
    clear H;go_wp2
    go_loopg [3] kj1 (fun kq v3 w' => ∃ (x3_2 : Int), v3 = .int .i64 x3_2 ∧ Aside0 (spec_AddrOk.l0 kq x3_2 a0_0 l0_1 a0_2 a0_3 = some r) ∧ Aside0 (kq ≤ kj1) ∧ Aside0 (w'.heap[gb241]? = some (.cells #[.string a0_0, (.slice A0_1 l0_1.length c0_1), .bool a0_2, .string a0_3] 28 (0, 0))) ∧ Aside0 (Below w.heap.size w w'))
    case atStart => exact ⟨(0), zz5, H', ⟨Nat.le_refl _⟩, ⟨(zz3 BK241)⟩, ⟨(zz4 HB GE241)⟩⟩
    case round =>
     clear H';obtain ⟨x3_2, rfl, HA, HK2, BK241, HB⟩ := hrel;cases gk with
     | zero => exact absurd HA.out (by simp [spec_AddrOk.l0])
     | succ k2 =>
      obtain ⟨H⟩ := HA;simp only [spec_AddrOk.l0] at H
      replace H := iteEd H;rcases H with ⟨c19b0, H⟩ | ⟨c19b0, H⟩
      ·replace H := iteNd H
       obtain ⟨c20b0, H⟩ := H;replace H := bindA H;obtain ⟨t245, A21, H⟩ := H;have HF22 := A_ H;clear H;obtain ⟨_, _, _, _, _, _, _, _⟩ := cf4 BK241;obtain ⟨⟨ad244, e244, hx244_0⟩, p244, q244⟩ := atB (Kd.at_string HR0_1.out x3_2);cases e244
       replace hx244_0 := cbl HB hx244_0;go_wp2_with (first | ((with_reducible refine gC (f := 63) rfl ?_); refine gsL (some 42) Tryd.func63 #[.string (rdOf ByteArray.empty l0_1 x3_2)] ?_; (with_reducible refine mR (spec_l1Norm.calls k2 (rdOf ByteArray.empty l0_1 x3_2) t245 _ A21.out) ?_); rintro w24 hb; replace BK241 := A_ (bB (zz3 BK241) hb); replace HB := A_ (bS (zz4 HB GE241) hb); (try clear hb)) | ((with_reducible refine atG ?_ ?_ fun K_ hK_ => ?_); rfl; exact undecG) | ((with_reducible refine atI ?_ fun K_ hK_ => ?_); exact undecI))
       refine unG hK_ ?_; clear hK_ K_;obtain ⟨H⟩ := HF22;replace H := iteB H;rcases H with ⟨rfl, H⟩ | ⟨rfl, H⟩
       ·(first | refine iteT ?_ | refine iteF ?_ | skip)
        replace H := iteEq H;rcases H with ⟨c26b0, c26b1, H⟩ | ⟨c26b0, c26b1, c26, H⟩
        ·obtain rfl := sI H
         obtain ⟨_, _, _, _, _, _, _, _⟩ := cf4 BK241;obtain ⟨⟨ad246, e246, hx246_0⟩, p246, q246⟩ := atB (Kd.at_string HR0_1.out x3_2);obtain rfl : ad244 = ad246 := (by injection e246);replace hx246_0 := cbl HB hx246_0;go_wp2
         go_ret
         exact ⟨zz11, (zz4 HB GE241)⟩
        ·replace H := iteEq H
         rcases H with ⟨c28b0, c28b1, H⟩ | ⟨c28b0, c28b1, c28, H⟩
         ·obtain rfl := sI H
          obtain ⟨_, _, _, _, _, _, _, _⟩ := cf4 BK241;obtain ⟨⟨ad246, e246, hx246_0⟩, p246, q246⟩ := atB (Kd.at_string HR0_1.out x3_2);obtain rfl : ad244 = ad246 := (by injection e246);replace hx246_0 := cbl HB hx246_0;obtain ⟨⟨ad247, e247, hx247_0⟩, p247, q247⟩ := atB (Kd.at_string HR0_1.out x3_2);obtain rfl : ad244 = ad247 := (by injection e247);replace hx247_0 := cbl HB hx247_0;go_wp2
          go_ret
          exact ⟨zz11, (zz4 HB GE241)⟩
         ·replace H := iteEq H
          rcases H with ⟨c30b0, c30b1, H⟩ | ⟨c30b0, c30b1, c30, H⟩
          ·obtain rfl := sI H
           obtain ⟨_, _, _, _, _, _, _, _⟩ := cf4 BK241;obtain ⟨⟨ad246, e246, hx246_0⟩, p246, q246⟩ := atB (Kd.at_string HR0_1.out x3_2);obtain rfl : ad244 = ad246 := (by injection e246);replace hx246_0 := cbl HB hx246_0;obtain ⟨⟨ad247, e247, hx247_0⟩, p247, q247⟩ := atB (Kd.at_string HR0_1.out x3_2);obtain rfl : ad244 = ad247 := (by injection e247);replace hx247_0 := cbl HB hx247_0;obtain ⟨⟨ad248, e248, hx248_0⟩, p248, q248⟩ := atB (Kd.at_string HR0_1.out x3_2);obtain rfl : ad244 = ad248 := (by injection e248);replace hx248_0 := cbl HB hx248_0;go_wp2
           go_ret
           exact ⟨zz11, (zz4 HB GE241)⟩
          ·have H' := A_ H
           clear H;obtain ⟨_, _, _, _, _, _, _, _⟩ := cf4 BK241;obtain ⟨⟨ad246, e246, hx246_0⟩, p246, q246⟩ := atB (Kd.at_string HR0_1.out x3_2);obtain rfl : ad244 = ad246 := (by injection e246);replace hx246_0 := cbl HB hx246_0;obtain ⟨⟨ad247, e247, hx247_0⟩, p247, q247⟩ := atB (Kd.at_string HR0_1.out x3_2);obtain rfl : ad244 = ad247 := (by injection e247);replace hx247_0 := cbl HB hx247_0;obtain ⟨⟨ad248, e248, hx248_0⟩, p248, q248⟩ := atB (Kd.at_string HR0_1.out x3_2);obtain rfl : ad244 = ad248 := (by injection e248);replace hx248_0 := cbl HB hx248_0;go_wp2
           go_roundg k2
           case measure => have := HJ1.out; have := HK2.out; omega
           case rel => exact ⟨(wrap64 (x3_2 + 1)), zz5, H', ⟨(zz24 HJ1 HK2)⟩, ⟨(zz3 BK241)⟩, ⟨(zz4 HB GE241)⟩⟩
       ·(first | refine iteT ?_ | refine iteF ?_ | skip)
        obtain rfl := sI H;(try ((with_reducible refine upS ?_); go_simp))
        go_wp2
        go_ret
        exact ⟨zz11, (zz4 HB GE241)⟩
      ·replace H := Option.bind_eq_some_iff.mp H
       obtain ⟨t249, A330, H⟩ := H;replace H : (some (decide ((t249.size : Int) ≤ 60))) = some r := H;have A33 := A_ A330;clear A330;obtain rfl := sI H;obtain ⟨_, _, _, _, _, _, _, _⟩ := cf4 BK241;go_wp2_with (first | ((with_reducible refine gC (f := 43) rfl ?_); refine gsL (some 69) Tryd.func43 #[.agg #[.string a0_0, .slice A0_1 l0_1.length c0_1, .bool a0_2, .string a0_3]] ?_; (with_reducible refine mR (spec_l1Text.calls k2 a0_0 _ _ l0_1 a0_2 a0_3 t249 _ ?side1 ?side2 A33.out) ?_); (case side1 => exact (zz58 HR0_1 HB)); (case side2 => exact HC0_1.out); rintro w35 hb; replace BK241 := A_ (bB (zz3 BK241) hb); replace HB := A_ (bS (zz4 HB GE241) hb); (try clear hb)))
       go_ret
       exact ⟨zz11, (zz4 HB GE241)⟩
end Go.Proofs.YtpomhjkbgbociaaDoor.P
end
