/- Part 2 of the proof of FnExactWorldFrom: the plain functions of what it reaches, that Go comes to just their answers, what they answer, and the words that the walks use; conditions: each theorem's own. -/
import Derived.Test.YtpnedbnpnekahaaGreatDoorZFnExactWorldFroma
import Derived.Laws.StructEq
import Derived.RowKit
import Derived.Test.YtpnedbnpnekahaaGreatDoorProg
import Derived.Below
import Derived.Deep.Draws
import Derived.Deep.AppendLies
import Derived.Maps.AppendAt
import Derived.OwnWalk
import Derived.Laws.BytesArg
import Derived.Laws.MakeOwn
import Derived.Laws.OwnMore
import Derived.Deep.OwnRows
import Derived.Tactics
import Derived.Lib.ConvBytes
import Derived.Laws.Slices
import Derived.WalkKit
import Derived.KernelRfl
import Derived.RowKit3
import Derived.Deep.LoopGhost
import Derived.Deep.QuietTactic
import Derived.BigQuiet
import Derived.WideLaws
import Derived.Deep.DeepCutAuto
import Derived.Deep.CutBlock
import Derived.Deep.RegionHeld3
import Derived.Laws.Rows
import Derived.Lib.AppendStr
import Derived.ArgAppend
import Derived.Laws.IdiomCopy
import Derived.OrdersHeld
import Derived.Laws.BitsLemmas
import Derived.Lib.SmallJoins
import Derived.Deep.Slices
import Derived.SizedLaws
import Derived.OneCell
import Derived.Lib.Strings

section
namespace Go.Proofs.YtpnedbnpnekahaaGreatDoorW.PrintWords
open Go.RowKit
section
variable {P : Program} {d : Nat} {xs ys : Array Value} {f : Field} {fs : List Field} {a b : Value} {r s : Bool} {w : World}
end
end Go.Proofs.YtpnedbnpnekahaaGreatDoorW.PrintWords
end
section
namespace Go.Proofs.YtpnedbnpnekahaaGreatDoor.P
theorem aid_isEmpty (l : List UInt8) : (l != ([] : List UInt8)) = !l.isEmpty := by cases l <;> rfl
theorem aid_isEmpty2 (l : List UInt8) : (l == ([] : List UInt8)) = l.isEmpty := by cases l <;> rfl
end Go.Proofs.YtpnedbnpnekahaaGreatDoor.P
end
section
namespace Go.Proofs.YtpnedbnpnekahaaGreatDoor.P
open Go.RowKit Go.Proofs.YtpnedbnpnekahaaGreatDoorW.PrintWords Go.Proofs.YtpnedbnpnekahaaGreatDoorW.PrintLast Go.Proofs.YtpnedbnpnekahaaGreatDoorW.PrintMore
attribute [local go_sem] max2_int min2_int max_two min_two max_three min_three max_four min_four
set_option linter.unusedVariables false
set_option linter.unusedSimpArgs false
def errW : Option Int → Value
 | none => .nilIface
 | some c => .iface 0 (.int .i64 c)
theorem errW_none : errW none = .nilIface := rfl
theorem errW_some (c : Int) : errW (some c) = .iface 0 (.int .i64 c) := rfl
theorem info5 : (Tryz.prog.info? 5).map (fun i => (i.zero, i.size, i.bytes)) = some (some (.int .u8 0), 1, 1) := by kernel_rfl
theorem info9 : (Tryz.prog.info? 9).map (fun i => (i.zero, i.size, i.bytes)) = some (some (.string ⟨#[]⟩), 1, 16) := by kernel_rfl
theorem info41 : (Tryz.prog.info? 41).map (fun i => (i.zero, i.size, i.bytes)) = some (some (.agg #[(.string ⟨#[]⟩), (.string ⟨#[]⟩), (.string ⟨#[]⟩), (.int .i64 0)]), 4, 56) := by kernel_rfl
structure S35 where
 f0 : ByteArray
 f1 : ByteArray
 f2 : ByteArray
 f3 : Int
def z35 : S35 := ⟨(⟨#[]⟩ : ByteArray), (⟨#[]⟩ : ByteArray), (⟨#[]⟩ : ByteArray), (0 : Int)⟩
def k35 : Kd S35 := Kd.iso (Kd.pair Kd.string (Kd.pair Kd.string (Kd.pair Kd.string (Kd.int .i64)))) (fun x : S35 => (x.f0, x.f1, x.f2, x.f3))
theorem k35_open {w : World} {x : S35} {cs : List Value} (h : k35.K w x cs) : cs = [.string x.f0, .string x.f1, .string x.f2, .int .i64 x.f3] := by
 obtain ⟨_, _, rfl, rfl, ⟨_, _, rfl, rfl, ⟨_, _, rfl, rfl, rfl⟩⟩⟩ := h
 exact rfl
theorem k35_mk (w : World) (x : S35)  : k35.K w x [.string x.f0, .string x.f1, .string x.f2, .int .i64 x.f3] := ⟨[.string x.f0], [.string x.f1, .string x.f2, .int .i64 x.f3], rfl, rfl, ⟨[.string x.f1], [.string x.f2, .int .i64 x.f3], rfl, rfl, ⟨[.string x.f2], [.int .i64 x.f3], rfl, rfl, rfl⟩⟩⟩
def rd_T35 (xs : List S35) (i : Int) : S35 := xs.getD i.toNat z35
theorem at_T35 {w : World} {A : Option Addr} {n : Nat} {xs : List S35} (h : Kd.C k35 w A n xs) (i : Int) (h0 : 0 ≤ i) (h1 : i < n) : ∃ ad , A = some ad ∧ w.cell? (ad.add (i.toNat * 4)) = some (.string (rd_T35 xs i).f0) ∧ w.cell? ⟨(ad.add (i.toNat * 4)).block, (ad.add (i.toNat * 4)).off + 1, none⟩ = some (.string (rd_T35 xs i).f1) ∧ w.cell? ⟨(ad.add (i.toNat * 4)).block, (ad.add (i.toNat * 4)).off + 2, none⟩ = some (.string (rd_T35 xs i).f2) ∧ w.cell? ⟨(ad.add (i.toNat * 4)).block, (ad.add (i.toNat * 4)).off + 3, none⟩ = some (.int .i64 (rd_T35 xs i).f3) := by
 obtain ⟨ad, c, e, _, hK, hc0⟩ := Kd.C_get h z35 i h0 h1
 have hc : ∀ j u, c[j]? = some u → w.cell? (ad.add (i.toNat * 4 + j)) = some u := hc0
 obtain rfl := k35_open hK
 exact ⟨ad, e, hc 0 _ rfl, by rw [← add_field _ _ 1 (by omega)]; exact hc 1 _ rfl, by rw [← add_field _ _ 2 (by omega)]; exact hc 2 _ rfl, by rw [← add_field _ _ 3 (by omega)]; exact hc 3 _ rfl⟩
structure S41 where
 f0 : ByteArray
 f1 : ByteArray
 f2 : ByteArray
 f3 : Int
def z41 : S41 := ⟨(⟨#[]⟩ : ByteArray), (⟨#[]⟩ : ByteArray), (⟨#[]⟩ : ByteArray), (0 : Int)⟩
def k41 : Kd S41 := Kd.iso (Kd.pair Kd.string (Kd.pair Kd.string (Kd.pair Kd.string (Kd.int .i64)))) (fun x : S41 => (x.f0, x.f1, x.f2, x.f3))
theorem k41_open {w : World} {x : S41} {cs : List Value} (h : k41.K w x cs) : cs = [.string x.f0, .string x.f1, .string x.f2, .int .i64 x.f3] := by
 obtain ⟨_, _, rfl, rfl, ⟨_, _, rfl, rfl, ⟨_, _, rfl, rfl, rfl⟩⟩⟩ := h
 exact rfl
theorem k41_openM {w : World} {base : Nat} {ok : Nat → Prop} {x : S41} {cs : List Value} (h : k41.M w base ok x cs) : cs = [.string x.f0, .string x.f1, .string x.f2, .int .i64 x.f3] := by
 obtain ⟨_, _, rfl, rfl, ⟨_, _, rfl, rfl, ⟨_, _, rfl, rfl, rfl⟩⟩⟩ := h
 exact rfl
theorem k41_mkM (w : World) (base : Nat) (ok : Nat → Prop) (x : S41)  : k41.M w base ok x [.string x.f0, .string x.f1, .string x.f2, .int .i64 x.f3] := ⟨[.string x.f0], [.string x.f1, .string x.f2, .int .i64 x.f3], rfl, rfl, ⟨[.string x.f1], [.string x.f2, .int .i64 x.f3], rfl, rfl, ⟨[.string x.f2], [.int .i64 x.f3], rfl, rfl, rfl⟩⟩⟩
def rd_T41 (xs : List S41) (i : Int) : S41 := xs.getD i.toNat z41
theorem at_T41 {w : World} {A : Option Addr} {n : Nat} {xs : List S41} (h : Kd.C k41 w A n xs) (i : Int) (h0 : 0 ≤ i) (h1 : i < n) : ∃ ad , A = some ad ∧ w.cell? (ad.add (i.toNat * 4)) = some (.string (rd_T41 xs i).f0) ∧ w.cell? ⟨(ad.add (i.toNat * 4)).block, (ad.add (i.toNat * 4)).off + 1, none⟩ = some (.string (rd_T41 xs i).f1) ∧ w.cell? ⟨(ad.add (i.toNat * 4)).block, (ad.add (i.toNat * 4)).off + 2, none⟩ = some (.string (rd_T41 xs i).f2) ∧ w.cell? ⟨(ad.add (i.toNat * 4)).block, (ad.add (i.toNat * 4)).off + 3, none⟩ = some (.int .i64 (rd_T41 xs i).f3) := by
 obtain ⟨ad, c, e, _, hK, hc0⟩ := Kd.C_get h z41 i h0 h1
 have hc : ∀ j u, c[j]? = some u → w.cell? (ad.add (i.toNat * 4 + j)) = some u := hc0
 obtain rfl := k41_open hK
 exact ⟨ad, e, hc 0 _ rfl, by rw [← add_field _ _ 1 (by omega)]; exact hc 1 _ rfl, by rw [← add_field _ _ 2 (by omega)]; exact hc 2 _ rfl, by rw [← add_field _ _ 3 (by omega)]; exact hc 3 _ rfl⟩
end Go.Proofs.YtpnedbnpnekahaaGreatDoor.P
end
section
namespace Go.Proofs.YtpnedbnpnekahaaGreatDoor.P
open Go.RowKit Go.Proofs.YtpnedbnpnekahaaGreatDoorW.PrintWords Go.Proofs.YtpnedbnpnekahaaGreatDoorW.PrintLast Go.Proofs.YtpnedbnpnekahaaGreatDoorW.PrintMore
theorem viaP {B : Prop} (b : B := by simp only [putAll, Act.put, List.setIfInBounds_toArray, List.set_cons_zero, List.set_cons_succ]) : B := b
theorem ofD {p : Prop} [Decidable p] (h : decide p = true := by first | (with_reducible assumption) | assumption) : p := of_decide_eq_true h
theorem bindA {α β : Type} {x : Option α} {f : α → Option β} {r : β} (h : x.bind f = some r) : ∃ a, Aside0 (x = some a) ∧ f a = some r := by
 obtain ⟨a, h1, h2⟩ := Option.bind_eq_some_iff.mp h
 exact ⟨a, ⟨h1⟩, h2⟩
theorem bindZ {α β : Type} {y z : α} (hz : Aside0 (z = y)) {f : α → Option β} {r : β} (h : (some y).bind f = some r) : f z = some r := hz.out ▸ h
theorem toY {α : Type} (y : α) : ∃ z, Aside0 (z = y) := ⟨y, ⟨rfl⟩⟩
theorem cbl {w W : World} {a : Addr} {v : Value} (hb : Aside0 (Below w.heap.size w W)) (h : w.cell? a = some v) : W.cell? a = some v := (hb.out.cell (World.block_lt_of_cell? w _ h)).trans h
theorem geB {w W : World} {g : Nat} (hg : g = W.heap.size) (h : Below w.heap.size w W) : Aside0 (w.heap.size ≤ g) := ⟨by rw [hg]; exact below_size h⟩
theorem rt {α : Type} {d : Kd α} {e : Nat} {w : World} {base : Nat} {ok : Nat → Prop} {v : Value} {xs : List α} {g t : Nat} {cells : Array Value} (a : Aside0 (d.R e w base ok v xs)) (b : Aside0 (w.heap[g]? = some (.cells cells t (0, 0)))) (ht : ∀ q, q ∈ e :: d.E → q ≠ t := by decide) : Aside0 (d.R e w base (fun k => ok k ∧ k ≠ g) v xs) := ⟨Kd.R_types a.out b.out ht⟩
section
variable {P : Program} {ops : Array Oper} {rest : List Oper} {o : Oper} {a : Act} {Q : Exit → Act → World → Prop} {md : Region.Mode} {S : World → Prop} {ds : List Nat} {W : World}
theorem boxE (N : Tmp) (cs : Array Value) (t : TypeId)
  (h : ∀ g, g = W.heap.size → ∀ w1, w1.heap[g]? = some (.cells cs t (0, 0)) → Below W.heap.size W w1 → wpList P ops Q rest (a.put o.dst (.pointer (some ⟨g, 0, none⟩))) w1)
  (hd : o.dst = some N := by rfl) (hgd : o.guard = none := by rfl)
  (hrun : (execOp a.eval o).run P W = .ok (.value (.pointer (some ⟨W.heap.size, 0, none⟩))) (W.alloc (.cells cs t (0, 0))) := by first | (go_simp; done) | (go_simp; rfl)) : wpList P ops Q (o :: rest) a W := box_event hgd hd hrun h
theorem gsL (N : Option Tmp) {f : FuncId} {fn : Func} {as_ : Array Operand} {ts : Array TypeId} (hf : P.funcs[f]? = some fn) (args : Array Value)
  (h : Calls P f args W fun e w' => ∃ v, e = .returned v ∧ wpList P ops Q rest (a.put N v) w')
  (hd : o.dst = N := by rfl) (hg : o.guard = none := by rfl) (hname : (fn.name == "runtime.NumGoroutine") = false := by kernel_rfl) (hb : fn.body.isSome = true := by rfl)
  (hop : o.op = .call { callee := .value (.func f), args := as_, argTypes := ts } := by rfl)
  (hargs : as_.map a.eval = args := by (try simp only [List.map_toArray, List.map_cons, List.map_nil]); first | done | rfl | (simp only [List.length_drop, List.length_take]; rfl)) : wpList P ops Q (o :: rest) a W := goesL_ N hd hg hf hname hb args hop hargs h
theorem pureZ (i : Nat) (N : Option Tmp) {v : Value} {fuel : Nat} {l : Array Bool} (l' : Array Bool) {a' : Act}
  (h : wpAnyLast P md ops Q S ds fuel l' a' W) (hi : ops[i]? = some o := by rfl) (hN : o.dst = N := by rfl) (hc : anyB md ops l l' i = true := by exact any_of HT_.out (by kernel_rfl))
  (hQ : ∀ c a w, Q (.panic c) (a.put o.dst v) w → Q (.panic c) a w := by exact fun _ _ _ h => h)
  (hy : Yields P ops o v a := by exact Or.inl ⟨by rfl, by intro w'; go_simp; with_reducible rfl⟩)
  (ha : a.put N v = a' := by (simp only [Act.put, List.setIfInBounds_toArray, List.set_cons_zero, List.set_cons_succ, i64_w, i32_w]; rfl)) : wpAnyLast P md ops Q S ds (fuel + 1) l a W := pure_ l' hi hN hc hQ hy ha h
theorem pureY (i : Nat) (N : Option Tmp) {v : Value} {fuel : Nat} {l : Array Bool} (l' : Array Bool) {a' : Act}
  (h : wpAnyLast P md ops Q S ds fuel l' a' W) (hi : ops[i]? = some o := by rfl) (hN : o.dst = N := by rfl) (hc : anyB md ops l l' i = true := by kernel_rfl)
  (hQ : ∀ c a w, Q (.panic c) (a.put o.dst v) w → Q (.panic c) a w := by exact fun _ _ _ h => h)
  (hy : Yields P ops o v a := by exact Or.inl ⟨by rfl, by intro w'; go_simp; with_reducible rfl⟩)
  (ha : a.put N v = a' := by (simp only [Act.put, List.setIfInBounds_toArray, List.set_cons_zero, List.set_cons_succ, i64_w, i32_w]; rfl)) : wpAnyLast P md ops Q S ds (fuel + 1) l a W := pure_ l' hi hN hc hQ hy ha h
theorem takeZ4 (i : Nat) (N : Option Tmp) {v : Value} {fuel : Nat} {l : Array Bool} (l' : Array Bool) (hS : S W) {a' : Act}
  (h : wpAnyLast P md ops Q S ds fuel l' a' W) (hi : ops[i]? = some o := by rfl) (hN : o.dst = N := by rfl) (hc : takeB md ops ds l l' i = true := by exact take_ofW HT_.out HW_.out (by kernel_rfl))
  (hQ : ∀ c a w, Q (.panic c) (a.put o.dst v) w → Q (.panic c) a w := by exact fun _ _ _ h => h)
  (hy : YieldsIf P ops S o v a := by exact Or.inl ⟨by rfl, by rintro w' ⟨s0, s1, s2, s3⟩; go_simp; with_reducible rfl⟩)
  (ha : a.put N v = a' := by (simp only [Act.put, List.setIfInBounds_toArray, List.set_cons_zero, List.set_cons_succ, i64_w, i32_w]; rfl)) : wpAnyLast P md ops Q S ds (fuel + 1) l a W := take_ l' hi hN hc hQ hy hS ha h
theorem takeY4 (i : Nat) (N : Option Tmp) {v : Value} {fuel : Nat} {l : Array Bool} (l' : Array Bool) (hS : S W) {a' : Act}
  (h : wpAnyLast P md ops Q S ds fuel l' a' W) (hi : ops[i]? = some o := by rfl) (hN : o.dst = N := by rfl) (hc : takeB md ops ds l l' i = true := by kernel_rfl)
  (hQ : ∀ c a w, Q (.panic c) (a.put o.dst v) w → Q (.panic c) a w := by exact fun _ _ _ h => h)
  (hy : YieldsIf P ops S o v a := by exact Or.inl ⟨by rfl, by rintro w' ⟨s0, s1, s2, s3⟩; go_simp; with_reducible rfl⟩)
  (ha : a.put N v = a' := by (simp only [Act.put, List.setIfInBounds_toArray, List.set_cons_zero, List.set_cons_succ, i64_w, i32_w]; rfl)) : wpAnyLast P md ops Q S ds (fuel + 1) l a W := take_ l' hi hN hc hQ hy hS ha h
theorem takeZ5 (i : Nat) (N : Option Tmp) {v : Value} {fuel : Nat} {l : Array Bool} (l' : Array Bool) (hS : S W) {a' : Act}
  (h : wpAnyLast P md ops Q S ds fuel l' a' W) (hi : ops[i]? = some o := by rfl) (hN : o.dst = N := by rfl) (hc : takeB md ops ds l l' i = true := by exact take_ofW HT_.out HW_.out (by kernel_rfl))
  (hQ : ∀ c a w, Q (.panic c) (a.put o.dst v) w → Q (.panic c) a w := by exact fun _ _ _ h => h)
  (hy : YieldsIf P ops S o v a := by exact Or.inl ⟨by rfl, by rintro w' ⟨s0, s1, s2, s3, s4⟩; go_simp; with_reducible rfl⟩)
  (ha : a.put N v = a' := by (simp only [Act.put, List.setIfInBounds_toArray, List.set_cons_zero, List.set_cons_succ, i64_w, i32_w]; rfl)) : wpAnyLast P md ops Q S ds (fuel + 1) l a W := take_ l' hi hN hc hQ hy hS ha h
theorem takeZ8 (i : Nat) (N : Option Tmp) {v : Value} {fuel : Nat} {l : Array Bool} (l' : Array Bool) (hS : S W) {a' : Act}
  (h : wpAnyLast P md ops Q S ds fuel l' a' W) (hi : ops[i]? = some o := by rfl) (hN : o.dst = N := by rfl) (hc : takeB md ops ds l l' i = true := by exact take_ofW HT_.out HW_.out (by kernel_rfl))
  (hQ : ∀ c a w, Q (.panic c) (a.put o.dst v) w → Q (.panic c) a w := by exact fun _ _ _ h => h)
  (hy : YieldsIf P ops S o v a := by exact Or.inl ⟨by rfl, by rintro w' ⟨s0, s1, s2, s3, s4, s5, s6, s7⟩; go_simp; with_reducible rfl⟩)
  (ha : a.put N v = a' := by (simp only [Act.put, List.setIfInBounds_toArray, List.set_cons_zero, List.set_cons_succ, i64_w, i32_w]; rfl)) : wpAnyLast P md ops Q S ds (fuel + 1) l a W := take_ l' hi hN hc hQ hy hS ha h
end
theorem cf4 {w : World} {g : Nat} {t : TypeId} {x0 x1 x2 x3 : Value} (h : Aside0 (w.heap[g]? = some (.cells #[x0, x1, x2, x3] t (0, 0)))) : w.cell? ⟨g, 0, none⟩ = some x0 ∧ w.cell? ⟨g, 1, none⟩ = some x1 ∧ w.cell? ⟨g, 2, none⟩ = some x2 ∧ w.cell? ⟨g, 3, none⟩ = some x3 ∧ w.frozen? ⟨g, 0, none⟩ = false ∧ w.frozen? ⟨g, 1, none⟩ = false ∧ w.frozen? ⟨g, 2, none⟩ = false ∧ w.frozen? ⟨g, 3, none⟩ = false := ⟨(blk_cell h.out 0).trans rfl, (blk_cell h.out 1).trans rfl, (blk_cell h.out 2).trans rfl, (blk_cell h.out 3).trans rfl, blk_frozen h.out 0, blk_frozen h.out 1, blk_frozen h.out 2, blk_frozen h.out 3⟩
theorem zz0 {B A0 : Prop} (a0 : Aside0 A0) (f : A0 → B := by intro g0_; repeat (first | (with_reducible first | exact g0_ | apply below_alloc | apply pw_below_drewN | apply below_drew1) | exact g0_)) : B := f a0.out
theorem zz1 {B : Prop} (f : B := by first | rfl | (simp [errW_none, errW_some] <;> rfl) | (simp [*, errW_none, errW_some] <;> rfl)) : B := f
theorem zz2 {B A0 A1 : Prop} (a0 : Aside0 A0) (a1 : Aside0 A1) (f : A0 → A1 → B := by intro g0_ g1_; repeat (first | (with_reducible first | exact g0_ | apply below_alloc | apply pw_below_drewN | apply below_drew1 | refine below_set ?_ g1_) | exact g0_)) : B := f a0.out a1.out
theorem zz3 {B : Prop} (f : B := by first | rfl | (simp only [i64_w, i32_w]; done) | (simp only [aid_isEmpty, aid_isEmpty2]; done) | (simp; done) | (simp [*]; done)) : B := f
theorem zz5 {B A0 : Prop} (a0 : Aside0 A0) (f : A0 → B := by intro g0_; have := g0_; omega) : B := f a0.out
theorem zz6 {B : Prop} (f : B := by repeat (first | exact Drawn0.refl _ | apply Drawn0.step)) : B := f
theorem zz9 {B : Prop} (f : B := by first | omega | exact Nat.le_refl _) : B := f
theorem zz11 {B A0 : Prop} (a0 : Aside0 A0) (f : A0 → B := by intro g0_; have := g0_; first | omega | exact Nat.le_refl _) : B := f a0.out
theorem zz19 {B : Prop} (f : B := by first | (go_simp; done) | (go_simp; rfl)) : B := f
theorem zz20 {B A0 A1 : Prop} (a0 : Aside0 A0) (a1 : Aside0 A1) (f : A0 → A1 → B := by intro g0_ g1_; have := g0_; have := g1_; omega) : B := f a0.out a1.out
theorem zz21 {B A0 : Prop} (a0 : Aside0 A0) (f : A0 → B := by intro g0_; first | (with_reducible exact g0_) | ((with_reducible repeat (first | apply blk_drewN | apply blk_drew | apply blk_alloc)); exact g0_)) : B := f a0.out
theorem zz23 {B : Prop} (f : B := by (try simp only [List.map_toArray, List.map_cons, List.map_nil]); first | done | rfl | (simp only [List.length_drop, List.length_take]; rfl)) : B := f
theorem zz24 {B A0 A1 : Prop} (a0 : Aside0 A0) (a1 : Aside0 A1) (f : A0 → A1 → B := by intro g0_ g1_; repeat (first | exact (Kd.C_below g0_ g1_) | (with_reducible refine Kd.C_alloc ?_ _) | (with_reducible refine Kd.C_drewN ?_ _) | (with_reducible refine Kd.C_drew ?_))) : B := f a0.out a1.out
theorem zz28 {B A0 : Prop} (a0 : Aside0 A0) (f : A0 → B := by intro g0_; first | (with_reducible exact g0_) | ((with_reducible repeat (first | apply Kd.R_alloc | apply Kd.R_drewN | apply Kd.R_drew)); exact g0_)) : B := f a0.out
theorem zz33 {B A0 A1 A2 : Prop} (a0 : Aside0 A0) (a1 : Aside0 A1) (a2 : Aside0 A2) (f : A0 → A1 → A2 → B := by intro g0_ g1_ g2_; repeat (first | (with_reducible first | exact g0_ | apply below_alloc | apply pw_below_drewN | apply below_drew1 | refine below_set ?_ g1_ | refine below_set ?_ g2_) | exact g0_)) : B := f a0.out a1.out a2.out
theorem zz34 {B A0 : Prop} (a0 : Aside0 A0) (f : A0 → B := by intro g0_; (with_reducible repeat (first | apply Kd.R_alloc | apply Kd.R_drewN | apply Kd.R_drew)); exact Kd.R_mono g0_ (fun _ hk => hk.2)) : B := f a0.out
theorem zz36 {B A0 : Prop} (a0 : Aside0 A0) (f : A0 → B := by intro g0_; (with_reducible repeat (first | apply Kd.R_alloc | apply Kd.R_drewN | apply Kd.R_drew)); exact Kd.R_mono g0_ (fun _ hk => ⟨trivial, hk⟩)) : B := f a0.out
theorem zz37 {B A0 : Prop} (a0 : Aside0 A0) (f : A0 → B := by intro g0_; first | ((repeat (first | (with_reducible first | exact g0_ | refine blk_drewN ?_ _ | refine blk_drew ?_ | refine blk_alloc ?_ _ | apply blk_put) | exact g0_)); all_goals rfl; done) | (apply blk_put (i := 3); apply blk_put (i := 2); apply blk_put (i := 1); apply blk_put (i := 0); exact g0_; all_goals rfl)) : B := f a0.out
theorem zz38 {B : Prop} (f : B := by first | exact Kd.R_nil _ _ _ _ _ | exact Kd.N_nil _ _ _ _ _ | exact Kd.V_nil _ _ _ _ _ | exact Kd.Q_nil _ _ _ _ _ | exact Kd.S_nil _ _ _ _ _) : B := f
theorem zz39 {B A0 : Prop} (a0 : Aside0 A0) (f : A0 → B := by intro g0_; repeat (first | exact (Kd.R_reads' g0_).2.2 | (with_reducible refine Kd.C_alloc ?_ _) | (with_reducible refine Kd.C_drewN ?_ _) | (with_reducible refine Kd.C_drew ?_))) : B := f a0.out
theorem zz40 {B A0 : Prop} (a0 : Aside0 A0) (f : A0 → B := by intro g0_; (with_reducible repeat (first | apply Kd.R_alloc | apply Kd.R_drewN | apply Kd.R_drew)); exact Kd.R_mono g0_ (fun _ hk => ⟨hk.1.2, hk.2⟩)) : B := f a0.out
theorem zz41 {B A0 : Prop} (a0 : Aside0 A0) (f : A0 → B := by intro g0_; (with_reducible repeat (first | apply Kd.R_alloc | apply Kd.R_drewN | apply Kd.R_drew)); exact Kd.R_mono g0_ (fun _ hk => ⟨hk.2, hk.1⟩)) : B := f a0.out
theorem zz42 {B A0 A1 A2 A3 : Prop} (a0 : Aside0 A0) (a1 : Aside0 A1) (a2 : Aside0 A2) (a3 : Aside0 A3) (f : A0 → A1 → A2 → A3 → B := by intro g0_ g1_ g2_ g3_; repeat (first | (with_reducible first | exact g0_ | apply below_alloc | apply pw_below_drewN | apply below_drew1 | refine below_set ?_ g1_ | refine below_set ?_ g2_ | refine below_set ?_ g3_) | exact g0_)) : B := f a0.out a1.out a2.out a3.out
theorem zz43 {B A0 A1 : Prop} (a0 : Aside0 A0) (a1 : Aside0 A1) (f : A0 → A1 → B := by intro g0_ g1_; (with_reducible repeat (first | apply Kd.R_alloc | apply Kd.R_drewN | apply Kd.R_drew)); exact (Kd.R_mono (Kd.R_far (p := ⟨gb177, 3, none⟩) (Kd.R_far (p := ⟨gb177, 2, none⟩) (Kd.R_far (p := ⟨gb177, 1, none⟩) (Kd.R_far (p := ⟨gb177, 0, none⟩) (Kd.R_types g0_ g1_ (by decide)) (fun _ hk => hk.2) (.string a0_0)) (fun _ hk => hk.2) (.slice Ao39 t174.length co39)) (fun _ hk => hk.2) (.bool t156)) (fun _ hk => hk.2) (.string t172)) (fun _ h_ => h_.1))) : B := f a0.out a1.out
theorem zz45 {B A0 A1 : Prop} (a0 : Aside0 A0) (a1 : Aside0 A1) (f : A0 → A1 → B := by intro g0_ g1_; (repeat (first | (with_reducible first | exact g0_ | refine blk_drewN ?_ _ | refine blk_drew ?_ | refine blk_alloc ?_ _ | apply blk_put | apply blk_far) | exact g0_)); all_goals first | rfl | exact g1_) : B := f a0.out a1.out
theorem zz46 {B A0 : Prop} (a0 : Aside0 A0) (f : A0 → B := by intro g0_; apply Kd.R_mono; (focus ((repeat (first | (with_reducible first | exact g0_ | apply Kd.R_alloc | apply Kd.R_drewN | apply Kd.R_drew | apply Kd.R_far) | exact g0_)); all_goals (intro _ hk_; first | exact hk_.2 | exact hk_.1.2 | exact hk_.1.1.2 | exact hk_.1.1.1.2 | exact hk_.1.1.1.1.2 | exact hk_.1.1.1.1.1.2 | exact hk_.1.1.1.1.1.1.2))); intro _ hk_; first | exact trivial | (repeat' (with_reducible apply And.intro)) <;> first | exact hk_ | exact hk_.2 | exact hk_.1.2 | exact hk_.1.1.2 | exact hk_.1.1.1.2 | exact hk_.1.1.1.1.2 | exact hk_.1.1.1.1.1.2 | exact hk_.1.1.1.1.1.1.2 | exact hk_.1 | exact hk_.1.1 | exact hk_.1.1.1 | exact hk_.1.1.1.1 | exact hk_.1.1.1.1.1 | exact hk_.1.1.1.1.1.1 | exact hk_.2.2 | exact hk_.1.2.2 | exact hk_.1.1.2.2 | exact hk_.1.1.1.2.2 | exact hk_.1.1.1.1.2.2 | exact hk_.1.1.1.1.1.2.2 | exact hk_.1.1.1.1.1.1.2.2 | exact hk_.2.2.2 | exact hk_.1.2.2.2 | exact hk_.1.1.2.2.2 | exact hk_.1.1.1.2.2.2 | exact hk_.1.1.1.1.2.2.2 | exact hk_.1.1.1.1.1.2.2.2 | exact hk_.1.1.1.1.1.1.2.2.2 | exact hk_.2.2.2.2 | exact hk_.1.2.2.2.2 | exact hk_.1.1.2.2.2.2 | exact hk_.1.1.1.2.2.2.2 | exact hk_.1.1.1.1.2.2.2.2 | exact hk_.1.1.1.1.1.2.2.2.2 | exact hk_.1.1.1.1.1.1.2.2.2.2 | exact hk_.2.2.2.2.2 | exact hk_.1.2.2.2.2.2 | exact hk_.1.1.2.2.2.2.2 | exact hk_.1.1.1.2.2.2.2.2 | exact hk_.1.1.1.1.2.2.2.2.2 | exact hk_.1.1.1.1.1.2.2.2.2.2 | exact hk_.1.1.1.1.1.1.2.2.2.2.2 | exact hk_.2.1 | exact hk_.1.2.1 | exact hk_.1.1.2.1 | exact hk_.1.1.1.2.1 | exact hk_.1.1.1.1.2.1 | exact hk_.1.1.1.1.1.2.1 | exact hk_.2.2.1 | exact hk_.1.2.2.1 | exact hk_.1.1.2.2.1 | exact hk_.1.1.1.2.2.1 | exact hk_.1.1.1.1.2.2.1 | exact hk_.1.1.1.1.1.2.2.1 | exact hk_.2.2.2.1 | exact hk_.1.2.2.2.1 | exact hk_.1.1.2.2.2.1 | exact hk_.1.1.1.2.2.2.1 | exact hk_.1.1.1.1.2.2.2.1 | exact hk_.1.1.1.1.1.2.2.2.1 | exact hk_.2.2.2.2.1 | exact hk_.1.2.2.2.2.1 | exact hk_.1.1.2.2.2.2.1 | exact hk_.1.1.1.2.2.2.2.1 | exact hk_.1.1.1.1.2.2.2.2.1 | exact hk_.1.1.1.1.1.2.2.2.2.1 | exact hk_.2.2.2.2.2.1 | exact hk_.1.2.2.2.2.2.1 | exact hk_.1.1.2.2.2.2.2.1 | exact hk_.1.1.1.2.2.2.2.2.1 | exact hk_.1.1.1.1.2.2.2.2.2.1 | exact hk_.1.1.1.1.1.2.2.2.2.2.1) : B := f a0.out
theorem zz47 {B A0 A1 : Prop} (a0 : Aside0 A0) (a1 : Aside0 A1) (f : A0 → A1 → B := by intro g0_ g1_; (with_reducible repeat (first | apply Kd.R_alloc | apply Kd.R_drewN | apply Kd.R_drew)); exact (Kd.R_mono (Kd.R_far (p := ⟨gb177, 3, none⟩) (Kd.R_far (p := ⟨gb177, 2, none⟩) (Kd.R_far (p := ⟨gb177, 1, none⟩) (Kd.R_far (p := ⟨gb177, 0, none⟩) (Kd.R_types g0_ g1_ (by decide)) (fun _ hk => hk.2) (.string a0_0)) (fun _ hk => hk.2) (.slice Ao59 t174.length co59)) (fun _ hk => hk.2) (.bool t156)) (fun _ hk => hk.2) (.string t172)) (fun _ h_ => h_.1))) : B := f a0.out a1.out
theorem zz50 {B : Prop} (f : B := by rw [← hq_]; exact (zz21 BK204)) : B := f
theorem zz51 {B : Prop} (f : B := by rw [← hq_]; exact (zz2 HB GE204)) : B := f
theorem zz52 {B A0 A1 : Prop} (a0 : Aside0 A0) (a1 : Aside0 A1) (f : A0 → A1 → B := by intro g0_ g1_; (with_reducible repeat (first | apply Kd.R_alloc | apply Kd.R_drewN | apply Kd.R_drew)); exact (Kd.R_mono (Kd.R_far (p := ⟨gb225, 3, none⟩) (Kd.R_far (p := ⟨gb225, 2, none⟩) (Kd.R_far (p := ⟨gb225, 1, none⟩) (Kd.R_far (p := ⟨gb225, 0, none⟩) (Kd.R_types g0_ g1_ (by decide)) (fun _ hk => hk.2) (.string t218)) (fun _ hk => hk.2) (.slice Ao8 t219.length co8)) (fun _ hk => hk.2) (.bool t222)) (fun _ hk => hk.2) (.string t223)) (fun _ h_ => h_.1))) : B := f a0.out a1.out
theorem zz57 {B A0 A1 A2 : Prop} (a0 : Aside0 A0) (a1 : Aside0 A1) (a2 : Aside0 A2) (f : A0 → A1 → A2 → B := by intro g0_ g1_ g2_; have := g0_; have := g1_; have := g2_; omega) : B := f a0.out a1.out a2.out
theorem zz59 {B A0 : Prop} (a0 : Aside0 A0) (f : A0 → B := by intro g0_; repeat (first | exact g0_ | (with_reducible refine Kd.C_alloc ?_ _) | (with_reducible refine Kd.C_drewN ?_ _) | (with_reducible refine Kd.C_drew ?_))) : B := f a0.out
theorem zz70 {B A0 : Prop} (a0 : Aside0 A0) (f : A0 → B := by intro g0_; (with_reducible repeat (first | apply Kd.R_alloc | apply Kd.R_drewN | apply Kd.R_drew)); exact Kd.R_mono g0_ (fun _ hk => trivial)) : B := f a0.out
theorem zz71 {B A0 : Prop} (a0 : Aside0 A0) (f : A0 → B := by intro g0_; repeat (first | (with_reducible first | exact g0_ | apply Kept.alloc | apply Kept.drewN | apply Kept.drew) | exact g0_)) : B := f a0.out
theorem zz74 {B A0 : Prop} (a0 : Aside0 A0) (f : A0 → B := by intro g0_; first | (with_reducible exact g0_) | ((with_reducible repeat (first | apply Kd.V_alloc | apply Kd.V_drewN | apply Kd.V_drew)); exact g0_)) : B := f a0.out
theorem zz75 {B A0 : Prop} (a0 : Aside0 A0) (f : A0 → B := by intro g0_; repeat (first | exact (Kd.V_reads' g0_).2.2 | (with_reducible refine Kd.C_alloc ?_ _) | (with_reducible refine Kd.C_drewN ?_ _) | (with_reducible refine Kd.C_drew ?_))) : B := f a0.out
theorem zz78 {B A0 : Prop} (a0 : Aside0 A0) (f : A0 → B := by intro g0_; (with_reducible repeat (first | apply Kd.R_alloc | apply Kd.R_drewN | apply Kd.R_drew)); exact Kd.R_mono g0_ (fun _ hk => hk.1)) : B := f a0.out
theorem zz81 {B A0 : Prop} (a0 : Aside0 A0) (f : A0 → B := by intro g0_; (with_reducible repeat (first | apply Kd.R_alloc | apply Kd.R_drewN | apply Kd.R_drew)); exact Kd.R_mono g0_ (fun _ hk => ⟨hk.1.1, hk.2⟩)) : B := f a0.out
theorem zz84 {B A0 : Prop} (a0 : Aside0 A0) (f : A0 → B := by intro g0_; (with_reducible repeat (first | apply Kd.R_alloc | apply Kd.R_drewN | apply Kd.R_drew)); exact Kd.R_mono g0_ (fun _ hk => ⟨hk.1.1.1, ⟨hk.2, hk.1.2⟩⟩)) : B := f a0.out
theorem zz85 {B A0 : Prop} (a0 : Aside0 A0) (f : A0 → B := by intro g0_; (with_reducible repeat (first | apply Kd.R_alloc | apply Kd.R_drewN | apply Kd.R_drew)); exact Kd.R_mono g0_ (fun _ hk => ⟨hk.1.1, ⟨hk.2, hk.1.2⟩⟩)) : B := f a0.out
theorem zz86 {B A0 : Prop} (a0 : Aside0 A0) (f : A0 → B := by intro g0_; (with_reducible repeat (first | apply Kd.V_alloc | apply Kd.V_drewN | apply Kd.V_drew)); exact Kd.V_mono g0_ (fun _ hk => ⟨hk.1.1.1, ⟨hk.1.2, ⟨hk.1.1.2.2.1, ⟨hk.1.1.2.1, ⟨hk.1.1.2.2.2, hk.2⟩⟩⟩⟩⟩)) : B := f a0.out
theorem zz87 {B A0 : Prop} (a0 : Aside0 A0) (f : A0 → B := by intro g0_; (with_reducible repeat (first | apply Kd.V_alloc | apply Kd.V_drewN | apply Kd.V_drew)); exact Kd.V_mono g0_ (fun _ hk => ⟨hk.1.1.1, ⟨hk.2, ⟨hk.1.1.2.2.1, ⟨hk.1.1.2.1, ⟨hk.1.1.2.2.2, hk.1.2⟩⟩⟩⟩⟩)) : B := f a0.out
theorem zz88 {B A0 A1 : Prop} (a0 : Aside0 A0) (a1 : Aside0 A1) (f : A0 → A1 → B := by intro g0_ g1_; first | exact Kd.own_blk (Kd.R_ne g0_ g1_ (by decide)) | (rw [add_block]; exact Kd.own_blk (Kd.R_ne g0_ g1_ (by decide))) | (show (Addr.add _ _).block ≠ _; rw [add_block]; exact Kd.own_blk (Kd.R_ne g0_ g1_ (by decide))) | (dsimp only; exact Kd.own_blk (Kd.R_ne g0_ g1_ (by decide)))) : B := f a0.out a1.out
theorem zz89 {B A0 A1 : Prop} (a0 : Aside0 A0) (a1 : Aside0 A1) (f : A0 → A1 → B := by intro g0_ g1_; (with_reducible repeat (first | apply Kd.R_alloc | apply Kd.R_drewN | apply Kd.R_drew)); exact (Kd.R_mono (Kd.R_far (p := ⟨gb360, 3, none⟩) (Kd.R_far (p := ⟨gb360, 2, none⟩) (Kd.R_far (p := ⟨gb360, 1, none⟩) (Kd.R_far (p := ⟨gb360, 0, none⟩) (Kd.R_types g0_ g1_ (by decide)) (fun _ hk => hk.2) (.string t353)) (fun _ hk => hk.2) (.slice Ao44 t354.length co44)) (fun _ hk => hk.2) (.bool t357)) (fun _ hk => hk.2) (.string t358)) (fun _ h_ => h_.1))) : B := f a0.out a1.out
theorem zz92 {B A0 : Prop} (a0 : Aside0 A0) (f : A0 → B := by intro g0_; (with_reducible repeat (first | apply Kd.R_alloc | apply Kd.R_drewN | apply Kd.R_drew)); exact Kd.R_mono g0_ (fun _ hk => ⟨hk.1, hk.2.1⟩)) : B := f a0.out
theorem zz120 {B : Prop} (f : B := by (try simp only [List.map_toArray, List.map_cons, List.map_nil]); first | done | (simp only [hji4]; rfl) | rfl | (simp only [List.length_drop, List.length_take]; rfl)) : B := f
theorem zz121 {B : Prop} (f : B := by (try simp only [List.map_toArray, List.map_cons, List.map_nil]); first | done | (simp only [hji9]; rfl) | rfl | (simp only [List.length_drop, List.length_take]; rfl)) : B := f
theorem zz122 {B : Prop} (f : B := by first | rfl | (simp [errW_none, errW_some] <;> rfl) | (simp only [← hji4, ← hji9]; first | rfl | (simp [errW_none, errW_some] <;> rfl)) | (simp [*, errW_none, errW_some] <;> rfl)) : B := f
theorem zz143 {B A0 A1 : Prop} (a0 : Aside0 A0) (a1 : Aside0 A1) (f : A0 → A1 → B := by intro g0_ g1_; (with_reducible repeat (first | apply Kd.R_alloc | apply Kd.R_drewN | apply Kd.R_drew)); exact (Kd.R_mono (Kd.R_far (p := ⟨gb500, 3, none⟩) (Kd.R_far (p := ⟨gb500, 2, none⟩) (Kd.R_far (p := ⟨gb500, 1, none⟩) (Kd.R_far (p := ⟨gb500, 0, none⟩) (Kd.R_types g0_ g1_ (by decide)) (fun _ hk => hk.2) (.string a0)) (fun _ hk => hk.2) (.slice Ao30 t497.length co30)) (fun _ hk => hk.2) (.bool t482)) (fun _ hk => hk.2) (.string t483)) (fun _ h_ => h_.1))) : B := f a0.out a1.out
theorem zz145 {B A0 A1 : Prop} (a0 : Aside0 A0) (a1 : Aside0 A1) (f : A0 → A1 → B := by intro g0_ g1_; (with_reducible repeat (first | apply Kd.R_alloc | apply Kd.R_drewN | apply Kd.R_drew)); exact (Kd.R_mono (Kd.R_far (p := ⟨gb500, 3, none⟩) (Kd.R_far (p := ⟨gb500, 2, none⟩) (Kd.R_far (p := ⟨gb500, 1, none⟩) (Kd.R_far (p := ⟨gb500, 0, none⟩) (Kd.R_types g0_ g1_ (by decide)) (fun _ hk => hk.2) (.string a0)) (fun _ hk => hk.2) (.slice Ao39 t497.length co39)) (fun _ hk => hk.2) (.bool t482)) (fun _ hk => hk.2) (.string t483)) (fun _ h_ => h_.1))) : B := f a0.out a1.out
theorem zz147 {B : Prop} (f : B := by (try simp only [List.map_toArray, List.map_cons, List.map_nil]); first | done | rfl | (simp only [List.length_drop, List.length_take]; rfl) | (simp <;> repeat' (first | rfl | constructor))) : B := f
theorem zz149 {B : Prop} (f : B := by rw [← hq_]; exact (zz2 HB GE502)) : B := f
theorem zz150 {B A0 A1 : Prop} (a0 : Aside0 A0) (a1 : Aside0 A1) (f : A0 → A1 → B := by intro g0_ g1_; (with_reducible repeat (first | apply Kd.R_alloc | apply Kd.R_drewN | apply Kd.R_drew)); exact (Kd.R_mono (Kd.R_far (p := ⟨gb541, 3, none⟩) (Kd.R_far (p := ⟨gb541, 2, none⟩) (Kd.R_far (p := ⟨gb541, 1, none⟩) (Kd.R_far (p := ⟨gb541, 0, none⟩) (Kd.R_types g0_ g1_ (by decide)) (fun _ hk => hk.2) (.string t534)) (fun _ hk => hk.2) (.slice Ao11 t535.length co11)) (fun _ hk => hk.2) (.bool t538)) (fun _ hk => hk.2) (.string t539)) (fun _ h_ => h_.1))) : B := f a0.out a1.out
theorem zz152 {B A0 A1 : Prop} (a0 : Aside0 A0) (a1 : Aside0 A1) (f : A0 → A1 → B := by intro g0_ g1_; (with_reducible repeat (first | apply Kd.R_alloc | apply Kd.R_drewN | apply Kd.R_drew)); exact (Kd.R_mono (Kd.R_far (p := ⟨gb541, 3, none⟩) (Kd.R_far (p := ⟨gb541, 2, none⟩) (Kd.R_far (p := ⟨gb541, 1, none⟩) (Kd.R_far (p := ⟨gb541, 0, none⟩) (Kd.R_types g0_ g1_ (by decide)) (fun _ hk => hk.2) (.string t534)) (fun _ hk => hk.2) (.slice Ao20 t535.length co20)) (fun _ hk => hk.2) (.bool t538)) (fun _ hk => hk.2) (.string t539)) (fun _ h_ => h_.1))) : B := f a0.out a1.out
theorem zz156 {B : Prop} (f : B := by rw [← hq_]; exact (zz21 BK560)) : B := f
theorem zz157 {B : Prop} (f : B := by rw [← hq_]; exact (zz21 BK561)) : B := f
theorem zz158 {B : Prop} (f : B := by rw [← hq_]; exact (zz33 HB GE560 GE561)) : B := f
theorem zz169 {B A0 : Prop} (a0 : Aside0 A0) (f : A0 → B := by intro g0_; (with_reducible repeat (first | apply Kd.V_alloc | apply Kd.V_drewN | apply Kd.V_drew)); exact Kd.V_mono (Kd.V_far (p := ⟨gb625, 3, none⟩) (Kd.V_far (p := ⟨gb625, 2, none⟩) (Kd.V_far (p := ⟨gb625, 1, none⟩) (Kd.V_far (p := ⟨gb625, 0, none⟩) (Kd.V_mono g0_ (fun k_ hk => (⟨hk, hk.2⟩ : _ ∧ k_ ≠ gb625))) (fun _ hk => hk.2) (.string t618)) (fun _ hk => hk.2) (.slice Ao34 t619.length co34)) (fun _ hk => hk.2) (.bool t622)) (fun _ hk => hk.2) (.string t623)) (fun _ hk => ⟨hk.1.1.1.1.1, ⟨hk.1.1.1.1.2, hk.1.1.1.2⟩⟩)) : B := f a0.out
theorem zz170 {B A0 : Prop} (a0 : Aside0 A0) (f : A0 → B := by intro g0_; (with_reducible repeat (first | apply Kd.V_alloc | apply Kd.V_drewN | apply Kd.V_drew)); exact Kd.V_mono g0_ (fun _ hk => ⟨hk.1.1, ⟨hk.1.2, hk.2⟩⟩)) : B := f a0.out
theorem zz173 {B A0 : Prop} (a0 : Aside0 A0) (f : A0 → B := by intro g0_; (with_reducible repeat (first | apply Kd.V_alloc | apply Kd.V_drewN | apply Kd.V_drew)); exact Kd.V_mono g0_ (fun _ hk => ⟨hk.1.1, ⟨(by simp [Value.ownBlock]), ⟨hk.2, ⟨hk.1.2.1, hk.1.2.2⟩⟩⟩⟩)) : B := f a0.out
theorem zz175 {B A0 A1 : Prop} (a0 : Aside0 A0) (a1 : Aside0 A1) (f : A0 → A1 → B := by intro g0_ g1_; (with_reducible repeat (first | apply Kd.R_alloc | apply Kd.R_drewN | apply Kd.R_drew)); exact (Kd.R_mono (Kd.R_far (p := ⟨gb637, 3, none⟩) (Kd.R_far (p := ⟨gb637, 2, none⟩) (Kd.R_far (p := ⟨gb637, 1, none⟩) (Kd.R_far (p := ⟨gb637, 0, none⟩) (Kd.R_types g0_ g1_ (by decide)) (fun _ hk => hk.2) (.string t630)) (fun _ hk => hk.2) (.slice Ao54 t631.length co54)) (fun _ hk => hk.2) (.bool t634)) (fun _ hk => hk.2) (.string t635)) (fun _ h_ => h_.1))) : B := f a0.out a1.out
theorem zz177 {B A0 : Prop} (a0 : Aside0 A0) (f : A0 → B := by intro g0_; (with_reducible repeat (first | apply Kd.V_alloc | apply Kd.V_drewN | apply Kd.V_drew)); exact (Kd.V_mono (Kd.V_far (p := ⟨gb637, 3, none⟩) (Kd.V_far (p := ⟨gb637, 2, none⟩) (Kd.V_far (p := ⟨gb637, 1, none⟩) (Kd.V_far (p := ⟨gb637, 0, none⟩) (Kd.V_mono g0_ (fun k_ hk => (⟨hk, hk.2⟩ : _ ∧ k_ ≠ gb637))) (fun _ hk => hk.2) (.string t630)) (fun _ hk => hk.2) (.slice Ao54 t631.length co54)) (fun _ hk => hk.2) (.bool t634)) (fun _ hk => hk.2) (.string t635)) (fun _ h_ => h_.1))) : B := f a0.out
theorem zz178 {B A0 : Prop} (a0 : Aside0 A0) (f : A0 → B := by intro g0_; (with_reducible repeat (first | apply Kd.R_alloc | apply Kd.R_drewN | apply Kd.R_drew)); exact Kd.R_mono g0_ (fun _ hk => ⟨hk.1.1, hk.1.2⟩)) : B := f a0.out
theorem zz179 {B A0 : Prop} (a0 : Aside0 A0) (f : A0 → B := by intro g0_; (with_reducible repeat (first | apply Kd.V_alloc | apply Kd.V_drewN | apply Kd.V_drew)); exact Kd.V_mono g0_ (fun _ hk => ⟨hk.1.1.1, ⟨hk.1.1.2.1, ⟨hk.1.1.2.2.1, ⟨hk.1.1.2.2.2.1, hk.1.1.2.2.2.2⟩⟩⟩⟩)) : B := f a0.out
theorem zz180 {B A0 A1 : Prop} (a0 : Aside0 A0) (a1 : Aside0 A1) (f : A0 → A1 → B := by intro g0_ g1_; (with_reducible repeat (first | apply Kd.R_alloc | apply Kd.R_drewN | apply Kd.R_drew)); exact (Kd.R_mono (Kd.R_far (p := ⟨gb637, 3, none⟩) (Kd.R_far (p := ⟨gb637, 2, none⟩) (Kd.R_far (p := ⟨gb637, 1, none⟩) (Kd.R_far (p := ⟨gb637, 0, none⟩) (Kd.R_types g0_ g1_ (by decide)) (fun _ hk => hk.2) (.string t630)) (fun _ hk => hk.2) (.slice Ao66 t631.length co66)) (fun _ hk => hk.2) (.bool t634)) (fun _ hk => hk.2) (.string t635)) (fun _ h_ => h_.1))) : B := f a0.out a1.out
theorem zz182 {B A0 : Prop} (a0 : Aside0 A0) (f : A0 → B := by intro g0_; (with_reducible repeat (first | apply Kd.V_alloc | apply Kd.V_drewN | apply Kd.V_drew)); exact (Kd.V_mono (Kd.V_far (p := ⟨gb637, 3, none⟩) (Kd.V_far (p := ⟨gb637, 2, none⟩) (Kd.V_far (p := ⟨gb637, 1, none⟩) (Kd.V_far (p := ⟨gb637, 0, none⟩) (Kd.V_mono g0_ (fun k_ hk => (⟨hk, hk.2⟩ : _ ∧ k_ ≠ gb637))) (fun _ hk => hk.2) (.string t630)) (fun _ hk => hk.2) (.slice Ao66 t631.length co66)) (fun _ hk => hk.2) (.bool t634)) (fun _ hk => hk.2) (.string t635)) (fun _ h_ => h_.1))) : B := f a0.out
theorem zz185 {B A0 : Prop} (a0 : Aside0 A0) (f : A0 → B := by intro g0_; (with_reducible repeat (first | apply Kd.V_alloc | apply Kd.V_drewN | apply Kd.V_drew)); exact Kd.V_mono g0_ (fun _ hk => ⟨⟨hk.1.1.1, ⟨hk.1.1.2.2.1, ⟨hk.1.2, ⟨hk.1.1.2.2.2.1, ⟨hk.1.1.2.2.2.2, hk.2⟩⟩⟩⟩⟩, hk.1.1.2.1⟩)) : B := f a0.out
theorem zz187 {B A0 : Prop} (a0 : Aside0 A0) (f : A0 → B := by intro g0_; (with_reducible repeat (first | apply Kd.V_alloc | apply Kd.V_drewN | apply Kd.V_drew)); exact Kd.V_mono g0_ (fun _ hk => ⟨hk.1.1, ⟨hk.2, ⟨hk.1.2.1, ⟨hk.1.2.2.2.1, hk.1.2.2.2.2.1⟩⟩⟩⟩)) : B := f a0.out
theorem zz188 {B A0 : Prop} (a0 : Aside0 A0) (f : A0 → B := by intro g0_; (with_reducible repeat (first | apply Kd.V_alloc | apply Kd.V_drewN | apply Kd.V_drew)); exact Kd.V_mono (Kd.V_far (p := ⟨gb637, 3, none⟩) (Kd.V_far (p := ⟨gb637, 2, none⟩) (Kd.V_far (p := ⟨gb637, 1, none⟩) (Kd.V_far (p := ⟨gb637, 0, none⟩) (Kd.V_mono g0_ (fun k_ hk => (⟨hk, hk.2⟩ : _ ∧ k_ ≠ gb637))) (fun _ hk => hk.2) (.string t630)) (fun _ hk => hk.2) (.slice Ao78 t631.length co78)) (fun _ hk => hk.2) (.bool t634)) (fun _ hk => hk.2) (.string t635)) (fun _ hk => ⟨hk.1.1.1.1, ⟨hk.1.1.1.2.1, ⟨hk.1.1.1.2.2.1, ⟨hk.1.1.1.2.2.2.1, hk.1.1.1.2.2.2.2⟩⟩⟩⟩)) : B := f a0.out
theorem zz189 {B A0 : Prop} (a0 : Aside0 A0) (f : A0 → B := by intro g0_; repeat (first | exact (Kd.C_below g0_ (zz0 HB)) | (with_reducible refine Kd.C_alloc ?_ _) | (with_reducible refine Kd.C_drewN ?_ _) | (with_reducible refine Kd.C_drew ?_))) : B := f a0.out
theorem zz191 {B A0 : Prop} (a0 : Aside0 A0) (f : A0 → B := by intro g0_; (try simp only [List.map_toArray, List.map_cons, List.map_nil]); first | done | (rw [show t693.length = t681.length from (Kd.R_reads' g0_).1.symm] <;> rfl) | rfl | (simp only [List.length_drop, List.length_take]; rfl)) : B := f a0.out
theorem zz192 {B A0 : Prop} (a0 : Aside0 A0) (f : A0 → B := by intro g0_; rw [show t693.length = t681.length from (Kd.R_reads' g0_).1.symm]; exact (Kd.R_reads' g0_).2.1) : B := f a0.out
end Go.Proofs.YtpnedbnpnekahaaGreatDoor.P
end
section
namespace Go.Proofs.YtpnedbnpnekahaaGreatDoor.Wd
open Go.RowKit Go.Proofs.YtpnedbnpnekahaaGreatDoor.P Go.Proofs.YtpnedbnpnekahaaGreatDoorW.PrintWords Go.Proofs.YtpnedbnpnekahaaGreatDoorW.PrintLast Go.Proofs.YtpnedbnpnekahaaGreatDoorW.PrintMore Go.ChangeShapes Go.WideShapes Go.Deep Go.Joins
set_option linter.unusedVariables false
set_option linter.unusedSimpArgs false
abbrev Lg := S35
instance : Inhabited Lg := ⟨z35⟩
def lgD {H : Type} (p : Lg) : DataW H := .agg [.lit (.string p.f0.data.toList), .lit (.string p.f1.data.toList), .lit (.string p.f2.data.toList), .lit (.int .i64 p.f3)]
theorem weights_all {H : Type} {P : Program} {e : TypeId} : ∀ {ds : List (DataW H)} {d : DataW H}, d ∈ ds → ∀ n ∈ d.weights P e, n ∈ DataW.weightsAll P e ds
 | d0 :: ds, d, h, n, hn => by
  simp only [DataW.weightsAll, List.mem_append]
  rcases List.mem_cons.1 h with rfl | h'
  ·exact .inl hn
  ·exact .inr (weights_all h' n hn)
theorem lg_weights {H : Type} (p : Lg) : ∀ n ∈ [p.f0.size, p.f1.size, p.f2.size], n ∈ (lgD (H := H) p).weights Tryz.prog 35 := by
 intro n hn
 simp only [lgD, DataW.weights, Tryz.underlying35]
 simp only [List.map, DataW.weightsEach, DataW.weights]
 simp only [List.mem_cons, List.not_mem_nil, or_false] at hn
 rcases hn with rfl | rfl | rfl <;> simp
theorem list4 {α : Type} {l : List α} (h : l.length = 4) : ∃ a b c d, l = [a, b, c, d] := by
 match l, h with
 | [a, b, c, d], _ => exact ⟨a, b, c, d, rfl⟩
theorem lg_of {H : Type} {enc : TypeId × Value → H} {W : World} {base : Nat} {sp : Nat → Bool} {held : Bool} {n : Nat} {cs : List Value} {y : DataW H × List MemPlace}
  (h : DataW.trod enc Tryz.prog W base sp held n 35 cs = some y) : ∃ p : Lg, y.1 = lgD p ∧ cs = [.string p.f0, .string p.f1, .string p.f2, .int .i64 p.f3] := by
 obtain ⟨y0, y1, y2, y3, m, hy, hl, h0, h1, h2, h3⟩ := trod_struct4 Tryz.underlying35 h
 have hC : Tryz.prog.cellsOf 35 = 4 := by kernel_rfl
 have hS : Tryz.prog.cellsOf 9 = 1 := by kernel_rfl
 have hI : Tryz.prog.cellsOf 3 = 1 := by kernel_rfl
 rw [hC] at hl
 obtain ⟨c0, c1, c2, c3, rfl⟩ := list4 hl
 simp only [hS, hI, List.drop_zero, List.drop_succ_cons, List.take_succ_cons, List.take_zero] at h0 h1 h2 h3
 obtain ⟨s0, e0, r0, _⟩ := DataW.trod_string Tryz.underlying9 h0
 obtain ⟨s1, e1, r1, _⟩ := DataW.trod_string Tryz.underlying9 h1
 obtain ⟨s2, e2, r2, _⟩ := DataW.trod_string Tryz.underlying9 h2
 obtain ⟨i3, e3, r3, _⟩ := DataW.trod_int Tryz.underlying3 h3
 refine ⟨⟨s0, s1, s2, i3⟩, ?_, ?_⟩
 ·rw [hy, r0, r1, r2, r3]; rfl
 ·simp only [List.cons.injEq, and_true] at e0 e1 e2 e3
  rw [e0, e1, e2, e3]
theorem pages_open {H : Type} {enc : TypeId × Value → H} {W : World} {n : Nat} {cs : List Value} {x : DataW H × List MemPlace} (h : DataW.trod enc Tryz.prog W 0 (fun _ => true) true n 22 cs = some x) :
  ∃ (A : Option Addr) (l : List Lg) (c : Nat), cs = [.slice A l.length c] ∧ Kd.C k35 W A l.length l ∧ l.length ≤ c ∧
   ∀ B, B ≤ 9223372036854775807 → (∀ n ∈ x.1.weights Tryz.prog 22, n ≤ B) → l.length * 56 ≤ B ∧ ∀ p ∈ l, p.f0.size ≤ B ∧ p.f1.size ≤ B ∧ p.f2.size ≤ B := by
 have hC : Tryz.prog.cellsOf 35 = 4 := by kernel_rfl
 have hB : Tryz.prog.bytesOf 35 = 56 := by kernel_rfl
 rcases open_slice Tryz.underlying22 h with ⟨e, _⟩ | ⟨a, len, cap, m, k, D, Pl, e, _, hl, hm, hmm, hx, each⟩
 ·exact ⟨none, [], 0, e, ⟨rfl, by simp, fun h => by simp at h⟩, Nat.le_refl _, fun B _ _ => ⟨by simp, by simp⟩⟩
 ·have hmm' : m = cap := by simpa using hmm
  obtain ⟨f, hf⟩ := choose_lt (p := fun i (p : Lg) => D i = lgD p ∧ W.cells? 0 (a.add (i * 4)) 4 = some [.string p.f0, .string p.f1, .string p.f2, .int .i64 p.f3]) (n := m) (fun i hi => by
   obtain ⟨cs', h1, h2⟩ := each i hi
   obtain ⟨p, hp, hcs⟩ := lg_of h2
   rw [hC] at h1
   exact ⟨p, hp, by rw [h1, hcs]⟩)
  refine ⟨some a, (List.range len).map f, cap, ?_, ⟨rfl, ?_, fun hn => ⟨a, rfl, fun j p hj => ?_⟩⟩, ?_, fun B hB2 hw => ?_⟩
  ·rw [e]; simp
  ·have : maxLen = 2 ^ 63 - 1 := rfl
   simp
   omega
  ·obtain ⟨hjl, hp⟩ := List.getElem?_eq_some_iff.1 hj
   simp only [List.length_map, List.length_range] at hjl
   simp only [List.getElem_map, List.getElem_range] at hp
   subst hp
   obtain ⟨hD, hc⟩ := hf j (by omega)
   obtain ⟨_, _, hcell⟩ := World.cells?_some hc
   refine ⟨_, rfl, k35_mk W (f j), fun i u hu => ?_⟩
   have hi : i < 4 := (List.getElem?_eq_some_iff.1 hu).1
   have := hcell i hi
   rw [Go.Deep.add_add] at this
   exact this.trans hu
  ·simp; omega
  ·rw [hx] at hw
   simp only [DataW.weights, Tryz.underlying22, List.mem_cons, List.mem_append] at hw
   have h1 := hw _ (.inl rfl)
   rw [hB] at h1
   simp only [List.length_map, List.length_range] at h1
   refine ⟨by simp; omega, fun p hp => ?_⟩
   obtain ⟨i, hi, rfl⟩ := List.mem_map.1 hp
   have hil := List.mem_range.1 hi
   have hD := (hf i (by omega)).1
   have each2 : ∀ n ∈ [(f i).f0.size, (f i).f1.size, (f i).f2.size], n ≤ B := fun n hn => hw n (.inr (.inl (weights_all (d := D i) (List.mem_map.2 ⟨i, hi, rfl⟩) n (by rw [hD]; exact lg_weights (f i) n hn))))
   exact ⟨each2 _ (by simp), each2 _ (by simp), each2 _ (by simp)⟩
end Go.Proofs.YtpnedbnpnekahaaGreatDoor.Wd
end
section
namespace Go.Proofs.YtpnedbnpnekahaaGreatDoor.P
open Go.RowKit Go.Proofs.YtpnedbnpnekahaaGreatDoorW.PrintWords Go.Proofs.YtpnedbnpnekahaaGreatDoorW.PrintLast Go.Proofs.YtpnedbnpnekahaaGreatDoorW.PrintMore
attribute [local go_sem] max2_int min2_int max_two min_two max_three min_three max_four min_four
set_option linter.unusedVariables false
set_option linter.unusedSimpArgs false
def laws_szPage.f (a0_0 : ByteArray) (a0_1 : ByteArray) (a0_2 : ByteArray) (a0_3 : Int) (a1 : Int) : Option (Int) := if (wrap64 (a1 - (a0_0.size : Int))) < 0 then (some (-1)) else (if (wrap64 ((wrap64 (a1 - (a0_0.size : Int))) - (a0_1.size : Int))) < 0 then (some (-1)) else (if (wrap64 ((wrap64 ((wrap64 (a1 - (a0_0.size : Int))) - (a0_1.size : Int))) - (a0_2.size : Int))) < 0 then (some (-1)) else (some (wrap64 ((wrap64 ((wrap64 (a1 - (a0_0.size : Int))) - (a0_1.size : Int))) - (a0_2.size : Int))))))
set_option maxHeartbeats 8000000 in
set_option maxRecDepth 100000 in
theorem laws_szPage.calls (a0_0 : ByteArray) (a0_1 : ByteArray) (a0_2 : ByteArray) (a0_3 : Int) (a1 : Int) (r : Int) (w : World) (h : laws_szPage.f a0_0 a0_1 a0_2 a0_3 a1 = some r) :
  Calls Tryz.prog 13 #[.agg #[.string a0_0, .string a0_1, .string a0_2, .int .i64 a0_3], .int .i64 a1] w fun e w' => e = .returned (.int .i64 r) ∧ Below w.heap.size w w' := by
 have hu35 := Tryz.underlying35;have HB := Aside0.mk (Below.refl w.heap.size w);have H : (if (wrap64 (a1 - (a0_0.size : Int))) < 0 then (some (-1)) else (if (wrap64 ((wrap64 (a1 - (a0_0.size : Int))) - (a0_1.size : Int))) < 0 then (some (-1)) else (if (wrap64 ((wrap64 ((wrap64 (a1 - (a0_0.size : Int))) - (a0_1.size : Int))) - (a0_2.size : Int))) < 0 then (some (-1)) else (some (wrap64 ((wrap64 ((wrap64 (a1 - (a0_0.size : Int))) - (a0_1.size : Int))) - (a0_2.size : Int))))))) = some r := h;clear h;by_cases c3 : (wrap64 (a1 - (a0_0.size : Int))) < 0
 ·rw [if_pos c3] at H
  have c3b0 : decide ((wrap64 (a1 - (a0_0.size : Int))) < 0) = true := decide_eq_true c3;clear c3;obtain rfl := Option.some.inj H;go_enter Tryz.func13, Tryz.ntmps13;go_wp2_with (first | ((with_reducible refine gate_dst (N := 2) rfl ?_); refine boxE 2 #[.string a0_0, .string a0_1, .string a0_2, .int .i64 a0_3] 35 ?_; intro gb101 hg w4 hbox hb; have BK101 := Aside0.mk (hbox); have GE101 := geB hg (zz0 HB); replace HB := Aside0.mk (below_step (zz0 HB) hb); clear hb hbox hg; obtain ⟨_, _, _, _, _, _, _, _⟩ := cf4 BK101))
  go_ret
  exact ⟨zz1, (zz2 HB GE101)⟩
 ·rw [if_neg c3] at H
  have c3b0 : decide ((wrap64 (a1 - (a0_0.size : Int))) < 0) = false := decide_eq_false c3;clear c3;by_cases c6 : (wrap64 ((wrap64 (a1 - (a0_0.size : Int))) - (a0_1.size : Int))) < 0
  ·rw [if_pos c6] at H
   have c6b0 : decide ((wrap64 ((wrap64 (a1 - (a0_0.size : Int))) - (a0_1.size : Int))) < 0) = true := decide_eq_true c6;clear c6;obtain rfl := Option.some.inj H;go_enter Tryz.func13, Tryz.ntmps13;go_wp2_with (first | ((with_reducible refine gate_dst (N := 2) rfl ?_); refine boxE 2 #[.string a0_0, .string a0_1, .string a0_2, .int .i64 a0_3] 35 ?_; intro gb101 hg w7 hbox hb; have BK101 := Aside0.mk (hbox); have GE101 := geB hg (zz0 HB); replace HB := Aside0.mk (below_step (zz0 HB) hb); clear hb hbox hg; obtain ⟨_, _, _, _, _, _, _, _⟩ := cf4 BK101))
   go_ret
   exact ⟨zz1, (zz2 HB GE101)⟩
  ·rw [if_neg c6] at H
   have c6b0 : decide ((wrap64 ((wrap64 (a1 - (a0_0.size : Int))) - (a0_1.size : Int))) < 0) = false := decide_eq_false c6;clear c6;by_cases c9 : (wrap64 ((wrap64 ((wrap64 (a1 - (a0_0.size : Int))) - (a0_1.size : Int))) - (a0_2.size : Int))) < 0
   ·rw [if_pos c9] at H
    have c9b0 : decide ((wrap64 ((wrap64 ((wrap64 (a1 - (a0_0.size : Int))) - (a0_1.size : Int))) - (a0_2.size : Int))) < 0) = true := decide_eq_true c9;clear c9;obtain rfl := Option.some.inj H;go_enter Tryz.func13, Tryz.ntmps13;go_wp2_with (first | ((with_reducible refine gate_dst (N := 2) rfl ?_); refine boxE 2 #[.string a0_0, .string a0_1, .string a0_2, .int .i64 a0_3] 35 ?_; intro gb101 hg w10 hbox hb; have BK101 := Aside0.mk (hbox); have GE101 := geB hg (zz0 HB); replace HB := Aside0.mk (below_step (zz0 HB) hb); clear hb hbox hg; obtain ⟨_, _, _, _, _, _, _, _⟩ := cf4 BK101))
    go_ret
    exact ⟨zz1, (zz2 HB GE101)⟩
   ·rw [if_neg c9] at H
    have c9b0 : decide ((wrap64 ((wrap64 ((wrap64 (a1 - (a0_0.size : Int))) - (a0_1.size : Int))) - (a0_2.size : Int))) < 0) = false := decide_eq_false c9;clear c9;obtain rfl := Option.some.inj H;go_enter Tryz.func13, Tryz.ntmps13;go_wp2_with (first | ((with_reducible refine gate_dst (N := 2) rfl ?_); refine boxE 2 #[.string a0_0, .string a0_1, .string a0_2, .int .i64 a0_3] 35 ?_; intro gb101 hg w12 hbox hb; have BK101 := Aside0.mk (hbox); have GE101 := geB hg (zz0 HB); replace HB := Aside0.mk (below_step (zz0 HB) hb); clear hb hbox hg; obtain ⟨_, _, _, _, _, _, _, _⟩ := cf4 BK101))
    go_ret
    exact ⟨zz1, (zz2 HB GE101)⟩
def laws_szPageS.l0 : Nat → List (S35) → Int → Int → Option (Int)
 | 0, _, _, _ => none
 | k + 1, x0, x1, x5 => if x5 < (x0.length : Int) then (if 0 ≤ x5 then ((laws_szPage.f ((rd_T35 x0 x5).f0) ((rd_T35 x0 x5).f1) ((rd_T35 x0 x5).f2) ((rd_T35 x0 x5).f3) x1).bind fun t103 => (if t103 < 0 then (some (-1)) else (laws_szPageS.l0 k x0 t103 (wrap64 (x5 + 1))))) else (none)) else (some x1)
def laws_szPageS.f (k : Nat) (l0 : List (S35)) (a1 : Int) : Option (Int) := if (wrap64 (a1 - (l0.length : Int))) < 0 then (some (-1)) else (laws_szPageS.l0 k l0 (wrap64 (a1 - (l0.length : Int))) 0)
set_option maxHeartbeats 8000000 in
set_option maxRecDepth 100000 in
theorem laws_szPageS.calls (k : Nat) (A0 : Option Addr) (c0 : Nat) (l0 : List (S35)) (a1 : Int) (r : Int) (w : World) (hr0 : Kd.C k35 w A0 l0.length l0) (hc0 : l0.length ≤ c0) (h : laws_szPageS.f k l0 a1 = some r) :
  Calls Tryz.prog 4 #[.slice A0 l0.length c0, .int .i64 a1] w fun e w' => e = .returned (.int .i64 r) ∧ Below w.heap.size w w' := by
 have hu35 := Tryz.underlying35;have HR0 := Aside0.mk hr0;have HC0 := Aside0.mk hc0;clear hr0 hc0;have HB := Aside0.mk (Below.refl w.heap.size w);have H : (if (wrap64 (a1 - (l0.length : Int))) < 0 then (some (-1)) else (laws_szPageS.l0 k l0 (wrap64 (a1 - (l0.length : Int))) 0)) = some r := h;clear h;by_cases c3 : (wrap64 (a1 - (l0.length : Int))) < 0
 ·rw [if_pos c3] at H
  have c3b0 : decide ((wrap64 (a1 - (l0.length : Int))) < 0) = true := decide_eq_true c3;clear c3;obtain rfl := Option.some.inj H;go_enter Tryz.func4, Tryz.ntmps4;go_wp2
  go_ret
  exact ⟨zz1, (zz0 HB)⟩
 ·rw [if_neg c3] at H
  have c3b0 : decide ((wrap64 (a1 - (l0.length : Int))) < 0) = false := decide_eq_false c3;clear c3;have H' := Aside0.mk H;clear H;go_enter Tryz.func4, Tryz.ntmps4;go_wp2
  go_loopg [1, 5] k (fun kq v1 v5 w' => ∃ (x1_1 : Int) (x5_1 : Int), v1 = .int .i64 x1_1 ∧ v5 = .int .i64 x5_1 ∧ Aside0 (laws_szPageS.l0 kq l0 x1_1 x5_1 = some r) ∧ Aside0 (kq ≤ k) ∧ Aside0 (Below w.heap.size w w'))
  case atStart => exact ⟨(wrap64 (a1 - (l0.length : Int))), (0), zz3, zz3, H', ⟨Nat.le_refl _⟩, ⟨(zz0 HB)⟩⟩
  case round =>
   clear H';obtain ⟨x1_1, x5_1, rfl, rfl, HA, HK1, HB⟩ := hrel;cases gk with
   | zero => exact absurd HA.out (by simp [laws_szPageS.l0])
   | succ k1 =>
    have H := HA.out;clear HA;simp only [laws_szPageS.l0] at H
    by_cases c4 : x5_1 < (l0.length : Int)
    ·rw [if_pos c4] at H
     have c4b0 : decide (x5_1 < (l0.length : Int)) = true := decide_eq_true c4;clear c4;by_cases c5 : 0 ≤ x5_1
     ·rw [if_pos c5] at H
      have c5b0 : decide (0 ≤ x5_1) = true := decide_eq_true c5;clear c5;replace H := bindA H;obtain ⟨t103, A6, H⟩ := H;by_cases c7 : t103 < 0
      ·rw [if_pos c7] at H
       have c7b0 : decide (t103 < 0) = true := decide_eq_true c7;clear c7;obtain rfl := Option.some.inj H;have p102 : 0 ≤ (x5_1 : Int) := ofD;have q102 : x5_1 < (l0.length : Int) := ofD;obtain ⟨ad102, e102, hx102_0, hx102_1, hx102_2, hx102_3⟩ := at_T35 HR0.out x5_1 p102 q102;cases e102
       replace hx102_0 := cbl HB hx102_0;replace hx102_1 := cbl HB hx102_1;replace hx102_2 := cbl HB hx102_2;replace hx102_3 := cbl HB hx102_3;replace p102 := eq_true p102;replace q102 := eq_true q102;go_wp2_with (first | ((with_reducible refine gate_callee (f := 13) rfl ?_); refine gsL (some 23) Tryz.func13 #[.agg #[.string ((rd_T35 l0 x5_1).f0), .string ((rd_T35 l0 x5_1).f1), .string ((rd_T35 l0 x5_1).f2), .int .i64 ((rd_T35 l0 x5_1).f3)], .int .i64 x1_1] ?_; (with_reducible refine (laws_szPage.calls ((rd_T35 l0 x5_1).f0) ((rd_T35 l0 x5_1).f1) ((rd_T35 l0 x5_1).f2) ((rd_T35 l0 x5_1).f3) x1_1 t103 _ A6.out).mono ?_); rintro e w8 ⟨rfl, hb⟩; refine ⟨_, rfl, ?_⟩; replace HB := Aside0.mk (below_step (zz0 HB) hb); (try clear hb)))
       go_ret
       exact ⟨zz1, (zz0 HB)⟩
      ·rw [if_neg c7] at H
       have c7b0 : decide (t103 < 0) = false := decide_eq_false c7;clear c7;have H' := Aside0.mk H;clear H;have p102 : 0 ≤ (x5_1 : Int) := ofD;have q102 : x5_1 < (l0.length : Int) := ofD;obtain ⟨ad102, e102, hx102_0, hx102_1, hx102_2, hx102_3⟩ := at_T35 HR0.out x5_1 p102 q102;cases e102
       replace hx102_0 := cbl HB hx102_0;replace hx102_1 := cbl HB hx102_1;replace hx102_2 := cbl HB hx102_2;replace hx102_3 := cbl HB hx102_3;replace p102 := eq_true p102;replace q102 := eq_true q102;go_wp2_with (first | ((with_reducible refine gate_callee (f := 13) rfl ?_); refine gsL (some 23) Tryz.func13 #[.agg #[.string ((rd_T35 l0 x5_1).f0), .string ((rd_T35 l0 x5_1).f1), .string ((rd_T35 l0 x5_1).f2), .int .i64 ((rd_T35 l0 x5_1).f3)], .int .i64 x1_1] ?_; (with_reducible refine (laws_szPage.calls ((rd_T35 l0 x5_1).f0) ((rd_T35 l0 x5_1).f1) ((rd_T35 l0 x5_1).f2) ((rd_T35 l0 x5_1).f3) x1_1 t103 _ A6.out).mono ?_); rintro e w9 ⟨rfl, hb⟩; refine ⟨_, rfl, ?_⟩; replace HB := Aside0.mk (below_step (zz0 HB) hb); (try clear hb)))
       go_roundg k1
       case measure => have := HK1.out; omega
       case rel => exact ⟨(t103), (wrap64 (x5_1 + 1)), zz3, zz3, H', ⟨(zz5 HK1)⟩, ⟨(zz0 HB)⟩⟩
     ·rw [if_neg c5] at H
      exact absurd H (by simp)
    ·rw [if_neg c4] at H
     have c4b0 : decide (x5_1 < (l0.length : Int)) = false := decide_eq_false c4;clear c4;obtain rfl := Option.some.inj H;go_wp2
     go_ret
     exact ⟨zz1, (zz0 HB)⟩
def spec_l1Cut.l0 : Nat → ByteArray → Int → Int → Option (ByteArray × ByteArray × Bool)
 | 0, _, _, _ => none
 | k + 1, x0, x1, x7 => if x7 < (x0.size : Int) then (if 0 ≤ x7 then (if (bt x0 x7) = x1 then (if x7 ≤ (x0.size : Int) then (if 0 ≤ (wrap64 (x7 + 1)) then (if (wrap64 (x7 + 1)) ≤ (x0.size : Int) then (some (x0.extract 0 (x7 : Int).toNat, x0.extract ((wrap64 (x7 + 1)) : Int).toNat x0.size, true)) else (none)) else (none)) else (none)) else (spec_l1Cut.l0 k x0 x1 (wrap64 (x7 + 1)))) else (none)) else (some (x0, (⟨#[]⟩ : ByteArray), false))
def spec_l1Cut.f (k : Nat) (a0 : ByteArray) (a1 : Int) : Option (ByteArray × ByteArray × Bool) := spec_l1Cut.l0 k a0 a1 0
set_option maxHeartbeats 8000000 in
set_option maxRecDepth 100000 in
theorem spec_l1Cut.calls (k : Nat) (a0 : ByteArray) (a1 : Int) (r1 : ByteArray) (r2 : ByteArray) (r3 : Bool) (w : World) (h : spec_l1Cut.f k a0 a1 = some (r1, r2, r3)) :
  Calls Tryz.prog 32 #[.string a0, .int .u8 a1] w fun e w' => e = .returned (.tuple #[.string r1, .string r2, .bool r3]) ∧ Drawn0 w w' := by
 have H : (spec_l1Cut.l0 k a0 a1 0) = some (r1, r2, r3) := h;clear h;have H' := Aside0.mk H;clear H;go_enter Tryz.func32, Tryz.ntmps32;go_wp2
 repeat (go_quiet (fail); try go_wp2)
 go_loopg [7] k (fun kq v7 w' => ∃ (x7_1 : Int), v7 = .int .i64 x7_1 ∧ Aside0 (spec_l1Cut.l0 kq a0 a1 x7_1 = some (r1, r2, r3)) ∧ Aside0 (kq ≤ k) ∧ Drawn0 w w')
 case atStart => exact ⟨(0), zz3, H', ⟨Nat.le_refl _⟩, zz6⟩
 case round =>
  clear H';obtain ⟨x7_1, rfl, HA, HK1, ⟨m1, rfl⟩⟩ := hrel;cases gk with
  | zero => exact absurd HA.out (by simp [spec_l1Cut.l0])
  | succ k1 =>
   have H := HA.out;clear HA;simp only [spec_l1Cut.l0] at H
   by_cases c3 : x7_1 < (a0.size : Int)
   ·rw [if_pos c3] at H
    have c3b0 : decide (x7_1 < (a0.size : Int)) = true := decide_eq_true c3;clear c3;by_cases c4 : 0 ≤ x7_1
    ·rw [if_pos c4] at H
     have c4b0 : decide (0 ≤ x7_1) = true := decide_eq_true c4;clear c4;by_cases c6 : (bt a0 x7_1) = a1
     ·rw [if_pos c6] at H
      have c6b0 : ((bt a0 x7_1) == a1) = true := beq_iff_eq.mpr c6;have c6b1 : ((bt a0 x7_1) != a1) = false := bne_eq_false_iff_eq.mpr c6;clear c6;have c7b0 := eq_true (ofD : 0 ≤ x7_1);by_cases c8 : x7_1 ≤ (a0.size : Int)
      ·rw [if_pos c8] at H
       have c8b0 := eq_true c8;have c8b1 : decide (x7_1 ≤ (a0.size : Int)) = true := decide_eq_true c8;clear c8;obtain ⟨ji9, hji9⟩ : ∃ j_ : Int, (wrap64 (x7_1 + 1)) = j_ := ⟨_, rfl⟩;replace H : (if 0 ≤ (ji9) then (if (ji9) ≤ (a0.size : Int) then (some (a0.extract 0 (x7_1 : Int).toNat, a0.extract ((ji9) : Int).toNat a0.size, true)) else (none)) else (none)) = some (r1, r2, r3) := by first | (rw [hji9] at H; exact H) | (simp only [hji9] at H ⊢; exact H)
       have hji9w : (IntKind.i64.wrap (x7_1 + 1)) = ji9 := (i64_w _).trans hji9;by_cases c10 : 0 ≤ (ji9)
       ·rw [if_pos c10] at H
        have c10b0 := eq_true c10;have c10b1 : decide (0 ≤ (ji9)) = true := decide_eq_true c10;clear c10;by_cases c11 : (ji9) ≤ (a0.size : Int)
        ·rw [if_pos c11] at H
         have c11b0 := eq_true c11;have c11b1 : decide ((ji9) ≤ (a0.size : Int)) = true := decide_eq_true c11;clear c11;simp only [Option.some.injEq, Prod.mk.injEq] at H
         obtain ⟨rfl, rfl, rfl⟩ := H;have p5 : 0 ≤ (x7_1 : Int) := ofD;have q5 : x7_1 < (a0.size : Int) := ofD;have hx5 := bt_at a0 x7_1;replace p5 := eq_true p5;replace q5 := eq_true q5;go_wp2
         repeat (go_quiet (fail); try go_wp2)
         go_ret3
         exact ⟨(by first | rfl | (simp only [i64_w, i32_w]; done) | (simp only [aid_isEmpty, aid_isEmpty2]; done) | (simp; done) | ((simp only [← hji9] <;> (first | rfl | simp)); done) | (simp [*]; done)), zz6⟩
        ·rw [if_neg c11] at H
         exact absurd H (by simp)
       ·rw [if_neg c10] at H
        exact absurd H (by simp)
      ·rw [if_neg c8] at H
       exact absurd H (by simp)
     ·rw [if_neg c6] at H
      have c6b0 : ((bt a0 x7_1) == a1) = false := beq_eq_false_iff_ne.mpr c6;have c6b1 : ((bt a0 x7_1) != a1) = true := bne_iff_ne.mpr c6;have H' := Aside0.mk H;clear H;have p5 : 0 ≤ (x7_1 : Int) := ofD;have q5 : x7_1 < (a0.size : Int) := ofD;have hx5 := bt_at a0 x7_1;replace p5 := eq_true p5;replace q5 := eq_true q5;go_wp2
      repeat (go_quiet (fail); try go_wp2)
      go_roundg k1
      case measure => have := HK1.out; omega
      case rel => exact ⟨(wrap64 (x7_1 + 1)), zz3, H', ⟨(zz5 HK1)⟩, zz6⟩
    ·rw [if_neg c4] at H
     exact absurd H (by simp)
   ·rw [if_neg c3] at H
    have c3b0 : decide (x7_1 < (a0.size : Int)) = false := decide_eq_false c3;clear c3;simp only [Option.some.injEq, Prod.mk.injEq] at H
    obtain ⟨rfl, rfl, rfl⟩ := H;go_wp2
    repeat (go_quiet (fail); try go_wp2)
    go_ret3
    exact ⟨zz3, zz6⟩
mutual
def spec_l1Hex.j0 : Nat → Int → Bool → Option (Int)
 | 0, _, _ => none
 | k + 1, x0, x3 => if x3 = true then (some ((x0 - 48) % 256)) else (if x0 ≥ 97 then (spec_l1Hex.j1 k x0 (decide (x0 ≤ 102))) else (spec_l1Hex.j1 k x0 false))
def spec_l1Hex.j1 : Nat → Int → Bool → Option (Int)
 | 0, _, _ => none
 | k + 1, x0, x13 => if x13 = true then (some (((x0 - 97) % 256) + 10)) else (if x0 ≥ 65 then (if x0 ≤ 70 then (some (((x0 - 65) % 256) + 10)) else (some (-1))) else (some (-1)))
end
def spec_l1Hex.f (k : Nat) (a0 : Int) : Option (Int) := if a0 ≥ 48 then (spec_l1Hex.j0 k a0 (decide (a0 ≤ 57))) else (spec_l1Hex.j0 k a0 false)
theorem spec_l1Hex.mono_l : ∀ k, (∀ y0 y1, LeO (spec_l1Hex.j0 k y0 y1) (spec_l1Hex.j0 (k + 1) y0 y1)) ∧ (∀ y0 y1, LeO (spec_l1Hex.j1 k y0 y1) (spec_l1Hex.j1 (k + 1) y0 y1))
 | 0 => ⟨fun _ _ r h => by simp [spec_l1Hex.j0] at h, fun _ _ r h => by simp [spec_l1Hex.j1] at h⟩
 | k + 1 => by
  obtain ⟨ih0, ih1⟩ := spec_l1Hex.mono_l k;refine ⟨?_, ?_⟩
  ·intro y0 y1
   unfold spec_l1Hex.j0
   repeat' first | (with_reducible first | exact ih0 _ _ | exact ih1 _ _ | exact LeO.refl _ | exact LeO.none _ | refine LeO.ite ?_ ?_ | refine LeO.bind ?_ (fun _ => ?_)) | exact LeO.none _ | refine LeO.ite ?_ ?_ | refine LeO.bind ?_ (fun _ => ?_)
  ·intro y0 y1
   unfold spec_l1Hex.j1
   repeat' first | (with_reducible first | exact ih0 _ _ | exact ih1 _ _ | exact LeO.refl _ | exact LeO.none _ | refine LeO.ite ?_ ?_ | refine LeO.bind ?_ (fun _ => ?_)) | exact LeO.none _ | refine LeO.ite ?_ ?_ | refine LeO.bind ?_ (fun _ => ?_)
theorem spec_l1Hex.mono : ∀ a0 k, LeO (spec_l1Hex.f k a0) (spec_l1Hex.f (k + 1) a0) := by
 intro a0 k;obtain ⟨ih0, ih1⟩ := spec_l1Hex.mono_l k;unfold spec_l1Hex.f
 repeat' first | (with_reducible first | exact ih0 _ _ | exact ih1 _ _ | exact LeO.refl _ | exact LeO.none _ | refine LeO.ite ?_ ?_ | refine LeO.bind ?_ (fun _ => ?_)) | exact LeO.none _ | refine LeO.ite ?_ ?_ | refine LeO.bind ?_ (fun _ => ?_)
set_option maxHeartbeats 8000000 in
set_option maxRecDepth 100000 in
theorem spec_l1Hex.calls (k : Nat) (a0 : Int) (r : Int) (w : World) (h : spec_l1Hex.f k a0 = some r) :
  Calls Tryz.prog 79 #[.int .u8 a0] w fun e w' => e = .returned (.int .i64 r) ∧ Drawn0 w w' := by
 have H : (if a0 ≥ 48 then (spec_l1Hex.j0 k a0 (decide (a0 ≤ 57))) else (spec_l1Hex.j0 k a0 false)) = some r := h;clear h;have HC2 := Aside0.mk H;clear H;go_enter Tryz.func79, Tryz.ntmps79;go_upto_region 1 with (fail)
 go_cut [3] (fun v3 wc => ∃ (kq : Nat) (x3_1 : Bool), v3 = .bool x3_1 ∧ Aside0 (spec_l1Hex.j0 kq a0 x3_1 = some r) ∧ Aside0 (kq ≤ k) ∧ Drawn0 w wc)
 case first =>
  have H := HC2.out;clear HC2;by_cases c3 : a0 ≥ 48
  ·rw [if_pos c3] at H
   have c3b0 : decide (48 ≤ a0) = true := decide_eq_true c3;clear c3;(first | rw [c3b0] | (simp only [i64_w, i32_w]; rw [c3b0]) | skip)
   have H' := Aside0.mk H;clear H;go_wp2
   go_meet
   case rel => exact ⟨_, (decide (a0 ≤ 57)), zz3, H', ⟨zz9⟩, zz6⟩
  ·rw [if_neg c3] at H
   have c3b0 : decide (48 ≤ a0) = false := decide_eq_false c3;clear c3;(first | rw [c3b0] | (simp only [i64_w, i32_w]; rw [c3b0]) | skip)
   have H' := Aside0.mk H;clear H;go_wp2
   go_meet
   case rel => exact ⟨_, (false), zz3, H', ⟨zz9⟩, zz6⟩
 case rest =>
  clear HC2;obtain ⟨kq, x3_1, rfl, HA, HJ1, ⟨mc1, rfl⟩⟩ := hcut;cases kq with
  | zero => exact absurd HA.out (by simp [spec_l1Hex.j0])
  | succ kj1 =>
   have H := HA.out;clear HA;simp only [spec_l1Hex.j0] at H
   by_cases c4 : x3_1 = true
   ·subst c4
    rw [if_pos rfl] at H;obtain rfl := Option.some.inj H;go_wp2
    go_ret
    exact ⟨zz3, zz6⟩
   ·replace c4 := Bool.eq_false_iff.mpr c4
    subst c4;rw [if_neg (show ¬ (false = true) by decide)] at H;have HC5 := Aside0.mk H;clear H;go_upto_region 3 with (fail)
    go_cut [13] (fun v13 wc => ∃ (kq : Nat) (x13_4 : Bool), v13 = .bool x13_4 ∧ Aside0 (spec_l1Hex.j1 kq a0 x13_4 = some r) ∧ Aside0 (kq ≤ kj1) ∧ Drawn0 w wc)
    case first =>
     have H := HC5.out;clear HC5;by_cases c6 : a0 ≥ 97
     ·rw [if_pos c6] at H
      have c6b0 : decide (97 ≤ a0) = true := decide_eq_true c6;clear c6;(first | rw [c6b0] | (simp only [i64_w, i32_w]; rw [c6b0]) | skip)
      have H' := Aside0.mk H;clear H;go_wp2
      go_meet
      case rel => exact ⟨_, (decide (a0 ≤ 102)), zz3, H', ⟨(zz11 HJ1)⟩, zz6⟩
     ·rw [if_neg c6] at H
      have c6b0 : decide (97 ≤ a0) = false := decide_eq_false c6;clear c6;(first | rw [c6b0] | (simp only [i64_w, i32_w]; rw [c6b0]) | skip)
      have H' := Aside0.mk H;clear H;go_wp2
      go_meet
      case rel => exact ⟨_, (false), zz3, H', ⟨(zz11 HJ1)⟩, zz6⟩
    case rest =>
     clear HC5;obtain ⟨kq, x13_4, rfl, HA, HJ4, ⟨mc4, rfl⟩⟩ := hcut;cases kq with
     | zero => exact absurd HA.out (by simp [spec_l1Hex.j1])
     | succ kj4 =>
      have H := HA.out;clear HA;simp only [spec_l1Hex.j1] at H
      by_cases c7 : x13_4 = true
      ·subst c7
       rw [if_pos rfl] at H;obtain rfl := Option.some.inj H;go_wp2
       go_ret
       exact ⟨zz3, zz6⟩
      ·replace c7 := Bool.eq_false_iff.mpr c7
       subst c7;rw [if_neg (show ¬ (false = true) by decide)] at H;by_cases c8 : a0 ≥ 65
       ·rw [if_pos c8] at H
        have c8b0 : decide (65 ≤ a0) = true := decide_eq_true c8;clear c8;by_cases c9 : a0 ≤ 70
        ·rw [if_pos c9] at H
         have c9b0 : decide (a0 ≤ 70) = true := decide_eq_true c9;clear c9;obtain rfl := Option.some.inj H;go_wp2
         go_ret
         exact ⟨zz3, zz6⟩
        ·rw [if_neg c9] at H
         have c9b0 : decide (a0 ≤ 70) = false := decide_eq_false c9;clear c9;obtain rfl := Option.some.inj H;go_wp2
         go_ret
         exact ⟨zz3, zz6⟩
       ·rw [if_neg c8] at H
        have c8b0 : decide (65 ≤ a0) = false := decide_eq_false c8;clear c8;obtain rfl := Option.some.inj H;go_wp2
        go_ret
        exact ⟨zz3, zz6⟩
def spec_l1Plain.f (a0 : Int) : Option (Bool) := if a0 ≥ 97 then (if a0 ≤ 122 then (some true) else (if a0 ≥ 48 then (if a0 ≤ 57 then (some true) else (if a0 = 46 then (some true) else (some (a0 == 45)))) else (if a0 = 46 then (some true) else (some (a0 == 45))))) else (if a0 ≥ 48 then (if a0 ≤ 57 then (some true) else (if a0 = 46 then (some true) else (some (a0 == 45)))) else (if a0 = 46 then (some true) else (some (a0 == 45))))
set_option maxHeartbeats 8000000 in
set_option maxRecDepth 100000 in
theorem spec_l1Plain.calls (a0 : Int) (r : Bool) (w : World) (h : spec_l1Plain.f a0 = some r) :
  Calls Tryz.prog 80 #[.int .u8 a0] w fun e w' => e = .returned (.bool r) ∧ Drawn0 w w' := by
 have H : (if a0 ≥ 97 then (if a0 ≤ 122 then (some true) else (if a0 ≥ 48 then (if a0 ≤ 57 then (some true) else (if a0 = 46 then (some true) else (some (a0 == 45)))) else (if a0 = 46 then (some true) else (some (a0 == 45))))) else (if a0 ≥ 48 then (if a0 ≤ 57 then (some true) else (if a0 = 46 then (some true) else (some (a0 == 45)))) else (if a0 = 46 then (some true) else (some (a0 == 45))))) = some r := h;clear h;by_cases c2 : a0 ≥ 97
 ·rw [if_pos c2] at H
  have c2b0 : decide (97 ≤ a0) = true := decide_eq_true c2;clear c2;by_cases c3 : a0 ≤ 122
  ·rw [if_pos c3] at H
   have c3b0 : decide (a0 ≤ 122) = true := decide_eq_true c3;clear c3;obtain rfl := Option.some.inj H;go_enter Tryz.func80, Tryz.ntmps80;go_wp2
   go_ret
   exact ⟨zz3, zz6⟩
  ·rw [if_neg c3] at H
   have c3b0 : decide (a0 ≤ 122) = false := decide_eq_false c3;clear c3;by_cases c4 : a0 ≥ 48
   ·rw [if_pos c4] at H
    have c4b0 : decide (48 ≤ a0) = true := decide_eq_true c4;clear c4;by_cases c5 : a0 ≤ 57
    ·rw [if_pos c5] at H
     have c5b0 : decide (a0 ≤ 57) = true := decide_eq_true c5;clear c5;obtain rfl := Option.some.inj H;go_enter Tryz.func80, Tryz.ntmps80;go_wp2
     go_ret
     exact ⟨zz3, zz6⟩
    ·rw [if_neg c5] at H
     have c5b0 : decide (a0 ≤ 57) = false := decide_eq_false c5;clear c5;by_cases c6 : a0 = 46
     ·rw [if_pos c6] at H
      have c6b0 : (a0 == 46) = true := beq_iff_eq.mpr c6;have c6b1 : (a0 != 46) = false := bne_eq_false_iff_eq.mpr c6;clear c6;obtain rfl := Option.some.inj H;go_enter Tryz.func80, Tryz.ntmps80;go_wp2
      go_ret
      exact ⟨zz3, zz6⟩
     ·rw [if_neg c6] at H
      have c6b0 : (a0 == 46) = false := beq_eq_false_iff_ne.mpr c6;have c6b1 : (a0 != 46) = true := bne_iff_ne.mpr c6;obtain rfl := Option.some.inj H;go_enter Tryz.func80, Tryz.ntmps80;go_wp2
      go_ret
      exact ⟨zz3, zz6⟩
   ·rw [if_neg c4] at H
    have c4b0 : decide (48 ≤ a0) = false := decide_eq_false c4;clear c4;by_cases c7 : a0 = 46
    ·rw [if_pos c7] at H
     have c7b0 : (a0 == 46) = true := beq_iff_eq.mpr c7;have c7b1 : (a0 != 46) = false := bne_eq_false_iff_eq.mpr c7;clear c7;obtain rfl := Option.some.inj H;go_enter Tryz.func80, Tryz.ntmps80;go_wp2
     go_ret
     exact ⟨zz3, zz6⟩
    ·rw [if_neg c7] at H
     have c7b0 : (a0 == 46) = false := beq_eq_false_iff_ne.mpr c7;have c7b1 : (a0 != 46) = true := bne_iff_ne.mpr c7;obtain rfl := Option.some.inj H;go_enter Tryz.func80, Tryz.ntmps80;go_wp2
     go_ret
     exact ⟨zz3, zz6⟩
 ·rw [if_neg c2] at H
  have c2b0 : decide (97 ≤ a0) = false := decide_eq_false c2;clear c2;by_cases c8 : a0 ≥ 48
  ·rw [if_pos c8] at H
   have c8b0 : decide (48 ≤ a0) = true := decide_eq_true c8;clear c8;by_cases c9 : a0 ≤ 57
   ·rw [if_pos c9] at H
    have c9b0 : decide (a0 ≤ 57) = true := decide_eq_true c9;clear c9;obtain rfl := Option.some.inj H;go_enter Tryz.func80, Tryz.ntmps80;go_wp2
    go_ret
    exact ⟨zz3, zz6⟩
   ·rw [if_neg c9] at H
    have c9b0 : decide (a0 ≤ 57) = false := decide_eq_false c9;clear c9;by_cases c10 : a0 = 46
    ·rw [if_pos c10] at H
     have c10b0 : (a0 == 46) = true := beq_iff_eq.mpr c10;have c10b1 : (a0 != 46) = false := bne_eq_false_iff_eq.mpr c10;clear c10;obtain rfl := Option.some.inj H;go_enter Tryz.func80, Tryz.ntmps80;go_wp2
     go_ret
     exact ⟨zz3, zz6⟩
    ·rw [if_neg c10] at H
     have c10b0 : (a0 == 46) = false := beq_eq_false_iff_ne.mpr c10;have c10b1 : (a0 != 46) = true := bne_iff_ne.mpr c10;obtain rfl := Option.some.inj H;go_enter Tryz.func80, Tryz.ntmps80;go_wp2
     go_ret
     exact ⟨zz3, zz6⟩
  ·rw [if_neg c8] at H
   have c8b0 : decide (48 ≤ a0) = false := decide_eq_false c8;clear c8;by_cases c11 : a0 = 46
   ·rw [if_pos c11] at H
    have c11b0 : (a0 == 46) = true := beq_iff_eq.mpr c11;have c11b1 : (a0 != 46) = false := bne_eq_false_iff_eq.mpr c11;clear c11;obtain rfl := Option.some.inj H;go_enter Tryz.func80, Tryz.ntmps80;go_wp2
    go_ret
    exact ⟨zz3, zz6⟩
   ·rw [if_neg c11] at H
    have c11b0 : (a0 == 46) = false := beq_eq_false_iff_ne.mpr c11;have c11b1 : (a0 != 46) = true := bne_iff_ne.mpr c11;obtain rfl := Option.some.inj H;go_enter Tryz.func80, Tryz.ntmps80;go_wp2
    go_ret
    exact ⟨zz3, zz6⟩
def spec_l1Sign.f (a0 : Int) : Option (ByteArray) := if 0 ≤ (wrap64 (Int.tdiv a0 16)) then (if (wrap64 (Int.tdiv a0 16)) ≤ (wrap64 ((wrap64 (Int.tdiv a0 16)) + 1)) then (if (wrap64 ((wrap64 (Int.tdiv a0 16)) + 1)) ≤ 16 then (if 1 + ((⟨#[48, 49, 50, 51, 52, 53, 54, 55, 56, 57, 65, 66, 67, 68, 69, 70]⟩ : ByteArray).extract ((wrap64 (Int.tdiv a0 16)) : Int).toNat ((wrap64 ((wrap64 (Int.tdiv a0 16)) + 1)) : Int).toNat).size ≤ 9223372036854775807 then (if 0 ≤ (Int.tmod a0 16) then (if (Int.tmod a0 16) ≤ (wrap64 ((Int.tmod a0 16) + 1)) then (if (wrap64 ((Int.tmod a0 16) + 1)) ≤ 16 then (if 1 + (((⟨#[48, 49, 50, 51, 52, 53, 54, 55, 56, 57, 65, 66, 67, 68, 69, 70]⟩ : ByteArray).extract ((wrap64 (Int.tdiv a0 16)) : Int).toNat ((wrap64 ((wrap64 (Int.tdiv a0 16)) + 1)) : Int).toNat).size) + ((⟨#[48, 49, 50, 51, 52, 53, 54, 55, 56, 57, 65, 66, 67, 68, 69, 70]⟩ : ByteArray).extract ((Int.tmod a0 16) : Int).toNat ((wrap64 ((Int.tmod a0 16) + 1)) : Int).toNat).size ≤ 9223372036854775807 then (some (((⟨#[37]⟩ : ByteArray) ++ ((⟨#[48, 49, 50, 51, 52, 53, 54, 55, 56, 57, 65, 66, 67, 68, 69, 70]⟩ : ByteArray).extract ((wrap64 (Int.tdiv a0 16)) : Int).toNat ((wrap64 ((wrap64 (Int.tdiv a0 16)) + 1)) : Int).toNat)) ++ ((⟨#[48, 49, 50, 51, 52, 53, 54, 55, 56, 57, 65, 66, 67, 68, 69, 70]⟩ : ByteArray).extract ((Int.tmod a0 16) : Int).toNat ((wrap64 ((Int.tmod a0 16) + 1)) : Int).toNat))) else (none)) else (none)) else (none)) else (none)) else (none)) else (none)) else (none)) else (none)
set_option maxHeartbeats 8000000 in
set_option maxRecDepth 100000 in
theorem spec_l1Sign.calls (a0 : Int) (r : ByteArray) (w : World) (h : spec_l1Sign.f a0 = some r) :
  Calls Tryz.prog 81 #[.int .i64 a0] w fun e w' => e = .returned (.string r) ∧ Drawn0 w w' := by
 have H : (if 0 ≤ (wrap64 (Int.tdiv a0 16)) then (if (wrap64 (Int.tdiv a0 16)) ≤ (wrap64 ((wrap64 (Int.tdiv a0 16)) + 1)) then (if (wrap64 ((wrap64 (Int.tdiv a0 16)) + 1)) ≤ 16 then (if 1 + ((⟨#[48, 49, 50, 51, 52, 53, 54, 55, 56, 57, 65, 66, 67, 68, 69, 70]⟩ : ByteArray).extract ((wrap64 (Int.tdiv a0 16)) : Int).toNat ((wrap64 ((wrap64 (Int.tdiv a0 16)) + 1)) : Int).toNat).size ≤ 9223372036854775807 then (if 0 ≤ (Int.tmod a0 16) then (if (Int.tmod a0 16) ≤ (wrap64 ((Int.tmod a0 16) + 1)) then (if (wrap64 ((Int.tmod a0 16) + 1)) ≤ 16 then (if 1 + (((⟨#[48, 49, 50, 51, 52, 53, 54, 55, 56, 57, 65, 66, 67, 68, 69, 70]⟩ : ByteArray).extract ((wrap64 (Int.tdiv a0 16)) : Int).toNat ((wrap64 ((wrap64 (Int.tdiv a0 16)) + 1)) : Int).toNat).size) + ((⟨#[48, 49, 50, 51, 52, 53, 54, 55, 56, 57, 65, 66, 67, 68, 69, 70]⟩ : ByteArray).extract ((Int.tmod a0 16) : Int).toNat ((wrap64 ((Int.tmod a0 16) + 1)) : Int).toNat).size ≤ 9223372036854775807 then (some (((⟨#[37]⟩ : ByteArray) ++ ((⟨#[48, 49, 50, 51, 52, 53, 54, 55, 56, 57, 65, 66, 67, 68, 69, 70]⟩ : ByteArray).extract ((wrap64 (Int.tdiv a0 16)) : Int).toNat ((wrap64 ((wrap64 (Int.tdiv a0 16)) + 1)) : Int).toNat)) ++ ((⟨#[48, 49, 50, 51, 52, 53, 54, 55, 56, 57, 65, 66, 67, 68, 69, 70]⟩ : ByteArray).extract ((Int.tmod a0 16) : Int).toNat ((wrap64 ((Int.tmod a0 16) + 1)) : Int).toNat))) else (none)) else (none)) else (none)) else (none)) else (none)) else (none)) else (none)) else (none)) = some r := h;clear h;obtain ⟨ji2, hji2⟩ : ∃ j_ : Int, (wrap64 (Int.tdiv a0 16)) = j_ := ⟨_, rfl⟩;replace H : (if 0 ≤ (ji2) then (if (ji2) ≤ (wrap64 ((ji2) + 1)) then (if (wrap64 ((ji2) + 1)) ≤ 16 then (if 1 + ((⟨#[48, 49, 50, 51, 52, 53, 54, 55, 56, 57, 65, 66, 67, 68, 69, 70]⟩ : ByteArray).extract ((ji2) : Int).toNat ((wrap64 ((ji2) + 1)) : Int).toNat).size ≤ 9223372036854775807 then (if 0 ≤ (Int.tmod a0 16) then (if (Int.tmod a0 16) ≤ (wrap64 ((Int.tmod a0 16) + 1)) then (if (wrap64 ((Int.tmod a0 16) + 1)) ≤ 16 then (if 1 + (((⟨#[48, 49, 50, 51, 52, 53, 54, 55, 56, 57, 65, 66, 67, 68, 69, 70]⟩ : ByteArray).extract ((ji2) : Int).toNat ((wrap64 ((ji2) + 1)) : Int).toNat).size) + ((⟨#[48, 49, 50, 51, 52, 53, 54, 55, 56, 57, 65, 66, 67, 68, 69, 70]⟩ : ByteArray).extract ((Int.tmod a0 16) : Int).toNat ((wrap64 ((Int.tmod a0 16) + 1)) : Int).toNat).size ≤ 9223372036854775807 then (some (((⟨#[37]⟩ : ByteArray) ++ ((⟨#[48, 49, 50, 51, 52, 53, 54, 55, 56, 57, 65, 66, 67, 68, 69, 70]⟩ : ByteArray).extract ((ji2) : Int).toNat ((wrap64 ((ji2) + 1)) : Int).toNat)) ++ ((⟨#[48, 49, 50, 51, 52, 53, 54, 55, 56, 57, 65, 66, 67, 68, 69, 70]⟩ : ByteArray).extract ((Int.tmod a0 16) : Int).toNat ((wrap64 ((Int.tmod a0 16) + 1)) : Int).toNat))) else (none)) else (none)) else (none)) else (none)) else (none)) else (none)) else (none)) else (none)) = some r := by first | (rw [hji2] at H; exact H) | (simp only [hji2] at H ⊢; exact H)
 have hji2w : (IntKind.i64.wrap (Int.tdiv a0 16)) = ji2 := (i64_w _).trans hji2;by_cases c3 : 0 ≤ (ji2)
 ·rw [if_pos c3] at H
  have c3b0 := eq_true c3;have c3b1 : decide (0 ≤ (ji2)) = true := decide_eq_true c3;clear c3;by_cases c4 : (ji2) ≤ (wrap64 ((ji2) + 1))
  ·rw [if_pos c4] at H
   have c4b0 := eq_true c4;have c4b1 : decide ((ji2) ≤ (wrap64 ((ji2) + 1))) = true := decide_eq_true c4;by_cases c5 : (wrap64 ((ji2) + 1)) ≤ 16
   ·rw [if_pos c5] at H
    have c5b0 := eq_true c5;have c5b1 : decide ((wrap64 ((ji2) + 1)) ≤ 16) = true := decide_eq_true c5;by_cases c6 : 1 + ((⟨#[48, 49, 50, 51, 52, 53, 54, 55, 56, 57, 65, 66, 67, 68, 69, 70]⟩ : ByteArray).extract ((ji2) : Int).toNat ((wrap64 ((ji2) + 1)) : Int).toNat).size ≤ 9223372036854775807
    ·rw [if_pos c6] at H
     have c6b0 := eq_true c6;have c6b1 : decide (1 + ((⟨#[48, 49, 50, 51, 52, 53, 54, 55, 56, 57, 65, 66, 67, 68, 69, 70]⟩ : ByteArray).extract ((ji2) : Int).toNat ((wrap64 ((ji2) + 1)) : Int).toNat).size ≤ 9223372036854775807) = true := decide_eq_true c6;try have c6b2 : (9223372036854775807 < 1 + ((⟨#[48, 49, 50, 51, 52, 53, 54, 55, 56, 57, 65, 66, 67, 68, 69, 70]⟩ : ByteArray).extract ((ji2) : Int).toNat ((wrap64 ((ji2) + 1)) : Int).toNat).size) = False := eq_false (Nat.not_lt.2 c6)
     obtain ⟨ji7, hji7⟩ : ∃ j_ : Int, (Int.tmod a0 16) = j_ := ⟨_, rfl⟩;replace H : (if 0 ≤ (ji7) then (if (ji7) ≤ (wrap64 ((ji7) + 1)) then (if (wrap64 ((ji7) + 1)) ≤ 16 then (if 1 + (((⟨#[48, 49, 50, 51, 52, 53, 54, 55, 56, 57, 65, 66, 67, 68, 69, 70]⟩ : ByteArray).extract ((ji2) : Int).toNat ((wrap64 ((ji2) + 1)) : Int).toNat).size) + ((⟨#[48, 49, 50, 51, 52, 53, 54, 55, 56, 57, 65, 66, 67, 68, 69, 70]⟩ : ByteArray).extract ((ji7) : Int).toNat ((wrap64 ((ji7) + 1)) : Int).toNat).size ≤ 9223372036854775807 then (some (((⟨#[37]⟩ : ByteArray) ++ ((⟨#[48, 49, 50, 51, 52, 53, 54, 55, 56, 57, 65, 66, 67, 68, 69, 70]⟩ : ByteArray).extract ((ji2) : Int).toNat ((wrap64 ((ji2) + 1)) : Int).toNat)) ++ ((⟨#[48, 49, 50, 51, 52, 53, 54, 55, 56, 57, 65, 66, 67, 68, 69, 70]⟩ : ByteArray).extract ((ji7) : Int).toNat ((wrap64 ((ji7) + 1)) : Int).toNat))) else (none)) else (none)) else (none)) else (none)) = some r := by first | (rw [hji7] at H; exact H) | (simp only [hji7] at H ⊢; exact H)
     by_cases c8 : 0 ≤ (ji7)
     ·rw [if_pos c8] at H
      have c8b0 := eq_true c8;have c8b1 : decide (0 ≤ (ji7)) = true := decide_eq_true c8;clear c8;by_cases c9 : (ji7) ≤ (wrap64 ((ji7) + 1))
      ·rw [if_pos c9] at H
       have c9b0 := eq_true c9;have c9b1 : decide ((ji7) ≤ (wrap64 ((ji7) + 1))) = true := decide_eq_true c9;by_cases c10 : (wrap64 ((ji7) + 1)) ≤ 16
       ·rw [if_pos c10] at H
        have c10b0 := eq_true c10;have c10b1 : decide ((wrap64 ((ji7) + 1)) ≤ 16) = true := decide_eq_true c10;by_cases c11 : 1 + (((⟨#[48, 49, 50, 51, 52, 53, 54, 55, 56, 57, 65, 66, 67, 68, 69, 70]⟩ : ByteArray).extract ((ji2) : Int).toNat ((wrap64 ((ji2) + 1)) : Int).toNat).size) + ((⟨#[48, 49, 50, 51, 52, 53, 54, 55, 56, 57, 65, 66, 67, 68, 69, 70]⟩ : ByteArray).extract ((ji7) : Int).toNat ((wrap64 ((ji7) + 1)) : Int).toNat).size ≤ 9223372036854775807
        ·rw [if_pos c11] at H
         have c11b0 := eq_true c11;have c11b1 : decide (1 + (((⟨#[48, 49, 50, 51, 52, 53, 54, 55, 56, 57, 65, 66, 67, 68, 69, 70]⟩ : ByteArray).extract ((ji2) : Int).toNat ((wrap64 ((ji2) + 1)) : Int).toNat).size) + ((⟨#[48, 49, 50, 51, 52, 53, 54, 55, 56, 57, 65, 66, 67, 68, 69, 70]⟩ : ByteArray).extract ((ji7) : Int).toNat ((wrap64 ((ji7) + 1)) : Int).toNat).size ≤ 9223372036854775807) = true := decide_eq_true c11;try have c11b2 : (9223372036854775807 < 1 + (((⟨#[48, 49, 50, 51, 52, 53, 54, 55, 56, 57, 65, 66, 67, 68, 69, 70]⟩ : ByteArray).extract ((ji2) : Int).toNat ((wrap64 ((ji2) + 1)) : Int).toNat).size) + ((⟨#[48, 49, 50, 51, 52, 53, 54, 55, 56, 57, 65, 66, 67, 68, 69, 70]⟩ : ByteArray).extract ((ji7) : Int).toNat ((wrap64 ((ji7) + 1)) : Int).toNat).size) = False := eq_false (Nat.not_lt.2 c11)
         obtain rfl := Option.some.inj H;go_enter Tryz.func81, Tryz.ntmps81;go_wp2
         repeat (go_quiet (fail); try go_wp2)
         go_ret
         exact ⟨(by first | rfl | (simp only [i64_w, i32_w]; done) | (simp only [aid_isEmpty, aid_isEmpty2]; done) | (simp; done) | (simp only [← hji2, ← hji7] <;> (first | rfl | simp)) | (simp [*]; done)), zz6⟩
        ·rw [if_neg c11] at H
         exact absurd H (by simp)
       ·rw [if_neg c10] at H
        exact absurd H (by simp)
      ·rw [if_neg c9] at H
       exact absurd H (by simp)
     ·rw [if_neg c8] at H
      exact absurd H (by simp)
    ·rw [if_neg c6] at H
     exact absurd H (by simp)
   ·rw [if_neg c5] at H
    exact absurd H (by simp)
  ·rw [if_neg c4] at H
   exact absurd H (by simp)
 ·rw [if_neg c3] at H
  exact absurd H (by simp)
mutual
def spec_EscNorm.l0 : Nat → ByteArray → ByteArray → Int → Option (ByteArray × Bool)
 | 0, _, _, _ => none
 | k + 1, x0, x4, x5 => if x5 < (x0.size : Int) then (if 0 ≤ x5 then (if (bt x0 x5) = 37 then (if (wrap64 (x5 + 2)) ≥ (x0.size : Int) then (spec_EscNorm.j1 k x0 x4 x5 true) else (if 0 ≤ (wrap64 (x5 + 1)) then (if (wrap64 (x5 + 1)) < (x0.size : Int) then ((spec_l1Hex.f k (bt x0 (wrap64 (x5 + 1)))).bind fun t110 => (if t110 < 0 then (spec_EscNorm.j1 k x0 x4 x5 true) else (if 0 ≤ (wrap64 (x5 + 2)) then (if (wrap64 (x5 + 2)) < (x0.size : Int) then ((spec_l1Hex.f k (bt x0 (wrap64 (x5 + 2)))).bind fun t111 => (spec_EscNorm.j1 k x0 x4 x5 (decide (t111 < 0)))) else (none)) else (none)))) else (none)) else (none))) else (spec_EscNorm.j2 k x0 x4 x5 (wrap64 (bt x0 x5)))) else (none)) else (some (x4, true))
def spec_EscNorm.j2 : Nat → ByteArray → ByteArray → Int → Int → Option (ByteArray × Bool)
 | 0, _, _, _, _ => none
 | k + 1, x0, x4, x5, x6 => (spec_l1Plain.f ((x6) % 256)).bind fun t114 => (if t114 = true then ((some (([(x6) % 256] : List Int) : List Int)).bind fun y115 => (if x4.size + (strOfNums y115).size ≤ 9223372036854775807 then (spec_EscNorm.l0 k x0 (x4 ++ (strOfNums y115)) (wrap64 (x5 + 1))) else (none))) else ((spec_l1Sign.f x6).bind fun t118 => (if x4.size + t118.size ≤ 9223372036854775807 then (spec_EscNorm.l0 k x0 (x4 ++ t118) (wrap64 (x5 + 1))) else (none))))
def spec_EscNorm.j1 : Nat → ByteArray → ByteArray → Int → Bool → Option (ByteArray × Bool)
 | 0, _, _, _, _ => none
 | k + 1, x0, x4, x5, x44 => if x44 = true then (some ((⟨#[]⟩ : ByteArray), false)) else (if 0 ≤ (wrap64 (x5 + 1)) then (if (wrap64 (x5 + 1)) < (x0.size : Int) then ((spec_l1Hex.f k (bt x0 (wrap64 (x5 + 1)))).bind fun t112 => (if 0 ≤ (wrap64 (x5 + 2)) then (if (wrap64 (x5 + 2)) < (x0.size : Int) then ((spec_l1Hex.f k (bt x0 (wrap64 (x5 + 2)))).bind fun t113 => (spec_EscNorm.j2 k x0 x4 (wrap64 (x5 + 2)) (wrap64 ((wrap64 (t112 * 16)) + t113)))) else (none)) else (none))) else (none)) else (none))
end
def spec_EscNorm.f (k : Nat) (a0 : ByteArray) : Option (ByteArray × Bool) := if (a0.size : Int) > 60 then (some ((⟨#[]⟩ : ByteArray), false)) else (spec_EscNorm.l0 k a0 (⟨#[]⟩ : ByteArray) 0)
theorem spec_EscNorm.mono_l : ∀ k, (∀ y0 y1 y2, LeO (spec_EscNorm.l0 k y0 y1 y2) (spec_EscNorm.l0 (k + 1) y0 y1 y2)) ∧ (∀ y0 y1 y2 y3, LeO (spec_EscNorm.j2 k y0 y1 y2 y3) (spec_EscNorm.j2 (k + 1) y0 y1 y2 y3)) ∧ (∀ y0 y1 y2 y3, LeO (spec_EscNorm.j1 k y0 y1 y2 y3) (spec_EscNorm.j1 (k + 1) y0 y1 y2 y3))
 | 0 => ⟨fun _ _ _ r h => by simp [spec_EscNorm.l0] at h, fun _ _ _ _ r h => by simp [spec_EscNorm.j2] at h, fun _ _ _ _ r h => by simp [spec_EscNorm.j1] at h⟩
 | k + 1 => by
  obtain ⟨ih0, ih1, ih2⟩ := spec_EscNorm.mono_l k;refine ⟨?_, ?_, ?_⟩
  ·intro y0 y1 y2
   unfold spec_EscNorm.l0
   repeat' first | (with_reducible first | exact ih0 _ _ _ | exact ih1 _ _ _ _ | exact ih2 _ _ _ _ | exact spec_l1Hex.mono _ _ | exact LeO.refl _ | exact LeO.none _ | refine LeO.ite ?_ ?_ | refine LeO.bind ?_ (fun _ => ?_)) | exact LeO.none _ | refine LeO.ite ?_ ?_ | refine LeO.bind ?_ (fun _ => ?_)
  ·intro y0 y1 y2 y3
   unfold spec_EscNorm.j2
   repeat' first | (with_reducible first | exact ih0 _ _ _ | exact ih1 _ _ _ _ | exact ih2 _ _ _ _ | exact spec_l1Hex.mono _ _ | exact LeO.refl _ | exact LeO.none _ | refine LeO.ite ?_ ?_ | refine LeO.bind ?_ (fun _ => ?_)) | exact LeO.none _ | refine LeO.ite ?_ ?_ | refine LeO.bind ?_ (fun _ => ?_)
  ·intro y0 y1 y2 y3
   unfold spec_EscNorm.j1
   repeat' first | (with_reducible first | exact ih0 _ _ _ | exact ih1 _ _ _ _ | exact ih2 _ _ _ _ | exact spec_l1Hex.mono _ _ | exact LeO.refl _ | exact LeO.none _ | refine LeO.ite ?_ ?_ | refine LeO.bind ?_ (fun _ => ?_)) | exact LeO.none _ | refine LeO.ite ?_ ?_ | refine LeO.bind ?_ (fun _ => ?_)
theorem spec_EscNorm.mono : ∀ a0 k, LeO (spec_EscNorm.f k a0) (spec_EscNorm.f (k + 1) a0) := by
 intro a0 k;obtain ⟨ih0, ih1, ih2⟩ := spec_EscNorm.mono_l k;unfold spec_EscNorm.f
 repeat' first | (with_reducible first | exact ih0 _ _ _ | exact ih1 _ _ _ _ | exact ih2 _ _ _ _ | exact spec_l1Hex.mono _ _ | exact LeO.refl _ | exact LeO.none _ | refine LeO.ite ?_ ?_ | refine LeO.bind ?_ (fun _ => ?_)) | exact LeO.none _ | refine LeO.ite ?_ ?_ | refine LeO.bind ?_ (fun _ => ?_)
set_option maxHeartbeats 8000000 in
set_option maxRecDepth 100000 in
theorem spec_EscNorm.calls (k : Nat) (a0 : ByteArray) (r1 : ByteArray) (r2 : Bool) (w : World) (h : spec_EscNorm.f k a0 = some (r1, r2)) :
  Calls Tryz.prog 64 #[.string a0] w fun e w' => e = .returned (.tuple #[.string r1, .bool r2]) ∧ Below w.heap.size w w' := by
 have HB := Aside0.mk (Below.refl w.heap.size w);have H : (if (a0.size : Int) > 60 then (some ((⟨#[]⟩ : ByteArray), false)) else (spec_EscNorm.l0 k a0 (⟨#[]⟩ : ByteArray) 0)) = some (r1, r2) := h;clear h;by_cases c2 : (a0.size : Int) > 60
 ·rw [if_pos c2] at H
  have c2b0 : decide (60 < (a0.size : Int)) = true := decide_eq_true c2;have c2b1 : decide (60 < a0.size) = true := decide_eq_true (by omega);clear c2;simp only [Option.some.injEq, Prod.mk.injEq] at H
  obtain ⟨rfl, rfl⟩ := H;go_enter Tryz.func64, Tryz.ntmps64;go_wp2
  repeat (go_quiet (fail); try go_wp2)
  go_ret2
  exact ⟨zz1, (zz0 HB)⟩
 ·rw [if_neg c2] at H
  have c2b0 : decide (60 < (a0.size : Int)) = false := decide_eq_false c2;have c2b1 : decide (60 < a0.size) = false := decide_eq_false (by omega);clear c2;have H' := Aside0.mk H;clear H;go_enter Tryz.func64, Tryz.ntmps64;go_wp2
  repeat (go_quiet (fail); try go_wp2)
  go_loopg [4, 5] k (fun kq v4 v5 w' => ∃ (x4_1 : ByteArray) (x5_1 : Int), v4 = .string x4_1 ∧ v5 = .int .i64 x5_1 ∧ Aside0 (spec_EscNorm.l0 kq a0 x4_1 x5_1 = some (r1, r2)) ∧ Aside0 (kq ≤ k) ∧ Aside0 (Below w.heap.size w w'))
  case atStart => exact ⟨((⟨#[]⟩ : ByteArray)), (0), zz3, zz3, H', ⟨Nat.le_refl _⟩, ⟨(zz0 HB)⟩⟩
  case round =>
   clear H';obtain ⟨x4_1, x5_1, rfl, rfl, HA, HK1, HB⟩ := hrel;cases gk with
   | zero => exact absurd HA.out (by simp [spec_EscNorm.l0])
   | succ k1 =>
    have H := HA.out;clear HA;simp only [spec_EscNorm.l0] at H
    by_cases c3 : x5_1 < (a0.size : Int)
    ·rw [if_pos c3] at H
     have c3b0 : decide (x5_1 < (a0.size : Int)) = true := decide_eq_true c3;clear c3;by_cases c4 : 0 ≤ x5_1
     ·rw [if_pos c4] at H
      have c4b0 : decide (0 ≤ x5_1) = true := decide_eq_true c4;clear c4;have HC7 := Aside0.mk H;clear H;have p5 : 0 ≤ (x5_1 : Int) := ofD;have q5 : x5_1 < (a0.size : Int) := ofD;have hx5 := bt_at a0 x5_1;replace p5 := eq_true p5;replace q5 := eq_true q5;have p6 : 0 ≤ (x5_1 : Int) := ofD;have q6 : x5_1 < (a0.size : Int) := ofD;have hx6 := bt_at a0 x5_1;replace p6 := eq_true p6;replace q6 := eq_true q6;go_upto_if 23 with (fail)
      repeat (go_quiet (fail); go_upto_if 23 with (fail))
      go_cut [5, 6] (fun v5 v6 wc => ∃ (kq : Nat) (x5_6 : Int) (x6_6 : Int), v5 = .int .i64 x5_6 ∧ v6 = .int .i64 x6_6 ∧ Aside0 (spec_EscNorm.j2 kq a0 x4_1 x5_6 x6_6 = some (r1, r2)) ∧ Aside0 (kq ≤ k1) ∧ Aside0 (Below w.heap.size w wc))
      case first =>
       have H := HC7.out;clear HC7;by_cases c8 : (bt a0 x5_1) = 37
       ·rw [if_pos c8] at H
        have c8b0 : ((bt a0 x5_1) == 37) = true := beq_iff_eq.mpr c8;have c8b1 : ((bt a0 x5_1) != 37) = false := bne_eq_false_iff_eq.mpr c8;clear c8;(first | rw [c8b0] | (simp only [i64_w, i32_w]; rw [c8b0]) | skip)
        have HC9 := Aside0.mk H;clear H;go_upto_region 9 with (fail)
        repeat (go_quiet (fail); go_upto_region 9 with (fail))
        go_cut [44] (fun v44 wc => ∃ (kq : Nat) (x44_8 : Bool), v44 = .bool x44_8 ∧ Aside0 (spec_EscNorm.j1 kq a0 x4_1 x5_1 x44_8 = some (r1, r2)) ∧ Aside0 (kq ≤ k1) ∧ Aside0 (Below w.heap.size w wc))
        case first =>
         have H := HC9.out;clear HC9;by_cases c10 : (wrap64 (x5_1 + 2)) ≥ (a0.size : Int)
         ·rw [if_pos c10] at H
          have c10b0 : decide ((a0.size : Int) ≤ (wrap64 (x5_1 + 2))) = true := decide_eq_true c10;clear c10;(first | rw [c10b0] | (simp only [i64_w, i32_w]; rw [c10b0]) | skip)
          have H' := Aside0.mk H;clear H;go_wp2
          repeat (go_quiet (fail); try go_wp2)
          go_meet
          case rel => exact ⟨_, (true), zz3, H', ⟨(zz11 HK1)⟩, ⟨(zz0 HB)⟩⟩
         ·rw [if_neg c10] at H
          have c10b0 : decide ((a0.size : Int) ≤ (wrap64 (x5_1 + 2))) = false := decide_eq_false c10;clear c10;(first | rw [c10b0] | (simp only [i64_w, i32_w]; rw [c10b0]) | skip)
          obtain ⟨ji11, hji11⟩ : ∃ j_ : Int, (wrap64 (x5_1 + 1)) = j_ := ⟨_, rfl⟩;replace H : (if 0 ≤ (ji11) then (if (ji11) < (a0.size : Int) then ((spec_l1Hex.f k1 (bt a0 (ji11))).bind fun t110 => (if t110 < 0 then (spec_EscNorm.j1 k1 a0 x4_1 x5_1 true) else (if 0 ≤ (wrap64 (x5_1 + 2)) then (if (wrap64 (x5_1 + 2)) < (a0.size : Int) then ((spec_l1Hex.f k1 (bt a0 (wrap64 (x5_1 + 2)))).bind fun t111 => (spec_EscNorm.j1 k1 a0 x4_1 x5_1 (decide (t111 < 0)))) else (none)) else (none)))) else (none)) else (none)) = some (r1, r2) := by first | (rw [hji11] at H; exact H) | (simp only [hji11] at H ⊢; exact H)
          have hji11w : (IntKind.i64.wrap (x5_1 + 1)) = ji11 := (i64_w _).trans hji11;by_cases c12 : 0 ≤ (ji11)
          ·rw [if_pos c12] at H
           have c12b0 : decide (0 ≤ (ji11)) = true := decide_eq_true c12;clear c12;by_cases c13 : (ji11) < (a0.size : Int)
           ·rw [if_pos c13] at H
            have c13b0 : decide ((ji11) < (a0.size : Int)) = true := decide_eq_true c13;clear c13;replace H := bindA H;obtain ⟨t110, A15, H⟩ := H;by_cases c16 : t110 < 0
            ·rw [if_pos c16] at H
             have c16b0 : decide (t110 < 0) = true := decide_eq_true c16;clear c16;have H' := Aside0.mk H;clear H;have p14 : 0 ≤ ((ji11) : Int) := ofD;have q14 : (ji11) < (a0.size : Int) := ofD;have hx14 := bt_at a0 (ji11);replace p14 := eq_true p14;replace q14 := eq_true q14;go_wp2_with (first | (go_at_call 79; (with_reducible refine (spec_l1Hex.calls k1 (bt a0 (ji11)) t110 _ A15.out).mono ?_); rintro e w' ⟨rfl, ⟨nd, rfl⟩⟩; (try first | exact ⟨rfl, _, World.drewN_drewN _ _ _⟩ | exact ⟨rfl, _, Eq.trans (World.drewN_drewN _ _ _) (congrArg (World.drewN _) (Nat.add_assoc _ _ _))⟩)))
             repeat (go_quiet (first | (go_at_call 79; (with_reducible refine (spec_l1Hex.calls k1 (bt a0 (ji11)) t110 _ A15.out).mono ?_); rintro e w' ⟨rfl, ⟨nd, rfl⟩⟩; (try first | exact ⟨rfl, _, World.drewN_drewN _ _ _⟩ | exact ⟨rfl, _, Eq.trans (World.drewN_drewN _ _ _) (congrArg (World.drewN _) (Nat.add_assoc _ _ _))⟩))); try go_wp2_with (first | (go_at_call 79; (with_reducible refine (spec_l1Hex.calls k1 (bt a0 (ji11)) t110 _ A15.out).mono ?_); rintro e w' ⟨rfl, ⟨nd, rfl⟩⟩; (try first | exact ⟨rfl, _, World.drewN_drewN _ _ _⟩ | exact ⟨rfl, _, Eq.trans (World.drewN_drewN _ _ _) (congrArg (World.drewN _) (Nat.add_assoc _ _ _))⟩))))
             go_meet
             case rel => exact ⟨_, (true), zz3, H', ⟨(zz11 HK1)⟩, ⟨(zz0 HB)⟩⟩
            ·rw [if_neg c16] at H
             have c16b0 : decide (t110 < 0) = false := decide_eq_false c16;clear c16;obtain ⟨ji17, hji17⟩ : ∃ j_ : Int, (wrap64 (x5_1 + 2)) = j_ := ⟨_, rfl⟩;replace H : (if 0 ≤ (ji17) then (if (ji17) < (a0.size : Int) then ((spec_l1Hex.f k1 (bt a0 (ji17))).bind fun t111 => (spec_EscNorm.j1 k1 a0 x4_1 x5_1 (decide (t111 < 0)))) else (none)) else (none)) = some (r1, r2) := by first | (rw [hji17] at H; exact H) | (simp only [hji17] at H ⊢; exact H)
             (try rw [hji17] at c10b0)
             (try rw [hji17] at A15)
             have hji17w : (IntKind.i64.wrap (x5_1 + 2)) = ji17 := (i64_w _).trans hji17;by_cases c18 : 0 ≤ (ji17)
             ·rw [if_pos c18] at H
              have c18b0 : decide (0 ≤ (ji17)) = true := decide_eq_true c18;clear c18;by_cases c19 : (ji17) < (a0.size : Int)
              ·rw [if_pos c19] at H
               have c19b0 : decide ((ji17) < (a0.size : Int)) = true := decide_eq_true c19;clear c19;replace H := bindA H;obtain ⟨t111, A21, H⟩ := H;have H' := Aside0.mk H;clear H;have p14 : 0 ≤ ((ji11) : Int) := ofD;have q14 : (ji11) < (a0.size : Int) := ofD;have hx14 := bt_at a0 (ji11);replace p14 := eq_true p14;replace q14 := eq_true q14;go_wp2_with (first | (go_at_call 79; (with_reducible refine (spec_l1Hex.calls k1 (bt a0 (ji11)) t110 _ A15.out).mono ?_); rintro e w' ⟨rfl, ⟨nd, rfl⟩⟩; (try first | exact ⟨rfl, _, World.drewN_drewN _ _ _⟩ | exact ⟨rfl, _, Eq.trans (World.drewN_drewN _ _ _) (congrArg (World.drewN _) (Nat.add_assoc _ _ _))⟩); have p20 : 0 ≤ ((ji17) : Int) := ofD; have q20 : (ji17) < (a0.size : Int) := ofD; have hx20 := bt_at a0 (ji17); replace p20 := eq_true p20; replace q20 := eq_true q20) | (go_at_call 79; (with_reducible refine (spec_l1Hex.calls k1 (bt a0 (ji17)) t111 _ A21.out).mono ?_); rintro e w' ⟨rfl, ⟨nd, rfl⟩⟩; (try first | exact ⟨rfl, _, World.drewN_drewN _ _ _⟩ | exact ⟨rfl, _, Eq.trans (World.drewN_drewN _ _ _) (congrArg (World.drewN _) (Nat.add_assoc _ _ _))⟩)))
               repeat (go_quiet (first | (go_at_call 79; (with_reducible refine (spec_l1Hex.calls k1 (bt a0 (ji11)) t110 _ A15.out).mono ?_); rintro e w' ⟨rfl, ⟨nd, rfl⟩⟩; (try first | exact ⟨rfl, _, World.drewN_drewN _ _ _⟩ | exact ⟨rfl, _, Eq.trans (World.drewN_drewN _ _ _) (congrArg (World.drewN _) (Nat.add_assoc _ _ _))⟩); have p20 : 0 ≤ ((ji17) : Int) := ofD; have q20 : (ji17) < (a0.size : Int) := ofD; have hx20 := bt_at a0 (ji17); replace p20 := eq_true p20; replace q20 := eq_true q20) | (go_at_call 79; (with_reducible refine (spec_l1Hex.calls k1 (bt a0 (ji17)) t111 _ A21.out).mono ?_); rintro e w' ⟨rfl, ⟨nd, rfl⟩⟩; (try first | exact ⟨rfl, _, World.drewN_drewN _ _ _⟩ | exact ⟨rfl, _, Eq.trans (World.drewN_drewN _ _ _) (congrArg (World.drewN _) (Nat.add_assoc _ _ _))⟩))); try go_wp2_with (first | (go_at_call 79; (with_reducible refine (spec_l1Hex.calls k1 (bt a0 (ji11)) t110 _ A15.out).mono ?_); rintro e w' ⟨rfl, ⟨nd, rfl⟩⟩; (try first | exact ⟨rfl, _, World.drewN_drewN _ _ _⟩ | exact ⟨rfl, _, Eq.trans (World.drewN_drewN _ _ _) (congrArg (World.drewN _) (Nat.add_assoc _ _ _))⟩); have p20 : 0 ≤ ((ji17) : Int) := ofD; have q20 : (ji17) < (a0.size : Int) := ofD; have hx20 := bt_at a0 (ji17); replace p20 := eq_true p20; replace q20 := eq_true q20) | (go_at_call 79; (with_reducible refine (spec_l1Hex.calls k1 (bt a0 (ji17)) t111 _ A21.out).mono ?_); rintro e w' ⟨rfl, ⟨nd, rfl⟩⟩; (try first | exact ⟨rfl, _, World.drewN_drewN _ _ _⟩ | exact ⟨rfl, _, Eq.trans (World.drewN_drewN _ _ _) (congrArg (World.drewN _) (Nat.add_assoc _ _ _))⟩))))
               go_meet
               case rel => exact ⟨_, (decide (t111 < 0)), zz3, H', ⟨(zz11 HK1)⟩, ⟨(zz0 HB)⟩⟩
              ·rw [if_neg c19] at H
               exact absurd H (by simp)
             ·rw [if_neg c18] at H
              exact absurd H (by simp)
           ·rw [if_neg c13] at H
            exact absurd H (by simp)
          ·rw [if_neg c12] at H
           exact absurd H (by simp)
        case rest =>
         clear HC9;obtain ⟨kq, x44_8, rfl, HA, HJ8, HB⟩ := hcut;cases kq with
         | zero => exact absurd HA.out (by simp [spec_EscNorm.j1])
         | succ kj8 =>
          have H := HA.out;clear HA;simp only [spec_EscNorm.j1] at H
          by_cases c22 : x44_8 = true
          ·subst c22
           rw [if_pos rfl] at H;simp only [Option.some.injEq, Prod.mk.injEq] at H
           obtain ⟨rfl, rfl⟩ := H;go_wp2
           repeat (go_quiet (fail); try go_wp2)
           go_ret2
           exact ⟨zz1, (zz0 HB)⟩
          ·replace c22 := Bool.eq_false_iff.mpr c22
           subst c22;rw [if_neg (show ¬ (false = true) by decide)] at H;obtain ⟨ji23, hji23⟩ : ∃ j_ : Int, (wrap64 (x5_1 + 1)) = j_ := ⟨_, rfl⟩;replace H : (if 0 ≤ (ji23) then (if (ji23) < (a0.size : Int) then ((spec_l1Hex.f kj8 (bt a0 (ji23))).bind fun t112 => (if 0 ≤ (wrap64 (x5_1 + 2)) then (if (wrap64 (x5_1 + 2)) < (a0.size : Int) then ((spec_l1Hex.f kj8 (bt a0 (wrap64 (x5_1 + 2)))).bind fun t113 => (spec_EscNorm.j2 kj8 a0 x4_1 (wrap64 (x5_1 + 2)) (wrap64 ((wrap64 (t112 * 16)) + t113)))) else (none)) else (none))) else (none)) else (none)) = some (r1, r2) := by first | (rw [hji23] at H; exact H) | (simp only [hji23] at H ⊢; exact H)
           have hji23w : (IntKind.i64.wrap (x5_1 + 1)) = ji23 := (i64_w _).trans hji23;by_cases c24 : 0 ≤ (ji23)
           ·rw [if_pos c24] at H
            have c24b0 : decide (0 ≤ (ji23)) = true := decide_eq_true c24;clear c24;by_cases c25 : (ji23) < (a0.size : Int)
            ·rw [if_pos c25] at H
             have c25b0 : decide ((ji23) < (a0.size : Int)) = true := decide_eq_true c25;clear c25;replace H := bindA H;obtain ⟨t112, A27, H⟩ := H;obtain ⟨ji28, hji28⟩ : ∃ j_ : Int, (wrap64 (x5_1 + 2)) = j_ := ⟨_, rfl⟩;replace H : (if 0 ≤ (ji28) then (if (ji28) < (a0.size : Int) then ((spec_l1Hex.f kj8 (bt a0 (ji28))).bind fun t113 => (spec_EscNorm.j2 kj8 a0 x4_1 ji28 (wrap64 ((wrap64 (t112 * 16)) + t113)))) else (none)) else (none)) = some (r1, r2) := by first | (rw [hji28] at H; exact H) | (simp only [hji28] at H ⊢; exact H)
             (try rw [hji28] at A27)
             have hji28w : (IntKind.i64.wrap (x5_1 + 2)) = ji28 := (i64_w _).trans hji28;by_cases c29 : 0 ≤ (ji28)
             ·rw [if_pos c29] at H
              have c29b0 : decide (0 ≤ (ji28)) = true := decide_eq_true c29;clear c29;by_cases c30 : (ji28) < (a0.size : Int)
              ·rw [if_pos c30] at H
               have c30b0 : decide ((ji28) < (a0.size : Int)) = true := decide_eq_true c30;clear c30;replace H := bindA H;obtain ⟨t113, A32, H⟩ := H;have H' := Aside0.mk H;clear H;have p26 : 0 ≤ ((ji23) : Int) := ofD;have q26 : (ji23) < (a0.size : Int) := ofD;have hx26 := bt_at a0 (ji23);replace p26 := eq_true p26;replace q26 := eq_true q26;go_wp2_with (first | (go_at_call 79; (with_reducible refine (spec_l1Hex.calls kj8 (bt a0 (ji23)) t112 _ A27.out).mono ?_); rintro e w' ⟨rfl, ⟨nd, rfl⟩⟩; (try first | exact ⟨rfl, _, World.drewN_drewN _ _ _⟩ | exact ⟨rfl, _, Eq.trans (World.drewN_drewN _ _ _) (congrArg (World.drewN _) (Nat.add_assoc _ _ _))⟩); have p31 : 0 ≤ ((ji28) : Int) := ofD; have q31 : (ji28) < (a0.size : Int) := ofD; have hx31 := bt_at a0 (ji28); replace p31 := eq_true p31; replace q31 := eq_true q31) | (go_at_call 79; (with_reducible refine (spec_l1Hex.calls kj8 (bt a0 (ji28)) t113 _ A32.out).mono ?_); rintro e w' ⟨rfl, ⟨nd, rfl⟩⟩; (try first | exact ⟨rfl, _, World.drewN_drewN _ _ _⟩ | exact ⟨rfl, _, Eq.trans (World.drewN_drewN _ _ _) (congrArg (World.drewN _) (Nat.add_assoc _ _ _))⟩)))
               repeat (go_quiet (first | (go_at_call 79; (with_reducible refine (spec_l1Hex.calls kj8 (bt a0 (ji23)) t112 _ A27.out).mono ?_); rintro e w' ⟨rfl, ⟨nd, rfl⟩⟩; (try first | exact ⟨rfl, _, World.drewN_drewN _ _ _⟩ | exact ⟨rfl, _, Eq.trans (World.drewN_drewN _ _ _) (congrArg (World.drewN _) (Nat.add_assoc _ _ _))⟩); have p31 : 0 ≤ ((ji28) : Int) := ofD; have q31 : (ji28) < (a0.size : Int) := ofD; have hx31 := bt_at a0 (ji28); replace p31 := eq_true p31; replace q31 := eq_true q31) | (go_at_call 79; (with_reducible refine (spec_l1Hex.calls kj8 (bt a0 (ji28)) t113 _ A32.out).mono ?_); rintro e w' ⟨rfl, ⟨nd, rfl⟩⟩; (try first | exact ⟨rfl, _, World.drewN_drewN _ _ _⟩ | exact ⟨rfl, _, Eq.trans (World.drewN_drewN _ _ _) (congrArg (World.drewN _) (Nat.add_assoc _ _ _))⟩))); try go_wp2_with (first | (go_at_call 79; (with_reducible refine (spec_l1Hex.calls kj8 (bt a0 (ji23)) t112 _ A27.out).mono ?_); rintro e w' ⟨rfl, ⟨nd, rfl⟩⟩; (try first | exact ⟨rfl, _, World.drewN_drewN _ _ _⟩ | exact ⟨rfl, _, Eq.trans (World.drewN_drewN _ _ _) (congrArg (World.drewN _) (Nat.add_assoc _ _ _))⟩); have p31 : 0 ≤ ((ji28) : Int) := ofD; have q31 : (ji28) < (a0.size : Int) := ofD; have hx31 := bt_at a0 (ji28); replace p31 := eq_true p31; replace q31 := eq_true q31) | (go_at_call 79; (with_reducible refine (spec_l1Hex.calls kj8 (bt a0 (ji28)) t113 _ A32.out).mono ?_); rintro e w' ⟨rfl, ⟨nd, rfl⟩⟩; (try first | exact ⟨rfl, _, World.drewN_drewN _ _ _⟩ | exact ⟨rfl, _, Eq.trans (World.drewN_drewN _ _ _) (congrArg (World.drewN _) (Nat.add_assoc _ _ _))⟩))))
               go_meet
               case rel => exact ⟨_, (ji28), (wrap64 ((wrap64 (t112 * 16)) + t113)), (by first | rfl | (simp only [i64_w, i32_w]; done) | (simp only [aid_isEmpty, aid_isEmpty2]; done) | (simp; done) | ((simp only [← hji28] <;> (first | rfl | simp)); done) | (simp [*]; done)), zz3, H', ⟨(by have := HK1.out; have := HJ8.out; first | omega | exact Nat.le_refl _)⟩, ⟨(zz0 HB)⟩⟩
              ·rw [if_neg c30] at H
               exact absurd H (by simp)
             ·rw [if_neg c29] at H
              exact absurd H (by simp)
            ·rw [if_neg c25] at H
             exact absurd H (by simp)
           ·rw [if_neg c24] at H
            exact absurd H (by simp)
       ·rw [if_neg c8] at H
        have c8b0 : ((bt a0 x5_1) == 37) = false := beq_eq_false_iff_ne.mpr c8;have c8b1 : ((bt a0 x5_1) != 37) = true := bne_iff_ne.mpr c8;(first | rw [c8b0] | (simp only [i64_w, i32_w]; rw [c8b0]) | skip)
        have H' := Aside0.mk H;clear H;go_wp2
        repeat (go_quiet (fail); try go_wp2)
        go_meet
        case rel => exact ⟨_, (x5_1), (wrap64 (bt a0 x5_1)), zz3, zz3, H', ⟨(zz11 HK1)⟩, ⟨(zz0 HB)⟩⟩
      case rest =>
       clear HC7;obtain ⟨kq, x5_6, x6_6, rfl, rfl, HA, HJ6, HB⟩ := hcut;cases kq with
       | zero => exact absurd HA.out (by simp [spec_EscNorm.j2])
       | succ kj6 =>
        have H := HA.out;clear HA;simp only [spec_EscNorm.j2] at H
        replace H := bindA H;obtain ⟨t114, A33, H⟩ := H;by_cases c34 : t114 = true
        ·subst c34
         rw [if_pos rfl] at H;obtain ⟨y115, Ny115⟩ := toY (([(x6_6) % 256] : List Int));(first | with_reducible replace H := bindZ Ny115 H | rw [← Ny115.out] at H | skip)
         by_cases c35 : x4_1.size + (strOfNums y115).size ≤ 9223372036854775807
         ·rw [if_pos c35] at H
          have c35b0 := eq_true c35;have c35b1 : decide (x4_1.size + (strOfNums y115).size ≤ 9223372036854775807) = true := decide_eq_true c35;try have c35b2 : (9223372036854775807 < x4_1.size + (strOfNums y115).size) = False := eq_false (Nat.not_lt.2 c35)
          have H' := Aside0.mk H;clear H;go_wp2_with (first | (go_at_call 80; (with_reducible refine (spec_l1Plain.calls ((x6_6) % 256) true _ A33.out).mono ?_); rintro e w' ⟨rfl, ⟨nd, rfl⟩⟩; (try first | exact ⟨rfl, _, World.drewN_drewN _ _ _⟩ | exact ⟨rfl, _, Eq.trans (World.drewN_drewN _ _ _) (congrArg (World.drewN _) (Nat.add_assoc _ _ _))⟩)) | ((with_reducible refine gate_dst (N := 65) rfl ?_); refine Kd.R_lit (Kd.int .u8) _ 5 ?hg (N := 65) ?hd (xs := ([(x6_6) % 256] : List Int)) (inner := [.int .u8 ((x6_6) % 256)]) (ok := fun _ => True) (okp := fun _ => True) ?hr ?hp (fun _ hk => hk) trivial (Below.refl _ _) (Nat.le_refl _) (by simp) ?_; (case hd => rfl); (case hg => rfl); (case hr => exact zz19); (case hp => exact (Reps.one (show Kd.M (Kd.int .u8) _ _ _ ((x6_6) % 256) [.int .u8 ((x6_6) % 256)] from rfl) (Reps.none _ _))); intro v116 w36 ho37 hb hg_ hnew_; clear hg_ hnew_; (first | rw [← Ny115.out] at ho37 | (simp only [Int.reduceToNat] at ho37; rw [← Ny115.out] at ho37)); have HO117 := Aside0.mk (Kd.R_lower ho37 (below_size (zz0 HB))); replace HB := Aside0.mk (below_step (zz0 HB) hb); clear hb ho37; have hcv38 := own_string (P := Tryz.prog) Tryz.underlying61 Tryz.underlying5 Tryz.underlying9 (Kd.own_of_R HO117.out)))
          repeat (go_quiet (first | (go_at_call 80; (with_reducible refine (spec_l1Plain.calls ((x6_6) % 256) true _ A33.out).mono ?_); rintro e w' ⟨rfl, ⟨nd, rfl⟩⟩; (try first | exact ⟨rfl, _, World.drewN_drewN _ _ _⟩ | exact ⟨rfl, _, Eq.trans (World.drewN_drewN _ _ _) (congrArg (World.drewN _) (Nat.add_assoc _ _ _))⟩)) | ((with_reducible refine gate_dst (N := 65) rfl ?_); refine Kd.R_lit (Kd.int .u8) _ 5 ?hg (N := 65) ?hd (xs := ([(x6_6) % 256] : List Int)) (inner := [.int .u8 ((x6_6) % 256)]) (ok := fun _ => True) (okp := fun _ => True) ?hr ?hp (fun _ hk => hk) trivial (Below.refl _ _) (Nat.le_refl _) (by simp) ?_; (case hd => rfl); (case hg => rfl); (case hr => exact zz19); (case hp => exact (Reps.one (show Kd.M (Kd.int .u8) _ _ _ ((x6_6) % 256) [.int .u8 ((x6_6) % 256)] from rfl) (Reps.none _ _))); intro v116 w36 ho37 hb hg_ hnew_; clear hg_ hnew_; (first | rw [← Ny115.out] at ho37 | (simp only [Int.reduceToNat] at ho37; rw [← Ny115.out] at ho37)); have HO117 := Aside0.mk (Kd.R_lower ho37 (below_size (zz0 HB))); replace HB := Aside0.mk (below_step (zz0 HB) hb); clear hb ho37; have hcv38 := own_string (P := Tryz.prog) Tryz.underlying61 Tryz.underlying5 Tryz.underlying9 (Kd.own_of_R HO117.out))); try go_wp2_with (first | (go_at_call 80; (with_reducible refine (spec_l1Plain.calls ((x6_6) % 256) true _ A33.out).mono ?_); rintro e w' ⟨rfl, ⟨nd, rfl⟩⟩; (try first | exact ⟨rfl, _, World.drewN_drewN _ _ _⟩ | exact ⟨rfl, _, Eq.trans (World.drewN_drewN _ _ _) (congrArg (World.drewN _) (Nat.add_assoc _ _ _))⟩)) | ((with_reducible refine gate_dst (N := 65) rfl ?_); refine Kd.R_lit (Kd.int .u8) _ 5 ?hg (N := 65) ?hd (xs := ([(x6_6) % 256] : List Int)) (inner := [.int .u8 ((x6_6) % 256)]) (ok := fun _ => True) (okp := fun _ => True) ?hr ?hp (fun _ hk => hk) trivial (Below.refl _ _) (Nat.le_refl _) (by simp) ?_; (case hd => rfl); (case hg => rfl); (case hr => exact zz19); (case hp => exact (Reps.one (show Kd.M (Kd.int .u8) _ _ _ ((x6_6) % 256) [.int .u8 ((x6_6) % 256)] from rfl) (Reps.none _ _))); intro v116 w36 ho37 hb hg_ hnew_; clear hg_ hnew_; (first | rw [← Ny115.out] at ho37 | (simp only [Int.reduceToNat] at ho37; rw [← Ny115.out] at ho37)); have HO117 := Aside0.mk (Kd.R_lower ho37 (below_size (zz0 HB))); replace HB := Aside0.mk (below_step (zz0 HB) hb); clear hb ho37; have hcv38 := own_string (P := Tryz.prog) Tryz.underlying61 Tryz.underlying5 Tryz.underlying9 (Kd.own_of_R HO117.out))))
          go_roundg kj6
          case measure => have := HK1.out; have := HJ6.out; omega
          case rel => exact ⟨(x4_1 ++ (strOfNums y115)), (wrap64 (x5_6 + 1)), zz3, zz3, H', ⟨(zz20 HK1 HJ6)⟩, ⟨(zz0 HB)⟩⟩
         ·rw [if_neg c35] at H
          exact absurd H (by simp)
        ·replace c34 := Bool.eq_false_iff.mpr c34
         subst c34;rw [if_neg (show ¬ (false = true) by decide)] at H;replace H := bindA H;obtain ⟨t118, A39, H⟩ := H;by_cases c40 : x4_1.size + t118.size ≤ 9223372036854775807
         ·rw [if_pos c40] at H
          have c40b0 := eq_true c40;have c40b1 : decide (x4_1.size + t118.size ≤ 9223372036854775807) = true := decide_eq_true c40;try have c40b2 : (9223372036854775807 < x4_1.size + t118.size) = False := eq_false (Nat.not_lt.2 c40)
          have H' := Aside0.mk H;clear H;go_wp2_with (first | (go_at_call 80; (with_reducible refine (spec_l1Plain.calls ((x6_6) % 256) false _ A33.out).mono ?_); rintro e w' ⟨rfl, ⟨nd, rfl⟩⟩; (try first | exact ⟨rfl, _, World.drewN_drewN _ _ _⟩ | exact ⟨rfl, _, Eq.trans (World.drewN_drewN _ _ _) (congrArg (World.drewN _) (Nat.add_assoc _ _ _))⟩)) | (go_at_call 81; (with_reducible refine (spec_l1Sign.calls x6_6 t118 _ A39.out).mono ?_); rintro e w' ⟨rfl, ⟨nd, rfl⟩⟩; (try first | exact ⟨rfl, _, World.drewN_drewN _ _ _⟩ | exact ⟨rfl, _, Eq.trans (World.drewN_drewN _ _ _) (congrArg (World.drewN _) (Nat.add_assoc _ _ _))⟩)))
          repeat (go_quiet (first | (go_at_call 80; (with_reducible refine (spec_l1Plain.calls ((x6_6) % 256) false _ A33.out).mono ?_); rintro e w' ⟨rfl, ⟨nd, rfl⟩⟩; (try first | exact ⟨rfl, _, World.drewN_drewN _ _ _⟩ | exact ⟨rfl, _, Eq.trans (World.drewN_drewN _ _ _) (congrArg (World.drewN _) (Nat.add_assoc _ _ _))⟩)) | (go_at_call 81; (with_reducible refine (spec_l1Sign.calls x6_6 t118 _ A39.out).mono ?_); rintro e w' ⟨rfl, ⟨nd, rfl⟩⟩; (try first | exact ⟨rfl, _, World.drewN_drewN _ _ _⟩ | exact ⟨rfl, _, Eq.trans (World.drewN_drewN _ _ _) (congrArg (World.drewN _) (Nat.add_assoc _ _ _))⟩))); try go_wp2_with (first | (go_at_call 80; (with_reducible refine (spec_l1Plain.calls ((x6_6) % 256) false _ A33.out).mono ?_); rintro e w' ⟨rfl, ⟨nd, rfl⟩⟩; (try first | exact ⟨rfl, _, World.drewN_drewN _ _ _⟩ | exact ⟨rfl, _, Eq.trans (World.drewN_drewN _ _ _) (congrArg (World.drewN _) (Nat.add_assoc _ _ _))⟩)) | (go_at_call 81; (with_reducible refine (spec_l1Sign.calls x6_6 t118 _ A39.out).mono ?_); rintro e w' ⟨rfl, ⟨nd, rfl⟩⟩; (try first | exact ⟨rfl, _, World.drewN_drewN _ _ _⟩ | exact ⟨rfl, _, Eq.trans (World.drewN_drewN _ _ _) (congrArg (World.drewN _) (Nat.add_assoc _ _ _))⟩))))
          go_roundg kj6
          case measure => have := HK1.out; have := HJ6.out; omega
          case rel => exact ⟨(x4_1 ++ t118), (wrap64 (x5_6 + 1)), zz3, zz3, H', ⟨(zz20 HK1 HJ6)⟩, ⟨(zz0 HB)⟩⟩
         ·rw [if_neg c40] at H
          exact absurd H (by simp)
     ·rw [if_neg c4] at H
      exact absurd H (by simp)
    ·rw [if_neg c3] at H
     have c3b0 : decide (x5_1 < (a0.size : Int)) = false := decide_eq_false c3;clear c3;simp only [Option.some.injEq, Prod.mk.injEq] at H
     obtain ⟨rfl, rfl⟩ := H;go_wp2
     repeat (go_quiet (fail); try go_wp2)
     go_ret2
     exact ⟨zz1, (zz0 HB)⟩
def spec_l1Path.l0 : Nat → ByteArray → Int → ByteArray → List ByteArray → Bool → ByteArray → Option (ByteArray)
 | 0, _, _, _, _, _, _ => none
 | k + 1, x3, x4, x105000, x105001, x105002, x105003 => if x4 < (x105001.length : Int) then (if x4 > 0 then (if x3.size + 1 ≤ 9223372036854775807 then (if 0 ≤ x4 then (if x3.size + 1 + (rdOf ByteArray.empty x105001 x4).size ≤ 9223372036854775807 then (spec_l1Path.l0 k ((x3 ++ (⟨#[47]⟩ : ByteArray)) ++ (rdOf ByteArray.empty x105001 x4)) (wrap64 (x4 + 1)) x105000 x105001 x105002 x105003) else (none)) else (none)) else (none)) else (if 0 ≤ x4 then (if x3.size + (rdOf ByteArray.empty x105001 x4).size ≤ 9223372036854775807 then (spec_l1Path.l0 k (x3 ++ (rdOf ByteArray.empty x105001 x4)) (wrap64 (x4 + 1)) x105000 x105001 x105002 x105003) else (none)) else (none))) else (if x105002 = true then (if x3.size + 1 ≤ 9223372036854775807 then (if x3.size + 1 + x105003.size ≤ 9223372036854775807 then (some ((x3 ++ (⟨#[63]⟩ : ByteArray)) ++ x105003)) else (none)) else (none)) else (some x3))
def spec_l1Path.f (k : Nat) (a0_0 : ByteArray) (l0_1 : List ByteArray) (a0_2 : Bool) (a0_3 : ByteArray) : Option (ByteArray) := spec_l1Path.l0 k (⟨#[47]⟩ : ByteArray) 0 a0_0 l0_1 a0_2 a0_3
theorem spec_l1Path.mono_l : ∀ k, (∀ y0 y1 y2 y3 y4 y5, LeO (spec_l1Path.l0 k y0 y1 y2 y3 y4 y5) (spec_l1Path.l0 (k + 1) y0 y1 y2 y3 y4 y5))
 | 0 => fun _ _ _ _ _ _ r h => by simp [spec_l1Path.l0] at h
 | k + 1 => by
  have ih0 := spec_l1Path.mono_l k
  ·intro y0 y1 y2 y3 y4 y5
   unfold spec_l1Path.l0
   repeat' first | (with_reducible first | exact ih0 _ _ _ _ _ _ | exact LeO.refl _ | exact LeO.none _ | refine LeO.ite ?_ ?_ | refine LeO.bind ?_ (fun _ => ?_)) | exact LeO.none _ | refine LeO.ite ?_ ?_ | refine LeO.bind ?_ (fun _ => ?_)
theorem spec_l1Path.mono : ∀ a0 a1 a2 a3 k, LeO (spec_l1Path.f k a0 a1 a2 a3) (spec_l1Path.f (k + 1) a0 a1 a2 a3) := by
 intro a0 a1 a2 a3 k;have ih0 := spec_l1Path.mono_l k;unfold spec_l1Path.f
 repeat' first | (with_reducible first | exact ih0 _ _ _ _ _ _ | exact LeO.refl _ | exact LeO.none _ | refine LeO.ite ?_ ?_ | refine LeO.bind ?_ (fun _ => ?_)) | exact LeO.none _ | refine LeO.ite ?_ ?_ | refine LeO.bind ?_ (fun _ => ?_)
set_option maxHeartbeats 8000000 in
set_option maxRecDepth 100000 in
theorem spec_l1Path.calls (k : Nat) (a0_0 : ByteArray) (A0_1 : Option Addr) (c0_1 : Nat) (l0_1 : List ByteArray) (a0_2 : Bool) (a0_3 : ByteArray) (r : ByteArray) (w : World) (hr0_1 : Kd.C Kd.string w A0_1 l0_1.length l0_1) (hc0_1 : l0_1.length ≤ c0_1) (h : spec_l1Path.f k a0_0 l0_1 a0_2 a0_3 = some r) :
  Calls Tryz.prog 50 #[.agg #[.string a0_0, .slice A0_1 l0_1.length c0_1, .bool a0_2, .string a0_3]] w fun e w' => e = .returned (.string r) ∧ Below w.heap.size w w' := by
 have hu52 := Tryz.underlying52;have HR0_1 := Aside0.mk hr0_1;have HC0_1 := Aside0.mk hc0_1;clear hr0_1 hc0_1;have HB := Aside0.mk (Below.refl w.heap.size w);have H : (spec_l1Path.l0 k (⟨#[47]⟩ : ByteArray) 0 a0_0 l0_1 a0_2 a0_3) = some r := h;clear h;have H' := Aside0.mk H;clear H;go_enter Tryz.func50, Tryz.ntmps50;go_wp2_with (first | ((with_reducible refine gate_dst (N := 1) rfl ?_); refine boxE 1 #[.string a0_0, .slice A0_1 l0_1.length c0_1, .bool a0_2, .string a0_3] 52 ?_; intro gb104 hg w2 hbox hb; have BK104 := Aside0.mk (hbox); have GE104 := geB hg (zz0 HB); replace HB := Aside0.mk (below_step (zz0 HB) hb); clear hb hbox hg))
 go_loopg [3, 4] k (fun kq v3 v4 w' => ∃ (x3_1 : ByteArray) (x4_1 : Int), v3 = .string x3_1 ∧ v4 = .int .i64 x4_1 ∧ Aside0 (spec_l1Path.l0 kq x3_1 x4_1 a0_0 l0_1 a0_2 a0_3 = some r) ∧ Aside0 (kq ≤ k) ∧ Aside0 (w'.heap[gb104]? = some (.cells #[.string a0_0, (.slice A0_1 l0_1.length c0_1), .bool a0_2, .string a0_3] 52 (0, 0))) ∧ Aside0 (Below w.heap.size w w'))
 case atStart => exact ⟨((⟨#[47]⟩ : ByteArray)), (0), zz3, zz3, H', ⟨Nat.le_refl _⟩, ⟨(zz21 BK104)⟩, ⟨(zz2 HB GE104)⟩⟩
 case round =>
  clear H';obtain ⟨x3_1, x4_1, rfl, rfl, HA, HK1, BK104, HB⟩ := hrel;cases gk with
  | zero => exact absurd HA.out (by simp [spec_l1Path.l0])
  | succ k1 =>
   have H := HA.out;clear HA;simp only [spec_l1Path.l0] at H
   by_cases c3 : x4_1 < (l0_1.length : Int)
   ·rw [if_pos c3] at H
    have c3b0 : decide (x4_1 < (l0_1.length : Int)) = true := decide_eq_true c3;clear c3;by_cases c4 : x4_1 > 0
    ·rw [if_pos c4] at H
     have c4b0 : decide (0 < x4_1) = true := decide_eq_true c4;clear c4;by_cases c5 : x3_1.size + 1 ≤ 9223372036854775807
     ·rw [if_pos c5] at H
      have c5b0 := eq_true c5;have c5b1 : decide (x3_1.size + 1 ≤ 9223372036854775807) = true := decide_eq_true c5;try have c5b2 : (9223372036854775807 < x3_1.size + 1) = False := eq_false (Nat.not_lt.2 c5)
      by_cases c6 : 0 ≤ x4_1
      ·rw [if_pos c6] at H
       have c6b0 : decide (0 ≤ x4_1) = true := decide_eq_true c6;clear c6;by_cases c7 : x3_1.size + 1 + (rdOf ByteArray.empty l0_1 x4_1).size ≤ 9223372036854775807
       ·rw [if_pos c7] at H
        have c7b0 := eq_true c7;have c7b1 : decide (x3_1.size + 1 + (rdOf ByteArray.empty l0_1 x4_1).size ≤ 9223372036854775807) = true := decide_eq_true c7;try have c7b2 : (9223372036854775807 < x3_1.size + 1 + (rdOf ByteArray.empty l0_1 x4_1).size) = False := eq_false (Nat.not_lt.2 c7)
        have H' := Aside0.mk H;clear H;obtain ⟨_, _, _, _, _, _, _, _⟩ := cf4 BK104;have p105 : 0 ≤ (x4_1 : Int) := ofD;have q105 : x4_1 < (l0_1.length : Int) := ofD;obtain ⟨ad105, e105, hx105_0⟩ := Kd.at_string HR0_1.out x4_1 p105 q105;cases e105
        replace hx105_0 := cbl HB hx105_0;replace p105 := eq_true p105;replace q105 := eq_true q105;go_wp2
        go_roundg k1
        case measure => have := HK1.out; omega
        case rel => exact ⟨((x3_1 ++ (⟨#[47]⟩ : ByteArray)) ++ (rdOf ByteArray.empty l0_1 x4_1)), (wrap64 (x4_1 + 1)), zz3, zz3, H', ⟨(zz5 HK1)⟩, ⟨(zz21 BK104)⟩, ⟨(zz2 HB GE104)⟩⟩
       ·rw [if_neg c7] at H
        exact absurd H (by simp)
      ·rw [if_neg c6] at H
       exact absurd H (by simp)
     ·rw [if_neg c5] at H
      exact absurd H (by simp)
    ·rw [if_neg c4] at H
     have c4b0 : decide (0 < x4_1) = false := decide_eq_false c4;clear c4;by_cases c9 : 0 ≤ x4_1
     ·rw [if_pos c9] at H
      have c9b0 : decide (0 ≤ x4_1) = true := decide_eq_true c9;clear c9;by_cases c10 : x3_1.size + (rdOf ByteArray.empty l0_1 x4_1).size ≤ 9223372036854775807
      ·rw [if_pos c10] at H
       have c10b0 := eq_true c10;have c10b1 : decide (x3_1.size + (rdOf ByteArray.empty l0_1 x4_1).size ≤ 9223372036854775807) = true := decide_eq_true c10;try have c10b2 : (9223372036854775807 < x3_1.size + (rdOf ByteArray.empty l0_1 x4_1).size) = False := eq_false (Nat.not_lt.2 c10)
       have H' := Aside0.mk H;clear H;obtain ⟨_, _, _, _, _, _, _, _⟩ := cf4 BK104;have p106 : 0 ≤ (x4_1 : Int) := ofD;have q106 : x4_1 < (l0_1.length : Int) := ofD;obtain ⟨ad106, e106, hx106_0⟩ := Kd.at_string HR0_1.out x4_1 p106 q106;cases e106
       replace hx106_0 := cbl HB hx106_0;replace p106 := eq_true p106;replace q106 := eq_true q106;go_wp2
       go_roundg k1
       case measure => have := HK1.out; omega
       case rel => exact ⟨(x3_1 ++ (rdOf ByteArray.empty l0_1 x4_1)), (wrap64 (x4_1 + 1)), zz3, zz3, H', ⟨(zz5 HK1)⟩, ⟨(zz21 BK104)⟩, ⟨(zz2 HB GE104)⟩⟩
      ·rw [if_neg c10] at H
       exact absurd H (by simp)
     ·rw [if_neg c9] at H
      exact absurd H (by simp)
   ·rw [if_neg c3] at H
    have c3b0 : decide (x4_1 < (l0_1.length : Int)) = false := decide_eq_false c3;clear c3;by_cases c12 : a0_2 = true
    ·subst c12
     rw [if_pos rfl] at H;by_cases c13 : x3_1.size + 1 ≤ 9223372036854775807
     ·rw [if_pos c13] at H
      have c13b0 := eq_true c13;have c13b1 : decide (x3_1.size + 1 ≤ 9223372036854775807) = true := decide_eq_true c13;try have c13b2 : (9223372036854775807 < x3_1.size + 1) = False := eq_false (Nat.not_lt.2 c13)
      by_cases c14 : x3_1.size + 1 + a0_3.size ≤ 9223372036854775807
      ·rw [if_pos c14] at H
       have c14b0 := eq_true c14;have c14b1 : decide (x3_1.size + 1 + a0_3.size ≤ 9223372036854775807) = true := decide_eq_true c14;try have c14b2 : (9223372036854775807 < x3_1.size + 1 + a0_3.size) = False := eq_false (Nat.not_lt.2 c14)
       obtain rfl := Option.some.inj H;obtain ⟨_, _, _, _, _, _, _, _⟩ := cf4 BK104;go_wp2
       go_ret
       exact ⟨zz1, (zz2 HB GE104)⟩
      ·rw [if_neg c14] at H
       exact absurd H (by simp)
     ·rw [if_neg c13] at H
      exact absurd H (by simp)
    ·replace c12 := Bool.eq_false_iff.mpr c12
     subst c12;rw [if_neg (show ¬ (false = true) by decide)] at H;obtain rfl := Option.some.inj H;obtain ⟨_, _, _, _, _, _, _, _⟩ := cf4 BK104;go_wp2
     go_ret
     exact ⟨zz1, (zz2 HB GE104)⟩
def spec_l1Text.f (k : Nat) (a0_0 : ByteArray) (l0_1 : List ByteArray) (a0_2 : Bool) (a0_3 : ByteArray) : Option (ByteArray) := if 2 + a0_0.size ≤ 9223372036854775807 then ((spec_l1Path.f k a0_0 l0_1 a0_2 a0_3).bind fun t108 => (if 2 + a0_0.size + t108.size ≤ 9223372036854775807 then (some (((⟨#[47, 47]⟩ : ByteArray) ++ a0_0) ++ t108)) else (none))) else (none)
theorem spec_l1Text.mono : ∀ a0 a1 a2 a3 k, LeO (spec_l1Text.f k a0 a1 a2 a3) (spec_l1Text.f (k + 1) a0 a1 a2 a3) := by
 intro a0 a1 a2 a3 k;unfold spec_l1Text.f
 repeat' first | (with_reducible first | exact spec_l1Path.mono _ _ _ _ _ | exact LeO.refl _ | exact LeO.none _ | refine LeO.ite ?_ ?_ | refine LeO.bind ?_ (fun _ => ?_)) | exact LeO.none _ | refine LeO.ite ?_ ?_ | refine LeO.bind ?_ (fun _ => ?_)
set_option maxHeartbeats 8000000 in
set_option maxRecDepth 100000 in
theorem spec_l1Text.calls (k : Nat) (a0_0 : ByteArray) (A0_1 : Option Addr) (c0_1 : Nat) (l0_1 : List ByteArray) (a0_2 : Bool) (a0_3 : ByteArray) (r : ByteArray) (w : World) (hr0_1 : Kd.C Kd.string w A0_1 l0_1.length l0_1) (hc0_1 : l0_1.length ≤ c0_1) (h : spec_l1Text.f k a0_0 l0_1 a0_2 a0_3 = some r) :
  Calls Tryz.prog 35 #[.agg #[.string a0_0, .slice A0_1 l0_1.length c0_1, .bool a0_2, .string a0_3]] w fun e w' => e = .returned (.string r) ∧ Below w.heap.size w w' := by
 have hu52 := Tryz.underlying52;have HR0_1 := Aside0.mk hr0_1;have HC0_1 := Aside0.mk hc0_1;clear hr0_1 hc0_1;have HB := Aside0.mk (Below.refl w.heap.size w);have H : (if 2 + a0_0.size ≤ 9223372036854775807 then ((spec_l1Path.f k a0_0 l0_1 a0_2 a0_3).bind fun t108 => (if 2 + a0_0.size + t108.size ≤ 9223372036854775807 then (some (((⟨#[47, 47]⟩ : ByteArray) ++ a0_0) ++ t108)) else (none))) else (none)) = some r := h;clear h;by_cases c2 : 2 + a0_0.size ≤ 9223372036854775807
 ·rw [if_pos c2] at H
  have c2b0 := eq_true c2;have c2b1 : decide (2 + a0_0.size ≤ 9223372036854775807) = true := decide_eq_true c2;try have c2b2 : (9223372036854775807 < 2 + a0_0.size) = False := eq_false (Nat.not_lt.2 c2)
  replace H := bindA H;obtain ⟨t108, A3, H⟩ := H;by_cases c4 : 2 + a0_0.size + t108.size ≤ 9223372036854775807
  ·rw [if_pos c4] at H
   have c4b0 := eq_true c4;have c4b1 : decide (2 + a0_0.size + t108.size ≤ 9223372036854775807) = true := decide_eq_true c4;try have c4b2 : (9223372036854775807 < 2 + a0_0.size + t108.size) = False := eq_false (Nat.not_lt.2 c4)
   obtain rfl := Option.some.inj H;go_enter Tryz.func35, Tryz.ntmps35;try go_wp2_with (first | ((with_reducible refine gate_dst (N := 1) rfl ?_); refine boxE 1 #[.string a0_0, .slice A0_1 l0_1.length c0_1, .bool a0_2, .string a0_3] 52 ?_; intro gb107 hg w5 hbox hb; have BK107 := Aside0.mk (hbox); have GE107 := geB hg (zz0 HB); replace HB := Aside0.mk (below_step (zz0 HB) hb); clear hb hbox hg))
   replace BK107 := Aside0.mk (blk_drew BK107.out);replace HB := Aside0.mk (below_drew1 HB.out);refine start_ (n := 7) (S := fun w' => w'.cell? ⟨gb107, 0, none⟩ = some (.string a0_0) ∧ w'.cell? ⟨gb107, 1, none⟩ = some (.slice A0_1 l0_1.length c0_1) ∧ w'.cell? ⟨gb107, 2, none⟩ = some (.bool a0_2) ∧ w'.cell? ⟨gb107, 3, none⟩ = some (.string a0_3)) (ds := []) #[false, false, false, false, false, false, false] (by kernel_rfl) rfl rfl ⟨(blk_cell BK107.out 0).trans rfl, (blk_cell BK107.out 1).trans rfl, (blk_cell BK107.out 2).trans rfl, (blk_cell BK107.out 3).trans rfl⟩ (fun hHeld => ?_);generalize w5.drew = w6 at BK107 HB hHeld ⊢;refine pureY 0 (some 3) #[true, false, false, false, false, false, false] ?_;refine takeY4 1 (some 4) #[true, true, false, false, false, false, false] hHeld ?_;refine pureY 2 (some 5) #[true, true, true, false, false, false, false] ?_;refine takeY4 3 (some 6) #[true, true, true, true, false, false, false] hHeld ?_;refine one_ (i := 4) (N := some 7) #[true, true, true, true, true, false, false] rfl rfl (by kernel_rfl) (by decide) (fun K hK => ?_);refine goes_ Tryz.func50 (by kernel_rfl) rfl #[.agg #[.string a0_0, .slice A0_1 l0_1.length c0_1, .bool a0_2, .string a0_3]] (by rfl) rfl rfl zz23 ?_;with_reducible refine (spec_l1Path.calls k a0_0 _ _ l0_1 a0_2 a0_3 t108 _ ?side1 ?side2 A3.out).mono ?_
   (case side1 => exact (zz24 HR0_1 HB))
   (case side2 => exact HC0_1.out)
   rintro e w7 ⟨rfl, hb⟩;refine ⟨_, rfl, ?_⟩;replace BK107 := Aside0.mk (blk_below (zz21 BK107) hb);replace HB := Aside0.mk (below_step (zz2 HB GE107) hb);(try clear hb)
   (try clear hb2)
   (try clear hk)
   (try clear hi)
   refine hK.out _ _ ⟨(blk_cell BK107.out 0).trans rfl, (blk_cell BK107.out 1).trans rfl, (blk_cell BK107.out 2).trans rfl, (blk_cell BK107.out 3).trans rfl⟩ (fun hHeld => ?_);clear hK K;refine norm_ (a' := ?_) ?_ ?_;rotate_left
   ·show Act.put _ (some 7) _ = _
    simp only [Act.put, List.setIfInBounds_toArray, List.set_cons_zero, List.set_cons_succ, i64_w, i32_w]
    rfl
   refine pureY 5 (some 8) #[true, true, true, true, true, true, false] ?_;refine pureY 6 (some 2) #[true, true, true, true, true, true, true] ?_;refine done_ (by kernel_rfl) ?_;try go_wp2
   go_ret
   exact ⟨zz1, (zz2 HB GE107)⟩
  ·rw [if_neg c4] at H
   exact absurd H (by simp)
 ·rw [if_neg c2] at H
  exact absurd H (by simp)
def spec_l6In.f (a0 : Int) (a1 : Int) (a2 : Int) : Option (Bool) := if a0 ≥ a1 then (some (decide (a0 ≤ a2))) else (some false)
set_option maxHeartbeats 8000000 in
set_option maxRecDepth 100000 in
theorem spec_l6In.calls (a0 : Int) (a1 : Int) (a2 : Int) (r : Bool) (w : World) (h : spec_l6In.f a0 a1 a2 = some r) :
  Calls Tryz.prog 23 #[.int .i64 a0, .int .i64 a1, .int .i64 a2] w fun e w' => e = .returned (.bool r) ∧ Drawn0 w w' := by
 have H : (if a0 ≥ a1 then (some (decide (a0 ≤ a2))) else (some false)) = some r := h;clear h;by_cases c4 : a0 ≥ a1
 ·rw [if_pos c4] at H
  have c4b0 : decide (a1 ≤ a0) = true := decide_eq_true c4;clear c4;obtain rfl := Option.some.inj H;go_enter Tryz.func23, Tryz.ntmps23;go_wp2
  go_ret
  exact ⟨zz3, zz6⟩
 ·rw [if_neg c4] at H
  have c4b0 : decide (a1 ≤ a0) = false := decide_eq_false c4;clear c4;obtain rfl := Option.some.inj H;go_enter Tryz.func23, Tryz.ntmps23;go_wp2
  go_ret
  exact ⟨zz3, zz6⟩
def spec_l1House.l0 : Nat → ByteArray → Int → Option (Bool)
 | 0, _, _ => none
 | k + 1, x0, x3 => if x3 < (x0.size : Int) then (if 0 ≤ x3 then (if (bt x0 x3) < 97 then (some false) else (if (bt x0 x3) > 122 then (some false) else (spec_l1House.l0 k x0 (wrap64 (x3 + 1))))) else (none)) else ((spec_l6In.f (x0.size : Int) 1 5).bind fun t109 => (some t109))
def spec_l1House.f (k : Nat) (a0 : ByteArray) : Option (Bool) := spec_l1House.l0 k a0 0
theorem spec_l1House.mono_l : ∀ k, (∀ y0 y1, LeO (spec_l1House.l0 k y0 y1) (spec_l1House.l0 (k + 1) y0 y1))
 | 0 => fun _ _ r h => by simp [spec_l1House.l0] at h
 | k + 1 => by
  have ih0 := spec_l1House.mono_l k
  ·intro y0 y1
   unfold spec_l1House.l0
   repeat' first | (with_reducible first | exact ih0 _ _ | exact LeO.refl _ | exact LeO.none _ | refine LeO.ite ?_ ?_ | refine LeO.bind ?_ (fun _ => ?_)) | exact LeO.none _ | refine LeO.ite ?_ ?_ | refine LeO.bind ?_ (fun _ => ?_)
theorem spec_l1House.mono : ∀ a0 k, LeO (spec_l1House.f k a0) (spec_l1House.f (k + 1) a0) := by
 intro a0 k;have ih0 := spec_l1House.mono_l k;unfold spec_l1House.f
 repeat' first | (with_reducible first | exact ih0 _ _ | exact LeO.refl _ | exact LeO.none _ | refine LeO.ite ?_ ?_ | refine LeO.bind ?_ (fun _ => ?_)) | exact LeO.none _ | refine LeO.ite ?_ ?_ | refine LeO.bind ?_ (fun _ => ?_)
set_option maxHeartbeats 8000000 in
set_option maxRecDepth 100000 in
theorem spec_l1House.calls (k : Nat) (a0 : ByteArray) (r : Bool) (w : World) (h : spec_l1House.f k a0 = some r) :
  Calls Tryz.prog 48 #[.string a0] w fun e w' => e = .returned (.bool r) ∧ Drawn0 w w' := by
 have H : (spec_l1House.l0 k a0 0) = some r := h;clear h;have H' := Aside0.mk H;clear H;go_enter Tryz.func48, Tryz.ntmps48;go_wp2
 go_loopg [3] k (fun kq v3 w' => ∃ (x3_1 : Int), v3 = .int .i64 x3_1 ∧ Aside0 (spec_l1House.l0 kq a0 x3_1 = some r) ∧ Aside0 (kq ≤ k) ∧ Drawn0 w w')
 case atStart => exact ⟨(0), zz3, H', ⟨Nat.le_refl _⟩, zz6⟩
 case round =>
  clear H';obtain ⟨x3_1, rfl, HA, HK1, ⟨m1, rfl⟩⟩ := hrel;cases gk with
  | zero => exact absurd HA.out (by simp [spec_l1House.l0])
  | succ k1 =>
   have H := HA.out;clear HA;simp only [spec_l1House.l0] at H
   by_cases c2 : x3_1 < (a0.size : Int)
   ·rw [if_pos c2] at H
    have c2b0 : decide (x3_1 < (a0.size : Int)) = true := decide_eq_true c2;clear c2;by_cases c3 : 0 ≤ x3_1
    ·rw [if_pos c3] at H
     have c3b0 : decide (0 ≤ x3_1) = true := decide_eq_true c3;clear c3;by_cases c5 : (bt a0 x3_1) < 97
     ·rw [if_pos c5] at H
      have c5b0 : decide ((bt a0 x3_1) < 97) = true := decide_eq_true c5;clear c5;obtain rfl := Option.some.inj H;have p4 : 0 ≤ (x3_1 : Int) := ofD;have q4 : x3_1 < (a0.size : Int) := ofD;have hx4 := bt_at a0 x3_1;replace p4 := eq_true p4;replace q4 := eq_true q4;go_wp2
      go_ret
      exact ⟨zz3, zz6⟩
     ·rw [if_neg c5] at H
      have c5b0 : decide ((bt a0 x3_1) < 97) = false := decide_eq_false c5;clear c5;by_cases c7 : (bt a0 x3_1) > 122
      ·rw [if_pos c7] at H
       have c7b0 : decide (122 < (bt a0 x3_1)) = true := decide_eq_true c7;clear c7;obtain rfl := Option.some.inj H;have p4 : 0 ≤ (x3_1 : Int) := ofD;have q4 : x3_1 < (a0.size : Int) := ofD;have hx4 := bt_at a0 x3_1;replace p4 := eq_true p4;replace q4 := eq_true q4;have p6 : 0 ≤ (x3_1 : Int) := ofD;have q6 : x3_1 < (a0.size : Int) := ofD;have hx6 := bt_at a0 x3_1;replace p6 := eq_true p6;replace q6 := eq_true q6;go_wp2
       go_ret
       exact ⟨zz3, zz6⟩
      ·rw [if_neg c7] at H
       have c7b0 : decide (122 < (bt a0 x3_1)) = false := decide_eq_false c7;clear c7;have H' := Aside0.mk H;clear H;have p4 : 0 ≤ (x3_1 : Int) := ofD;have q4 : x3_1 < (a0.size : Int) := ofD;have hx4 := bt_at a0 x3_1;replace p4 := eq_true p4;replace q4 := eq_true q4;have p6 : 0 ≤ (x3_1 : Int) := ofD;have q6 : x3_1 < (a0.size : Int) := ofD;have hx6 := bt_at a0 x3_1;replace p6 := eq_true p6;replace q6 := eq_true q6;go_wp2
       go_roundg k1
       case measure => have := HK1.out; omega
       case rel => exact ⟨(wrap64 (x3_1 + 1)), zz3, H', ⟨(zz5 HK1)⟩, zz6⟩
    ·rw [if_neg c3] at H
     exact absurd H (by simp)
   ·rw [if_neg c2] at H
    have c2b0 : decide (x3_1 < (a0.size : Int)) = false := decide_eq_false c2;clear c2;replace H := bindA H;obtain ⟨t109, A8, H⟩ := H;obtain rfl := Option.some.inj H;go_wp2_with (first | ((with_reducible refine gate_callee (f := 23) rfl ?_); refine gsL (some 22) Tryz.func23 #[.int .i64 (a0.size : Int), .int .i64 1, .int .i64 5] ?_; (with_reducible refine (spec_l6In.calls (a0.size : Int) 1 5 t109 _ A8.out).mono ?_); rintro e w' ⟨rfl, ⟨nd, rfl⟩⟩; refine ⟨_, rfl, ?_⟩))
    go_ret
    exact ⟨zz3, zz6⟩
def spec_l1Norm.f (k : Nat) (a0 : ByteArray) : Option (Bool) := (spec_EscNorm.f k a0).bind fun bt119 => (if bt119.2 = true then (some (bt119.1.toList == a0.toList)) else (some false))
theorem spec_l1Norm.mono : ∀ a0 k, LeO (spec_l1Norm.f k a0) (spec_l1Norm.f (k + 1) a0) := by
 intro a0 k;unfold spec_l1Norm.f
 repeat' first | (with_reducible first | exact spec_EscNorm.mono _ _ | exact LeO.refl _ | exact LeO.none _ | refine LeO.ite ?_ ?_ | refine LeO.bind ?_ (fun _ => ?_)) | exact LeO.none _ | refine LeO.ite ?_ ?_ | refine LeO.bind ?_ (fun _ => ?_)
set_option maxHeartbeats 8000000 in
set_option maxRecDepth 100000 in
theorem spec_l1Norm.calls (k : Nat) (a0 : ByteArray) (r : Bool) (w : World) (h : spec_l1Norm.f k a0 = some r) :
  Calls Tryz.prog 49 #[.string a0] w fun e w' => e = .returned (.bool r) ∧ Below w.heap.size w w' := by
 have HB := Aside0.mk (Below.refl w.heap.size w);have H : ((spec_EscNorm.f k a0).bind fun bt119 => (if bt119.2 = true then (some (bt119.1.toList == a0.toList)) else (some false))) = some r := h;clear h;replace H := bindA H;obtain ⟨⟨t119, t120⟩, A2, H⟩ := H;try dsimp -simprocs only at H
 by_cases c3 : t120 = true
 ·subst c3
  rw [if_pos rfl] at H;obtain rfl := Option.some.inj H;go_enter Tryz.func49, Tryz.ntmps49;go_wp2_with (first | ((with_reducible refine gate_callee (f := 64) rfl ?_); refine gsL (some 7) Tryz.func64 #[.string a0] ?_; (with_reducible refine (spec_EscNorm.calls k a0 t119 true _ A2.out).mono ?_); rintro e w4 ⟨rfl, hb⟩; refine ⟨_, rfl, ?_⟩; replace HB := Aside0.mk (below_step (zz0 HB) hb); (try clear hb)))
  go_ret
  exact ⟨zz1, (zz0 HB)⟩
 ·replace c3 := Bool.eq_false_iff.mpr c3
  subst c3;rw [if_neg (show ¬ (false = true) by decide)] at H;obtain rfl := Option.some.inj H;go_enter Tryz.func49, Tryz.ntmps49;go_wp2_with (first | ((with_reducible refine gate_callee (f := 64) rfl ?_); refine gsL (some 7) Tryz.func64 #[.string a0] ?_; (with_reducible refine (spec_EscNorm.calls k a0 t119 false _ A2.out).mono ?_); rintro e w5 ⟨rfl, hb⟩; refine ⟨_, rfl, ?_⟩; replace HB := Aside0.mk (below_step (zz0 HB) hb); (try clear hb)))
  go_ret
  exact ⟨zz1, (zz0 HB)⟩
mutual
def spec_AddrOk.j0 : Nat → Bool → ByteArray → List ByteArray → Bool → ByteArray → Option (Bool)
 | 0, _, _, _, _, _ => none
 | k + 1, x29, x122000, x122001, x122002, x122003 => if x29 = true then (some false) else (spec_AddrOk.l0 k 0 x122000 x122001 x122002 x122003)
def spec_AddrOk.l0 : Nat → Int → ByteArray → List ByteArray → Bool → ByteArray → Option (Bool)
 | 0, _, _, _, _, _ => none
 | k + 1, x3, x122000, x122001, x122002, x122003 => if x3 < (x122001.length : Int) then (if 0 ≤ x3 then ((spec_l1Norm.f k (rdOf ByteArray.empty x122001 x3)).bind fun t125 => (if t125 = true then (if (rdOf ByteArray.empty x122001 x3).toList = ([] : List UInt8) then (some false) else (if (rdOf ByteArray.empty x122001 x3).toList = ([46] : List UInt8) then (some false) else (if (rdOf ByteArray.empty x122001 x3).toList = ([46, 46] : List UInt8) then (some false) else (spec_AddrOk.l0 k (wrap64 (x3 + 1)) x122000 x122001 x122002 x122003)))) else (some false))) else (none)) else ((spec_l1Text.f k x122000 x122001 x122002 x122003).bind fun t129 => (some (decide ((t129.size : Int) ≤ 60))))
end
def spec_AddrOk.f (k : Nat) (a0_0 : ByteArray) (l0_1 : List ByteArray) (a0_2 : Bool) (a0_3 : ByteArray) : Option (Bool) := (spec_l1House.f k a0_0).bind fun t122 => (if t122 = true then (if (l0_1.length : Int) > 5 then (spec_AddrOk.j0 k true a0_0 l0_1 a0_2 a0_3) else ((spec_l1Norm.f k a0_3).bind fun t123 => (if t123 = true then (if a0_2 = true then (spec_AddrOk.j0 k false a0_0 l0_1 a0_2 a0_3) else (spec_AddrOk.j0 k (a0_3.toList != ([] : List UInt8)) a0_0 l0_1 a0_2 a0_3)) else (spec_AddrOk.j0 k true a0_0 l0_1 a0_2 a0_3)))) else (spec_AddrOk.j0 k true a0_0 l0_1 a0_2 a0_3))
theorem spec_AddrOk.mono_l : ∀ k, (∀ y0 y1 y2 y3 y4, LeO (spec_AddrOk.j0 k y0 y1 y2 y3 y4) (spec_AddrOk.j0 (k + 1) y0 y1 y2 y3 y4)) ∧ (∀ y0 y1 y2 y3 y4, LeO (spec_AddrOk.l0 k y0 y1 y2 y3 y4) (spec_AddrOk.l0 (k + 1) y0 y1 y2 y3 y4))
 | 0 => ⟨fun _ _ _ _ _ r h => by simp [spec_AddrOk.j0] at h, fun _ _ _ _ _ r h => by simp [spec_AddrOk.l0] at h⟩
 | k + 1 => by
  obtain ⟨ih0, ih1⟩ := spec_AddrOk.mono_l k;refine ⟨?_, ?_⟩
  ·intro y0 y1 y2 y3 y4
   unfold spec_AddrOk.j0
   repeat' first | (with_reducible first | exact ih0 _ _ _ _ _ | exact ih1 _ _ _ _ _ | exact spec_l1House.mono _ _ | exact spec_l1Norm.mono _ _ | exact spec_l1Text.mono _ _ _ _ _ | exact LeO.refl _ | exact LeO.none _ | refine LeO.ite ?_ ?_ | refine LeO.bind ?_ (fun _ => ?_)) | exact LeO.none _ | refine LeO.ite ?_ ?_ | refine LeO.bind ?_ (fun _ => ?_)
  ·intro y0 y1 y2 y3 y4
   unfold spec_AddrOk.l0
   repeat' first | (with_reducible first | exact ih0 _ _ _ _ _ | exact ih1 _ _ _ _ _ | exact spec_l1House.mono _ _ | exact spec_l1Norm.mono _ _ | exact spec_l1Text.mono _ _ _ _ _ | exact LeO.refl _ | exact LeO.none _ | refine LeO.ite ?_ ?_ | refine LeO.bind ?_ (fun _ => ?_)) | exact LeO.none _ | refine LeO.ite ?_ ?_ | refine LeO.bind ?_ (fun _ => ?_)
set_option maxHeartbeats 8000000 in
set_option maxRecDepth 100000 in
theorem spec_AddrOk.calls (k : Nat) (a0_0 : ByteArray) (A0_1 : Option Addr) (c0_1 : Nat) (l0_1 : List ByteArray) (a0_2 : Bool) (a0_3 : ByteArray) (r : Bool) (w : World) (hr0_1 : Kd.C Kd.string w A0_1 l0_1.length l0_1) (hc0_1 : l0_1.length ≤ c0_1) (h : spec_AddrOk.f k a0_0 l0_1 a0_2 a0_3 = some r) :
  Calls Tryz.prog 34 #[.agg #[.string a0_0, .slice A0_1 l0_1.length c0_1, .bool a0_2, .string a0_3]] w fun e w' => e = .returned (.bool r) ∧ Below w.heap.size w w' := by
 have hu52 := Tryz.underlying52;have HR0_1 := Aside0.mk hr0_1;have HC0_1 := Aside0.mk hc0_1;clear hr0_1 hc0_1;have HB := Aside0.mk (Below.refl w.heap.size w);have H : ((spec_l1House.f k a0_0).bind fun t122 => (if t122 = true then (if (l0_1.length : Int) > 5 then (spec_AddrOk.j0 k true a0_0 l0_1 a0_2 a0_3) else ((spec_l1Norm.f k a0_3).bind fun t123 => (if t123 = true then (if a0_2 = true then (spec_AddrOk.j0 k false a0_0 l0_1 a0_2 a0_3) else (spec_AddrOk.j0 k (a0_3.toList != ([] : List UInt8)) a0_0 l0_1 a0_2 a0_3)) else (spec_AddrOk.j0 k true a0_0 l0_1 a0_2 a0_3)))) else (spec_AddrOk.j0 k true a0_0 l0_1 a0_2 a0_3))) = some r := h;clear h;have HC2 := Aside0.mk H;clear H;go_enter Tryz.func34, Tryz.ntmps34;go_upto_region 1 with (first | ((with_reducible refine gate_dst (N := 1) rfl ?_); (try (refine gate_guard (by rfl) ?_; dsimp only)); refine boxE 1 #[.string a0_0, .slice A0_1 l0_1.length c0_1, .bool a0_2, .string a0_3] 52 ?_; intro gb121 hg w3 hbox hb; have BK121 := Aside0.mk (hbox); have GE121 := geB hg (zz0 HB); replace HB := Aside0.mk (below_step (zz0 HB) hb); clear hb hbox hg))
 (try simp only [Act.put, List.setIfInBounds_toArray, List.set_cons_zero, List.set_cons_succ])
 go_cut [29] (fun v29 wc => ∃ (kq : Nat) (x29_1 : Bool), v29 = .bool x29_1 ∧ Aside0 (spec_AddrOk.j0 kq x29_1 a0_0 l0_1 a0_2 a0_3 = some r) ∧ Aside0 (kq ≤ k) ∧ Aside0 (wc.heap[gb121]? = some (.cells #[.string a0_0, (.slice A0_1 l0_1.length c0_1), .bool a0_2, .string a0_3] 52 (0, 0))) ∧ Aside0 (Below w.heap.size w wc))
 case first =>
  have H := HC2.out;clear HC2;replace H := bindA H;obtain ⟨t122, A4, H⟩ := H;by_cases c5 : t122 = true
  ·subst c5
   rw [if_pos rfl] at H;by_cases c6 : (l0_1.length : Int) > 5
   ·rw [if_pos c6] at H
    have c6b0 : decide (5 < (l0_1.length : Int)) = true := decide_eq_true c6;have c6b1 : decide (5 < l0_1.length) = true := decide_eq_true (by omega);clear c6;(first | rw [c6b0] | (simp only [i64_w, i32_w]; rw [c6b0]) | skip)
    have H' := Aside0.mk H;clear H;obtain ⟨_, _, _, _, _, _, _, _⟩ := cf4 BK121;go_wp2_with (first | ((with_reducible refine gate_callee (f := 48) rfl ?_); refine gsL (some 6) Tryz.func48 #[.string a0_0] ?_; (with_reducible refine (spec_l1House.calls k a0_0 true _ A4.out).mono ?_); rintro e w' ⟨rfl, ⟨nd, rfl⟩⟩; refine ⟨_, rfl, ?_⟩))
    go_meet
    case rel => exact ⟨_, (true), zz3, H', ⟨zz9⟩, ⟨(zz21 BK121)⟩, ⟨(zz2 HB GE121)⟩⟩
   ·rw [if_neg c6] at H
    have c6b0 : decide (5 < (l0_1.length : Int)) = false := decide_eq_false c6;have c6b1 : decide (5 < l0_1.length) = false := decide_eq_false (by omega);clear c6;(first | rw [c6b0] | (simp only [i64_w, i32_w]; rw [c6b0]) | skip)
    replace H := bindA H;obtain ⟨t123, A8, H⟩ := H;by_cases c9 : t123 = true
    ·subst c9
     rw [if_pos rfl] at H;by_cases c10 : a0_2 = true
     ·subst c10
      rw [if_pos rfl] at H;have H' := Aside0.mk H;clear H;obtain ⟨_, _, _, _, _, _, _, _⟩ := cf4 BK121;go_wp2_with (first | ((with_reducible refine gate_callee (f := 48) rfl ?_); refine gsL (some 6) Tryz.func48 #[.string a0_0] ?_; (with_reducible refine (spec_l1House.calls k a0_0 true _ A4.out).mono ?_); rintro e w' ⟨rfl, ⟨nd, rfl⟩⟩; refine ⟨_, rfl, ?_⟩) | (go_at_call 49; (with_reducible refine (spec_l1Norm.calls k a0_3 true _ A8.out).mono ?_); rintro e w12 ⟨rfl, hb⟩; replace BK121 := Aside0.mk (blk_below (zz21 BK121) hb); replace HB := Aside0.mk (below_step (zz2 HB GE121) hb); (try clear hb); obtain ⟨_, _, _, _, _, _, _, _⟩ := cf4 BK121))
      go_meet
      case rel => exact ⟨_, (false), zz3, H', ⟨zz9⟩, ⟨(zz21 BK121)⟩, ⟨(zz2 HB GE121)⟩⟩
     ·replace c10 := Bool.eq_false_iff.mpr c10
      subst c10;rw [if_neg (show ¬ (false = true) by decide)] at H;have H' := Aside0.mk H;clear H;obtain ⟨_, _, _, _, _, _, _, _⟩ := cf4 BK121;go_wp2_with (first | ((with_reducible refine gate_callee (f := 48) rfl ?_); refine gsL (some 6) Tryz.func48 #[.string a0_0] ?_; (with_reducible refine (spec_l1House.calls k a0_0 true _ A4.out).mono ?_); rintro e w' ⟨rfl, ⟨nd, rfl⟩⟩; refine ⟨_, rfl, ?_⟩) | (go_at_call 49; (with_reducible refine (spec_l1Norm.calls k a0_3 true _ A8.out).mono ?_); rintro e w15 ⟨rfl, hb⟩; replace BK121 := Aside0.mk (blk_below (zz21 BK121) hb); replace HB := Aside0.mk (below_step (zz2 HB GE121) hb); (try clear hb); obtain ⟨_, _, _, _, _, _, _, _⟩ := cf4 BK121))
      go_meet
      case rel => exact ⟨_, ((a0_3.toList != ([] : List UInt8))), zz3, H', ⟨zz9⟩, ⟨(zz21 BK121)⟩, ⟨(zz2 HB GE121)⟩⟩
    ·replace c9 := Bool.eq_false_iff.mpr c9
     subst c9;rw [if_neg (show ¬ (false = true) by decide)] at H;have H' := Aside0.mk H;clear H;obtain ⟨_, _, _, _, _, _, _, _⟩ := cf4 BK121;go_wp2_with (first | ((with_reducible refine gate_callee (f := 48) rfl ?_); refine gsL (some 6) Tryz.func48 #[.string a0_0] ?_; (with_reducible refine (spec_l1House.calls k a0_0 true _ A4.out).mono ?_); rintro e w' ⟨rfl, ⟨nd, rfl⟩⟩; refine ⟨_, rfl, ?_⟩) | (go_at_call 49; (with_reducible refine (spec_l1Norm.calls k a0_3 false _ A8.out).mono ?_); rintro e w18 ⟨rfl, hb⟩; replace BK121 := Aside0.mk (blk_below (zz21 BK121) hb); replace HB := Aside0.mk (below_step (zz2 HB GE121) hb); (try clear hb)))
     go_meet
     case rel => exact ⟨_, (true), zz3, H', ⟨zz9⟩, ⟨(zz21 BK121)⟩, ⟨(zz2 HB GE121)⟩⟩
  ·replace c5 := Bool.eq_false_iff.mpr c5
   subst c5;rw [if_neg (show ¬ (false = true) by decide)] at H;have H' := Aside0.mk H;clear H;obtain ⟨_, _, _, _, _, _, _, _⟩ := cf4 BK121;go_wp2_with (first | ((with_reducible refine gate_callee (f := 48) rfl ?_); refine gsL (some 6) Tryz.func48 #[.string a0_0] ?_; (with_reducible refine (spec_l1House.calls k a0_0 false _ A4.out).mono ?_); rintro e w' ⟨rfl, ⟨nd, rfl⟩⟩; refine ⟨_, rfl, ?_⟩))
   go_meet
   case rel => exact ⟨_, (true), zz3, H', ⟨zz9⟩, ⟨(zz21 BK121)⟩, ⟨(zz2 HB GE121)⟩⟩
 case rest =>
  clear HC2;obtain ⟨kq, x29_1, rfl, HA, HJ1, BK121, HB⟩ := hcut;cases kq with
  | zero => exact absurd HA.out (by simp [spec_AddrOk.j0])
  | succ kj1 =>
   have H := HA.out;clear HA;simp only [spec_AddrOk.j0] at H
   by_cases c20 : x29_1 = true
   ·subst c20
    rw [if_pos rfl] at H;obtain rfl := Option.some.inj H;go_wp2
    go_ret
    exact ⟨zz1, (zz2 HB GE121)⟩
   ·replace c20 := Bool.eq_false_iff.mpr c20
    subst c20;rw [if_neg (show ¬ (false = true) by decide)] at H;have H' := Aside0.mk H;clear H;go_wp2
    go_loopg [3] kj1 (fun kq v3 w' => ∃ (x3_2 : Int), v3 = .int .i64 x3_2 ∧ Aside0 (spec_AddrOk.l0 kq x3_2 a0_0 l0_1 a0_2 a0_3 = some r) ∧ Aside0 (kq ≤ kj1) ∧ Aside0 (w'.heap[gb121]? = some (.cells #[.string a0_0, (.slice A0_1 l0_1.length c0_1), .bool a0_2, .string a0_3] 52 (0, 0))) ∧ Aside0 (Below w.heap.size w w'))
    case atStart => exact ⟨(0), zz3, H', ⟨Nat.le_refl _⟩, ⟨(zz21 BK121)⟩, ⟨(zz2 HB GE121)⟩⟩
    case round =>
     clear H';obtain ⟨x3_2, rfl, HA, HK2, BK121, HB⟩ := hrel;cases gk with
     | zero => exact absurd HA.out (by simp [spec_AddrOk.l0])
     | succ k2 =>
      have H := HA.out;clear HA;simp only [spec_AddrOk.l0] at H
      by_cases c21 : x3_2 < (l0_1.length : Int)
      ·rw [if_pos c21] at H
       have c21b0 : decide (x3_2 < (l0_1.length : Int)) = true := decide_eq_true c21;clear c21;by_cases c22 : 0 ≤ x3_2
       ·rw [if_pos c22] at H
        have c22b0 : decide (0 ≤ x3_2) = true := decide_eq_true c22;clear c22;replace H := bindA H;obtain ⟨t125, A23, H⟩ := H;by_cases c24 : t125 = true
        ·subst c24
         rw [if_pos rfl] at H;by_cases c25 : (rdOf ByteArray.empty l0_1 x3_2).toList = ([] : List UInt8)
         ·rw [if_pos c25] at H
          have c25b0 : ((rdOf ByteArray.empty l0_1 x3_2).toList == ([] : List UInt8)) = true := beq_iff_eq.mpr c25;have c25b1 : ((rdOf ByteArray.empty l0_1 x3_2).toList != ([] : List UInt8)) = false := bne_eq_false_iff_eq.mpr c25;clear c25;obtain rfl := Option.some.inj H;obtain ⟨_, _, _, _, _, _, _, _⟩ := cf4 BK121;have p124 : 0 ≤ (x3_2 : Int) := ofD;have q124 : x3_2 < (l0_1.length : Int) := ofD;obtain ⟨ad124, e124, hx124_0⟩ := Kd.at_string HR0_1.out x3_2 p124 q124;cases e124
          replace hx124_0 := cbl HB hx124_0;replace p124 := eq_true p124;replace q124 := eq_true q124;go_wp2_with (first | ((with_reducible refine gate_callee (f := 49) rfl ?_); refine gsL (some 42) Tryz.func49 #[.string (rdOf ByteArray.empty l0_1 x3_2)] ?_; (with_reducible refine (spec_l1Norm.calls k2 (rdOf ByteArray.empty l0_1 x3_2) true _ A23.out).mono ?_); rintro e w27 ⟨rfl, hb⟩; refine ⟨_, rfl, ?_⟩; replace BK121 := Aside0.mk (blk_below (zz21 BK121) hb); replace HB := Aside0.mk (below_step (zz2 HB GE121) hb); (try clear hb); obtain ⟨_, _, _, _, _, _, _, _⟩ := cf4 BK121; have p126 : 0 ≤ (x3_2 : Int) := ofD; have q126 : x3_2 < (l0_1.length : Int) := ofD; obtain ⟨ad126, e126, hx126_0⟩ := Kd.at_string HR0_1.out x3_2 p126 q126; obtain rfl : ad124 = ad126 := (by injection e126); replace hx126_0 := cbl HB hx126_0; replace p126 := eq_true p126; replace q126 := eq_true q126))
          go_ret
          exact ⟨zz1, (zz2 HB GE121)⟩
         ·rw [if_neg c25] at H
          have c25b0 : ((rdOf ByteArray.empty l0_1 x3_2).toList == ([] : List UInt8)) = false := beq_eq_false_iff_ne.mpr c25;have c25b1 : ((rdOf ByteArray.empty l0_1 x3_2).toList != ([] : List UInt8)) = true := bne_iff_ne.mpr c25;by_cases c29 : (rdOf ByteArray.empty l0_1 x3_2).toList = ([46] : List UInt8)
          ·rw [if_pos c29] at H
           have c29b0 : ((rdOf ByteArray.empty l0_1 x3_2).toList == ([46] : List UInt8)) = true := beq_iff_eq.mpr c29;have c29b1 : ((rdOf ByteArray.empty l0_1 x3_2).toList != ([46] : List UInt8)) = false := bne_eq_false_iff_eq.mpr c29;clear c29;obtain rfl := Option.some.inj H;obtain ⟨_, _, _, _, _, _, _, _⟩ := cf4 BK121;have p124 : 0 ≤ (x3_2 : Int) := ofD;have q124 : x3_2 < (l0_1.length : Int) := ofD;obtain ⟨ad124, e124, hx124_0⟩ := Kd.at_string HR0_1.out x3_2 p124 q124;cases e124
           replace hx124_0 := cbl HB hx124_0;replace p124 := eq_true p124;replace q124 := eq_true q124;go_wp2_with (first | ((with_reducible refine gate_callee (f := 49) rfl ?_); refine gsL (some 42) Tryz.func49 #[.string (rdOf ByteArray.empty l0_1 x3_2)] ?_; (with_reducible refine (spec_l1Norm.calls k2 (rdOf ByteArray.empty l0_1 x3_2) true _ A23.out).mono ?_); rintro e w31 ⟨rfl, hb⟩; refine ⟨_, rfl, ?_⟩; replace BK121 := Aside0.mk (blk_below (zz21 BK121) hb); replace HB := Aside0.mk (below_step (zz2 HB GE121) hb); (try clear hb); obtain ⟨_, _, _, _, _, _, _, _⟩ := cf4 BK121; have p126 : 0 ≤ (x3_2 : Int) := ofD; have q126 : x3_2 < (l0_1.length : Int) := ofD; obtain ⟨ad126, e126, hx126_0⟩ := Kd.at_string HR0_1.out x3_2 p126 q126; obtain rfl : ad124 = ad126 := (by injection e126); replace hx126_0 := cbl HB hx126_0; replace p126 := eq_true p126; replace q126 := eq_true q126; have p127 : 0 ≤ (x3_2 : Int) := ofD; have q127 : x3_2 < (l0_1.length : Int) := ofD; obtain ⟨ad127, e127, hx127_0⟩ := Kd.at_string HR0_1.out x3_2 p127 q127; obtain rfl : ad124 = ad127 := (by injection e127); replace hx127_0 := cbl HB hx127_0; replace p127 := eq_true p127; replace q127 := eq_true q127))
           go_ret
           exact ⟨zz1, (zz2 HB GE121)⟩
          ·rw [if_neg c29] at H
           have c29b0 : ((rdOf ByteArray.empty l0_1 x3_2).toList == ([46] : List UInt8)) = false := beq_eq_false_iff_ne.mpr c29;have c29b1 : ((rdOf ByteArray.empty l0_1 x3_2).toList != ([46] : List UInt8)) = true := bne_iff_ne.mpr c29;by_cases c33 : (rdOf ByteArray.empty l0_1 x3_2).toList = ([46, 46] : List UInt8)
           ·rw [if_pos c33] at H
            have c33b0 : ((rdOf ByteArray.empty l0_1 x3_2).toList == ([46, 46] : List UInt8)) = true := beq_iff_eq.mpr c33;have c33b1 : ((rdOf ByteArray.empty l0_1 x3_2).toList != ([46, 46] : List UInt8)) = false := bne_eq_false_iff_eq.mpr c33;clear c33;obtain rfl := Option.some.inj H;obtain ⟨_, _, _, _, _, _, _, _⟩ := cf4 BK121;have p124 : 0 ≤ (x3_2 : Int) := ofD;have q124 : x3_2 < (l0_1.length : Int) := ofD;obtain ⟨ad124, e124, hx124_0⟩ := Kd.at_string HR0_1.out x3_2 p124 q124;cases e124
            replace hx124_0 := cbl HB hx124_0;replace p124 := eq_true p124;replace q124 := eq_true q124;go_wp2_with (first | ((with_reducible refine gate_callee (f := 49) rfl ?_); refine gsL (some 42) Tryz.func49 #[.string (rdOf ByteArray.empty l0_1 x3_2)] ?_; (with_reducible refine (spec_l1Norm.calls k2 (rdOf ByteArray.empty l0_1 x3_2) true _ A23.out).mono ?_); rintro e w35 ⟨rfl, hb⟩; refine ⟨_, rfl, ?_⟩; replace BK121 := Aside0.mk (blk_below (zz21 BK121) hb); replace HB := Aside0.mk (below_step (zz2 HB GE121) hb); (try clear hb); obtain ⟨_, _, _, _, _, _, _, _⟩ := cf4 BK121; have p126 : 0 ≤ (x3_2 : Int) := ofD; have q126 : x3_2 < (l0_1.length : Int) := ofD; obtain ⟨ad126, e126, hx126_0⟩ := Kd.at_string HR0_1.out x3_2 p126 q126; obtain rfl : ad124 = ad126 := (by injection e126); replace hx126_0 := cbl HB hx126_0; replace p126 := eq_true p126; replace q126 := eq_true q126; have p127 : 0 ≤ (x3_2 : Int) := ofD; have q127 : x3_2 < (l0_1.length : Int) := ofD; obtain ⟨ad127, e127, hx127_0⟩ := Kd.at_string HR0_1.out x3_2 p127 q127; obtain rfl : ad124 = ad127 := (by injection e127); replace hx127_0 := cbl HB hx127_0; replace p127 := eq_true p127; replace q127 := eq_true q127; have p128 : 0 ≤ (x3_2 : Int) := ofD; have q128 : x3_2 < (l0_1.length : Int) := ofD; obtain ⟨ad128, e128, hx128_0⟩ := Kd.at_string HR0_1.out x3_2 p128 q128; obtain rfl : ad124 = ad128 := (by injection e128); replace hx128_0 := cbl HB hx128_0; replace p128 := eq_true p128; replace q128 := eq_true q128))
            go_ret
            exact ⟨zz1, (zz2 HB GE121)⟩
           ·rw [if_neg c33] at H
            have c33b0 : ((rdOf ByteArray.empty l0_1 x3_2).toList == ([46, 46] : List UInt8)) = false := beq_eq_false_iff_ne.mpr c33;have c33b1 : ((rdOf ByteArray.empty l0_1 x3_2).toList != ([46, 46] : List UInt8)) = true := bne_iff_ne.mpr c33;have H' := Aside0.mk H;clear H;obtain ⟨_, _, _, _, _, _, _, _⟩ := cf4 BK121;have p124 : 0 ≤ (x3_2 : Int) := ofD;have q124 : x3_2 < (l0_1.length : Int) := ofD;obtain ⟨ad124, e124, hx124_0⟩ := Kd.at_string HR0_1.out x3_2 p124 q124;cases e124
            replace hx124_0 := cbl HB hx124_0;replace p124 := eq_true p124;replace q124 := eq_true q124;go_wp2_with (first | ((with_reducible refine gate_callee (f := 49) rfl ?_); refine gsL (some 42) Tryz.func49 #[.string (rdOf ByteArray.empty l0_1 x3_2)] ?_; (with_reducible refine (spec_l1Norm.calls k2 (rdOf ByteArray.empty l0_1 x3_2) true _ A23.out).mono ?_); rintro e w38 ⟨rfl, hb⟩; refine ⟨_, rfl, ?_⟩; replace BK121 := Aside0.mk (blk_below (zz21 BK121) hb); replace HB := Aside0.mk (below_step (zz2 HB GE121) hb); (try clear hb); obtain ⟨_, _, _, _, _, _, _, _⟩ := cf4 BK121; have p126 : 0 ≤ (x3_2 : Int) := ofD; have q126 : x3_2 < (l0_1.length : Int) := ofD; obtain ⟨ad126, e126, hx126_0⟩ := Kd.at_string HR0_1.out x3_2 p126 q126; obtain rfl : ad124 = ad126 := (by injection e126); replace hx126_0 := cbl HB hx126_0; replace p126 := eq_true p126; replace q126 := eq_true q126; have p127 : 0 ≤ (x3_2 : Int) := ofD; have q127 : x3_2 < (l0_1.length : Int) := ofD; obtain ⟨ad127, e127, hx127_0⟩ := Kd.at_string HR0_1.out x3_2 p127 q127; obtain rfl : ad124 = ad127 := (by injection e127); replace hx127_0 := cbl HB hx127_0; replace p127 := eq_true p127; replace q127 := eq_true q127; have p128 : 0 ≤ (x3_2 : Int) := ofD; have q128 : x3_2 < (l0_1.length : Int) := ofD; obtain ⟨ad128, e128, hx128_0⟩ := Kd.at_string HR0_1.out x3_2 p128 q128; obtain rfl : ad124 = ad128 := (by injection e128); replace hx128_0 := cbl HB hx128_0; replace p128 := eq_true p128; replace q128 := eq_true q128))
            go_roundg k2
            case measure => have := HJ1.out; have := HK2.out; omega
            case rel => exact ⟨(wrap64 (x3_2 + 1)), zz3, H', ⟨(zz20 HJ1 HK2)⟩, ⟨(zz21 BK121)⟩, ⟨(zz2 HB GE121)⟩⟩
        ·replace c24 := Bool.eq_false_iff.mpr c24
         subst c24;rw [if_neg (show ¬ (false = true) by decide)] at H;obtain rfl := Option.some.inj H;obtain ⟨_, _, _, _, _, _, _, _⟩ := cf4 BK121;have p124 : 0 ≤ (x3_2 : Int) := ofD;have q124 : x3_2 < (l0_1.length : Int) := ofD;obtain ⟨ad124, e124, hx124_0⟩ := Kd.at_string HR0_1.out x3_2 p124 q124;cases e124
         replace hx124_0 := cbl HB hx124_0;replace p124 := eq_true p124;replace q124 := eq_true q124;go_wp2_with (first | ((with_reducible refine gate_callee (f := 49) rfl ?_); refine gsL (some 42) Tryz.func49 #[.string (rdOf ByteArray.empty l0_1 x3_2)] ?_; (with_reducible refine (spec_l1Norm.calls k2 (rdOf ByteArray.empty l0_1 x3_2) false _ A23.out).mono ?_); rintro e w41 ⟨rfl, hb⟩; refine ⟨_, rfl, ?_⟩; replace BK121 := Aside0.mk (blk_below (zz21 BK121) hb); replace HB := Aside0.mk (below_step (zz2 HB GE121) hb); (try clear hb)))
         go_ret
         exact ⟨zz1, (zz2 HB GE121)⟩
       ·rw [if_neg c22] at H
        exact absurd H (by simp)
      ·rw [if_neg c21] at H
       have c21b0 : decide (x3_2 < (l0_1.length : Int)) = false := decide_eq_false c21;clear c21;replace H := bindA H;obtain ⟨t129, A42, H⟩ := H;obtain rfl := Option.some.inj H;obtain ⟨_, _, _, _, _, _, _, _⟩ := cf4 BK121;go_wp2_with (first | ((with_reducible refine gate_callee (f := 35) rfl ?_); refine gsL (some 69) Tryz.func35 #[.agg #[.string a0_0, .slice A0_1 l0_1.length c0_1, .bool a0_2, .string a0_3]] ?_; (with_reducible refine (spec_l1Text.calls k2 a0_0 _ _ l0_1 a0_2 a0_3 t129 _ ?side1 ?side2 A42.out).mono ?_); (case side1 => exact (zz24 HR0_1 HB)); (case side2 => exact HC0_1.out); rintro e w44 ⟨rfl, hb⟩; refine ⟨_, rfl, ?_⟩; replace BK121 := Aside0.mk (blk_below (zz21 BK121) hb); replace HB := Aside0.mk (below_step (zz2 HB GE121) hb); (try clear hb)))
       go_ret
       exact ⟨zz1, (zz2 HB GE121)⟩
def spec_l1Split.l0 : Nat → Int → List ByteArray → ByteArray → Bool → Option (List ByteArray)
 | 0, _, _, _, _ => none
 | k + 1, x1, x5, x6, x7 => if x7 = true then ((spec_l1Cut.f k x6 x1).bind fun bt133 => (if x5.length < 8796093022208 then (spec_l1Split.l0 k x1 (x5 ++ [bt133.1]) bt133.2.1 bt133.2.2) else (none))) else (some x5)
def spec_l1Split.f (k : Nat) (a0 : ByteArray) (a1 : Int) : Option (List ByteArray) := spec_l1Split.l0 k a1 (([] : List ByteArray)) a0 true
set_option maxHeartbeats 8000000 in
set_option maxRecDepth 100000 in
theorem spec_l1Split.calls (k : Nat) (a0 : ByteArray) (a1 : Int) (r : List ByteArray) (w : World) (h : spec_l1Split.f k a0 a1 = some r) :
  Calls Tryz.prog 63 #[.string a0, .int .u8 a1] w fun e w' => ∃ v0_ : Value, e = .returned (v0_) ∧ Kd.R Kd.string 9 w' w.heap.size (fun _ => True) v0_ r ∧ Below w.heap.size w w' := by
 have HB := Aside0.mk (Below.refl w.heap.size w);have H : (spec_l1Split.l0 k a1 (([] : List ByteArray)) a0 true) = some r := h;clear h;obtain ⟨y130, Ny130⟩ := toY (([] : List ByteArray));(first | with_reducible replace H := bindZ Ny130 H | rw [← Ny130.out] at H | skip)
 have H' := Aside0.mk H;clear H;go_enter Tryz.func63, Tryz.ntmps63;go_wp2_with (first | ((with_reducible refine gate_dst (N := 9) rfl ?_); refine Kd.R_lit Kd.string _ 9 ?hg (N := 9) ?hd (xs := ([] : List ByteArray)) (inner := []) (ok := fun _ => True) (okp := fun _ => True) ?hr ?hp (fun _ hk => hk) trivial (Below.refl _ _) (Nat.le_refl _) (by simp) ?_; (case hd => rfl); (case hg => rfl); (case hr => exact zz19); (case hp => exact (Reps.none _ _)); intro v131 w3 ho4 hb hg_ hnew_; clear hg_ hnew_; (first | rw [← Ny130.out] at ho4 | (simp only [Int.reduceToNat] at ho4; rw [← Ny130.out] at ho4)); have HO132 := Aside0.mk (Kd.R_lower ho4 (below_size (zz0 HB))); replace HB := Aside0.mk (below_step (zz0 HB) hb); clear hb ho4))
 go_loopg [5, 6, 7] k (fun kq v5 v6 v7 w' => ∃ (x5_1 : List ByteArray) (x6_1 : ByteArray) (x7_1 : Bool), v6 = .string x6_1 ∧ v7 = .bool x7_1 ∧ Aside0 (spec_l1Split.l0 kq a1 x5_1 x6_1 x7_1 = some r) ∧ Aside0 (kq ≤ k) ∧ Aside0 (Kd.R Kd.string 9 w' w.heap.size (fun _ => True) v5 x5_1) ∧ Aside0 (Below w.heap.size w w'))
 case atStart => exact ⟨(y130), (a0), (true), zz3, zz3, H', ⟨Nat.le_refl _⟩, ⟨(zz28 HO132)⟩, ⟨(zz0 HB)⟩⟩
 case round =>
  clear H';obtain ⟨x5_1, x6_1, x7_1, rfl, rfl, HA, HK1, HO_5, HB⟩ := hrel;cases gk with
  | zero => exact absurd HA.out (by simp [spec_l1Split.l0])
  | succ k1 =>
   have H := HA.out;clear HA;simp only [spec_l1Split.l0] at H
   by_cases c5 : x7_1 = true
   ·subst c5
    rw [if_pos rfl] at H;replace H := bindA H;obtain ⟨⟨t133, t134, t135⟩, A6, H⟩ := H;try dsimp -simprocs only at H
    by_cases c7 : x5_1.length < 8796093022208
    ·rw [if_pos c7] at H
     have LMc7 := Aside0.mk c7;clear c7;obtain ⟨y136, Ny136⟩ := toY (x5_1 ++ [t133]);(first | with_reducible replace H := bindZ Ny136 H | rw [← Ny136.out] at H | skip)
     have H' := Aside0.mk H;clear H;go_wp2_with (first | ((with_reducible refine gate_callee (f := 32) rfl ?_); refine gsL (some 15) Tryz.func32 #[.string x6_1, .int .u8 a1] ?_; (with_reducible refine (spec_l1Cut.calls k1 x6_1 a1 t133 t134 t135 _ A6.out).mono ?_); rintro e w' ⟨rfl, ⟨nd, rfl⟩⟩; refine ⟨_, rfl, ?_⟩) | ((with_reducible refine gate_builtin (b := .append) (xs := #[.tmp 19, .tmp 21]) rfl ?_); at_builtin; refine Kd.R_append Kd.string (w0 := w) w.heap.size rfl (.tmp 19) (.tmp 21) 24 9 (.string ⟨#[]⟩) 16 rfl Tryz.underlying24 info9 rfl (by decide) (by omega) u5 x5_1 t133 [.string t133] (fun _ => True) (fun _ => False) rfl rfl ?aP (fun _ hk => hk.elim) ?aF ?aO ?aB ?aS ?aL ?_; (case aP => exact rfl); (case aB => exact (zz0 HB)); (case aF => exact (fun _ _ => trivial)); (case aO => exact (zz28 HO_5)); (case aS => exact (below_size (zz0 HB))); (case aL => exact (zz5 LMc7)); intro v137 w8 ho hb hg hat; rw [← Ny136.out] at ho; replace HB := Aside0.mk (hb); have HO138 := Aside0.mk (ho); clear HO_5; clear ho hb hg hat))
     go_roundg k1
     case measure => have := HK1.out; omega
     case rel => exact ⟨(y136), (t134), (t135), zz3, zz3, H', ⟨(zz5 HK1)⟩, ⟨(zz28 HO138)⟩, ⟨(zz0 HB)⟩⟩
    ·rw [if_neg c7] at H
     exact absurd H (by simp)
   ·replace c5 := Bool.eq_false_iff.mpr c5
    subst c5;rw [if_neg (show ¬ (false = true) by decide)] at H;obtain rfl := Option.some.inj H;go_wp2
    go_ret
    exact ⟨_, zz1, (zz28 HO_5), (zz0 HB)⟩
mutual
def spec_PathClean.l0 : Nat → List ByteArray → List ByteArray → Int → Option (List ByteArray)
 | 0, _, _, _ => none
 | k + 1, x0, x3, x4 => if x4 < (x0.length : Int) then (if 0 ≤ x4 then (if (rdOf ByteArray.empty x0 x4).toList = ([] : List UInt8) then (spec_PathClean.j1 k x0 x3 x4 true) else (spec_PathClean.j1 k x0 x3 x4 ((rdOf ByteArray.empty x0 x4).toList == ([46] : List UInt8)))) else (none)) else (some x3)
def spec_PathClean.j1 : Nat → List ByteArray → List ByteArray → Int → Bool → Option (List ByteArray)
 | 0, _, _, _, _ => none
 | k + 1, x0, x3, x4, x19 => if x19 = true then (spec_PathClean.l0 k x0 x3 (wrap64 (x4 + 1))) else (if 0 ≤ x4 then (if x4 < (x0.length : Int) then (if (rdOf ByteArray.empty x0 x4).toList = ([46, 46] : List UInt8) then (if 0 ≤ (mx (wrap64 ((x3.length : Int) - 1)) 0) then (if (mx (wrap64 ((x3.length : Int) - 1)) 0) ≤ (x3.length : Int) then (spec_PathClean.l0 k x0 (x3.take ((mx (wrap64 ((x3.length : Int) - 1)) 0) : Int).toNat) (wrap64 (x4 + 1))) else (none)) else (none)) else (if x3.length < 8796093022208 then (spec_PathClean.l0 k x0 (x3 ++ [rdOf ByteArray.empty x0 x4]) (wrap64 (x4 + 1))) else (none))) else (none)) else (none))
end
def spec_PathClean.f (k : Nat) (l0 : List ByteArray) : Option (List ByteArray) := spec_PathClean.l0 k l0 (([] : List ByteArray)) 0
set_option maxHeartbeats 8000000 in
set_option maxRecDepth 100000 in
theorem spec_PathClean.calls (k : Nat) (A0 : Option Addr) (c0 : Nat) (l0 : List ByteArray) (r : List ByteArray) (w : World) (hr0 : Kd.C Kd.string w A0 l0.length l0) (hc0 : l0.length ≤ c0) (h : spec_PathClean.f k l0 = some r) :
  Calls Tryz.prog 65 #[.slice A0 l0.length c0] w fun e w' => ∃ v0_ : Value, e = .returned (v0_) ∧ Kd.R Kd.string 9 w' w.heap.size (fun _ => True) v0_ r ∧ Below w.heap.size w w' := by
 have HR0 := Aside0.mk hr0;have HC0 := Aside0.mk hc0;clear hr0 hc0;have HB := Aside0.mk (Below.refl w.heap.size w);have H : (spec_PathClean.l0 k l0 (([] : List ByteArray)) 0) = some r := h;clear h;obtain ⟨y139, Ny139⟩ := toY (([] : List ByteArray));(first | with_reducible replace H := bindZ Ny139 H | rw [← Ny139.out] at H | skip)
 have H' := Aside0.mk H;clear H;go_enter Tryz.func65, Tryz.ntmps65;go_wp2_with (first | ((with_reducible refine gate_dst (N := 5) rfl ?_); refine Kd.R_lit Kd.string _ 9 ?hg (N := 5) ?hd (xs := ([] : List ByteArray)) (inner := []) (ok := fun _ => True) (okp := fun _ => True) ?hr ?hp (fun _ hk => hk) trivial (Below.refl _ _) (Nat.le_refl _) (by simp) ?_; (case hd => rfl); (case hg => rfl); (case hr => exact zz19); (case hp => exact (Reps.none _ _)); intro v140 w2 ho3 hb hg_ hnew_; clear hg_ hnew_; (first | rw [← Ny139.out] at ho3 | (simp only [Int.reduceToNat] at ho3; rw [← Ny139.out] at ho3)); have HO141 := Aside0.mk (Kd.R_lower ho3 (below_size (zz0 HB))); replace HB := Aside0.mk (below_step (zz0 HB) hb); clear hb ho3))
 go_loopg [3, 4] k (fun kq v3 v4 w' => ∃ (x3_1 : List ByteArray) (x4_1 : Int), v4 = .int .i64 x4_1 ∧ Aside0 (spec_PathClean.l0 kq l0 x3_1 x4_1 = some r) ∧ Aside0 (kq ≤ k) ∧ Aside0 (Kd.R Kd.string 9 w' w.heap.size (fun _ => True) v3 x3_1) ∧ Aside0 (Below w.heap.size w w'))
 case atStart => exact ⟨(y139), (0), zz3, H', ⟨Nat.le_refl _⟩, ⟨(zz28 HO141)⟩, ⟨(zz0 HB)⟩⟩
 case round =>
  clear H';obtain ⟨x3_1, x4_1, rfl, HA, HK1, HO_3, HB⟩ := hrel;cases gk with
  | zero => exact absurd HA.out (by simp [spec_PathClean.l0])
  | succ k1 =>
   have H := HA.out;clear HA;simp only [spec_PathClean.l0] at H
   by_cases c4 : x4_1 < (l0.length : Int)
   ·rw [if_pos c4] at H
    have c4b0 : decide (x4_1 < (l0.length : Int)) = true := decide_eq_true c4;clear c4;have HC5 := Aside0.mk H;clear H;go_upto_region 6 with (fail)
    go_cut [19] (fun v19 wc => ∃ (kq : Nat) (x19_4 : Bool), v19 = .bool x19_4 ∧ Aside0 (spec_PathClean.j1 kq l0 x3_1 x4_1 x19_4 = some r) ∧ Aside0 (kq ≤ k1) ∧ Aside0 (Kd.R Kd.string 9 wc w.heap.size (fun _ => True) u3 x3_1) ∧ Aside0 (Below w.heap.size w wc))
    case first =>
     have H := HC5.out;clear HC5;by_cases c6 : 0 ≤ x4_1
     ·rw [if_pos c6] at H
      have c6b0 : decide (0 ≤ x4_1) = true := decide_eq_true c6;clear c6;(first | rw [c6b0] | (simp only [i64_w, i32_w]; rw [c6b0]) | skip)
      by_cases c7 : (rdOf ByteArray.empty l0 x4_1).toList = ([] : List UInt8)
      ·rw [if_pos c7] at H
       have c7b0 : ((rdOf ByteArray.empty l0 x4_1).toList == ([] : List UInt8)) = true := beq_iff_eq.mpr c7;have c7b1 : ((rdOf ByteArray.empty l0 x4_1).toList != ([] : List UInt8)) = false := bne_eq_false_iff_eq.mpr c7;clear c7;have H' := Aside0.mk H;clear H;have p142 : 0 ≤ (x4_1 : Int) := ofD;have q142 : x4_1 < (l0.length : Int) := ofD;obtain ⟨ad142, e142, hx142_0⟩ := Kd.at_string HR0.out x4_1 p142 q142;cases e142
       replace hx142_0 := cbl HB hx142_0;replace p142 := eq_true p142;replace q142 := eq_true q142;go_wp2
       go_meet
       case rel => exact ⟨_, (true), zz3, H', ⟨(zz11 HK1)⟩, ⟨(zz28 HO_3)⟩, ⟨(zz0 HB)⟩⟩
      ·rw [if_neg c7] at H
       have c7b0 : ((rdOf ByteArray.empty l0 x4_1).toList == ([] : List UInt8)) = false := beq_eq_false_iff_ne.mpr c7;have c7b1 : ((rdOf ByteArray.empty l0 x4_1).toList != ([] : List UInt8)) = true := bne_iff_ne.mpr c7;have H' := Aside0.mk H;clear H;have p142 : 0 ≤ (x4_1 : Int) := ofD;have q142 : x4_1 < (l0.length : Int) := ofD;obtain ⟨ad142, e142, hx142_0⟩ := Kd.at_string HR0.out x4_1 p142 q142;cases e142
       replace hx142_0 := cbl HB hx142_0;replace p142 := eq_true p142;replace q142 := eq_true q142;have p143 : 0 ≤ (x4_1 : Int) := ofD;have q143 : x4_1 < (l0.length : Int) := ofD;obtain ⟨ad143, e143, hx143_0⟩ := Kd.at_string HR0.out x4_1 p143 q143;obtain rfl : ad142 = ad143 := (by injection e143);replace hx143_0 := cbl HB hx143_0;replace p143 := eq_true p143;replace q143 := eq_true q143;go_wp2
       go_meet
       case rel => exact ⟨_, (((rdOf ByteArray.empty l0 x4_1).toList == ([46] : List UInt8))), zz3, H', ⟨(zz11 HK1)⟩, ⟨(zz28 HO_3)⟩, ⟨(zz0 HB)⟩⟩
     ·rw [if_neg c6] at H
      exact absurd H (by simp)
    case rest =>
     clear HC5;obtain ⟨kq, x19_4, rfl, HA, HJ4, HO_3, HB⟩ := hcut;cases kq with
     | zero => exact absurd HA.out (by simp [spec_PathClean.j1])
     | succ kj4 =>
      have H := HA.out;clear HA;simp only [spec_PathClean.j1] at H
      by_cases c8 : x19_4 = true
      ·subst c8
       rw [if_pos rfl] at H;have H' := Aside0.mk H;clear H;go_wp2
       go_roundg kj4
       case measure => have := HK1.out; have := HJ4.out; omega
       case rel => exact ⟨(x3_1), (wrap64 (x4_1 + 1)), zz3, H', ⟨(zz20 HK1 HJ4)⟩, ⟨(zz28 HO_3)⟩, ⟨(zz0 HB)⟩⟩
      ·replace c8 := Bool.eq_false_iff.mpr c8
       subst c8;rw [if_neg (show ¬ (false = true) by decide)] at H;by_cases c9 : 0 ≤ x4_1
       ·rw [if_pos c9] at H
        have c9b0 : decide (0 ≤ x4_1) = true := decide_eq_true c9;clear c9;by_cases c10 : x4_1 < (l0.length : Int)
        ·rw [if_pos c10] at H
         have c10b0 : decide (x4_1 < (l0.length : Int)) = true := decide_eq_true c10;clear c10;by_cases c11 : (rdOf ByteArray.empty l0 x4_1).toList = ([46, 46] : List UInt8)
         ·rw [if_pos c11] at H
          have c11b0 : ((rdOf ByteArray.empty l0 x4_1).toList == ([46, 46] : List UInt8)) = true := beq_iff_eq.mpr c11;have c11b1 : ((rdOf ByteArray.empty l0 x4_1).toList != ([46, 46] : List UInt8)) = false := bne_eq_false_iff_eq.mpr c11;clear c11;obtain ⟨ji12, hji12⟩ : ∃ j_ : Int, (mx (wrap64 ((x3_1.length : Int) - 1)) 0) = j_ := ⟨_, rfl⟩;replace H : (if 0 ≤ (ji12) then (if (ji12) ≤ (x3_1.length : Int) then (spec_PathClean.l0 kj4 l0 (x3_1.take ((ji12) : Int).toNat) (wrap64 (x4_1 + 1))) else (none)) else (none)) = some r := by first | (rw [hji12] at H; exact H) | (simp only [hji12] at H ⊢; exact H)
          have hji12_ : (if (wrap64 ((x3_1.length : Int) - 1)) < 0 then 0 else (wrap64 ((x3_1.length : Int) - 1))) = ji12 := hji12;by_cases c13 : 0 ≤ (ji12)
          ·rw [if_pos c13] at H
           have c13b0 := eq_true c13;have c13b1 : decide (0 ≤ (ji12)) = true := decide_eq_true c13;clear c13;by_cases c14 : (ji12) ≤ (x3_1.length : Int)
           ·rw [if_pos c14] at H
            have c14b0 := eq_true c14;have c14b1 : decide ((ji12) ≤ (x3_1.length : Int)) = true := decide_eq_true c14;clear c14;obtain ⟨y145, Ny145⟩ := toY (x3_1.take ((ji12) : Int).toNat);(first | with_reducible replace H := bindZ Ny145 H | rw [← Ny145.out] at H | skip)
            have H' := Aside0.mk H;clear H;have p144 : 0 ≤ (x4_1 : Int) := ofD;have q144 : x4_1 < (l0.length : Int) := ofD;obtain ⟨ad144, e144, hx144_0⟩ := Kd.at_string HR0.out x4_1 p144 q144;cases e144
            replace hx144_0 := cbl HB hx144_0;replace p144 := eq_true p144;replace q144 := eq_true q144;obtain ⟨Ao15, co15, eo15⟩ := Kd.R_slice HO_3.out;subst eo15;have q16 : ((ji12) : Int) ≤ ((x3_1.length : Int) : Int) := ofD;obtain ⟨i016, hi016, _, hsz16, _⟩ := info_parts info9;have hcut16 := cut_to (P := Tryz.prog) 24 9 .i64 Tryz.underlying24 hi016 Ao15 x3_1.length co15 (ji12) ofD q16 (Kd.R_reads' HO_3.out).2.1;have hr16 := Kd.R_take (m := ((ji12) : Int).toNat) HO_3.out (by omega);have hy16 : y145.length = ((ji12) : Int).toNat := (by rw [Ny145.out, List.length_take]; omega);rw [← Ny145.out] at hr16;rw [← hy16] at hr16 hcut16;clear hy16 hi016 hsz16 HO_3;have HO147 := Aside0.mk hr16;clear hr16;replace q16 := eq_true q16;go_wp2
            go_roundg kj4
            case measure => have := HK1.out; have := HJ4.out; omega
            case rel => exact ⟨(y145), (wrap64 (x4_1 + 1)), zz3, H', ⟨(zz20 HK1 HJ4)⟩, ⟨(zz28 HO147)⟩, ⟨(zz0 HB)⟩⟩
           ·rw [if_neg c14] at H
            exact absurd H (by simp)
          ·rw [if_neg c13] at H
           exact absurd H (by simp)
         ·rw [if_neg c11] at H
          have c11b0 : ((rdOf ByteArray.empty l0 x4_1).toList == ([46, 46] : List UInt8)) = false := beq_eq_false_iff_ne.mpr c11;have c11b1 : ((rdOf ByteArray.empty l0 x4_1).toList != ([46, 46] : List UInt8)) = true := bne_iff_ne.mpr c11;by_cases c17 : x3_1.length < 8796093022208
          ·rw [if_pos c17] at H
           have LMc17 := Aside0.mk c17;clear c17;obtain ⟨y149, Ny149⟩ := toY (x3_1 ++ [rdOf ByteArray.empty l0 x4_1]);(first | with_reducible replace H := bindZ Ny149 H | rw [← Ny149.out] at H | skip)
           have H' := Aside0.mk H;clear H;have p144 : 0 ≤ (x4_1 : Int) := ofD;have q144 : x4_1 < (l0.length : Int) := ofD;obtain ⟨ad144, e144, hx144_0⟩ := Kd.at_string HR0.out x4_1 p144 q144;cases e144
           replace hx144_0 := cbl HB hx144_0;replace p144 := eq_true p144;replace q144 := eq_true q144;have p148 : 0 ≤ (x4_1 : Int) := ofD;have q148 : x4_1 < (l0.length : Int) := ofD;obtain ⟨ad148, e148, hx148_0⟩ := Kd.at_string HR0.out x4_1 p148 q148;obtain rfl : ad144 = ad148 := (by injection e148);replace hx148_0 := cbl HB hx148_0;replace p148 := eq_true p148;replace q148 := eq_true q148;go_wp2_with (first | ((with_reducible refine gate_builtin (b := .append) (xs := #[.tmp 12, .tmp 17]) rfl ?_); at_builtin; refine Kd.R_append Kd.string (w0 := w) w.heap.size rfl (.tmp 12) (.tmp 17) 24 9 (.string ⟨#[]⟩) 16 rfl Tryz.underlying24 info9 rfl (by decide) (by omega) u3 x3_1 (rdOf ByteArray.empty l0 x4_1) [.string (rdOf ByteArray.empty l0 x4_1)] (fun _ => True) (fun _ => False) rfl rfl ?aP (fun _ hk => hk.elim) ?aF ?aO ?aB ?aS ?aL ?_; (case aP => exact rfl); (case aB => exact (zz0 HB)); (case aF => exact (fun _ _ => trivial)); (case aO => exact (zz28 HO_3)); (case aS => exact (below_size (zz0 HB))); (case aL => exact (zz5 LMc17)); intro v150 w18 ho hb hg hat; rw [← Ny149.out] at ho; replace HB := Aside0.mk (hb); have HO151 := Aside0.mk (ho); clear HO_3; clear ho hb hg hat))
           go_roundg kj4
           case measure => have := HK1.out; have := HJ4.out; omega
           case rel => exact ⟨(y149), (wrap64 (x4_1 + 1)), zz3, H', ⟨(zz20 HK1 HJ4)⟩, ⟨(zz28 HO151)⟩, ⟨(zz0 HB)⟩⟩
          ·rw [if_neg c17] at H
           exact absurd H (by simp)
        ·rw [if_neg c10] at H
         exact absurd H (by simp)
       ·rw [if_neg c9] at H
        exact absurd H (by simp)
   ·rw [if_neg c4] at H
    have c4b0 : decide (x4_1 < (l0.length : Int)) = false := decide_eq_false c4;clear c4;obtain rfl := Option.some.inj H;go_wp2
    go_ret
    exact ⟨_, zz1, (zz28 HO_3), (zz0 HB)⟩
def spec_l1Way.l0 : Nat → ByteArray → Bool → List ByteArray → List ByteArray → Int → ByteArray → List ByteArray → Bool → ByteArray → Option (ByteArray × List ByteArray × Bool × ByteArray × Bool)
 | 0, _, _, _, _, _, _, _, _, _ => none
 | k + 1, x6, x7, x8, x9, x10, x153000, x153001, x153002, x153003 => if x10 < (x9.length : Int) then (if 0 ≤ x10 then ((spec_EscNorm.f k (rdOf ByteArray.empty x9 x10)).bind fun bt167 => (if bt167.2 = true then (if x8.length < 8796093022208 then (spec_l1Way.l0 k x6 x7 (x8 ++ [bt167.1]) x9 (wrap64 (x10 + 1)) x153000 x153001 x153002 x153003) else (none)) else (some ((⟨#[]⟩ : ByteArray), ([] : List ByteArray), false, (⟨#[]⟩ : ByteArray), false)))) else (none)) else ((spec_EscNorm.f k x6).bind fun bt172 => ((spec_PathClean.f k x8).bind fun t174 => (if bt172.2 = true then ((spec_AddrOk.f k x153000 t174 x7 bt172.1).bind fun t178 => (if t178 = true then (some (x153000, t174, x7, bt172.1, true)) else (some ((⟨#[]⟩ : ByteArray), ([] : List ByteArray), false, (⟨#[]⟩ : ByteArray), false)))) else (some ((⟨#[]⟩ : ByteArray), ([] : List ByteArray), false, (⟨#[]⟩ : ByteArray), false)))))
def spec_l1Way.f (k : Nat) (a0_0 : ByteArray) (l0_1 : List ByteArray) (a0_2 : Bool) (a0_3 : ByteArray) (a1 : ByteArray) : Option (ByteArray × List ByteArray × Bool × ByteArray × Bool) := (spec_l1Cut.f k a1 63).bind fun bt154 => ((some (([] : List ByteArray) : List ByteArray)).bind fun y157 => (if y157.length + l0_1.length < 8796093022208 then ((spec_l1Split.f k bt154.1 47).bind fun t163 => (spec_l1Way.l0 k bt154.2.1 bt154.2.2 (y157 ++ l0_1) t163 0 a0_0 l0_1 a0_2 a0_3)) else (none)))
def spec_l1Way.T12 : Bool × List (List Nat × List Nat) := (true, [([], []), ([0], [0]), ([], []), ([2], [2]), ([], []), ([], []), ([1, 3, 4, 5], [1, 3, 4, 5]), ([], []), ([7, 6, 3, 0, 1, 2, 3, 4, 5, 6, 7], [6, 7])])
def spec_l1Way.B12 : List Nat := [0, 1, 0, 4, 0, 0, 63, 0, 255]
theorem spec_l1Way.tab12 : rtab .any (opsOf Tryz.f46 12) = spec_l1Way.T12 := by kernel_rfl
theorem spec_l1Way.bits12 : waitsOk spec_l1Way.T12.2 spec_l1Way.B12 = true := by kernel_rfl
set_option maxHeartbeats 8000000 in
set_option maxRecDepth 100000 in
theorem spec_l1Way.calls (k : Nat) (a0_0 : ByteArray) (A0_1 : Option Addr) (c0_1 : Nat) (l0_1 : List ByteArray) (a0_2 : Bool) (a0_3 : ByteArray) (a1 : ByteArray) (r1 : ByteArray) (r2 : List ByteArray) (r3 : Bool) (r4 : ByteArray) (r5 : Bool) (w : World) (hr0_1 : Kd.C Kd.string w A0_1 l0_1.length l0_1) (hc0_1 : l0_1.length ≤ c0_1) (h : spec_l1Way.f k a0_0 l0_1 a0_2 a0_3 a1 = some (r1, r2, r3, r4, r5)) :
  Calls Tryz.prog 46 #[.agg #[.string a0_0, .slice A0_1 l0_1.length c0_1, .bool a0_2, .string a0_3], .string a1] w fun e w' => ∃ v1_ : Value, e = .returned (.tuple #[.agg #[.string r1, v1_, .bool r3, .string r4], .bool r5]) ∧ Kd.R Kd.string 9 w' w.heap.size (fun _ => True) v1_ r2 ∧ Below w.heap.size w w' := by
 have hu52 := Tryz.underlying52;have HR0_1 := Aside0.mk hr0_1;have HC0_1 := Aside0.mk hc0_1;clear hr0_1 hc0_1;have HB := Aside0.mk (Below.refl w.heap.size w);have H : ((spec_l1Cut.f k a1 63).bind fun bt154 => ((some (([] : List ByteArray) : List ByteArray)).bind fun y157 => (if y157.length + l0_1.length < 8796093022208 then ((spec_l1Split.f k bt154.1 47).bind fun t163 => (spec_l1Way.l0 k bt154.2.1 bt154.2.2 (y157 ++ l0_1) t163 0 a0_0 l0_1 a0_2 a0_3)) else (none)))) = some (r1, r2, r3, r4, r5) := h;clear h;replace H := bindA H;obtain ⟨⟨t154, t155, t156⟩, A3, H⟩ := H;try dsimp -simprocs only at H
 obtain ⟨y157, Ny157⟩ := toY (([] : List ByteArray));(first | with_reducible replace H := bindZ Ny157 H | rw [← Ny157.out] at H | skip)
 by_cases c4 : y157.length + l0_1.length < 8796093022208
 ·rw [if_pos c4] at H
  have LMc4 := Aside0.mk c4;clear c4;obtain ⟨y160, Ny160⟩ := toY (y157 ++ l0_1);(first | with_reducible replace H := bindZ Ny160 H | rw [← Ny160.out] at H | skip)
  replace H := bindA H;obtain ⟨t163, A5, H⟩ := H;have H' := Aside0.mk H;clear H;go_enter Tryz.func46, Tryz.ntmps46;go_wp2_with (first | ((with_reducible refine gate_dst (N := 2) rfl ?_); refine boxE 2 #[.string a0_0, .slice A0_1 l0_1.length c0_1, .bool a0_2, .string a0_3] 52 ?_; intro gb152 hg w6 hbox hb; have BK152 := Aside0.mk (hbox); have GE152 := geB hg (zz0 HB); replace HB := Aside0.mk (below_step (zz0 HB) hb); clear hb hbox hg) | ((with_reducible refine gate_dst (N := 4) rfl ?_); refine boxE 4 #[.string (⟨#[]⟩ : ByteArray), .slice none 0 0, .bool false, .string (⟨#[]⟩ : ByteArray)] 52 ?_; intro gb153 hg w7 hbox hb; have BK153 := Aside0.mk (hbox); have GE153 := geB hg (zz2 HB GE152); replace HB := Aside0.mk (below_step (zz2 HB GE152) hb); have NB152_153 := Aside0.mk ((by rw [hg]; exact Nat.ne_of_lt (blk_lt (zz21 BK152)) : gb152 ≠ gb153)); have NB153_152 := Aside0.mk ((by rw [hg]; exact Nat.ne_of_gt (blk_lt (zz21 BK152)) : gb153 ≠ gb152)); replace BK152 := Aside0.mk (blk_below (zz21 BK152) hb); clear hb hbox hg) | ((with_reducible refine gate_callee (f := 32) rfl ?_); refine gsL (some 18) Tryz.func32 #[.string a1, .int .u8 63] ?_; (with_reducible refine (spec_l1Cut.calls k a1 63 t154 t155 t156 _ A3.out).mono ?_); rintro e w' ⟨rfl, ⟨nd, rfl⟩⟩; refine ⟨_, rfl, ?_⟩) | ((with_reducible refine gate_dst (N := 22) rfl ?_); refine Kd.R_lit Kd.string _ 9 ?hg (N := 22) ?hd (xs := ([] : List ByteArray)) (inner := []) (ok := fun _ => True) (okp := fun _ => True) ?hr ?hp (fun _ hk => hk) trivial (Below.refl _ _) (Nat.le_refl _) (by simp) ?_; (case hd => rfl); (case hg => rfl); (case hr => exact zz19); (case hp => exact (Reps.none _ _)); intro v158 w8 ho9 hb hg_ hnew_; clear hg_ hnew_; (first | rw [← Ny157.out] at ho9 | (simp only [Int.reduceToNat] at ho9; rw [← Ny157.out] at ho9)); have HO159 := Aside0.mk (Kd.R_lower ho9 (below_size (zz33 HB GE152 GE153))); replace BK152 := Aside0.mk (blk_below (zz21 BK152) hb); replace BK153 := Aside0.mk (blk_below (zz21 BK153) hb); replace HB := Aside0.mk (below_step (zz33 HB GE152 GE153) hb); clear hb ho9; have hnb10 := NB152_153.out; have hnc10 := NB153_152.out; obtain ⟨_, _, _, _, _, _, _, _⟩ := cf4 BK152) | ((with_reducible refine gate_builtin (b := .append) (xs := #[.tmp 22, .tmp 24]) rfl ?_); at_builtin; refine Kd.R_append_rows Kd.string (w0 := w) w.heap.size rfl (.tmp 22) (.tmp 24) 24 9 (.string ⟨#[]⟩) 16 rfl Tryz.underlying24 info9 rfl (by decide) (by omega) v158 y157 l0_1 _ _ _ (fun _ => True) (fun _ => False) rfl rfl ?aO ?aR (fun _ _ h => h) (fun _ h => h.elim) ?aF ?aB ?aS ?aL ?_; (case aR => exact (zz24 HR0_1 HB)); (case aB => exact (zz33 HB GE152 GE153)); (case aF => exact (fun _ _ => trivial)); (case aO => exact (zz28 HO159)); (case aS => exact (below_size (zz33 HB GE152 GE153))); (case aL => exact (zz5 LMc4)); intro v161 w12 ho hb hg hat; rw [← Ny160.out] at ho; replace BK152 := Aside0.mk (blk_grown (zz21 BK152) hg (Kd.R_ne HO159.out BK152.out (by decide))); replace BK153 := Aside0.mk (blk_grown (zz21 BK153) hg (Kd.R_ne HO159.out BK153.out (by decide))); replace HB := Aside0.mk (hb); have HO162 := Aside0.mk (ho); clear HO159; clear ho hb hg hat) | ((with_reducible refine gate_callee (f := 63) rfl ?_); refine gsL (some 27) Tryz.func63 #[.string t154, .int .u8 47] ?_; (with_reducible refine (spec_l1Split.calls k t154 47 t163 _ A5.out).mono ?_); rintro e w13 ⟨v164, rfl, ho0, hb⟩; refine ⟨_, rfl, ?_⟩; have HO165 := Aside0.mk (Kd.R_lower (Kd.R_new' ho0 (Kd.R_lt (zz28 HO162))) (below_size (zz33 HB GE152 GE153))); replace HO162 := Aside0.mk (Kd.R_elder' (zz28 HO162) (Kd.R_base ho0) hb); replace BK152 := Aside0.mk (blk_below (zz21 BK152) hb); replace BK153 := Aside0.mk (blk_below (zz21 BK153) hb); replace HB := Aside0.mk (below_step (zz33 HB GE152 GE153) hb); (try clear hb ho0)))
  go_loopg [8, 10] k (fun kq v8 v10 w' => ∃ (x8_1 : List ByteArray) (x10_1 : Int) (x154000_1 : ByteArray) (x154002_1 : Bool) (x154003_1 : ByteArray), v10 = .int .i64 x10_1 ∧ Aside0 (spec_l1Way.l0 kq t155 t156 x8_1 t163 x10_1 a0_0 l0_1 a0_2 a0_3 = some (r1, r2, r3, r4, r5)) ∧ Aside0 (kq ≤ k) ∧ Aside0 (Kd.R Kd.string 9 w' w.heap.size (fun k_ => some k_ ≠ (v164 : Value).ownBlock) v8 x8_1) ∧ Aside0 (Kd.R Kd.string 9 w' w.heap.size (fun k_ => some k_ ≠ (v8 : Value).ownBlock) v164 t163) ∧ Aside0 (w'.heap[gb152]? = some (.cells #[.string a0_0, (.slice A0_1 l0_1.length c0_1), .bool a0_2, .string a0_3] 52 (0, 0))) ∧ Aside0 (w'.heap[gb153]? = some (.cells #[.string x154000_1, (.slice none 0 0), .bool x154002_1, .string x154003_1] 52 (0, 0))) ∧ Aside0 (Below w.heap.size w w'))
  case atStart => exact ⟨(y160), (0), ((⟨#[]⟩ : ByteArray)), (false), ((⟨#[]⟩ : ByteArray)), zz3, H', ⟨Nat.le_refl _⟩, ⟨(zz34 HO162)⟩, ⟨(zz34 HO165)⟩, ⟨(zz21 BK152)⟩, ⟨(zz21 BK153)⟩, ⟨(zz33 HB GE152 GE153)⟩⟩
  case round =>
   clear H';obtain ⟨x8_1, x10_1, x154000_1, x154002_1, x154003_1, rfl, HA, HK1, HO_8, HO_9, BK152, BK153, HB⟩ := hrel;cases gk with
   | zero => exact absurd HA.out (by simp [spec_l1Way.l0])
   | succ k1 =>
    have H := HA.out;clear HA;simp only [spec_l1Way.l0] at H
    by_cases c14 : x10_1 < (t163.length : Int)
    ·rw [if_pos c14] at H
     have c14b0 : decide (x10_1 < (t163.length : Int)) = true := decide_eq_true c14;clear c14;by_cases c15 : 0 ≤ x10_1
     ·rw [if_pos c15] at H
      have c15b0 : decide (0 ≤ x10_1) = true := decide_eq_true c15;clear c15;replace H := bindA H;obtain ⟨⟨t167, t168⟩, A16, H⟩ := H;try dsimp -simprocs only at H
      by_cases c17 : t168 = true
      ·subst c17
       rw [if_pos rfl] at H;by_cases c18 : x8_1.length < 8796093022208
       ·rw [if_pos c18] at H
        have LMc18 := Aside0.mk c18;clear c18;obtain ⟨y169, Ny169⟩ := toY (x8_1 ++ [t167]);(first | with_reducible replace H := bindZ Ny169 H | rw [← Ny169.out] at H | skip)
        have H' := Aside0.mk H;clear H;obtain ⟨Ao19, co19, eo19⟩ := Kd.R_slice HO_9.out;subst eo19;have p166 : 0 ≤ (x10_1 : Int) := ofD;have q166 : x10_1 < (t163.length : Int) := ofD;obtain ⟨ad166, e166, hx166_0⟩ := Kd.at_string (Kd.R_reads' HO_9.out).2.2 x10_1 p166 q166;cases e166
        replace p166 := eq_true p166;replace q166 := eq_true q166;go_wp2_with (first | ((with_reducible refine gate_callee (f := 64) rfl ?_); refine gsL (some 39) Tryz.func64 #[.string (rdOf ByteArray.empty t163 x10_1)] ?_; (with_reducible refine (spec_EscNorm.calls k1 (rdOf ByteArray.empty t163 x10_1) t167 true _ A16.out).mono ?_); rintro e w20 ⟨rfl, hb⟩; refine ⟨_, rfl, ?_⟩; replace HO_8 := Aside0.mk (Kd.R_below (zz28 HO_8) hb); replace HO_9 := Aside0.mk (Kd.R_below (zz28 HO_9) hb); replace BK152 := Aside0.mk (blk_below (zz21 BK152) hb); replace BK153 := Aside0.mk (blk_below (zz21 BK153) hb); replace HB := Aside0.mk (below_step (zz33 HB GE152 GE153) hb); (try clear hb)) | ((with_reducible refine gate_builtin (b := .append) (xs := #[.tmp 45, .tmp 47]) rfl ?_); at_builtin; refine Kd.R_append Kd.string (w0 := w) w.heap.size rfl (.tmp 45) (.tmp 47) 24 9 (.string ⟨#[]⟩) 16 rfl Tryz.underlying24 info9 rfl (by decide) (by omega) u8 x8_1 t167 [.string t167] (fun k_ => some k_ ≠ (.slice (some ad166) t163.length co19 : Value).ownBlock) (fun _ => False) rfl rfl ?aP (fun _ hk => hk.elim) ?aF ?aO ?aB ?aS ?aL ?_; (case aP => exact rfl); (case aB => exact (zz33 HB GE152 GE153)); (case aF => exact (fun k_ hk => Kd.fresh' (Kd.R_lt (zz28 HO_9)) k_ hk)); (case aO => exact (zz28 HO_8)); (case aS => exact (below_size (zz33 HB GE152 GE153))); (case aL => exact (zz5 LMc18)); intro v170 w21 ho hb hg hat; rw [← Ny169.out] at ho; replace HO_9 := Aside0.mk (Kd.R_after (ok := (fun _ => True)) (zz36 HO_9) hg hat); replace BK152 := Aside0.mk (blk_grown (zz21 BK152) hg (Kd.R_ne HO_8.out BK152.out (by decide))); replace BK153 := Aside0.mk (blk_grown (zz21 BK153) hg (Kd.R_ne HO_8.out BK153.out (by decide))); replace HB := Aside0.mk (hb); have HO171 := Aside0.mk (ho); clear HO_8; clear ho hb hg hat))
        go_roundg k1
        case measure => have := HK1.out; omega
        case rel => exact ⟨(y169), (wrap64 (x10_1 + 1)), (x154000_1), (x154002_1), (x154003_1), zz3, H', ⟨(zz5 HK1)⟩, ⟨(zz28 HO171)⟩, ⟨(zz34 HO_9)⟩, ⟨(zz21 BK152)⟩, ⟨(zz21 BK153)⟩, ⟨(zz33 HB GE152 GE153)⟩⟩
       ·rw [if_neg c18] at H
        exact absurd H (by simp)
      ·replace c17 := Bool.eq_false_iff.mpr c17
       subst c17;rw [if_neg (show ¬ (false = true) by decide)] at H;simp only [Option.some.injEq, Prod.mk.injEq] at H
       obtain ⟨rfl, rfl, rfl, rfl, rfl⟩ := H;obtain ⟨Ao22, co22, eo22⟩ := Kd.R_slice HO_9.out;subst eo22;have p166 : 0 ≤ (x10_1 : Int) := ofD;have q166 : x10_1 < (t163.length : Int) := ofD;obtain ⟨ad166, e166, hx166_0⟩ := Kd.at_string (Kd.R_reads' HO_9.out).2.2 x10_1 p166 q166;cases e166
       replace p166 := eq_true p166;replace q166 := eq_true q166;go_wp2_with (first | ((with_reducible refine gate_callee (f := 64) rfl ?_); refine gsL (some 39) Tryz.func64 #[.string (rdOf ByteArray.empty t163 x10_1)] ?_; (with_reducible refine (spec_EscNorm.calls k1 (rdOf ByteArray.empty t163 x10_1) t167 false _ A16.out).mono ?_); rintro e w23 ⟨rfl, hb⟩; refine ⟨_, rfl, ?_⟩; replace HO_8 := Aside0.mk (Kd.R_below (zz28 HO_8) hb); replace HO_9 := Aside0.mk (Kd.R_below (zz28 HO_9) hb); replace BK152 := Aside0.mk (blk_below (zz21 BK152) hb); replace BK153 := Aside0.mk (blk_below (zz21 BK153) hb); replace HB := Aside0.mk (below_step (zz33 HB GE152 GE153) hb); (try clear hb); have hnb24 := NB153_152.out; have hnc24 := NB152_153.out; obtain ⟨_, _, _, _, _, _, _, _⟩ := cf4 BK153))
       refine bodyPost_ret (results_ct rfl _ _ gb153 52 #[.string (⟨#[]⟩ : ByteArray), .slice none 0 0, .bool false, .string (⟨#[]⟩ : ByteArray)] (0, 0) _ rfl (zz37 BK153) Tryz.underlying52 rfl (by kernel_rfl)) rfl ?_;exact ⟨_, zz1, zz38, (zz33 HB GE152 GE153)⟩
     ·rw [if_neg c15] at H
      exact absurd H (by simp)
    ·rw [if_neg c14] at H
     have c14b0 : decide (x10_1 < (t163.length : Int)) = false := decide_eq_false c14;clear c14;replace H := bindA H;obtain ⟨⟨t172, t173⟩, A26, H⟩ := H;try dsimp -simprocs only at H
     replace H := bindA H;obtain ⟨t174, A27, H⟩ := H;by_cases c28 : t173 = true
     ·subst c28
      rw [if_pos rfl] at H;replace H := bindA H;obtain ⟨t178, A29, H⟩ := H;by_cases c30 : t178 = true
      ·subst c30
       rw [if_pos rfl] at H;simp only [Option.some.injEq, Prod.mk.injEq] at H
       obtain ⟨rfl, rfl, rfl, rfl, rfl⟩ := H;obtain ⟨Ao31, co31, eo31⟩ := Kd.R_slice HO_9.out;subst eo31;try go_wp2_with (first | ((with_reducible refine gate_callee (f := 64) rfl ?_); refine gsL (some 51) Tryz.func64 #[.string t155] ?_; (with_reducible refine (spec_EscNorm.calls k1 t155 t172 true _ A26.out).mono ?_); rintro e w32 ⟨rfl, hb⟩; refine ⟨_, rfl, ?_⟩; replace HO_8 := Aside0.mk (Kd.R_below (zz28 HO_8) hb); replace HO_9 := Aside0.mk (Kd.R_below (zz28 HO_9) hb); replace BK152 := Aside0.mk (blk_below (zz21 BK152) hb); replace BK153 := Aside0.mk (blk_below (zz21 BK153) hb); replace HB := Aside0.mk (below_step (zz33 HB GE152 GE153) hb); (try clear hb); obtain ⟨Ao33, co33, eo33⟩ := Kd.R_slice HO_8.out; subst eo33))
       replace HO_8 := Aside0.mk (Kd.R_drew HO_8.out);replace HO_9 := Aside0.mk (Kd.R_drew HO_9.out);replace BK152 := Aside0.mk (blk_drew BK152.out);replace BK153 := Aside0.mk (blk_drew BK153.out);replace HB := Aside0.mk (below_drew1 HB.out);refine start_ (n := 9) (S := fun w' => w'.cell? ⟨gb152, 0, none⟩ = some (.string a0_0) ∧ w'.cell? ⟨gb152, 1, none⟩ = some (.slice A0_1 l0_1.length c0_1) ∧ w'.cell? ⟨gb152, 2, none⟩ = some (.bool a0_2) ∧ w'.cell? ⟨gb152, 3, none⟩ = some (.string a0_3)) (ds := []) #[false, false, false, false, false, false, false, false, false] (by kernel_rfl) rfl rfl ⟨(blk_cell BK152.out 0).trans rfl, (blk_cell BK152.out 1).trans rfl, (blk_cell BK152.out 2).trans rfl, (blk_cell BK152.out 3).trans rfl⟩ (fun hHeld => ?_); refine with_tabW spec_l1Way.tab12 spec_l1Way.bits12 (fun HT_ HW_ => ?_);generalize w32.drew = w34 at HO_8 HO_9 BK152 BK153 HB hHeld ⊢;refine pureZ 0 (some 54) #[true, false, false, false, false, false, false, false, false] ?_;refine pureZ 2 (some 56) #[true, false, true, false, false, false, false, false, false] ?_;refine pureZ 4 (some 58) #[true, false, true, false, true, false, false, false, false] ?_;refine pureZ 5 (some 59) #[true, false, true, false, true, true, false, false, false] ?_;refine takeZ4 1 (some 55) #[true, true, true, false, true, true, false, false, false] hHeld ?_;refine join_ (σ := Value × Nat) 1 #[true, true, true, true, true, true, true, true, false] (fun s_ => [(57, s_.1), (15, .pointer (some ⟨s_.2, 0, none⟩)), (60, .agg #[.string a0_0, s_.1, .bool t156, .string t172])]) (fun s_ w' => (w'.cell? ⟨gb152, 0, none⟩ = some (.string a0_0) ∧ w'.cell? ⟨gb152, 1, none⟩ = some (.slice A0_1 l0_1.length c0_1) ∧ w'.cell? ⟨gb152, 2, none⟩ = some (.bool a0_2) ∧ w'.cell? ⟨gb152, 3, none⟩ = some (.string a0_3)) ∧ (Kd.R Kd.string 9 w' w.heap.size (fun k_ => some k_ ≠ (.slice Ao33 x8_1.length co33 : Value).ownBlock ∧ some k_ ≠ (.slice Ao31 t163.length co31 : Value).ownBlock) s_.1 t174) ∧ (Kd.R Kd.string 9 w' w.heap.size (fun k_ => some k_ ≠ (s_.1 : Value).ownBlock ∧ some k_ ≠ (.slice Ao31 t163.length co31 : Value).ownBlock) (.slice Ao33 x8_1.length co33) x8_1) ∧ (Kd.R Kd.string 9 w' w.heap.size (fun k_ => some k_ ≠ (s_.1 : Value).ownBlock ∧ some k_ ≠ (.slice Ao33 x8_1.length co33 : Value).ownBlock) (.slice Ao31 t163.length co31) t163) ∧ (w'.heap[gb152]? = some (.cells #[.string a0_0, .slice A0_1 l0_1.length c0_1, .bool a0_2, .string a0_3] 52 (0, 0))) ∧ (w'.heap[gb153]? = some (.cells #[.string x154000_1, .slice none 0 0, .bool x154002_1, .string x154003_1] 52 (0, 0))) ∧ (w'.heap[s_.2]? = some (.cells #[.string (⟨#[]⟩ : ByteArray), .slice none 0 0, .bool false, .string (⟨#[]⟩ : ByteArray)] 52 (0, 0))) ∧ (w.heap.size ≤ s_.2) ∧ (w.heap.size ≤ s_.2) ∧ (gb152 ≠ s_.2) ∧ (s_.2 ≠ gb152) ∧ (gb153 ≠ s_.2) ∧ (s_.2 ≠ gb153) ∧ (Below w.heap.size w w')) ?_ ?_;rotate_left
       ·intro hCont
        refine two_ (i := 3) (j := 7) (Ni := some 57) (Nj := some 15) #[true, true, true, true, true, true, false, false, false] #[true, true, true, false, true, true, false, true, false] rfl rfl rfl rfl (two_of HT_.out (by kernel_rfl)) (by decide) (by decide) (fun K hK => ?_) (fun K hK => ?_)
        ·skip
         refine goes_ Tryz.func65 (by kernel_rfl) rfl #[.slice Ao33 x8_1.length co33] (by rfl) rfl rfl zz23 ?_;with_reducible refine (spec_PathClean.calls k1 _ _ x8_1 t174 _ ?side1 ?side2 A27.out).mono ?_
         (case side1 => exact (zz39 HO_8))
         (case side2 => exact (Kd.R_reads' HO_8.out).2.1)
         rintro e w35 ⟨v175, rfl, ho0, hb⟩;refine ⟨_, rfl, ?_⟩;have HO176 := Aside0.mk (Kd.R_lower (Kd.R_new' (Kd.R_new' ho0 (Kd.R_lt (zz28 HO_8))) (Kd.R_lt (zz28 HO_9))) (below_size (zz33 HB GE152 GE153)));replace HO_8 := Aside0.mk (Kd.R_elder' (zz28 HO_8) (Kd.R_base ho0) hb);replace HO_9 := Aside0.mk (Kd.R_elder' (zz28 HO_9) (Kd.R_base ho0) hb);replace BK152 := Aside0.mk (blk_below (zz21 BK152) hb);replace BK153 := Aside0.mk (blk_below (zz21 BK153) hb);replace HB := Aside0.mk (below_step (zz33 HB GE152 GE153) hb);(try clear hb)
         (try clear hb2)
         (try clear hk)
         (try clear hi)
         (try clear ho0)
         obtain ⟨Ao36, co36, eo36⟩ := Kd.R_slice HO176.out;(first | subst eo36 | (injection eo36 with f1_ f2_ f3_; have f4_ := f1_.symm; have f5_ := f3_.symm; clear f1_ f2_ f3_; subst f4_; subst f5_))
         refine hK.out _ _ ⟨(blk_cell BK152.out 0).trans rfl, (blk_cell BK152.out 1).trans rfl, (blk_cell BK152.out 2).trans rfl, (blk_cell BK152.out 3).trans rfl⟩ (fun hHeld => ?_);clear hK K;refine norm_ (a' := ?_) ?_ ?_;rotate_left
         ·show Act.put _ (some 57) _ = _
          simp only [Act.put, List.setIfInBounds_toArray, List.set_cons_zero, List.set_cons_succ, i64_w, i32_w]
          rfl
         refine pureZ 6 (some 60) #[true, true, true, true, true, true, true, false, false] ?_;refine one_ (i := 7) (N := some 15) #[true, true, true, true, true, true, true, true, false] rfl rfl (one_of HT_.out (by kernel_rfl)) (by decide) (fun K hK => ?_);refine box_step ?hg (N := 15) ?hd (cs := #[.string (⟨#[]⟩ : ByteArray), .slice none 0 0, .bool false, .string (⟨#[]⟩ : ByteArray)]) (t := 52) ?hr ?_; (case hd => rfl); (case hg => rfl); (case hr => exact zz19);intro gb177 hg w37 hbox hb;replace HO_8 := Aside0.mk (Kd.R_below (zz28 HO_8) hb);replace HO_9 := Aside0.mk (Kd.R_below (zz28 HO_9) hb);replace HO176 := Aside0.mk (Kd.R_below (zz28 HO176) hb);have BK177 := Aside0.mk (hbox);have GW177 := Aside0.mk ((by rw [hg]; exact (below_size (zz33 HB GE152 GE153)) : w.heap.size ≤ gb177));have GE177 := Aside0.mk ((by rw [hg]; exact (below_size (zz33 HB GE152 GE153)) : w.heap.size ≤ gb177));replace HB := Aside0.mk (below_step (zz33 HB GE152 GE153) hb);have NB152_177 := Aside0.mk ((by rw [hg]; exact Nat.ne_of_lt (blk_lt (zz21 BK152)) : gb152 ≠ gb177));have NB177_152 := Aside0.mk ((by rw [hg]; exact Nat.ne_of_gt (blk_lt (zz21 BK152)) : gb177 ≠ gb152));replace BK152 := Aside0.mk (blk_below (zz21 BK152) hb);have NB153_177 := Aside0.mk ((by rw [hg]; exact Nat.ne_of_lt (blk_lt (zz21 BK153)) : gb153 ≠ gb177));have NB177_153 := Aside0.mk ((by rw [hg]; exact Nat.ne_of_gt (blk_lt (zz21 BK153)) : gb177 ≠ gb153));replace BK153 := Aside0.mk (blk_below (zz21 BK153) hb);clear hb hbox hg;refine hK.out _ _ ⟨(blk_cell BK152.out 0).trans rfl, (blk_cell BK152.out 1).trans rfl, (blk_cell BK152.out 2).trans rfl, (blk_cell BK152.out 3).trans rfl⟩ (fun hHeld => ?_);clear hK K;refine norm_ (a' := ?_) ?_ ?_;rotate_left
         ·show Act.put _ (some 15) _ = _
          simp only [Act.put, List.setIfInBounds_toArray, List.set_cons_zero, List.set_cons_succ, i64_w, i32_w]
          rfl
         exact norm_ viaP (hCont (.slice Ao36 t174.length co36, gb177) _ ⟨hHeld, (zz40 HO176), (zz41 HO_8), (zz41 HO_9), (zz21 BK152), (zz21 BK153), (zz21 BK177), GW177.out, GE177.out, NB152_177.out, NB177_152.out, NB153_177.out, NB177_153.out, (zz42 HB GE152 GE153 GE177)⟩)
        ·skip
         refine box_step ?hg (N := 15) ?hd (cs := #[.string (⟨#[]⟩ : ByteArray), .slice none 0 0, .bool false, .string (⟨#[]⟩ : ByteArray)]) (t := 52) ?hr ?_; (case hd => rfl); (case hg => rfl); (case hr => exact zz19);intro gb177 hg w35 hbox hb;replace HO_8 := Aside0.mk (Kd.R_below (zz28 HO_8) hb);replace HO_9 := Aside0.mk (Kd.R_below (zz28 HO_9) hb);have BK177 := Aside0.mk (hbox);have GW177 := Aside0.mk ((by rw [hg]; exact (below_size (zz33 HB GE152 GE153)) : w.heap.size ≤ gb177));have GE177 := Aside0.mk ((by rw [hg]; exact (below_size (zz33 HB GE152 GE153)) : w.heap.size ≤ gb177));replace HB := Aside0.mk (below_step (zz33 HB GE152 GE153) hb);have NB152_177 := Aside0.mk ((by rw [hg]; exact Nat.ne_of_lt (blk_lt (zz21 BK152)) : gb152 ≠ gb177));have NB177_152 := Aside0.mk ((by rw [hg]; exact Nat.ne_of_gt (blk_lt (zz21 BK152)) : gb177 ≠ gb152));replace BK152 := Aside0.mk (blk_below (zz21 BK152) hb);have NB153_177 := Aside0.mk ((by rw [hg]; exact Nat.ne_of_lt (blk_lt (zz21 BK153)) : gb153 ≠ gb177));have NB177_153 := Aside0.mk ((by rw [hg]; exact Nat.ne_of_gt (blk_lt (zz21 BK153)) : gb177 ≠ gb153));replace BK153 := Aside0.mk (blk_below (zz21 BK153) hb);clear hb hbox hg;refine hK.out _ _ ⟨(blk_cell BK152.out 0).trans rfl, (blk_cell BK152.out 1).trans rfl, (blk_cell BK152.out 2).trans rfl, (blk_cell BK152.out 3).trans rfl⟩ (fun hHeld => ?_);clear hK K;refine norm_ (a' := ?_) ?_ ?_;rotate_left
         ·show Act.put _ (some 15) _ = _
          simp only [Act.put, List.setIfInBounds_toArray, List.set_cons_zero, List.set_cons_succ, i64_w, i32_w]
          rfl
         refine one_ (i := 3) (N := some 57) #[true, true, true, true, true, true, false, true, false] rfl rfl (one_of HT_.out (by kernel_rfl)) (by decide) (fun K hK => ?_);refine goes_ Tryz.func65 (by kernel_rfl) rfl #[.slice Ao33 x8_1.length co33] (by rfl) rfl rfl zz23 ?_;with_reducible refine (spec_PathClean.calls k1 _ _ x8_1 t174 _ ?side1 ?side2 A27.out).mono ?_
         (case side1 => exact (zz39 HO_8))
         (case side2 => exact (Kd.R_reads' HO_8.out).2.1)
         rintro e w36 ⟨v175, rfl, ho0, hb⟩;refine ⟨_, rfl, ?_⟩;have HO176 := Aside0.mk (Kd.R_lower (Kd.R_new' (Kd.R_new' ho0 (Kd.R_lt (zz28 HO_8))) (Kd.R_lt (zz28 HO_9))) (below_size (zz42 HB GE152 GE153 GE177)));replace HO_8 := Aside0.mk (Kd.R_elder' (zz28 HO_8) (Kd.R_base ho0) hb);replace HO_9 := Aside0.mk (Kd.R_elder' (zz28 HO_9) (Kd.R_base ho0) hb);replace BK152 := Aside0.mk (blk_below (zz21 BK152) hb);replace BK153 := Aside0.mk (blk_below (zz21 BK153) hb);replace BK177 := Aside0.mk (blk_below (zz21 BK177) hb);replace HB := Aside0.mk (below_step (zz42 HB GE152 GE153 GE177) hb);(try clear hb)
         (try clear hb2)
         (try clear hk)
         (try clear hi)
         (try clear ho0)
         obtain ⟨Ao37, co37, eo37⟩ := Kd.R_slice HO176.out;(first | subst eo37 | (injection eo37 with f1_ f2_ f3_; have f4_ := f1_.symm; have f5_ := f3_.symm; clear f1_ f2_ f3_; subst f4_; subst f5_))
         refine hK.out _ _ ⟨(blk_cell BK152.out 0).trans rfl, (blk_cell BK152.out 1).trans rfl, (blk_cell BK152.out 2).trans rfl, (blk_cell BK152.out 3).trans rfl⟩ (fun hHeld => ?_);clear hK K;refine norm_ (a' := ?_) ?_ ?_;rotate_left
         ·show Act.put _ (some 57) _ = _
          simp only [Act.put, List.setIfInBounds_toArray, List.set_cons_zero, List.set_cons_succ, i64_w, i32_w]
          rfl
         refine pureZ 6 (some 60) #[true, true, true, true, true, true, true, true, false] ?_;exact norm_ viaP (hCont (.slice Ao37 t174.length co37, gb177) _ ⟨hHeld, (zz40 HO176), (zz41 HO_8), (zz41 HO_9), (zz21 BK152), (zz21 BK153), (zz21 BK177), GW177.out, GE177.out, NB152_177.out, NB177_152.out, NB153_177.out, NB177_153.out, (zz42 HB GE152 GE153 GE177)⟩)
       rintro ⟨v175, gb177⟩ w38 ⟨hS_, h0_, h1_, h2_, h3_, h4_, h5_, h6_, h7_, h8_, h9_, h10_, h11_, h12_⟩;have n0_ : Aside0 (Kd.R Kd.string 9 w38 w.heap.size (fun k_ => some k_ ≠ (.slice Ao33 x8_1.length co33 : Value).ownBlock ∧ some k_ ≠ (.slice Ao31 t163.length co31 : Value).ownBlock) v175 t174) := ⟨h0_⟩;have n1_ : Aside0 (Kd.R Kd.string 9 w38 w.heap.size (fun k_ => some k_ ≠ (v175 : Value).ownBlock ∧ some k_ ≠ (.slice Ao31 t163.length co31 : Value).ownBlock) (.slice Ao33 x8_1.length co33) x8_1) := ⟨h1_⟩;have n2_ : Aside0 (Kd.R Kd.string 9 w38 w.heap.size (fun k_ => some k_ ≠ (v175 : Value).ownBlock ∧ some k_ ≠ (.slice Ao33 x8_1.length co33 : Value).ownBlock) (.slice Ao31 t163.length co31) t163) := ⟨h2_⟩;have n3_ : Aside0 (w38.heap[gb152]? = some (.cells #[.string a0_0, .slice A0_1 l0_1.length c0_1, .bool a0_2, .string a0_3] 52 (0, 0))) := ⟨h3_⟩;have n4_ : Aside0 (w38.heap[gb153]? = some (.cells #[.string x154000_1, .slice none 0 0, .bool x154002_1, .string x154003_1] 52 (0, 0))) := ⟨h4_⟩;have n5_ : Aside0 (w38.heap[gb177]? = some (.cells #[.string (⟨#[]⟩ : ByteArray), .slice none 0 0, .bool false, .string (⟨#[]⟩ : ByteArray)] 52 (0, 0))) := ⟨h5_⟩;have n6_ : Aside0 (w.heap.size ≤ gb177) := ⟨h6_⟩;have n7_ : Aside0 (w.heap.size ≤ gb177) := ⟨h7_⟩;have n8_ : Aside0 (gb152 ≠ gb177) := ⟨h8_⟩;have n9_ : Aside0 (gb177 ≠ gb152) := ⟨h9_⟩;have n10_ : Aside0 (gb153 ≠ gb177) := ⟨h10_⟩;have n11_ : Aside0 (gb177 ≠ gb153) := ⟨h11_⟩;have n12_ : Aside0 (Below w.heap.size w w38) := ⟨h12_⟩;clear HO_8;clear HO_9;clear BK152;clear BK153;clear HB;clear h0_ h1_ h2_ h3_ h4_ h5_ h6_ h7_ h8_ h9_ h10_ h11_ h12_;have HO176 := n0_;have HO_8 := n1_;have HO_9 := n2_;have BK152 := n3_;have BK153 := n4_;have BK177 := n5_;have GW177 := n6_;have GE177 := n7_;have NB152_177 := n8_;have NB177_152 := n9_;have NB153_177 := n10_;have NB177_153 := n11_;have HB := n12_;clear n0_ n1_ n2_ n3_ n4_ n5_ n6_ n7_ n8_ n9_ n10_ n11_ n12_;have hHeld : w38.cell? ⟨gb152, 0, none⟩ = some (.string a0_0) ∧ w38.cell? ⟨gb152, 1, none⟩ = some (.slice A0_1 l0_1.length c0_1) ∧ w38.cell? ⟨gb152, 2, none⟩ = some (.bool a0_2) ∧ w38.cell? ⟨gb152, 3, none⟩ = some (.string a0_3) := hS_;obtain ⟨Ao39, co39, eo39⟩ := Kd.R_slice HO176.out;(first | subst eo39 | (injection eo39 with f1_ f2_ f3_; have f4_ := f1_.symm; have f5_ := f3_.symm; clear f1_ f2_ f3_; subst f4_; subst f5_))
       refine norm_ (a' := ?_) ?_ ?_;rotate_left
       ·simp only [putAll, Act.put, List.setIfInBounds_toArray, List.set_cons_zero, List.set_cons_succ]
        rfl
       refine one_ (i := 8) (N := none) #[true, true, true, true, true, true, true, true, true] rfl rfl (one_of HT_.out (by kernel_rfl)) (by decide) (fun K hK => ?_);have hs40 : w38.cell? ⟨gb177, 0, none⟩ = some (.string (⟨#[]⟩ : ByteArray)) := (blk_cell BK177.out 0).trans rfl;have hfs40 := blk_frozen BK177.out 0;have hns40_0 := NB152_177.out;have hns40_1 := NB153_177.out;have hms40_0 := NB177_152.out;have hms40_1 := NB177_153.out;have hs41 : w38.cell? ⟨gb177, 1, none⟩ = some (.slice none 0 0) := (blk_cell BK177.out 1).trans rfl;have hfs41 := blk_frozen BK177.out 1;have hns41_0 := NB152_177.out;have hns41_1 := NB153_177.out;have hms41_0 := NB177_152.out;have hms41_1 := NB177_153.out;have hs42 : w38.cell? ⟨gb177, 2, none⟩ = some (.bool false) := (blk_cell BK177.out 2).trans rfl;have hfs42 := blk_frozen BK177.out 2;have hns42_0 := NB152_177.out;have hns42_1 := NB153_177.out;have hms42_0 := NB177_152.out;have hms42_1 := NB177_153.out;have hs43 : w38.cell? ⟨gb177, 3, none⟩ = some (.string (⟨#[]⟩ : ByteArray)) := (blk_cell BK177.out 3).trans rfl;have hfs43 := blk_frozen BK177.out 3;have hns43_0 := NB152_177.out;have hns43_1 := NB153_177.out;have hms43_0 := NB177_152.out;have hms43_1 := NB177_153.out;refine skip_ (w1 := ?_) (by rfl) rfl ?_ ?_;rotate_left
       ·go_simp
        rfl
       refine hK.out _ _ ⟨((cell_far (p := ⟨gb177, _, none⟩) NB152_177.out _).trans (((cell_far (p := ⟨gb177, _, none⟩) NB152_177.out _).trans (((cell_far (p := ⟨gb177, _, none⟩) NB152_177.out _).trans (((cell_far (p := ⟨gb177, _, none⟩) NB152_177.out _).trans (hHeld.1)))))))), ((cell_far (p := ⟨gb177, _, none⟩) NB152_177.out _).trans (((cell_far (p := ⟨gb177, _, none⟩) NB152_177.out _).trans (((cell_far (p := ⟨gb177, _, none⟩) NB152_177.out _).trans (((cell_far (p := ⟨gb177, _, none⟩) NB152_177.out _).trans (hHeld.2.1)))))))), ((cell_far (p := ⟨gb177, _, none⟩) NB152_177.out _).trans (((cell_far (p := ⟨gb177, _, none⟩) NB152_177.out _).trans (((cell_far (p := ⟨gb177, _, none⟩) NB152_177.out _).trans (((cell_far (p := ⟨gb177, _, none⟩) NB152_177.out _).trans (hHeld.2.2.1)))))))), ((cell_far (p := ⟨gb177, _, none⟩) NB152_177.out _).trans (((cell_far (p := ⟨gb177, _, none⟩) NB152_177.out _).trans (((cell_far (p := ⟨gb177, _, none⟩) NB152_177.out _).trans (((cell_far (p := ⟨gb177, _, none⟩) NB152_177.out _).trans (hHeld.2.2.2))))))))⟩ (fun hHeld => ?_);clear hK K;refine done_ (done_of HT_.out (by kernel_rfl)) ?_;have hnb44 := NB177_152.out;have hnc44 := NB152_177.out;have hnb45 := NB177_153.out;have hnc45 := NB153_177.out;obtain ⟨_, _, _, _, _, _, _, _⟩ := cf4 BK177;try go_wp2_with (first | (go_at_call 34; (with_reducible refine (spec_AddrOk.calls k1 a0_0 _ _ t174 t156 t172 true _ ?side1 ?side2 A29.out).mono ?_); (case side1 => exact (by refine (Kd.R_reads' (e := 9) (base := w.heap.size) (ok := fun k_ => (some k_ ≠ (.slice Ao33 x8_1.length co33 : Value).ownBlock ∧ some k_ ≠ (.slice Ao31 t163.length co31 : Value).ownBlock)) (n := t174.length) (c := co39) ?_).2.2; exact (zz43 HO176 BK177))); (case side2 => exact (Kd.R_reads' HO176.out).2.1); rintro e w47 ⟨rfl, hb⟩; replace HO_8 := Aside0.mk (Kd.R_below (zz43 HO_8 BK177) hb); replace HO_9 := Aside0.mk (Kd.R_below (zz43 HO_9 BK177) hb); replace HO176 := Aside0.mk (Kd.R_below (zz43 HO176 BK177) hb); replace BK152 := Aside0.mk (blk_below (g := gb152) (o := .cells #[.string a0_0, .slice A0_1 l0_1.length c0_1, .bool a0_2, .string a0_3] 52 (0, 0)) (zz45 BK152 NB152_177) hb); replace BK153 := Aside0.mk (blk_below (g := gb153) (o := .cells #[.string x154000_1, .slice none 0 0, .bool x154002_1, .string x154003_1] 52 (0, 0)) (zz45 BK153 NB153_177) hb); replace BK177 := Aside0.mk (blk_below (g := gb177) (o := .cells #[.string a0_0, .slice Ao39 t174.length co39, .bool t156, .string t172] 52 (0, 0)) (zz37 BK177) hb); replace HB := Aside0.mk (below_step (zz42 HB GE152 GE153 GE177) hb); (try clear hb); obtain ⟨_, _, _, _, _, _, _, _⟩ := cf4 BK177; have hnb49 := NB153_152.out; have hnc49 := NB152_153.out; obtain ⟨_, _, _, _, _, _, _, _⟩ := cf4 BK153))
       refine bodyPost_ret (results_ct rfl _ _ gb153 52 #[.string a0_0, .slice Ao39 t174.length co39, .bool t156, .string t172] (0, 0) _ rfl (zz37 BK153) Tryz.underlying52 rfl (by kernel_rfl)) rfl ?_;exact ⟨_, zz1, (zz46 (rt HO176 BK153)), (zz42 HB GE152 GE153 GE177)⟩
      ·replace c30 := Bool.eq_false_iff.mpr c30
       subst c30;rw [if_neg (show ¬ (false = true) by decide)] at H;simp only [Option.some.injEq, Prod.mk.injEq] at H
       obtain ⟨rfl, rfl, rfl, rfl, rfl⟩ := H;obtain ⟨Ao51, co51, eo51⟩ := Kd.R_slice HO_9.out;subst eo51;try go_wp2_with (first | ((with_reducible refine gate_callee (f := 64) rfl ?_); refine gsL (some 51) Tryz.func64 #[.string t155] ?_; (with_reducible refine (spec_EscNorm.calls k1 t155 t172 true _ A26.out).mono ?_); rintro e w52 ⟨rfl, hb⟩; refine ⟨_, rfl, ?_⟩; replace HO_8 := Aside0.mk (Kd.R_below (zz28 HO_8) hb); replace HO_9 := Aside0.mk (Kd.R_below (zz28 HO_9) hb); replace BK152 := Aside0.mk (blk_below (zz21 BK152) hb); replace BK153 := Aside0.mk (blk_below (zz21 BK153) hb); replace HB := Aside0.mk (below_step (zz33 HB GE152 GE153) hb); (try clear hb); obtain ⟨Ao53, co53, eo53⟩ := Kd.R_slice HO_8.out; subst eo53))
       replace HO_8 := Aside0.mk (Kd.R_drew HO_8.out);replace HO_9 := Aside0.mk (Kd.R_drew HO_9.out);replace BK152 := Aside0.mk (blk_drew BK152.out);replace BK153 := Aside0.mk (blk_drew BK153.out);replace HB := Aside0.mk (below_drew1 HB.out);refine start_ (n := 9) (S := fun w' => w'.cell? ⟨gb152, 0, none⟩ = some (.string a0_0) ∧ w'.cell? ⟨gb152, 1, none⟩ = some (.slice A0_1 l0_1.length c0_1) ∧ w'.cell? ⟨gb152, 2, none⟩ = some (.bool a0_2) ∧ w'.cell? ⟨gb152, 3, none⟩ = some (.string a0_3)) (ds := []) #[false, false, false, false, false, false, false, false, false] (by kernel_rfl) rfl rfl ⟨(blk_cell BK152.out 0).trans rfl, (blk_cell BK152.out 1).trans rfl, (blk_cell BK152.out 2).trans rfl, (blk_cell BK152.out 3).trans rfl⟩ (fun hHeld => ?_); refine with_tabW spec_l1Way.tab12 spec_l1Way.bits12 (fun HT_ HW_ => ?_);generalize w52.drew = w54 at HO_8 HO_9 BK152 BK153 HB hHeld ⊢;refine pureZ 0 (some 54) #[true, false, false, false, false, false, false, false, false] ?_;refine pureZ 2 (some 56) #[true, false, true, false, false, false, false, false, false] ?_;refine pureZ 4 (some 58) #[true, false, true, false, true, false, false, false, false] ?_;refine pureZ 5 (some 59) #[true, false, true, false, true, true, false, false, false] ?_;refine takeZ4 1 (some 55) #[true, true, true, false, true, true, false, false, false] hHeld ?_;refine join_ (σ := Value × Nat) 1 #[true, true, true, true, true, true, true, true, false] (fun s_ => [(57, s_.1), (15, .pointer (some ⟨s_.2, 0, none⟩)), (60, .agg #[.string a0_0, s_.1, .bool t156, .string t172])]) (fun s_ w' => (w'.cell? ⟨gb152, 0, none⟩ = some (.string a0_0) ∧ w'.cell? ⟨gb152, 1, none⟩ = some (.slice A0_1 l0_1.length c0_1) ∧ w'.cell? ⟨gb152, 2, none⟩ = some (.bool a0_2) ∧ w'.cell? ⟨gb152, 3, none⟩ = some (.string a0_3)) ∧ (Kd.R Kd.string 9 w' w.heap.size (fun k_ => some k_ ≠ (.slice Ao53 x8_1.length co53 : Value).ownBlock ∧ some k_ ≠ (.slice Ao51 t163.length co51 : Value).ownBlock) s_.1 t174) ∧ (Kd.R Kd.string 9 w' w.heap.size (fun k_ => some k_ ≠ (s_.1 : Value).ownBlock ∧ some k_ ≠ (.slice Ao51 t163.length co51 : Value).ownBlock) (.slice Ao53 x8_1.length co53) x8_1) ∧ (Kd.R Kd.string 9 w' w.heap.size (fun k_ => some k_ ≠ (s_.1 : Value).ownBlock ∧ some k_ ≠ (.slice Ao53 x8_1.length co53 : Value).ownBlock) (.slice Ao51 t163.length co51) t163) ∧ (w'.heap[gb152]? = some (.cells #[.string a0_0, .slice A0_1 l0_1.length c0_1, .bool a0_2, .string a0_3] 52 (0, 0))) ∧ (w'.heap[gb153]? = some (.cells #[.string x154000_1, .slice none 0 0, .bool x154002_1, .string x154003_1] 52 (0, 0))) ∧ (w'.heap[s_.2]? = some (.cells #[.string (⟨#[]⟩ : ByteArray), .slice none 0 0, .bool false, .string (⟨#[]⟩ : ByteArray)] 52 (0, 0))) ∧ (w.heap.size ≤ s_.2) ∧ (w.heap.size ≤ s_.2) ∧ (gb152 ≠ s_.2) ∧ (s_.2 ≠ gb152) ∧ (gb153 ≠ s_.2) ∧ (s_.2 ≠ gb153) ∧ (Below w.heap.size w w')) ?_ ?_;rotate_left
       ·intro hCont
        refine two_ (i := 3) (j := 7) (Ni := some 57) (Nj := some 15) #[true, true, true, true, true, true, false, false, false] #[true, true, true, false, true, true, false, true, false] rfl rfl rfl rfl (two_of HT_.out (by kernel_rfl)) (by decide) (by decide) (fun K hK => ?_) (fun K hK => ?_)
        ·skip
         refine goes_ Tryz.func65 (by kernel_rfl) rfl #[.slice Ao53 x8_1.length co53] (by rfl) rfl rfl zz23 ?_;with_reducible refine (spec_PathClean.calls k1 _ _ x8_1 t174 _ ?side1 ?side2 A27.out).mono ?_
         (case side1 => exact (zz39 HO_8))
         (case side2 => exact (Kd.R_reads' HO_8.out).2.1)
         rintro e w55 ⟨v175, rfl, ho0, hb⟩;refine ⟨_, rfl, ?_⟩;have HO176 := Aside0.mk (Kd.R_lower (Kd.R_new' (Kd.R_new' ho0 (Kd.R_lt (zz28 HO_8))) (Kd.R_lt (zz28 HO_9))) (below_size (zz33 HB GE152 GE153)));replace HO_8 := Aside0.mk (Kd.R_elder' (zz28 HO_8) (Kd.R_base ho0) hb);replace HO_9 := Aside0.mk (Kd.R_elder' (zz28 HO_9) (Kd.R_base ho0) hb);replace BK152 := Aside0.mk (blk_below (zz21 BK152) hb);replace BK153 := Aside0.mk (blk_below (zz21 BK153) hb);replace HB := Aside0.mk (below_step (zz33 HB GE152 GE153) hb);(try clear hb)
         (try clear hb2)
         (try clear hk)
         (try clear hi)
         (try clear ho0)
         obtain ⟨Ao56, co56, eo56⟩ := Kd.R_slice HO176.out;(first | subst eo56 | (injection eo56 with f1_ f2_ f3_; have f4_ := f1_.symm; have f5_ := f3_.symm; clear f1_ f2_ f3_; subst f4_; subst f5_))
         refine hK.out _ _ ⟨(blk_cell BK152.out 0).trans rfl, (blk_cell BK152.out 1).trans rfl, (blk_cell BK152.out 2).trans rfl, (blk_cell BK152.out 3).trans rfl⟩ (fun hHeld => ?_);clear hK K;refine norm_ (a' := ?_) ?_ ?_;rotate_left
         ·show Act.put _ (some 57) _ = _
          simp only [Act.put, List.setIfInBounds_toArray, List.set_cons_zero, List.set_cons_succ, i64_w, i32_w]
          rfl
         refine pureZ 6 (some 60) #[true, true, true, true, true, true, true, false, false] ?_;refine one_ (i := 7) (N := some 15) #[true, true, true, true, true, true, true, true, false] rfl rfl (one_of HT_.out (by kernel_rfl)) (by decide) (fun K hK => ?_);refine box_step ?hg (N := 15) ?hd (cs := #[.string (⟨#[]⟩ : ByteArray), .slice none 0 0, .bool false, .string (⟨#[]⟩ : ByteArray)]) (t := 52) ?hr ?_; (case hd => rfl); (case hg => rfl); (case hr => exact zz19);intro gb177 hg w57 hbox hb;replace HO_8 := Aside0.mk (Kd.R_below (zz28 HO_8) hb);replace HO_9 := Aside0.mk (Kd.R_below (zz28 HO_9) hb);replace HO176 := Aside0.mk (Kd.R_below (zz28 HO176) hb);have BK177 := Aside0.mk (hbox);have GW177 := Aside0.mk ((by rw [hg]; exact (below_size (zz33 HB GE152 GE153)) : w.heap.size ≤ gb177));have GE177 := Aside0.mk ((by rw [hg]; exact (below_size (zz33 HB GE152 GE153)) : w.heap.size ≤ gb177));replace HB := Aside0.mk (below_step (zz33 HB GE152 GE153) hb);have NB152_177 := Aside0.mk ((by rw [hg]; exact Nat.ne_of_lt (blk_lt (zz21 BK152)) : gb152 ≠ gb177));have NB177_152 := Aside0.mk ((by rw [hg]; exact Nat.ne_of_gt (blk_lt (zz21 BK152)) : gb177 ≠ gb152));replace BK152 := Aside0.mk (blk_below (zz21 BK152) hb);have NB153_177 := Aside0.mk ((by rw [hg]; exact Nat.ne_of_lt (blk_lt (zz21 BK153)) : gb153 ≠ gb177));have NB177_153 := Aside0.mk ((by rw [hg]; exact Nat.ne_of_gt (blk_lt (zz21 BK153)) : gb177 ≠ gb153));replace BK153 := Aside0.mk (blk_below (zz21 BK153) hb);clear hb hbox hg;refine hK.out _ _ ⟨(blk_cell BK152.out 0).trans rfl, (blk_cell BK152.out 1).trans rfl, (blk_cell BK152.out 2).trans rfl, (blk_cell BK152.out 3).trans rfl⟩ (fun hHeld => ?_);clear hK K;refine norm_ (a' := ?_) ?_ ?_;rotate_left
         ·show Act.put _ (some 15) _ = _
          simp only [Act.put, List.setIfInBounds_toArray, List.set_cons_zero, List.set_cons_succ, i64_w, i32_w]
          rfl
         exact norm_ viaP (hCont (.slice Ao56 t174.length co56, gb177) _ ⟨hHeld, (zz40 HO176), (zz41 HO_8), (zz41 HO_9), (zz21 BK152), (zz21 BK153), (zz21 BK177), GW177.out, GE177.out, NB152_177.out, NB177_152.out, NB153_177.out, NB177_153.out, (zz42 HB GE152 GE153 GE177)⟩)
        ·skip
         refine box_step ?hg (N := 15) ?hd (cs := #[.string (⟨#[]⟩ : ByteArray), .slice none 0 0, .bool false, .string (⟨#[]⟩ : ByteArray)]) (t := 52) ?hr ?_; (case hd => rfl); (case hg => rfl); (case hr => exact zz19);intro gb177 hg w55 hbox hb;replace HO_8 := Aside0.mk (Kd.R_below (zz28 HO_8) hb);replace HO_9 := Aside0.mk (Kd.R_below (zz28 HO_9) hb);have BK177 := Aside0.mk (hbox);have GW177 := Aside0.mk ((by rw [hg]; exact (below_size (zz33 HB GE152 GE153)) : w.heap.size ≤ gb177));have GE177 := Aside0.mk ((by rw [hg]; exact (below_size (zz33 HB GE152 GE153)) : w.heap.size ≤ gb177));replace HB := Aside0.mk (below_step (zz33 HB GE152 GE153) hb);have NB152_177 := Aside0.mk ((by rw [hg]; exact Nat.ne_of_lt (blk_lt (zz21 BK152)) : gb152 ≠ gb177));have NB177_152 := Aside0.mk ((by rw [hg]; exact Nat.ne_of_gt (blk_lt (zz21 BK152)) : gb177 ≠ gb152));replace BK152 := Aside0.mk (blk_below (zz21 BK152) hb);have NB153_177 := Aside0.mk ((by rw [hg]; exact Nat.ne_of_lt (blk_lt (zz21 BK153)) : gb153 ≠ gb177));have NB177_153 := Aside0.mk ((by rw [hg]; exact Nat.ne_of_gt (blk_lt (zz21 BK153)) : gb177 ≠ gb153));replace BK153 := Aside0.mk (blk_below (zz21 BK153) hb);clear hb hbox hg;refine hK.out _ _ ⟨(blk_cell BK152.out 0).trans rfl, (blk_cell BK152.out 1).trans rfl, (blk_cell BK152.out 2).trans rfl, (blk_cell BK152.out 3).trans rfl⟩ (fun hHeld => ?_);clear hK K;refine norm_ (a' := ?_) ?_ ?_;rotate_left
         ·show Act.put _ (some 15) _ = _
          simp only [Act.put, List.setIfInBounds_toArray, List.set_cons_zero, List.set_cons_succ, i64_w, i32_w]
          rfl
         refine one_ (i := 3) (N := some 57) #[true, true, true, true, true, true, false, true, false] rfl rfl (one_of HT_.out (by kernel_rfl)) (by decide) (fun K hK => ?_);refine goes_ Tryz.func65 (by kernel_rfl) rfl #[.slice Ao53 x8_1.length co53] (by rfl) rfl rfl zz23 ?_;with_reducible refine (spec_PathClean.calls k1 _ _ x8_1 t174 _ ?side1 ?side2 A27.out).mono ?_
         (case side1 => exact (zz39 HO_8))
         (case side2 => exact (Kd.R_reads' HO_8.out).2.1)
         rintro e w56 ⟨v175, rfl, ho0, hb⟩;refine ⟨_, rfl, ?_⟩;have HO176 := Aside0.mk (Kd.R_lower (Kd.R_new' (Kd.R_new' ho0 (Kd.R_lt (zz28 HO_8))) (Kd.R_lt (zz28 HO_9))) (below_size (zz42 HB GE152 GE153 GE177)));replace HO_8 := Aside0.mk (Kd.R_elder' (zz28 HO_8) (Kd.R_base ho0) hb);replace HO_9 := Aside0.mk (Kd.R_elder' (zz28 HO_9) (Kd.R_base ho0) hb);replace BK152 := Aside0.mk (blk_below (zz21 BK152) hb);replace BK153 := Aside0.mk (blk_below (zz21 BK153) hb);replace BK177 := Aside0.mk (blk_below (zz21 BK177) hb);replace HB := Aside0.mk (below_step (zz42 HB GE152 GE153 GE177) hb);(try clear hb)
         (try clear hb2)
         (try clear hk)
         (try clear hi)
         (try clear ho0)
         obtain ⟨Ao57, co57, eo57⟩ := Kd.R_slice HO176.out;(first | subst eo57 | (injection eo57 with f1_ f2_ f3_; have f4_ := f1_.symm; have f5_ := f3_.symm; clear f1_ f2_ f3_; subst f4_; subst f5_))
         refine hK.out _ _ ⟨(blk_cell BK152.out 0).trans rfl, (blk_cell BK152.out 1).trans rfl, (blk_cell BK152.out 2).trans rfl, (blk_cell BK152.out 3).trans rfl⟩ (fun hHeld => ?_);clear hK K;refine norm_ (a' := ?_) ?_ ?_;rotate_left
         ·show Act.put _ (some 57) _ = _
          simp only [Act.put, List.setIfInBounds_toArray, List.set_cons_zero, List.set_cons_succ, i64_w, i32_w]
          rfl
         refine pureZ 6 (some 60) #[true, true, true, true, true, true, true, true, false] ?_;exact norm_ viaP (hCont (.slice Ao57 t174.length co57, gb177) _ ⟨hHeld, (zz40 HO176), (zz41 HO_8), (zz41 HO_9), (zz21 BK152), (zz21 BK153), (zz21 BK177), GW177.out, GE177.out, NB152_177.out, NB177_152.out, NB153_177.out, NB177_153.out, (zz42 HB GE152 GE153 GE177)⟩)
       rintro ⟨v175, gb177⟩ w58 ⟨hS_, h0_, h1_, h2_, h3_, h4_, h5_, h6_, h7_, h8_, h9_, h10_, h11_, h12_⟩;have n0_ : Aside0 (Kd.R Kd.string 9 w58 w.heap.size (fun k_ => some k_ ≠ (.slice Ao53 x8_1.length co53 : Value).ownBlock ∧ some k_ ≠ (.slice Ao51 t163.length co51 : Value).ownBlock) v175 t174) := ⟨h0_⟩;have n1_ : Aside0 (Kd.R Kd.string 9 w58 w.heap.size (fun k_ => some k_ ≠ (v175 : Value).ownBlock ∧ some k_ ≠ (.slice Ao51 t163.length co51 : Value).ownBlock) (.slice Ao53 x8_1.length co53) x8_1) := ⟨h1_⟩;have n2_ : Aside0 (Kd.R Kd.string 9 w58 w.heap.size (fun k_ => some k_ ≠ (v175 : Value).ownBlock ∧ some k_ ≠ (.slice Ao53 x8_1.length co53 : Value).ownBlock) (.slice Ao51 t163.length co51) t163) := ⟨h2_⟩;have n3_ : Aside0 (w58.heap[gb152]? = some (.cells #[.string a0_0, .slice A0_1 l0_1.length c0_1, .bool a0_2, .string a0_3] 52 (0, 0))) := ⟨h3_⟩;have n4_ : Aside0 (w58.heap[gb153]? = some (.cells #[.string x154000_1, .slice none 0 0, .bool x154002_1, .string x154003_1] 52 (0, 0))) := ⟨h4_⟩;have n5_ : Aside0 (w58.heap[gb177]? = some (.cells #[.string (⟨#[]⟩ : ByteArray), .slice none 0 0, .bool false, .string (⟨#[]⟩ : ByteArray)] 52 (0, 0))) := ⟨h5_⟩;have n6_ : Aside0 (w.heap.size ≤ gb177) := ⟨h6_⟩;have n7_ : Aside0 (w.heap.size ≤ gb177) := ⟨h7_⟩;have n8_ : Aside0 (gb152 ≠ gb177) := ⟨h8_⟩;have n9_ : Aside0 (gb177 ≠ gb152) := ⟨h9_⟩;have n10_ : Aside0 (gb153 ≠ gb177) := ⟨h10_⟩;have n11_ : Aside0 (gb177 ≠ gb153) := ⟨h11_⟩;have n12_ : Aside0 (Below w.heap.size w w58) := ⟨h12_⟩;clear HO_8;clear HO_9;clear BK152;clear BK153;clear HB;clear h0_ h1_ h2_ h3_ h4_ h5_ h6_ h7_ h8_ h9_ h10_ h11_ h12_;have HO176 := n0_;have HO_8 := n1_;have HO_9 := n2_;have BK152 := n3_;have BK153 := n4_;have BK177 := n5_;have GW177 := n6_;have GE177 := n7_;have NB152_177 := n8_;have NB177_152 := n9_;have NB153_177 := n10_;have NB177_153 := n11_;have HB := n12_;clear n0_ n1_ n2_ n3_ n4_ n5_ n6_ n7_ n8_ n9_ n10_ n11_ n12_;have hHeld : w58.cell? ⟨gb152, 0, none⟩ = some (.string a0_0) ∧ w58.cell? ⟨gb152, 1, none⟩ = some (.slice A0_1 l0_1.length c0_1) ∧ w58.cell? ⟨gb152, 2, none⟩ = some (.bool a0_2) ∧ w58.cell? ⟨gb152, 3, none⟩ = some (.string a0_3) := hS_;obtain ⟨Ao59, co59, eo59⟩ := Kd.R_slice HO176.out;(first | subst eo59 | (injection eo59 with f1_ f2_ f3_; have f4_ := f1_.symm; have f5_ := f3_.symm; clear f1_ f2_ f3_; subst f4_; subst f5_))
       refine norm_ (a' := ?_) ?_ ?_;rotate_left
       ·simp only [putAll, Act.put, List.setIfInBounds_toArray, List.set_cons_zero, List.set_cons_succ]
        rfl
       refine one_ (i := 8) (N := none) #[true, true, true, true, true, true, true, true, true] rfl rfl (one_of HT_.out (by kernel_rfl)) (by decide) (fun K hK => ?_);have hs60 : w58.cell? ⟨gb177, 0, none⟩ = some (.string (⟨#[]⟩ : ByteArray)) := (blk_cell BK177.out 0).trans rfl;have hfs60 := blk_frozen BK177.out 0;have hns60_0 := NB152_177.out;have hns60_1 := NB153_177.out;have hms60_0 := NB177_152.out;have hms60_1 := NB177_153.out;have hs61 : w58.cell? ⟨gb177, 1, none⟩ = some (.slice none 0 0) := (blk_cell BK177.out 1).trans rfl;have hfs61 := blk_frozen BK177.out 1;have hns61_0 := NB152_177.out;have hns61_1 := NB153_177.out;have hms61_0 := NB177_152.out;have hms61_1 := NB177_153.out;have hs62 : w58.cell? ⟨gb177, 2, none⟩ = some (.bool false) := (blk_cell BK177.out 2).trans rfl;have hfs62 := blk_frozen BK177.out 2;have hns62_0 := NB152_177.out;have hns62_1 := NB153_177.out;have hms62_0 := NB177_152.out;have hms62_1 := NB177_153.out;have hs63 : w58.cell? ⟨gb177, 3, none⟩ = some (.string (⟨#[]⟩ : ByteArray)) := (blk_cell BK177.out 3).trans rfl;have hfs63 := blk_frozen BK177.out 3;have hns63_0 := NB152_177.out;have hns63_1 := NB153_177.out;have hms63_0 := NB177_152.out;have hms63_1 := NB177_153.out;refine skip_ (w1 := ?_) (by rfl) rfl ?_ ?_;rotate_left
       ·go_simp
        rfl
       refine hK.out _ _ ⟨((cell_far (p := ⟨gb177, _, none⟩) NB152_177.out _).trans (((cell_far (p := ⟨gb177, _, none⟩) NB152_177.out _).trans (((cell_far (p := ⟨gb177, _, none⟩) NB152_177.out _).trans (((cell_far (p := ⟨gb177, _, none⟩) NB152_177.out _).trans (hHeld.1)))))))), ((cell_far (p := ⟨gb177, _, none⟩) NB152_177.out _).trans (((cell_far (p := ⟨gb177, _, none⟩) NB152_177.out _).trans (((cell_far (p := ⟨gb177, _, none⟩) NB152_177.out _).trans (((cell_far (p := ⟨gb177, _, none⟩) NB152_177.out _).trans (hHeld.2.1)))))))), ((cell_far (p := ⟨gb177, _, none⟩) NB152_177.out _).trans (((cell_far (p := ⟨gb177, _, none⟩) NB152_177.out _).trans (((cell_far (p := ⟨gb177, _, none⟩) NB152_177.out _).trans (((cell_far (p := ⟨gb177, _, none⟩) NB152_177.out _).trans (hHeld.2.2.1)))))))), ((cell_far (p := ⟨gb177, _, none⟩) NB152_177.out _).trans (((cell_far (p := ⟨gb177, _, none⟩) NB152_177.out _).trans (((cell_far (p := ⟨gb177, _, none⟩) NB152_177.out _).trans (((cell_far (p := ⟨gb177, _, none⟩) NB152_177.out _).trans (hHeld.2.2.2))))))))⟩ (fun hHeld => ?_);clear hK K;refine done_ (done_of HT_.out (by kernel_rfl)) ?_;have hnb64 := NB177_152.out;have hnc64 := NB152_177.out;have hnb65 := NB177_153.out;have hnc65 := NB153_177.out;obtain ⟨_, _, _, _, _, _, _, _⟩ := cf4 BK177;try go_wp2_with (first | (go_at_call 34; (with_reducible refine (spec_AddrOk.calls k1 a0_0 _ _ t174 t156 t172 false _ ?side1 ?side2 A29.out).mono ?_); (case side1 => exact (by refine (Kd.R_reads' (e := 9) (base := w.heap.size) (ok := fun k_ => (some k_ ≠ (.slice Ao53 x8_1.length co53 : Value).ownBlock ∧ some k_ ≠ (.slice Ao51 t163.length co51 : Value).ownBlock)) (n := t174.length) (c := co59) ?_).2.2; exact (zz47 HO176 BK177))); (case side2 => exact (Kd.R_reads' HO176.out).2.1); rintro e w67 ⟨rfl, hb⟩; replace HO_8 := Aside0.mk (Kd.R_below (zz47 HO_8 BK177) hb); replace HO_9 := Aside0.mk (Kd.R_below (zz47 HO_9 BK177) hb); replace HO176 := Aside0.mk (Kd.R_below (zz47 HO176 BK177) hb); replace BK152 := Aside0.mk (blk_below (g := gb152) (o := .cells #[.string a0_0, .slice A0_1 l0_1.length c0_1, .bool a0_2, .string a0_3] 52 (0, 0)) (zz45 BK152 NB152_177) hb); replace BK153 := Aside0.mk (blk_below (g := gb153) (o := .cells #[.string x154000_1, .slice none 0 0, .bool x154002_1, .string x154003_1] 52 (0, 0)) (zz45 BK153 NB153_177) hb); replace BK177 := Aside0.mk (blk_below (g := gb177) (o := .cells #[.string a0_0, .slice Ao59 t174.length co59, .bool t156, .string t172] 52 (0, 0)) (zz37 BK177) hb); replace HB := Aside0.mk (below_step (zz42 HB GE152 GE153 GE177) hb); (try clear hb); have hnb68 := NB153_152.out; have hnc68 := NB152_153.out; obtain ⟨_, _, _, _, _, _, _, _⟩ := cf4 BK153))
       refine bodyPost_ret (results_ct rfl _ _ gb153 52 #[.string (⟨#[]⟩ : ByteArray), .slice none 0 0, .bool false, .string (⟨#[]⟩ : ByteArray)] (0, 0) _ rfl (zz37 BK153) Tryz.underlying52 rfl (by kernel_rfl)) rfl ?_;exact ⟨_, zz1, zz38, (zz42 HB GE152 GE153 GE177)⟩
     ·replace c28 := Bool.eq_false_iff.mpr c28
      subst c28;rw [if_neg (show ¬ (false = true) by decide)] at H;simp only [Option.some.injEq, Prod.mk.injEq] at H
      obtain ⟨rfl, rfl, rfl, rfl, rfl⟩ := H;obtain ⟨Ao70, co70, eo70⟩ := Kd.R_slice HO_9.out;subst eo70;try go_wp2_with (first | ((with_reducible refine gate_callee (f := 64) rfl ?_); refine gsL (some 51) Tryz.func64 #[.string t155] ?_; (with_reducible refine (spec_EscNorm.calls k1 t155 t172 false _ A26.out).mono ?_); rintro e w71 ⟨rfl, hb⟩; refine ⟨_, rfl, ?_⟩; replace HO_8 := Aside0.mk (Kd.R_below (zz28 HO_8) hb); replace HO_9 := Aside0.mk (Kd.R_below (zz28 HO_9) hb); replace BK152 := Aside0.mk (blk_below (zz21 BK152) hb); replace BK153 := Aside0.mk (blk_below (zz21 BK153) hb); replace HB := Aside0.mk (below_step (zz33 HB GE152 GE153) hb); (try clear hb); obtain ⟨Ao72, co72, eo72⟩ := Kd.R_slice HO_8.out; subst eo72))
      replace HO_8 := Aside0.mk (Kd.R_drew HO_8.out);replace HO_9 := Aside0.mk (Kd.R_drew HO_9.out);replace BK152 := Aside0.mk (blk_drew BK152.out);replace BK153 := Aside0.mk (blk_drew BK153.out);replace HB := Aside0.mk (below_drew1 HB.out);refine start_ (n := 9) (S := fun w' => w'.cell? ⟨gb152, 0, none⟩ = some (.string a0_0) ∧ w'.cell? ⟨gb152, 1, none⟩ = some (.slice A0_1 l0_1.length c0_1) ∧ w'.cell? ⟨gb152, 2, none⟩ = some (.bool a0_2) ∧ w'.cell? ⟨gb152, 3, none⟩ = some (.string a0_3)) (ds := []) #[false, false, false, false, false, false, false, false, false] (by kernel_rfl) rfl rfl ⟨(blk_cell BK152.out 0).trans rfl, (blk_cell BK152.out 1).trans rfl, (blk_cell BK152.out 2).trans rfl, (blk_cell BK152.out 3).trans rfl⟩ (fun hHeld => ?_); refine with_tabW spec_l1Way.tab12 spec_l1Way.bits12 (fun HT_ HW_ => ?_);generalize w71.drew = w73 at HO_8 HO_9 BK152 BK153 HB hHeld ⊢;refine pureZ 0 (some 54) #[true, false, false, false, false, false, false, false, false] ?_;refine pureZ 2 (some 56) #[true, false, true, false, false, false, false, false, false] ?_;refine pureZ 4 (some 58) #[true, false, true, false, true, false, false, false, false] ?_;refine pureZ 5 (some 59) #[true, false, true, false, true, true, false, false, false] ?_;refine takeZ4 1 (some 55) #[true, true, true, false, true, true, false, false, false] hHeld ?_;refine join_ (σ := Value × Nat) 1 #[true, true, true, true, true, true, true, true, false] (fun s_ => [(57, s_.1), (15, .pointer (some ⟨s_.2, 0, none⟩)), (60, .agg #[.string a0_0, s_.1, .bool t156, .string t172])]) (fun s_ w' => (w'.cell? ⟨gb152, 0, none⟩ = some (.string a0_0) ∧ w'.cell? ⟨gb152, 1, none⟩ = some (.slice A0_1 l0_1.length c0_1) ∧ w'.cell? ⟨gb152, 2, none⟩ = some (.bool a0_2) ∧ w'.cell? ⟨gb152, 3, none⟩ = some (.string a0_3)) ∧ (Kd.R Kd.string 9 w' w.heap.size (fun k_ => some k_ ≠ (.slice Ao72 x8_1.length co72 : Value).ownBlock ∧ some k_ ≠ (.slice Ao70 t163.length co70 : Value).ownBlock) s_.1 t174) ∧ (Kd.R Kd.string 9 w' w.heap.size (fun k_ => some k_ ≠ (s_.1 : Value).ownBlock ∧ some k_ ≠ (.slice Ao70 t163.length co70 : Value).ownBlock) (.slice Ao72 x8_1.length co72) x8_1) ∧ (Kd.R Kd.string 9 w' w.heap.size (fun k_ => some k_ ≠ (s_.1 : Value).ownBlock ∧ some k_ ≠ (.slice Ao72 x8_1.length co72 : Value).ownBlock) (.slice Ao70 t163.length co70) t163) ∧ (w'.heap[gb152]? = some (.cells #[.string a0_0, .slice A0_1 l0_1.length c0_1, .bool a0_2, .string a0_3] 52 (0, 0))) ∧ (w'.heap[gb153]? = some (.cells #[.string x154000_1, .slice none 0 0, .bool x154002_1, .string x154003_1] 52 (0, 0))) ∧ (w'.heap[s_.2]? = some (.cells #[.string (⟨#[]⟩ : ByteArray), .slice none 0 0, .bool false, .string (⟨#[]⟩ : ByteArray)] 52 (0, 0))) ∧ (w.heap.size ≤ s_.2) ∧ (w.heap.size ≤ s_.2) ∧ (gb152 ≠ s_.2) ∧ (s_.2 ≠ gb152) ∧ (gb153 ≠ s_.2) ∧ (s_.2 ≠ gb153) ∧ (Below w.heap.size w w')) ?_ ?_;rotate_left
      ·intro hCont
       refine two_ (i := 3) (j := 7) (Ni := some 57) (Nj := some 15) #[true, true, true, true, true, true, false, false, false] #[true, true, true, false, true, true, false, true, false] rfl rfl rfl rfl (two_of HT_.out (by kernel_rfl)) (by decide) (by decide) (fun K hK => ?_) (fun K hK => ?_)
       ·skip
        refine goes_ Tryz.func65 (by kernel_rfl) rfl #[.slice Ao72 x8_1.length co72] (by rfl) rfl rfl zz23 ?_;with_reducible refine (spec_PathClean.calls k1 _ _ x8_1 t174 _ ?side1 ?side2 A27.out).mono ?_
        (case side1 => exact (zz39 HO_8))
        (case side2 => exact (Kd.R_reads' HO_8.out).2.1)
        rintro e w74 ⟨v175, rfl, ho0, hb⟩;refine ⟨_, rfl, ?_⟩;have HO176 := Aside0.mk (Kd.R_lower (Kd.R_new' (Kd.R_new' ho0 (Kd.R_lt (zz28 HO_8))) (Kd.R_lt (zz28 HO_9))) (below_size (zz33 HB GE152 GE153)));replace HO_8 := Aside0.mk (Kd.R_elder' (zz28 HO_8) (Kd.R_base ho0) hb);replace HO_9 := Aside0.mk (Kd.R_elder' (zz28 HO_9) (Kd.R_base ho0) hb);replace BK152 := Aside0.mk (blk_below (zz21 BK152) hb);replace BK153 := Aside0.mk (blk_below (zz21 BK153) hb);replace HB := Aside0.mk (below_step (zz33 HB GE152 GE153) hb);(try clear hb)
        (try clear hb2)
        (try clear hk)
        (try clear hi)
        (try clear ho0)
        obtain ⟨Ao75, co75, eo75⟩ := Kd.R_slice HO176.out;(first | subst eo75 | (injection eo75 with f1_ f2_ f3_; have f4_ := f1_.symm; have f5_ := f3_.symm; clear f1_ f2_ f3_; subst f4_; subst f5_))
        refine hK.out _ _ ⟨(blk_cell BK152.out 0).trans rfl, (blk_cell BK152.out 1).trans rfl, (blk_cell BK152.out 2).trans rfl, (blk_cell BK152.out 3).trans rfl⟩ (fun hHeld => ?_);clear hK K;refine norm_ (a' := ?_) ?_ ?_;rotate_left
        ·show Act.put _ (some 57) _ = _
         simp only [Act.put, List.setIfInBounds_toArray, List.set_cons_zero, List.set_cons_succ, i64_w, i32_w]
         rfl
        refine pureZ 6 (some 60) #[true, true, true, true, true, true, true, false, false] ?_;refine one_ (i := 7) (N := some 15) #[true, true, true, true, true, true, true, true, false] rfl rfl (one_of HT_.out (by kernel_rfl)) (by decide) (fun K hK => ?_);refine box_step ?hg (N := 15) ?hd (cs := #[.string (⟨#[]⟩ : ByteArray), .slice none 0 0, .bool false, .string (⟨#[]⟩ : ByteArray)]) (t := 52) ?hr ?_; (case hd => rfl); (case hg => rfl); (case hr => exact zz19);intro gb177 hg w76 hbox hb;replace HO_8 := Aside0.mk (Kd.R_below (zz28 HO_8) hb);replace HO_9 := Aside0.mk (Kd.R_below (zz28 HO_9) hb);replace HO176 := Aside0.mk (Kd.R_below (zz28 HO176) hb);have BK177 := Aside0.mk (hbox);have GW177 := Aside0.mk ((by rw [hg]; exact (below_size (zz33 HB GE152 GE153)) : w.heap.size ≤ gb177));have GE177 := Aside0.mk ((by rw [hg]; exact (below_size (zz33 HB GE152 GE153)) : w.heap.size ≤ gb177));replace HB := Aside0.mk (below_step (zz33 HB GE152 GE153) hb);have NB152_177 := Aside0.mk ((by rw [hg]; exact Nat.ne_of_lt (blk_lt (zz21 BK152)) : gb152 ≠ gb177));have NB177_152 := Aside0.mk ((by rw [hg]; exact Nat.ne_of_gt (blk_lt (zz21 BK152)) : gb177 ≠ gb152));replace BK152 := Aside0.mk (blk_below (zz21 BK152) hb);have NB153_177 := Aside0.mk ((by rw [hg]; exact Nat.ne_of_lt (blk_lt (zz21 BK153)) : gb153 ≠ gb177));have NB177_153 := Aside0.mk ((by rw [hg]; exact Nat.ne_of_gt (blk_lt (zz21 BK153)) : gb177 ≠ gb153));replace BK153 := Aside0.mk (blk_below (zz21 BK153) hb);clear hb hbox hg;refine hK.out _ _ ⟨(blk_cell BK152.out 0).trans rfl, (blk_cell BK152.out 1).trans rfl, (blk_cell BK152.out 2).trans rfl, (blk_cell BK152.out 3).trans rfl⟩ (fun hHeld => ?_);clear hK K;refine norm_ (a' := ?_) ?_ ?_;rotate_left
        ·show Act.put _ (some 15) _ = _
         simp only [Act.put, List.setIfInBounds_toArray, List.set_cons_zero, List.set_cons_succ, i64_w, i32_w]
         rfl
        exact norm_ viaP (hCont (.slice Ao75 t174.length co75, gb177) _ ⟨hHeld, (zz40 HO176), (zz41 HO_8), (zz41 HO_9), (zz21 BK152), (zz21 BK153), (zz21 BK177), GW177.out, GE177.out, NB152_177.out, NB177_152.out, NB153_177.out, NB177_153.out, (zz42 HB GE152 GE153 GE177)⟩)
       ·skip
        refine box_step ?hg (N := 15) ?hd (cs := #[.string (⟨#[]⟩ : ByteArray), .slice none 0 0, .bool false, .string (⟨#[]⟩ : ByteArray)]) (t := 52) ?hr ?_; (case hd => rfl); (case hg => rfl); (case hr => exact zz19);intro gb177 hg w74 hbox hb;replace HO_8 := Aside0.mk (Kd.R_below (zz28 HO_8) hb);replace HO_9 := Aside0.mk (Kd.R_below (zz28 HO_9) hb);have BK177 := Aside0.mk (hbox);have GW177 := Aside0.mk ((by rw [hg]; exact (below_size (zz33 HB GE152 GE153)) : w.heap.size ≤ gb177));have GE177 := Aside0.mk ((by rw [hg]; exact (below_size (zz33 HB GE152 GE153)) : w.heap.size ≤ gb177));replace HB := Aside0.mk (below_step (zz33 HB GE152 GE153) hb);have NB152_177 := Aside0.mk ((by rw [hg]; exact Nat.ne_of_lt (blk_lt (zz21 BK152)) : gb152 ≠ gb177));have NB177_152 := Aside0.mk ((by rw [hg]; exact Nat.ne_of_gt (blk_lt (zz21 BK152)) : gb177 ≠ gb152));replace BK152 := Aside0.mk (blk_below (zz21 BK152) hb);have NB153_177 := Aside0.mk ((by rw [hg]; exact Nat.ne_of_lt (blk_lt (zz21 BK153)) : gb153 ≠ gb177));have NB177_153 := Aside0.mk ((by rw [hg]; exact Nat.ne_of_gt (blk_lt (zz21 BK153)) : gb177 ≠ gb153));replace BK153 := Aside0.mk (blk_below (zz21 BK153) hb);clear hb hbox hg;refine hK.out _ _ ⟨(blk_cell BK152.out 0).trans rfl, (blk_cell BK152.out 1).trans rfl, (blk_cell BK152.out 2).trans rfl, (blk_cell BK152.out 3).trans rfl⟩ (fun hHeld => ?_);clear hK K;refine norm_ (a' := ?_) ?_ ?_;rotate_left
        ·show Act.put _ (some 15) _ = _
         simp only [Act.put, List.setIfInBounds_toArray, List.set_cons_zero, List.set_cons_succ, i64_w, i32_w]
         rfl
        refine one_ (i := 3) (N := some 57) #[true, true, true, true, true, true, false, true, false] rfl rfl (one_of HT_.out (by kernel_rfl)) (by decide) (fun K hK => ?_);refine goes_ Tryz.func65 (by kernel_rfl) rfl #[.slice Ao72 x8_1.length co72] (by rfl) rfl rfl zz23 ?_;with_reducible refine (spec_PathClean.calls k1 _ _ x8_1 t174 _ ?side1 ?side2 A27.out).mono ?_
        (case side1 => exact (zz39 HO_8))
        (case side2 => exact (Kd.R_reads' HO_8.out).2.1)
        rintro e w75 ⟨v175, rfl, ho0, hb⟩;refine ⟨_, rfl, ?_⟩;have HO176 := Aside0.mk (Kd.R_lower (Kd.R_new' (Kd.R_new' ho0 (Kd.R_lt (zz28 HO_8))) (Kd.R_lt (zz28 HO_9))) (below_size (zz42 HB GE152 GE153 GE177)));replace HO_8 := Aside0.mk (Kd.R_elder' (zz28 HO_8) (Kd.R_base ho0) hb);replace HO_9 := Aside0.mk (Kd.R_elder' (zz28 HO_9) (Kd.R_base ho0) hb);replace BK152 := Aside0.mk (blk_below (zz21 BK152) hb);replace BK153 := Aside0.mk (blk_below (zz21 BK153) hb);replace BK177 := Aside0.mk (blk_below (zz21 BK177) hb);replace HB := Aside0.mk (below_step (zz42 HB GE152 GE153 GE177) hb);(try clear hb)
        (try clear hb2)
        (try clear hk)
        (try clear hi)
        (try clear ho0)
        obtain ⟨Ao76, co76, eo76⟩ := Kd.R_slice HO176.out;(first | subst eo76 | (injection eo76 with f1_ f2_ f3_; have f4_ := f1_.symm; have f5_ := f3_.symm; clear f1_ f2_ f3_; subst f4_; subst f5_))
        refine hK.out _ _ ⟨(blk_cell BK152.out 0).trans rfl, (blk_cell BK152.out 1).trans rfl, (blk_cell BK152.out 2).trans rfl, (blk_cell BK152.out 3).trans rfl⟩ (fun hHeld => ?_);clear hK K;refine norm_ (a' := ?_) ?_ ?_;rotate_left
        ·show Act.put _ (some 57) _ = _
         simp only [Act.put, List.setIfInBounds_toArray, List.set_cons_zero, List.set_cons_succ, i64_w, i32_w]
         rfl
        refine pureZ 6 (some 60) #[true, true, true, true, true, true, true, true, false] ?_;exact norm_ viaP (hCont (.slice Ao76 t174.length co76, gb177) _ ⟨hHeld, (zz40 HO176), (zz41 HO_8), (zz41 HO_9), (zz21 BK152), (zz21 BK153), (zz21 BK177), GW177.out, GE177.out, NB152_177.out, NB177_152.out, NB153_177.out, NB177_153.out, (zz42 HB GE152 GE153 GE177)⟩)
      rintro ⟨v175, gb177⟩ w77 ⟨hS_, h0_, h1_, h2_, h3_, h4_, h5_, h6_, h7_, h8_, h9_, h10_, h11_, h12_⟩;have n0_ : Aside0 (Kd.R Kd.string 9 w77 w.heap.size (fun k_ => some k_ ≠ (.slice Ao72 x8_1.length co72 : Value).ownBlock ∧ some k_ ≠ (.slice Ao70 t163.length co70 : Value).ownBlock) v175 t174) := ⟨h0_⟩;have n1_ : Aside0 (Kd.R Kd.string 9 w77 w.heap.size (fun k_ => some k_ ≠ (v175 : Value).ownBlock ∧ some k_ ≠ (.slice Ao70 t163.length co70 : Value).ownBlock) (.slice Ao72 x8_1.length co72) x8_1) := ⟨h1_⟩;have n2_ : Aside0 (Kd.R Kd.string 9 w77 w.heap.size (fun k_ => some k_ ≠ (v175 : Value).ownBlock ∧ some k_ ≠ (.slice Ao72 x8_1.length co72 : Value).ownBlock) (.slice Ao70 t163.length co70) t163) := ⟨h2_⟩;have n3_ : Aside0 (w77.heap[gb152]? = some (.cells #[.string a0_0, .slice A0_1 l0_1.length c0_1, .bool a0_2, .string a0_3] 52 (0, 0))) := ⟨h3_⟩;have n4_ : Aside0 (w77.heap[gb153]? = some (.cells #[.string x154000_1, .slice none 0 0, .bool x154002_1, .string x154003_1] 52 (0, 0))) := ⟨h4_⟩;have n5_ : Aside0 (w77.heap[gb177]? = some (.cells #[.string (⟨#[]⟩ : ByteArray), .slice none 0 0, .bool false, .string (⟨#[]⟩ : ByteArray)] 52 (0, 0))) := ⟨h5_⟩;have n6_ : Aside0 (w.heap.size ≤ gb177) := ⟨h6_⟩;have n7_ : Aside0 (w.heap.size ≤ gb177) := ⟨h7_⟩;have n8_ : Aside0 (gb152 ≠ gb177) := ⟨h8_⟩;have n9_ : Aside0 (gb177 ≠ gb152) := ⟨h9_⟩;have n10_ : Aside0 (gb153 ≠ gb177) := ⟨h10_⟩;have n11_ : Aside0 (gb177 ≠ gb153) := ⟨h11_⟩;have n12_ : Aside0 (Below w.heap.size w w77) := ⟨h12_⟩;clear HO_8;clear HO_9;clear BK152;clear BK153;clear HB;clear h0_ h1_ h2_ h3_ h4_ h5_ h6_ h7_ h8_ h9_ h10_ h11_ h12_;have HO176 := n0_;have HO_8 := n1_;have HO_9 := n2_;have BK152 := n3_;have BK153 := n4_;have BK177 := n5_;have GW177 := n6_;have GE177 := n7_;have NB152_177 := n8_;have NB177_152 := n9_;have NB153_177 := n10_;have NB177_153 := n11_;have HB := n12_;clear n0_ n1_ n2_ n3_ n4_ n5_ n6_ n7_ n8_ n9_ n10_ n11_ n12_;have hHeld : w77.cell? ⟨gb152, 0, none⟩ = some (.string a0_0) ∧ w77.cell? ⟨gb152, 1, none⟩ = some (.slice A0_1 l0_1.length c0_1) ∧ w77.cell? ⟨gb152, 2, none⟩ = some (.bool a0_2) ∧ w77.cell? ⟨gb152, 3, none⟩ = some (.string a0_3) := hS_;obtain ⟨Ao78, co78, eo78⟩ := Kd.R_slice HO176.out;(first | subst eo78 | (injection eo78 with f1_ f2_ f3_; have f4_ := f1_.symm; have f5_ := f3_.symm; clear f1_ f2_ f3_; subst f4_; subst f5_))
      refine norm_ (a' := ?_) ?_ ?_;rotate_left
      ·simp only [putAll, Act.put, List.setIfInBounds_toArray, List.set_cons_zero, List.set_cons_succ]
       rfl
      refine one_ (i := 8) (N := none) #[true, true, true, true, true, true, true, true, true] rfl rfl (one_of HT_.out (by kernel_rfl)) (by decide) (fun K hK => ?_);have hs79 : w77.cell? ⟨gb177, 0, none⟩ = some (.string (⟨#[]⟩ : ByteArray)) := (blk_cell BK177.out 0).trans rfl;have hfs79 := blk_frozen BK177.out 0;have hns79_0 := NB152_177.out;have hns79_1 := NB153_177.out;have hms79_0 := NB177_152.out;have hms79_1 := NB177_153.out;have hs80 : w77.cell? ⟨gb177, 1, none⟩ = some (.slice none 0 0) := (blk_cell BK177.out 1).trans rfl;have hfs80 := blk_frozen BK177.out 1;have hns80_0 := NB152_177.out;have hns80_1 := NB153_177.out;have hms80_0 := NB177_152.out;have hms80_1 := NB177_153.out;have hs81 : w77.cell? ⟨gb177, 2, none⟩ = some (.bool false) := (blk_cell BK177.out 2).trans rfl;have hfs81 := blk_frozen BK177.out 2;have hns81_0 := NB152_177.out;have hns81_1 := NB153_177.out;have hms81_0 := NB177_152.out;have hms81_1 := NB177_153.out;have hs82 : w77.cell? ⟨gb177, 3, none⟩ = some (.string (⟨#[]⟩ : ByteArray)) := (blk_cell BK177.out 3).trans rfl;have hfs82 := blk_frozen BK177.out 3;have hns82_0 := NB152_177.out;have hns82_1 := NB153_177.out;have hms82_0 := NB177_152.out;have hms82_1 := NB177_153.out;refine skip_ (w1 := ?_) (by rfl) rfl ?_ ?_;rotate_left
      ·go_simp
       rfl
      refine hK.out _ _ ⟨((cell_far (p := ⟨gb177, _, none⟩) NB152_177.out _).trans (((cell_far (p := ⟨gb177, _, none⟩) NB152_177.out _).trans (((cell_far (p := ⟨gb177, _, none⟩) NB152_177.out _).trans (((cell_far (p := ⟨gb177, _, none⟩) NB152_177.out _).trans (hHeld.1)))))))), ((cell_far (p := ⟨gb177, _, none⟩) NB152_177.out _).trans (((cell_far (p := ⟨gb177, _, none⟩) NB152_177.out _).trans (((cell_far (p := ⟨gb177, _, none⟩) NB152_177.out _).trans (((cell_far (p := ⟨gb177, _, none⟩) NB152_177.out _).trans (hHeld.2.1)))))))), ((cell_far (p := ⟨gb177, _, none⟩) NB152_177.out _).trans (((cell_far (p := ⟨gb177, _, none⟩) NB152_177.out _).trans (((cell_far (p := ⟨gb177, _, none⟩) NB152_177.out _).trans (((cell_far (p := ⟨gb177, _, none⟩) NB152_177.out _).trans (hHeld.2.2.1)))))))), ((cell_far (p := ⟨gb177, _, none⟩) NB152_177.out _).trans (((cell_far (p := ⟨gb177, _, none⟩) NB152_177.out _).trans (((cell_far (p := ⟨gb177, _, none⟩) NB152_177.out _).trans (((cell_far (p := ⟨gb177, _, none⟩) NB152_177.out _).trans (hHeld.2.2.2))))))))⟩ (fun hHeld => ?_);clear hK K;refine done_ (done_of HT_.out (by kernel_rfl)) ?_;have hnb83 := NB153_152.out;have hnc83 := NB152_153.out;have hnb84 := NB153_177.out;have hnc84 := NB177_153.out;obtain ⟨_, _, _, _, _, _, _, _⟩ := cf4 BK153;try go_wp2
      refine bodyPost_ret (results_ct rfl _ _ gb153 52 #[.string (⟨#[]⟩ : ByteArray), .slice none 0 0, .bool false, .string (⟨#[]⟩ : ByteArray)] (0, 0) _ rfl (zz45 BK153 NB153_177) Tryz.underlying52 rfl (by kernel_rfl)) rfl ?_;exact ⟨_, zz1, zz38, (zz42 HB GE152 GE153 GE177)⟩
 ·rw [if_neg c4] at H
  exact absurd H (by simp)
end Go.Proofs.YtpnedbnpnekahaaGreatDoor.P
end
section
namespace Go.Proofs.YtpnedbnpnekahaaGreatDoor.P
open Go.RowKit Go.Proofs.YtpnedbnpnekahaaGreatDoorW.PrintWords Go.Proofs.YtpnedbnpnekahaaGreatDoorW.PrintLast Go.Proofs.YtpnedbnpnekahaaGreatDoorW.PrintMore
set_option linter.unusedVariables false
section
variable {P : Program} {ops : Array Oper} {Q : Exit → Act → World → Prop}
theorem callv_ {oi : Oper} {N : Option Tmp} {a : Act} {w : World} {K : Act → World → Prop} {f : FuncId} {fn : Func} {as1 : Array Operand} {ts : Array TypeId} {cap : Array Value} (hf : P.funcs[f]? = some fn) (hname : (fn.name == "runtime.NumGoroutine") = false) (hb : fn.body.isSome = true) (args : Array Value)
  (hw : Region.wanted oi (yielded ops a.tmps) = true) (hN : oi.dst = N) (t : Operand) (hop : oi.op = .call { callee := .value t, args := as1, argTypes := ts }) (hv : a.eval t = .func (.func f) #[] cap) (hargs : as1.map a.eval ++ cap = args)
  (h : Calls P f args w fun e w' => ∃ v, e = .returned v ∧ K (a.put N v) w') : if Region.wanted oi (yielded ops a.tmps) = true then Oper.wp P oi a w K Q else K (a.put N undef) w := by
 refine call_ f args hw hN ?_ h
 have he := enters_ hf hname hb args w
 unfold execOp
 simp [hop, resolve, hv, Deferred.ofValue, invoke, hargs, he]
end
theorem heap_set_ne (w : World) (p : Addr) (u : Value) (k : Nat) (h : k ≠ p.block) : (w.setCell p u).heap[k]? = w.heap[k]? := Below.heap_setCell w p u k h
theorem size_set (w : World) (p : Addr) (u : Value) : (w.setCell p u).heap.size = w.heap.size := by simp
end Go.Proofs.YtpnedbnpnekahaaGreatDoor.P
end
section
namespace Go.Proofs.YtpnedbnpnekahaaGreatDoor.B
open Go.RowKit Go.Proofs.YtpnedbnpnekahaaGreatDoorW.PrintWords Go.Proofs.YtpnedbnpnekahaaGreatDoorW.PrintLast Go.Proofs.YtpnedbnpnekahaaGreatDoorW.PrintMore
set_option linter.unusedVariables false
set_option linter.unusedSimpArgs false
theorem w64 {n : Int} (h0 : -9223372036854775808 ≤ n) (h1 : n < 9223372036854775808) : wrap64 n = n := by
 unfold wrap64; omega
abbrev L (s : ByteArray) : List UInt8 := s.data.toList
theorem L_size (s : ByteArray) : (L s).length = s.size := (Lib.size_eq s).symm
theorem L_app (a b : ByteArray) : L (a ++ b) = L a ++ L b := by simp [L]
theorem L_ext (s : ByteArray) (a b : Nat) : L (s.extract a b) = ((L s).drop a).take (b - a) := Lib.extract_data s a b
theorem L_inj {a b : ByteArray} (h : L a = L b) : a = b := by
 cases a; cases b; congr 1; exact Array.toList_inj.1 h
theorem toList_inj {a b : ByteArray} : a.toList = b.toList ↔ a = b := by
 rw [Lib.toList_data, Lib.toList_data]; exact ⟨fun h => L_inj h, fun h => by rw [h]⟩
theorem toList_nil {a : ByteArray} : a.toList = ([] : List UInt8) ↔ a.size = 0 := by
 rw [Lib.toList_data, Lib.size_eq]; exact List.length_eq_zero_iff.symm
theorem bt_L (s : ByteArray) (i : Nat) : bt s i = (((L s).getD i 0).toNat : Int) := by
 unfold bt
 simp only [Int.toNat_natCast]
 split
 ·rename_i h
  rw [List.getD_eq_getElem?_getD, List.getElem?_eq_getElem (by rw [L_size]; exact h)]
  simp [L]
  rfl
 ·rename_i h
  rw [List.getD_eq_getElem?_getD, List.getElem?_eq_none (by rw [L_size]; omega)]
  rfl
theorem Ev_succ {α : Type} {g : Nat → Option α} {r : α} (h : Ev (fun k => g (k + 1)) r) : Ev g r := Ev.step (f := fun k => g (k + 1)) (fun _ => rfl) h
end Go.Proofs.YtpnedbnpnekahaaGreatDoor.B
end
section
namespace Go.Proofs.YtpnedbnpnekahaaGreatDoor.Ad
open Go.RowKit Go.Proofs.YtpnedbnpnekahaaGreatDoorW.PrintWords Go.Proofs.YtpnedbnpnekahaaGreatDoor.B
set_option linter.unusedVariables false
set_option linter.unusedSimpArgs false
abbrev ofL (l : List UInt8) : ByteArray := ⟨l.toArray⟩
theorem L_of (l : List UInt8) : L (ofL l) = l := by simp [L]
theorem of_L (s : ByteArray) : ofL (L s) = s := by apply L_inj; simp [L]
theorem ofL_app (a b : List UInt8) : ofL (a ++ b) = ofL a ++ ofL b := by apply L_inj; rw [L_of, L_app, L_of, L_of]
theorem ofL_size (l : List UInt8) : (ofL l).size = l.length := by rw [← L_size, L_of]
def plainB (c : UInt8) : Bool := (decide (97 ≤ c.toNat) && decide (c.toNat ≤ 122)) || (decide (48 ≤ c.toNat) && decide (c.toNat ≤ 57)) || c.toNat == 46 || c.toNat == 45
def hexN (c : UInt8) : Option Nat :=
 if 48 ≤ c.toNat ∧ c.toNat ≤ 57 then some (c.toNat - 48) else if 97 ≤ c.toNat ∧ c.toNat ≤ 102 then some (c.toNat - 87) else if 65 ≤ c.toNat ∧ c.toNat ≤ 70 then some (c.toNat - 55) else none
theorem hexN_lt {c : UInt8} {x : Nat} (h : hexN c = some x) : x < 16 := by
 unfold hexN at h
 split at h
 ·injection h; omega
 ·split at h
  ·injection h; omega
  ·split at h
   ·injection h; omega
   ·cases h
def fig (n : Nat) : UInt8 := if n < 10 then UInt8.ofNat (48 + n) else UInt8.ofNat (55 + n)
def encN (n : Nat) : List UInt8 := if plainB (UInt8.ofNat n) then [UInt8.ofNat n] else [37, fig (n / 16), fig (n % 16)]
theorem encN_len (n : Nat) : (encN n).length ≤ 3 := by unfold encN; split <;> simp
def esc : List UInt8 → Option (List UInt8)
 | [] => some []
 | c :: r => if c = 37 then (match r with
   | a :: b :: q => (match hexN a, hexN b with
    | some x, some y => (esc q).map (encN (x * 16 + y) ++ ·)
    | _, _ => none)
   | _ => none) else (esc r).map (encN c.toNat ++ ·)
theorem esc_short {r : List UInt8} (h : r.length ≤ 1) : esc (37 :: r) = none := by
 match r, h with
 | [], _ => simp [esc]
 | [_], _ => simp [esc]
 | _ :: _ :: _, h => simp at h
theorem esc_bad1 {a : UInt8} (b : UInt8) (q : List UInt8) (h : hexN a = none) : esc (37 :: a :: b :: q) = none := by simp [esc, h]
theorem esc_bad2 (a : UInt8) {b : UInt8} (q : List UInt8) (h : hexN b = none) : esc (37 :: a :: b :: q) = none := by
 cases ha : hexN a <;> simp [esc, h, ha]
theorem esc_sign {a b : UInt8} {x y : Nat} (q : List UInt8) (ha : hexN a = some x) (hb : hexN b = some y) : esc (37 :: a :: b :: q) = (esc q).map (encN (x * 16 + y) ++ ·) := by simp [esc, ha, hb]
theorem esc_plain {c : UInt8} (r : List UInt8) (h : c ≠ 37) : esc (c :: r) = (esc r).map (encN c.toNat ++ ·) := by rw [esc.eq_def]; exact if_neg h
def escO (o : Option (List UInt8)) : ByteArray × Bool := match o with
 | some r => (ofL r, true)
 | none => (⟨#[]⟩, false)
def escNorm (s : ByteArray) : ByteArray × Bool := if s.size > 60 then (⟨#[]⟩, false) else escO (esc (L s))
def isNorm (s : ByteArray) : Bool := (escNorm s).2 && ((escNorm s).1.toList == s.toList)
theorem esc_len (n : Nat) : ∀ (l r : List UInt8), l.length ≤ n → esc l = some r → r.length ≤ 3 * l.length := by
 induction n with
 | zero =>
  intro l r hl h
  obtain rfl : l = [] := List.length_eq_zero_iff.1 (by omega)
  simp [esc] at h
  subst h
  simp
 | succ n ih =>
  intro l r hl h
  match l, hl, h with
  | [], _, h => simp [esc] at h; subst h; simp
  | c :: q, hl, h =>
   unfold esc at h
   split at h
   ·match q, hl, h with
    | a :: b :: q', hl, h =>
     simp only at h
     split at h
     ·obtain ⟨t, ht, rfl⟩ := Option.map_eq_some_iff.1 h
      have := ih q' t (by simp at hl; omega) ht
      exact Nat.le_trans (by rw [List.length_append]; exact Nat.add_le_add (encN_len _) this) (by simp only [List.length_cons]; omega)
     ·cases h
    | [], _, h => simp at h
    | [_], _, h => simp at h
   ·obtain ⟨t, ht, rfl⟩ := Option.map_eq_some_iff.1 h
    have := ih q t (by simp at hl; omega) ht
    exact Nat.le_trans (by rw [List.length_append]; exact Nat.add_le_add (encN_len _) this) (by simp only [List.length_cons]; omega)
theorem escNorm_size (s : ByteArray) : (escNorm s).1.size ≤ 180 := by
 unfold escNorm
 split
 ·exact Nat.zero_le _
 ·unfold escO
  split
  ·rename_i h1 _ r h
   have := esc_len _ _ _ (Nat.le_refl _) h
   rw [ofL_size]
   rw [L_size] at this
   omega
  ·exact Nat.zero_le _
def body : List ByteArray → ByteArray
 | [] => ⟨#[47]⟩
 | p :: r => r.foldl (fun a q => (a ++ ⟨#[47]⟩) ++ q) ((⟨#[47]⟩ : ByteArray) ++ p)
def pathB (parts : List ByteArray) (asks : Bool) (ask : ByteArray) : ByteArray := if asks = true then (body parts ++ ⟨#[63]⟩) ++ ask else body parts
def textB (house : ByteArray) (parts : List ByteArray) (asks : Bool) (ask : ByteArray) : ByteArray := ((⟨#[47, 47]⟩ : ByteArray) ++ house) ++ pathB parts asks ask
def partOk (p : ByteArray) : Bool := isNorm p && !(p.toList == []) && !(p.toList == [46]) && !(p.toList == [46, 46])
def smallFrom (s : ByteArray) : Nat → Nat → Bool
 | 0, _ => true
 | d + 1, i => if bt s i < 97 then false else if bt s i > 122 then false else smallFrom s d (i + 1)
def isSmall (s : ByteArray) : Bool := smallFrom s s.size 0
def isHouse (s : ByteArray) : Bool := decide (1 ≤ s.size) && decide (s.size ≤ 5) && isSmall s
def addrOk (house : ByteArray) (parts : List ByteArray) (asks : Bool) (ask : ByteArray) : Bool :=
 isHouse house && decide (parts.length ≤ 5) && isNorm ask && (asks || ask.toList == []) && parts.all partOk && decide ((textB house parts asks ask).size ≤ 60)
def addrText (house : ByteArray) (parts : List ByteArray) (asks : Bool) (ask : ByteArray) : ByteArray := if addrOk house parts asks ask = true then textB house parts asks ask else ⟨#[]⟩
theorem isNorm_size {s : ByteArray} (h : isNorm s = true) : s.size ≤ 60 := by
 unfold isNorm escNorm at h
 split at h
 ·simp at h
 ·omega
def sm (b : UInt8) : UInt8 := if 65 ≤ b.toNat ∧ b.toNat ≤ 90 then b + 32 else b
def smallB (s : ByteArray) : ByteArray := ofL ((L s).map sm)
end Go.Proofs.YtpnedbnpnekahaaGreatDoor.Ad
end
section
namespace Go.Proofs.YtpnedbnpnekahaaGreatDoor.P
open Go.RowKit Go.Proofs.YtpnedbnpnekahaaGreatDoorW.PrintWords Go.Proofs.YtpnedbnpnekahaaGreatDoorW.PrintLast Go.Proofs.YtpnedbnpnekahaaGreatDoorW.PrintMore Go.Proofs.YtpnedbnpnekahaaGreatDoor.B Go.Proofs.YtpnedbnpnekahaaGreatDoor.Ad
set_option linter.unusedVariables false
set_option linter.unusedSimpArgs false
def SmRow (b : Nat) (s : ByteArray) (i : Nat) (w : World) : Prop :=
 b < w.heap.size ∧ ∀ j, j < s.size → w.cell? ⟨b, j, none⟩ = some (.int .u8 ((if j < i then sm ((L s).getD j 0) else (L s).getD j 0).toNat : Nat)) ∧ w.frozen? ⟨b, j, none⟩ = false
theorem sm_start (w : World) (e : TypeId) (s : ByteArray) : SmRow w.heap.size s 0 (Lib.bytesWorld w e s) := by
 refine ⟨by rw [Lib.bytesWorld_size]; omega, fun j hj => ⟨?_, ?_⟩⟩
 ·rw [Lib.bytesWorld_cell w e s j hj]; simp [L]
 ·have hk : s.size ≤ (Lib.bytesCells w e s).size := by rw [Lib.bytesCells]; simp
  simp only [World.frozen?, Lib.bytesWorld_at_new]
  simp
  omega
theorem sm_below (w : World) (e : TypeId) (s : ByteArray) : Below w.heap.size w (Lib.bytesWorld w e s) := by
 refine ⟨rfl, rfl, rfl, by rw [Lib.bytesWorld_size]; omega, fun j hj => Lib.bytesWorld_at_old w e s j hj⟩
theorem sm_set {b : Nat} {s : ByteArray} {i : Nat} {w : World} (h : SmRow b s i w) (hi : i < s.size) : SmRow b s (i + 1) (w.setCell ⟨b, i, none⟩ (.int .u8 ((sm ((L s).getD i 0)).toNat : Nat))) := by
 refine ⟨by rw [size_set]; exact h.1, fun j hj => ⟨?_, by rw [World.frozen?_setCell]; exact (h.2 j hj).2⟩⟩
 rcases Nat.lt_trichotomy j i with h1 | h1 | h1
 ·rw [World.cell?_setCell_other _ _ _ _ (by intro e; injection e with _ e; omega), (h.2 j hj).1, if_pos h1, if_pos (by omega)]
 ·subst h1; rw [World.cell?_setCell_same _ _ _ (h.2 j hj).1, if_pos (by omega)]
 ·rw [World.cell?_setCell_other _ _ _ _ (by intro e; injection e with _ e; omega), (h.2 j hj).1, if_neg (by omega), if_neg (by omega)]
theorem sm_skip {b : Nat} {s : ByteArray} {i : Nat} {w : World} (h : SmRow b s i w) (hi : i < s.size) (he : sm ((L s).getD i 0) = (L s).getD i 0) : SmRow b s (i + 1) w := by
 refine ⟨h.1, fun j hj => ⟨?_, (h.2 j hj).2⟩⟩
 rw [(h.2 j hj).1]
 rcases Nat.lt_trichotomy j i with h1 | h1 | h1
 ·rw [if_pos h1, if_pos (by omega)]
 ·subst h1; rw [if_neg (by omega), if_pos (by omega), he]
 ·rw [if_neg (by omega), if_neg (by omega)]
end Go.Proofs.YtpnedbnpnekahaaGreatDoor.P
end
section
namespace Go.Proofs.YtpnedbnpnekahaaGreatDoor.P
open Go.RowKit Go.Proofs.YtpnedbnpnekahaaGreatDoorW.PrintWords Go.Proofs.YtpnedbnpnekahaaGreatDoorW.PrintLast Go.Proofs.YtpnedbnpnekahaaGreatDoorW.PrintMore Go.Proofs.YtpnedbnpnekahaaGreatDoor.B Go.Proofs.YtpnedbnpnekahaaGreatDoor.Ad
set_option linter.unusedVariables false
set_option linter.unusedSimpArgs false
def spec_l1Small.f (a0 : ByteArray) : Option (ByteArray) := if a0.size ≤ 140737488351232 then some (smallB a0) else none
set_option maxHeartbeats 400000 in
set_option maxRecDepth 100000 in
theorem spec_l1Small.calls (a0 r : ByteArray) (w : World) (h : spec_l1Small.f a0 = some r) :
  Calls Tryz.prog 47 #[.string a0] w fun e w' => e = .returned (.string r) ∧ Below w.heap.size w w' := by
 unfold spec_l1Small.f at h
 by_cases hs : a0.size ≤ 140737488351232
 ·rw [if_pos hs] at h
  obtain rfl := Option.some.inj h
  clear h
  have hcv := Lib.run_convert_string_bytes (P := Tryz.prog) w 9 61 5 a0 Tryz.underlying9 Tryz.underlying61 Tryz.underlying5
  go_enter Tryz.func47, Tryz.ntmps47
  go_wp2_with fail
  clear hcv
  go_loopw [4] (fun i wr => ∃ k : Nat, k ≤ a0.size ∧ i = .int .i64 k ∧ Aside0 (SmRow w.heap.size a0 k wr) ∧ Aside0 (Below w.heap.size w wr))
   (fun i _ => a0.size - (intOf i).toNat)
  case atStart =>
   refine ⟨0, Nat.zero_le _, rfl, ⟨sm_start w 5 a0⟩, ⟨?_⟩⟩
   exact sm_below w 5 a0
  case round =>
   obtain ⟨k, hk, rfl, hI, hB⟩ := hrel
   by_cases hlt : k < a0.size
   ·have hc := (hI.out.2 k hlt).1
    have hf := (hI.out.2 k hlt).2
    rw [if_neg (by omega)] at hc
    have hset := Aside0.mk (sm_set hI.out hlt)
    have hskip := Aside0.mk (sm_skip hI.out hlt)
    clear hI
    generalize (L a0).getD k 0 = b at hc hset hskip
    have hb := b.toNat_lt
    by_cases h1 : 65 ≤ b.toNat
    ·by_cases h2 : b.toNat ≤ 90
     ·have e1 : (sm b).toNat = b.toNat + 32 := by
       unfold sm
       rw [if_pos ⟨h1, h2⟩, UInt8.toNat_add]
       have : (32 : UInt8).toNat = 32 := rfl
       omega
      rw [e1, show ((b.toNat + 32 : Nat) : Int) = (b.toNat : Int) + 32 from by omega] at hset
      clear hskip e1
      go_wp2
      exact ⟨⟨k + 1, by omega, by go_num, hset, ⟨hB.out.setCell (Nat.le_refl _) _⟩⟩, by simp [intOf]; omega⟩
     ·have e1 : sm b = b := by unfold sm; rw [if_neg (by omega)]
      have hS : Aside0 (SmRow w.heap.size a0 (k + 1) wr) := ⟨hskip.out e1⟩
      clear e1 hset hskip
      go_wp2
      exact ⟨⟨k + 1, by omega, by go_num, hS, hB⟩, by simp [intOf]; omega⟩
    ·have e1 : sm b = b := by unfold sm; rw [if_neg (by omega)]
     have hS : Aside0 (SmRow w.heap.size a0 (k + 1) wr) := ⟨hskip.out e1⟩
     clear e1 hset hskip
     go_wp2
     exact ⟨⟨k + 1, by omega, by go_num, hS, hB⟩, by simp [intOf]; omega⟩
   ·have ek : k = a0.size := by omega
    have hcells : ∀ j (hj : j < (L (smallB a0)).length), wr.cell? ((⟨w.heap.size, 0, none⟩ : Addr).add j) = some (.int .u8 ((L (smallB a0))[j].toNat : Int)) := by
     intro j hj
     have hj' : j < a0.size := by rw [L_size, smallB, ofL_size, List.length_map, L_size] at hj; exact hj
     rw [add_plain, (hI.out.2 j hj').1, if_pos (by omega)]
     simp [smallB, L_of, List.getD_eq_getElem?_getD, List.getElem?_eq_getElem (show j < (L a0).length by rw [L_size]; exact hj')]
    have hcv := run_convert_bytes_back (P := Tryz.prog) wr 61 9 5 ⟨w.heap.size, 0, none⟩ (grownCap w a0.size 0 5) (L (smallB a0)) Tryz.underlying61 Tryz.underlying5 Tryz.underlying9 hcells
    have hl : (L (smallB a0)).length = a0.size := by rw [L_size, smallB, ofL_size, List.length_map, L_size]
    rw [hl, show (⟨(L (smallB a0)).toArray⟩ : ByteArray) = smallB a0 from of_L _] at hcv
    have Hk := Aside0.mk ek
    clear ek hcells hl
    go_wp2
    go_ret
    exact ⟨rfl, hB.out⟩
 ·rw [if_neg hs] at h; cases h
end Go.Proofs.YtpnedbnpnekahaaGreatDoor.P
end
section
namespace Go.Proofs.YtpnedbnpnekahaaGreatDoor.P
open Go.RowKit Go.Proofs.YtpnedbnpnekahaaGreatDoorW.PrintWords Go.Proofs.YtpnedbnpnekahaaGreatDoorW.PrintLast Go.Proofs.YtpnedbnpnekahaaGreatDoorW.PrintMore
attribute [local go_sem] max2_int min2_int max_two min_two max_three min_three max_four min_four
set_option linter.unusedVariables false
set_option linter.unusedSimpArgs false
def spec_l1Whole.l0 : Nat → ByteArray → ByteArray → ByteArray → Int → Option (ByteArray × List ByteArray × Bool × ByteArray × Bool)
 | 0, _, _, _, _ => none
 | k + 1, x0, x4, x5, x6 => if x6 < (x0.size : Int) then (if 0 ≤ x6 then (if (bt x0 x6) = 47 then (if x6 ≤ (x0.size : Int) then ((spec_l1Small.f (x0.extract 0 (x6 : Int).toNat)).bind fun t180 => ((spec_l1Way.f k t180 ([] : List ByteArray) false (⟨#[]⟩ : ByteArray) (x0.extract (x6 : Int).toNat x0.size)).bind fun bt181 => (some (bt181.1, bt181.2.1, bt181.2.2.1, bt181.2.2.2.1, bt181.2.2.2.2)))) else (none)) else (if (bt x0 x6) = 63 then (if x6 ≤ (x0.size : Int) then ((spec_l1Small.f (x0.extract 0 (x6 : Int).toNat)).bind fun t188 => ((spec_l1Way.f k t188 ([] : List ByteArray) false (⟨#[]⟩ : ByteArray) (x0.extract (x6 : Int).toNat x0.size)).bind fun bt189 => (some (bt189.1, bt189.2.1, bt189.2.2.1, bt189.2.2.2.1, bt189.2.2.2.2)))) else (none)) else (spec_l1Whole.l0 k x0 x4 x5 (wrap64 (x6 + 1))))) else (none)) else ((spec_l1Small.f x4).bind fun t196 => ((spec_l1Way.f k t196 ([] : List ByteArray) false (⟨#[]⟩ : ByteArray) x5).bind fun bt197 => (some (bt197.1, bt197.2.1, bt197.2.2.1, bt197.2.2.2.1, bt197.2.2.2.2))))
def spec_l1Whole.f (k : Nat) (a0 : ByteArray) : Option (ByteArray × List ByteArray × Bool × ByteArray × Bool) := spec_l1Whole.l0 k a0 a0 (⟨#[]⟩ : ByteArray) 0
set_option maxHeartbeats 8000000 in
set_option maxRecDepth 100000 in
theorem spec_l1Whole.calls (k : Nat) (a0 : ByteArray) (r1 : ByteArray) (r2 : List ByteArray) (r3 : Bool) (r4 : ByteArray) (r5 : Bool) (w : World) (h : spec_l1Whole.f k a0 = some (r1, r2, r3, r4, r5)) :
  Calls Tryz.prog 33 #[.string a0] w fun e w' => ∃ v1_ : Value, e = .returned (.tuple #[.agg #[.string r1, v1_, .bool r3, .string r4], .bool r5]) ∧ Kd.R Kd.string 9 w' w.heap.size (fun _ => True) v1_ r2 ∧ Below w.heap.size w w' := by
 have hu52 := Tryz.underlying52;have HB := Aside0.mk (Below.refl w.heap.size w);have H : (spec_l1Whole.l0 k a0 a0 (⟨#[]⟩ : ByteArray) 0) = some (r1, r2, r3, r4, r5) := h;clear h;have H' := Aside0.mk H;clear H;go_enter Tryz.func33, Tryz.ntmps33;go_wp2_with (first | ((with_reducible refine gate_dst (N := 2) rfl ?_); refine boxE 2 #[.string (⟨#[]⟩ : ByteArray), .slice none 0 0, .bool false, .string (⟨#[]⟩ : ByteArray)] 52 ?_; intro gb179 hg w2 hbox hb; have BK179 := Aside0.mk (hbox); have GE179 := geB hg (zz0 HB); replace HB := Aside0.mk (below_step (zz0 HB) hb); clear hb hbox hg))
 go_loopg [4, 5, 6] k (fun kq v4 v5 v6 w' => ∃ (x4_1 : ByteArray) (x5_1 : ByteArray) (x6_1 : Int), v4 = .string x4_1 ∧ v5 = .string x5_1 ∧ v6 = .int .i64 x6_1 ∧ Aside0 (spec_l1Whole.l0 kq a0 x4_1 x5_1 x6_1 = some (r1, r2, r3, r4, r5)) ∧ Aside0 (kq ≤ k) ∧ Aside0 (w'.heap[gb179]? = some (.cells #[.string (⟨#[]⟩ : ByteArray), (.slice none 0 0), .bool false, .string (⟨#[]⟩ : ByteArray)] 52 (0, 0))) ∧ Aside0 (Below w.heap.size w w'))
 case atStart => exact ⟨(a0), ((⟨#[]⟩ : ByteArray)), (0), zz3, zz3, zz3, H', ⟨Nat.le_refl _⟩, ⟨(zz21 BK179)⟩, ⟨(zz2 HB GE179)⟩⟩
 case round =>
  clear H';obtain ⟨x4_1, x5_1, x6_1, rfl, rfl, rfl, HA, HK1, BK179, HB⟩ := hrel;cases gk with
  | zero => exact absurd HA.out (by simp [spec_l1Whole.l0])
  | succ k1 =>
   have H := HA.out;clear HA;simp only [spec_l1Whole.l0] at H
   by_cases c3 : x6_1 < (a0.size : Int)
   ·rw [if_pos c3] at H
    have c3b0 : decide (x6_1 < (a0.size : Int)) = true := decide_eq_true c3;clear c3;by_cases c4 : 0 ≤ x6_1
    ·rw [if_pos c4] at H
     have c4b0 : decide (0 ≤ x6_1) = true := decide_eq_true c4;clear c4;by_cases c6 : (bt a0 x6_1) = 47
     ·rw [if_pos c6] at H
      have c6b0 : ((bt a0 x6_1) == 47) = true := beq_iff_eq.mpr c6;have c6b1 : ((bt a0 x6_1) != 47) = false := bne_eq_false_iff_eq.mpr c6;clear c6;have c7b0 := eq_true (ofD : 0 ≤ x6_1);by_cases c8 : x6_1 ≤ (a0.size : Int)
      ·rw [if_pos c8] at H
       have c8b0 := eq_true c8;have c8b1 : decide (x6_1 ≤ (a0.size : Int)) = true := decide_eq_true c8;clear c8;have c9b0 := eq_true (ofD : 0 ≤ x6_1);have c10b0 := eq_true (ofD : x6_1 ≤ (a0.size : Int));replace H := bindA H;obtain ⟨t180, A11, H⟩ := H;replace H := bindA H;obtain ⟨⟨t181, t182, t185, t186, t187⟩, A12, H⟩ := H;try dsimp -simprocs only at H
       simp only [Option.some.injEq, Prod.mk.injEq] at H
       obtain ⟨rfl, rfl, rfl, rfl, rfl⟩ := H;have p5 : 0 ≤ (x6_1 : Int) := ofD;have q5 : x6_1 < (a0.size : Int) := ofD;have hx5 := bt_at a0 x6_1;replace p5 := eq_true p5;replace q5 := eq_true q5;go_wp2_with (first | ((with_reducible refine gate_callee (f := 47) rfl ?_); refine gsL (some 31) Tryz.func47 #[.string (a0.extract 0 (x6_1 : Int).toNat)] ?_; (with_reducible refine (spec_l1Small.calls (a0.extract 0 (x6_1 : Int).toNat) t180 _ A11.out).mono ?_); rintro e w13 ⟨rfl, hb⟩; refine ⟨_, rfl, ?_⟩; replace BK179 := Aside0.mk (blk_below (zz21 BK179) hb); replace HB := Aside0.mk (below_step (zz2 HB GE179) hb); (try clear hb)) | ((with_reducible refine gate_callee (f := 46) rfl ?_); refine gsL (some 34) Tryz.func46 #[.agg #[.string t180, .slice none 0 0, .bool false, .string (⟨#[]⟩ : ByteArray)], .string (a0.extract (x6_1 : Int).toNat a0.size)] ?_; (refine (spec_l1Way.calls k1 t180 _ _ ([] : List ByteArray) false (⟨#[]⟩ : ByteArray) (a0.extract (x6_1 : Int).toNat a0.size) t181 t182 t185 t186 t187 _ ?side1 ?side2 A12.out).mono ?_); (case side1 => exact Kd.C_nil _ _); (case side2 => exact Nat.le_refl _); rintro e w14 ⟨v183, rfl, ho0, hb⟩; refine ⟨_, rfl, ?_⟩; have HO184 := Aside0.mk (Kd.R_lower ho0 (below_size (zz2 HB GE179))); replace BK179 := Aside0.mk (blk_below (zz21 BK179) hb); replace HB := Aside0.mk (below_step (zz2 HB GE179) hb); (try clear hb ho0); obtain ⟨_, _, _, _, _, _, _, _⟩ := cf4 BK179; obtain ⟨Ao16, co16, eo16⟩ := Kd.R_slice HO184.out; subst eo16))
       refine bodyPost_ret (results_ct rfl _ _ gb179 52 #[.string t181, .slice Ao16 t182.length co16, .bool t185, .string t186] (0, 0) _ rfl (zz37 BK179) Tryz.underlying52 rfl (by kernel_rfl)) rfl ?_;exact ⟨_, zz1, (zz46 (rt HO184 BK179)), (zz2 HB GE179)⟩
      ·rw [if_neg c8] at H
       exact absurd H (by simp)
     ·rw [if_neg c6] at H
      have c6b0 : ((bt a0 x6_1) == 47) = false := beq_eq_false_iff_ne.mpr c6;have c6b1 : ((bt a0 x6_1) != 47) = true := bne_iff_ne.mpr c6;by_cases c18 : (bt a0 x6_1) = 63
      ·rw [if_pos c18] at H
       have c18b0 : ((bt a0 x6_1) == 63) = true := beq_iff_eq.mpr c18;have c18b1 : ((bt a0 x6_1) != 63) = false := bne_eq_false_iff_eq.mpr c18;clear c18;have c19b0 := eq_true (ofD : 0 ≤ x6_1);by_cases c20 : x6_1 ≤ (a0.size : Int)
       ·rw [if_pos c20] at H
        have c20b0 := eq_true c20;have c20b1 : decide (x6_1 ≤ (a0.size : Int)) = true := decide_eq_true c20;clear c20;have c21b0 := eq_true (ofD : 0 ≤ x6_1);have c22b0 := eq_true (ofD : x6_1 ≤ (a0.size : Int));replace H := bindA H;obtain ⟨t188, A23, H⟩ := H;replace H := bindA H;obtain ⟨⟨t189, t190, t193, t194, t195⟩, A24, H⟩ := H;try dsimp -simprocs only at H
        simp only [Option.some.injEq, Prod.mk.injEq] at H
        obtain ⟨rfl, rfl, rfl, rfl, rfl⟩ := H;have p5 : 0 ≤ (x6_1 : Int) := ofD;have q5 : x6_1 < (a0.size : Int) := ofD;have hx5 := bt_at a0 x6_1;replace p5 := eq_true p5;replace q5 := eq_true q5;have p17 : 0 ≤ (x6_1 : Int) := ofD;have q17 : x6_1 < (a0.size : Int) := ofD;have hx17 := bt_at a0 x6_1;replace p17 := eq_true p17;replace q17 := eq_true q17;go_wp2_with (first | ((with_reducible refine gate_callee (f := 47) rfl ?_); refine gsL (some 31) Tryz.func47 #[.string (a0.extract 0 (x6_1 : Int).toNat)] ?_; (with_reducible refine (spec_l1Small.calls (a0.extract 0 (x6_1 : Int).toNat) t188 _ A23.out).mono ?_); rintro e w25 ⟨rfl, hb⟩; refine ⟨_, rfl, ?_⟩; replace BK179 := Aside0.mk (blk_below (zz21 BK179) hb); replace HB := Aside0.mk (below_step (zz2 HB GE179) hb); (try clear hb)) | ((with_reducible refine gate_callee (f := 46) rfl ?_); refine gsL (some 34) Tryz.func46 #[.agg #[.string t188, .slice none 0 0, .bool false, .string (⟨#[]⟩ : ByteArray)], .string (a0.extract (x6_1 : Int).toNat a0.size)] ?_; (refine (spec_l1Way.calls k1 t188 _ _ ([] : List ByteArray) false (⟨#[]⟩ : ByteArray) (a0.extract (x6_1 : Int).toNat a0.size) t189 t190 t193 t194 t195 _ ?side1 ?side2 A24.out).mono ?_); (case side1 => exact Kd.C_nil _ _); (case side2 => exact Nat.le_refl _); rintro e w26 ⟨v191, rfl, ho0, hb⟩; refine ⟨_, rfl, ?_⟩; have HO192 := Aside0.mk (Kd.R_lower ho0 (below_size (zz2 HB GE179))); replace BK179 := Aside0.mk (blk_below (zz21 BK179) hb); replace HB := Aside0.mk (below_step (zz2 HB GE179) hb); (try clear hb ho0); obtain ⟨_, _, _, _, _, _, _, _⟩ := cf4 BK179; obtain ⟨Ao28, co28, eo28⟩ := Kd.R_slice HO192.out; subst eo28))
        refine bodyPost_ret (results_ct rfl _ _ gb179 52 #[.string t189, .slice Ao28 t190.length co28, .bool t193, .string t194] (0, 0) _ rfl (zz37 BK179) Tryz.underlying52 rfl (by kernel_rfl)) rfl ?_;exact ⟨_, zz1, (zz46 (rt HO192 BK179)), (zz2 HB GE179)⟩
       ·rw [if_neg c20] at H
        exact absurd H (by simp)
      ·rw [if_neg c18] at H
       have c18b0 : ((bt a0 x6_1) == 63) = false := beq_eq_false_iff_ne.mpr c18;have c18b1 : ((bt a0 x6_1) != 63) = true := bne_iff_ne.mpr c18;have H' := Aside0.mk H;clear H;have p5 : 0 ≤ (x6_1 : Int) := ofD;have q5 : x6_1 < (a0.size : Int) := ofD;have hx5 := bt_at a0 x6_1;replace p5 := eq_true p5;replace q5 := eq_true q5;have p17 : 0 ≤ (x6_1 : Int) := ofD;have q17 : x6_1 < (a0.size : Int) := ofD;have hx17 := bt_at a0 x6_1;replace p17 := eq_true p17;replace q17 := eq_true q17;go_wp2
       go_roundg k1
       case measure => have := HK1.out; omega
       case rel => exact ⟨(x4_1), (x5_1), (wrap64 (x6_1 + 1)), zz3, zz3, zz3, H', ⟨(zz5 HK1)⟩, ⟨(zz21 BK179)⟩, ⟨(zz2 HB GE179)⟩⟩
    ·rw [if_neg c4] at H
     exact absurd H (by simp)
   ·rw [if_neg c3] at H
    have c3b0 : decide (x6_1 < (a0.size : Int)) = false := decide_eq_false c3;clear c3;replace H := bindA H;obtain ⟨t196, A29, H⟩ := H;replace H := bindA H;obtain ⟨⟨t197, t198, t201, t202, t203⟩, A30, H⟩ := H;try dsimp -simprocs only at H
    simp only [Option.some.injEq, Prod.mk.injEq] at H
    obtain ⟨rfl, rfl, rfl, rfl, rfl⟩ := H;go_wp2_with (first | ((with_reducible refine gate_callee (f := 47) rfl ?_); refine gsL (some 31) Tryz.func47 #[.string x4_1] ?_; (with_reducible refine (spec_l1Small.calls x4_1 t196 _ A29.out).mono ?_); rintro e w31 ⟨rfl, hb⟩; refine ⟨_, rfl, ?_⟩; replace BK179 := Aside0.mk (blk_below (zz21 BK179) hb); replace HB := Aside0.mk (below_step (zz2 HB GE179) hb); (try clear hb)) | ((with_reducible refine gate_callee (f := 46) rfl ?_); refine gsL (some 34) Tryz.func46 #[.agg #[.string t196, .slice none 0 0, .bool false, .string (⟨#[]⟩ : ByteArray)], .string x5_1] ?_; (refine (spec_l1Way.calls k1 t196 _ _ ([] : List ByteArray) false (⟨#[]⟩ : ByteArray) x5_1 t197 t198 t201 t202 t203 _ ?side1 ?side2 A30.out).mono ?_); (case side1 => exact Kd.C_nil _ _); (case side2 => exact Nat.le_refl _); rintro e w32 ⟨v199, rfl, ho0, hb⟩; refine ⟨_, rfl, ?_⟩; have HO200 := Aside0.mk (Kd.R_lower ho0 (below_size (zz2 HB GE179))); replace BK179 := Aside0.mk (blk_below (zz21 BK179) hb); replace HB := Aside0.mk (below_step (zz2 HB GE179) hb); (try clear hb ho0); obtain ⟨_, _, _, _, _, _, _, _⟩ := cf4 BK179; obtain ⟨Ao34, co34, eo34⟩ := Kd.R_slice HO200.out; subst eo34))
    refine bodyPost_ret (results_ct rfl _ _ gb179 52 #[.string t197, .slice Ao34 t198.length co34, .bool t201, .string t202] (0, 0) _ rfl (zz37 BK179) Tryz.underlying52 rfl (by kernel_rfl)) rfl ?_;exact ⟨_, zz1, (zz46 (rt HO200 BK179)), (zz2 HB GE179)⟩
def spec_AddrRead.f (k : Nat) (a0 : ByteArray) : Option (ByteArray × List ByteArray × Bool × ByteArray × Bool) := (spec_l1Cut.f k a0 35).bind fun bt205 => (if (a0.size : Int) > 60 then (some ((⟨#[]⟩ : ByteArray), ([] : List ByteArray), false, (⟨#[]⟩ : ByteArray), false)) else (if (bt205.1.size : Int) < 2 then (some ((⟨#[]⟩ : ByteArray), ([] : List ByteArray), false, (⟨#[]⟩ : ByteArray), false)) else (if 0 ≤ 2 then (if 2 ≤ (bt205.1.size : Int) then (if (bt205.1.extract 0 2).toList = ([47, 47] : List UInt8) then ((spec_l1Whole.f k (bt205.1.extract 2 bt205.1.size)).bind fun bt208 => (some (bt208.1, bt208.2.1, bt208.2.2.1, bt208.2.2.2.1, bt208.2.2.2.2))) else (some ((⟨#[]⟩ : ByteArray), ([] : List ByteArray), false, (⟨#[]⟩ : ByteArray), false))) else (none)) else (none))))
set_option maxHeartbeats 8000000 in
set_option maxRecDepth 100000 in
theorem spec_AddrRead.calls (k : Nat) (a0 : ByteArray) (r1 : ByteArray) (r2 : List ByteArray) (r3 : Bool) (r4 : ByteArray) (r5 : Bool) (w : World) (h : spec_AddrRead.f k a0 = some (r1, r2, r3, r4, r5)) :
  Calls Tryz.prog 24 #[.string a0] w fun e w' => ∃ v1_ : Value, e = .returned (.tuple #[.agg #[.string r1, v1_, .bool r3, .string r4], .bool r5]) ∧ Kd.R Kd.string 9 w' w.heap.size (fun _ => True) v1_ r2 ∧ Below w.heap.size w w' := by
 have hu52 := Tryz.underlying52;have HB := Aside0.mk (Below.refl w.heap.size w);have H : ((spec_l1Cut.f k a0 35).bind fun bt205 => (if (a0.size : Int) > 60 then (some ((⟨#[]⟩ : ByteArray), ([] : List ByteArray), false, (⟨#[]⟩ : ByteArray), false)) else (if (bt205.1.size : Int) < 2 then (some ((⟨#[]⟩ : ByteArray), ([] : List ByteArray), false, (⟨#[]⟩ : ByteArray), false)) else (if 0 ≤ 2 then (if 2 ≤ (bt205.1.size : Int) then (if (bt205.1.extract 0 2).toList = ([47, 47] : List UInt8) then ((spec_l1Whole.f k (bt205.1.extract 2 bt205.1.size)).bind fun bt208 => (some (bt208.1, bt208.2.1, bt208.2.2.1, bt208.2.2.2.1, bt208.2.2.2.2))) else (some ((⟨#[]⟩ : ByteArray), ([] : List ByteArray), false, (⟨#[]⟩ : ByteArray), false))) else (none)) else (none))))) = some (r1, r2, r3, r4, r5) := h;clear h;replace H := bindA H;obtain ⟨⟨t205, t206, t207⟩, A2, H⟩ := H;try dsimp -simprocs only at H
 by_cases c3 : (a0.size : Int) > 60
 ·rw [if_pos c3] at H
  have c3b0 : decide (60 < (a0.size : Int)) = true := decide_eq_true c3;have c3b1 : decide (60 < a0.size) = true := decide_eq_true (by omega);clear c3;simp only [Option.some.injEq, Prod.mk.injEq] at H
  obtain ⟨rfl, rfl, rfl, rfl, rfl⟩ := H;go_enter Tryz.func24, Tryz.ntmps24;go_wp2_with (first | ((with_reducible refine gate_dst (N := 2) rfl ?_); (try (refine gate_guard (by rfl) ?_; dsimp only)); refine boxE 2 #[.string (⟨#[]⟩ : ByteArray), .slice none 0 0, .bool false, .string (⟨#[]⟩ : ByteArray)] 52 ?_; intro gb204 hg w4 hbox hb; have BK204 := Aside0.mk (hbox); have GE204 := geB hg (zz0 HB); replace HB := Aside0.mk (below_step (zz0 HB) hb); clear hb hbox hg) | ((with_reducible refine gate_callee (f := 32) rfl ?_); refine gsL (some 9) Tryz.func32 #[.string a0, .int .u8 35] ?_; (with_reducible refine (spec_l1Cut.calls k a0 35 t205 t206 t207 _ A2.out).mono ?_); rintro e w' ⟨rfl, ⟨nd, rfl⟩⟩; refine ⟨_, rfl, ?_⟩; (try (rw [drewN_self w4]; generalize hq_ : World.drewN w4 _ = w4; have n0_ : Aside0 (w4.heap[gb204]? = some (.cells #[.string (⟨#[]⟩ : ByteArray), .slice none 0 0, .bool false, .string (⟨#[]⟩ : ByteArray)] 52 (0, 0))) := ⟨zz50⟩; have n1_ : Aside0 (Below w.heap.size w w4) := ⟨zz51⟩; clear BK204 HB hq_; have BK204 := n0_; have HB := n1_; clear n0_ n1_)); obtain ⟨_, _, _, _, _, _, _, _⟩ := cf4 BK204))
  refine bodyPost_ret (results_ct rfl _ _ gb204 52 #[.string (⟨#[]⟩ : ByteArray), .slice none 0 0, .bool false, .string (⟨#[]⟩ : ByteArray)] (0, 0) _ rfl (zz37 BK204) Tryz.underlying52 rfl (by kernel_rfl)) rfl ?_;exact ⟨_, zz1, zz38, (zz2 HB GE204)⟩
 ·rw [if_neg c3] at H
  have c3b0 : decide (60 < (a0.size : Int)) = false := decide_eq_false c3;have c3b1 : decide (60 < a0.size) = false := decide_eq_false (by omega);clear c3;by_cases c6 : (t205.size : Int) < 2
  ·rw [if_pos c6] at H
   have c6b0 : decide ((t205.size : Int) < 2) = true := decide_eq_true c6;have c6b1 : decide (t205.size < 2) = true := decide_eq_true (by omega);clear c6;simp only [Option.some.injEq, Prod.mk.injEq] at H
   obtain ⟨rfl, rfl, rfl, rfl, rfl⟩ := H;go_enter Tryz.func24, Tryz.ntmps24;go_wp2_with (first | ((with_reducible refine gate_dst (N := 2) rfl ?_); (try (refine gate_guard (by rfl) ?_; dsimp only)); refine boxE 2 #[.string (⟨#[]⟩ : ByteArray), .slice none 0 0, .bool false, .string (⟨#[]⟩ : ByteArray)] 52 ?_; intro gb204 hg w7 hbox hb; have BK204 := Aside0.mk (hbox); have GE204 := geB hg (zz0 HB); replace HB := Aside0.mk (below_step (zz0 HB) hb); clear hb hbox hg) | ((with_reducible refine gate_callee (f := 32) rfl ?_); refine gsL (some 9) Tryz.func32 #[.string a0, .int .u8 35] ?_; (with_reducible refine (spec_l1Cut.calls k a0 35 t205 t206 t207 _ A2.out).mono ?_); rintro e w' ⟨rfl, ⟨nd, rfl⟩⟩; refine ⟨_, rfl, ?_⟩; (try (rw [drewN_self w7]; generalize hq_ : World.drewN w7 _ = w7; have n0_ : Aside0 (w7.heap[gb204]? = some (.cells #[.string (⟨#[]⟩ : ByteArray), .slice none 0 0, .bool false, .string (⟨#[]⟩ : ByteArray)] 52 (0, 0))) := ⟨zz50⟩; have n1_ : Aside0 (Below w.heap.size w w7) := ⟨zz51⟩; clear BK204 HB hq_; have BK204 := n0_; have HB := n1_; clear n0_ n1_)); obtain ⟨_, _, _, _, _, _, _, _⟩ := cf4 BK204))
   refine bodyPost_ret (results_ct rfl _ _ gb204 52 #[.string (⟨#[]⟩ : ByteArray), .slice none 0 0, .bool false, .string (⟨#[]⟩ : ByteArray)] (0, 0) _ rfl (zz37 BK204) Tryz.underlying52 rfl (by kernel_rfl)) rfl ?_;exact ⟨_, zz1, zz38, (zz2 HB GE204)⟩
  ·rw [if_neg c6] at H
   have c6b0 : decide ((t205.size : Int) < 2) = false := decide_eq_false c6;have c6b1 : decide (t205.size < 2) = false := decide_eq_false (by omega);clear c6;by_cases c9 : 0 ≤ 2
   ·rw [if_pos c9] at H
    have c9b0 := eq_true c9;have c9b1 : decide (0 ≤ 2) = true := decide_eq_true c9;clear c9;by_cases c10 : 2 ≤ (t205.size : Int)
    ·rw [if_pos c10] at H
     have c10b0 := eq_true c10;have c10b1 : decide (2 ≤ (t205.size : Int)) = true := decide_eq_true c10;clear c10;by_cases c11 : (t205.extract 0 2).toList = ([47, 47] : List UInt8)
     ·rw [if_pos c11] at H
      have c11b0 : ((t205.extract 0 2).toList == ([47, 47] : List UInt8)) = true := beq_iff_eq.mpr c11;have c11b1 : ((t205.extract 0 2).toList != ([47, 47] : List UInt8)) = false := bne_eq_false_iff_eq.mpr c11;clear c11;have c12b0 := eq_true (ofD : 2 ≤ (t205.size : Int));replace H := bindA H;obtain ⟨⟨t208, t209, t212, t213, t214⟩, A13, H⟩ := H;try dsimp -simprocs only at H
      simp only [Option.some.injEq, Prod.mk.injEq] at H
      obtain ⟨rfl, rfl, rfl, rfl, rfl⟩ := H;go_enter Tryz.func24, Tryz.ntmps24;go_wp2_with (first | ((with_reducible refine gate_dst (N := 2) rfl ?_); (try (refine gate_guard (by rfl) ?_; dsimp only)); refine boxE 2 #[.string (⟨#[]⟩ : ByteArray), .slice none 0 0, .bool false, .string (⟨#[]⟩ : ByteArray)] 52 ?_; intro gb204 hg w14 hbox hb; have BK204 := Aside0.mk (hbox); have GE204 := geB hg (zz0 HB); replace HB := Aside0.mk (below_step (zz0 HB) hb); clear hb hbox hg) | ((with_reducible refine gate_callee (f := 32) rfl ?_); refine gsL (some 9) Tryz.func32 #[.string a0, .int .u8 35] ?_; (with_reducible refine (spec_l1Cut.calls k a0 35 t205 t206 t207 _ A2.out).mono ?_); rintro e w' ⟨rfl, ⟨nd, rfl⟩⟩; refine ⟨_, rfl, ?_⟩; (try (rw [drewN_self w14]; generalize hq_ : World.drewN w14 _ = w14; have n0_ : Aside0 (w14.heap[gb204]? = some (.cells #[.string (⟨#[]⟩ : ByteArray), .slice none 0 0, .bool false, .string (⟨#[]⟩ : ByteArray)] 52 (0, 0))) := ⟨zz50⟩; have n1_ : Aside0 (Below w.heap.size w w14) := ⟨zz51⟩; clear BK204 HB hq_; have BK204 := n0_; have HB := n1_; clear n0_ n1_))) | ((with_reducible refine gate_callee (f := 33) rfl ?_); refine gsL (some 29) Tryz.func33 #[.string (t205.extract 2 t205.size)] ?_; (with_reducible refine (spec_l1Whole.calls k (t205.extract 2 t205.size) t208 t209 t212 t213 t214 _ A13.out).mono ?_); rintro e w15 ⟨v210, rfl, ho0, hb⟩; refine ⟨_, rfl, ?_⟩; have HO211 := Aside0.mk (Kd.R_lower ho0 (below_size (zz2 HB GE204))); replace BK204 := Aside0.mk (blk_below (zz21 BK204) hb); replace HB := Aside0.mk (below_step (zz2 HB GE204) hb); (try clear hb ho0); obtain ⟨_, _, _, _, _, _, _, _⟩ := cf4 BK204; obtain ⟨Ao17, co17, eo17⟩ := Kd.R_slice HO211.out; subst eo17))
      refine bodyPost_ret (results_ct rfl _ _ gb204 52 #[.string t208, .slice Ao17 t209.length co17, .bool t212, .string t213] (0, 0) _ rfl (zz37 BK204) Tryz.underlying52 rfl (by kernel_rfl)) rfl ?_;exact ⟨_, zz1, (zz46 (rt HO211 BK204)), (zz2 HB GE204)⟩
     ·rw [if_neg c11] at H
      have c11b0 : ((t205.extract 0 2).toList == ([47, 47] : List UInt8)) = false := beq_eq_false_iff_ne.mpr c11;have c11b1 : ((t205.extract 0 2).toList != ([47, 47] : List UInt8)) = true := bne_iff_ne.mpr c11;simp only [Option.some.injEq, Prod.mk.injEq] at H
      obtain ⟨rfl, rfl, rfl, rfl, rfl⟩ := H;go_enter Tryz.func24, Tryz.ntmps24;go_wp2_with (first | ((with_reducible refine gate_dst (N := 2) rfl ?_); (try (refine gate_guard (by rfl) ?_; dsimp only)); refine boxE 2 #[.string (⟨#[]⟩ : ByteArray), .slice none 0 0, .bool false, .string (⟨#[]⟩ : ByteArray)] 52 ?_; intro gb204 hg w18 hbox hb; have BK204 := Aside0.mk (hbox); have GE204 := geB hg (zz0 HB); replace HB := Aside0.mk (below_step (zz0 HB) hb); clear hb hbox hg) | ((with_reducible refine gate_callee (f := 32) rfl ?_); refine gsL (some 9) Tryz.func32 #[.string a0, .int .u8 35] ?_; (with_reducible refine (spec_l1Cut.calls k a0 35 t205 t206 t207 _ A2.out).mono ?_); rintro e w' ⟨rfl, ⟨nd, rfl⟩⟩; refine ⟨_, rfl, ?_⟩; (try (rw [drewN_self w18]; generalize hq_ : World.drewN w18 _ = w18; have n0_ : Aside0 (w18.heap[gb204]? = some (.cells #[.string (⟨#[]⟩ : ByteArray), .slice none 0 0, .bool false, .string (⟨#[]⟩ : ByteArray)] 52 (0, 0))) := ⟨zz50⟩; have n1_ : Aside0 (Below w.heap.size w w18) := ⟨zz51⟩; clear BK204 HB hq_; have BK204 := n0_; have HB := n1_; clear n0_ n1_)); obtain ⟨_, _, _, _, _, _, _, _⟩ := cf4 BK204))
      refine bodyPost_ret (results_ct rfl _ _ gb204 52 #[.string (⟨#[]⟩ : ByteArray), .slice none 0 0, .bool false, .string (⟨#[]⟩ : ByteArray)] (0, 0) _ rfl (zz37 BK204) Tryz.underlying52 rfl (by kernel_rfl)) rfl ?_;exact ⟨_, zz1, zz38, (zz2 HB GE204)⟩
    ·rw [if_neg c10] at H
     exact absurd H (by simp)
   ·rw [if_neg c9] at H
    exact absurd H (by simp)
end Go.Proofs.YtpnedbnpnekahaaGreatDoor.P
end
