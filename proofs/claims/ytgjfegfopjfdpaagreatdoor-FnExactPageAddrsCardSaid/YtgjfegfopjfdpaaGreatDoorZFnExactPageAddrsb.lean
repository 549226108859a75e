/- Part 2 of the proof of FnExactPageAddrs: the plain functions of what it reaches, that Go comes to just their answers, what they answer, and the words that the walks use; conditions: each theorem's own. -/
import Derived.Test.YtgjfegfopjfdpaaGreatDoorZFnExactPageAddrsa
import Derived.Laws.StructEq
import Derived.RowKit
import Derived.Test.YtgjfegfopjfdpaaGreatDoorProg
import Derived.Below
import Derived.Deep.Draws
import Derived.Deep.AppendLies
import Derived.Maps.AppendAt
import Derived.OwnWalk
import Derived.Laws.BytesArg
import Derived.Laws.MakeOwn
import Derived.Laws.OwnMore
import Derived.Deep.OwnRows
import Derived.Tactics
import Derived.Lib.ConvBytes
import Derived.Laws.Slices
import Derived.WalkKit
import Derived.KernelRfl
import Derived.RowKit3
import Derived.Deep.LoopGhost
import Derived.Deep.QuietTactic
import Derived.BigQuiet
import Derived.WideLaws
import Derived.Deep.DeepCutAuto
import Derived.Deep.CutBlock
import Derived.Deep.RegionHeld3
import Derived.Laws.Rows
import Derived.Lib.AppendStr
import Derived.ArgAppend
import Derived.Laws.IdiomCopy
import Derived.OrdersHeld
import Derived.Laws.BitsLemmas
import Derived.OneCell
import Derived.Lib.Strings

section
namespace Go.Proofs.YtgjfegfopjfdpaaGreatDoorW.PrintWords
open Go.RowKit
section
variable {P : Program} {d : Nat} {xs ys : Array Value} {f : Field} {fs : List Field} {a b : Value} {r s : Bool} {w : World}
end
end Go.Proofs.YtgjfegfopjfdpaaGreatDoorW.PrintWords
end
section
namespace Go.Proofs.YtgjfegfopjfdpaaGreatDoor.P
theorem aid_isEmpty (l : List UInt8) : (l != ([] : List UInt8)) = !l.isEmpty := by cases l <;> rfl
theorem aid_isEmpty2 (l : List UInt8) : (l == ([] : List UInt8)) = l.isEmpty := by cases l <;> rfl
end Go.Proofs.YtgjfegfopjfdpaaGreatDoor.P
end
section
namespace Go.Proofs.YtgjfegfopjfdpaaGreatDoor.P
open Go.RowKit Go.Proofs.YtgjfegfopjfdpaaGreatDoorW.PrintWords Go.Proofs.YtgjfegfopjfdpaaGreatDoorW.PrintLast Go.Proofs.YtgjfegfopjfdpaaGreatDoorW.PrintMore
attribute [local go_sem] max2_int min2_int max_two min_two max_three min_three max_four min_four
set_option linter.unusedVariables false
set_option linter.unusedSimpArgs false
def errW : Option Int → Value
 | none => .nilIface
 | some c => .iface 0 (.int .i64 c)
theorem errW_none : errW none = .nilIface := rfl
theorem errW_some (c : Int) : errW (some c) = .iface 0 (.int .i64 c) := rfl
theorem info5 : (Tryz.prog.info? 5).map (fun i => (i.zero, i.size, i.bytes)) = some (some (.int .u8 0), 1, 1) := by kernel_rfl
theorem info9 : (Tryz.prog.info? 9).map (fun i => (i.zero, i.size, i.bytes)) = some (some (.string ⟨#[]⟩), 1, 16) := by kernel_rfl
end Go.Proofs.YtgjfegfopjfdpaaGreatDoor.P
end
section
namespace Go.Proofs.YtgjfegfopjfdpaaGreatDoor.P
open Go.RowKit Go.Proofs.YtgjfegfopjfdpaaGreatDoorW.PrintWords Go.Proofs.YtgjfegfopjfdpaaGreatDoorW.PrintLast Go.Proofs.YtgjfegfopjfdpaaGreatDoorW.PrintMore
theorem viaP {B : Prop} (b : B := by simp only [putAll, Act.put, List.setIfInBounds_toArray, List.set_cons_zero, List.set_cons_succ]) : B := b
theorem ofD {p : Prop} [Decidable p] (h : decide p = true := by first | (with_reducible assumption) | assumption) : p := of_decide_eq_true h
theorem bindA {α β : Type} {x : Option α} {f : α → Option β} {r : β} (h : x.bind f = some r) : ∃ a, Aside0 (x = some a) ∧ f a = some r := by
 obtain ⟨a, h1, h2⟩ := Option.bind_eq_some_iff.mp h
 exact ⟨a, ⟨h1⟩, h2⟩
theorem bindZ {α β : Type} {y z : α} (hz : Aside0 (z = y)) {f : α → Option β} {r : β} (h : (some y).bind f = some r) : f z = some r := hz.out ▸ h
theorem toY {α : Type} (y : α) : ∃ z, Aside0 (z = y) := ⟨y, ⟨rfl⟩⟩
theorem rt {α : Type} {d : Kd α} {e : Nat} {w : World} {base : Nat} {ok : Nat → Prop} {v : Value} {xs : List α} {g t : Nat} {cells : Array Value} (a : Aside0 (d.R e w base ok v xs)) (b : Aside0 (w.heap[g]? = some (.cells cells t (0, 0)))) (ht : ∀ q, q ∈ e :: d.E → q ≠ t := by decide) : Aside0 (d.R e w base (fun k => ok k ∧ k ≠ g) v xs) := ⟨Kd.R_types a.out b.out ht⟩
section
variable {P : Program} {ops : Array Oper} {rest : List Oper} {o : Oper} {a : Act} {Q : Exit → Act → World → Prop} {md : Region.Mode} {S : World → Prop} {ds : List Nat} {W : World}
theorem boxE (N : Tmp) (cs : Array Value) (t : TypeId)
  (h : ∀ g, g = W.heap.size → ∀ w1, w1.heap[g]? = some (.cells cs t (0, 0)) → Below W.heap.size W w1 → wpList P ops Q rest (a.put o.dst (.pointer (some ⟨g, 0, none⟩))) w1)
  (hd : o.dst = some N := by rfl) (hgd : o.guard = none := by rfl)
  (hrun : (execOp a.eval o).run P W = .ok (.value (.pointer (some ⟨W.heap.size, 0, none⟩))) (W.alloc (.cells cs t (0, 0))) := by first | (go_simp; done) | (go_simp; rfl)) : wpList P ops Q (o :: rest) a W := box_event hgd hd hrun h
theorem gsL (N : Option Tmp) {f : FuncId} {fn : Func} {as_ : Array Operand} {ts : Array TypeId} (hf : P.funcs[f]? = some fn) (args : Array Value)
  (h : Calls P f args W fun e w' => ∃ v, e = .returned v ∧ wpList P ops Q rest (a.put N v) w')
  (hd : o.dst = N := by rfl) (hg : o.guard = none := by rfl) (hname : (fn.name == "runtime.NumGoroutine") = false := by kernel_rfl) (hb : fn.body.isSome = true := by rfl)
  (hop : o.op = .call { callee := .value (.func f), args := as_, argTypes := ts } := by rfl)
  (hargs : as_.map a.eval = args := by (try simp only [List.map_toArray, List.map_cons, List.map_nil]); first | done | rfl | (simp only [List.length_drop, List.length_take]; rfl)) : wpList P ops Q (o :: rest) a W := goesL_ N hd hg hf hname hb args hop hargs h
theorem pureZ (i : Nat) (N : Option Tmp) {v : Value} {fuel : Nat} {l : Array Bool} (l' : Array Bool) {a' : Act}
  (h : wpAnyLast P md ops Q S ds fuel l' a' W) (hi : ops[i]? = some o := by rfl) (hN : o.dst = N := by rfl) (hc : anyB md ops l l' i = true := by exact any_of HT_.out (by kernel_rfl))
  (hQ : ∀ c a w, Q (.panic c) (a.put o.dst v) w → Q (.panic c) a w := by exact fun _ _ _ h => h)
  (hy : Yields P ops o v a := by exact Or.inl ⟨by rfl, by intro w'; go_simp; with_reducible rfl⟩)
  (ha : a.put N v = a' := by (simp only [Act.put, List.setIfInBounds_toArray, List.set_cons_zero, List.set_cons_succ, i64_w, i32_w]; rfl)) : wpAnyLast P md ops Q S ds (fuel + 1) l a W := pure_ l' hi hN hc hQ hy ha h
end
theorem cf4 {w : World} {g : Nat} {t : TypeId} {x0 x1 x2 x3 : Value} (h : Aside0 (w.heap[g]? = some (.cells #[x0, x1, x2, x3] t (0, 0)))) : w.cell? ⟨g, 0, none⟩ = some x0 ∧ w.cell? ⟨g, 1, none⟩ = some x1 ∧ w.cell? ⟨g, 2, none⟩ = some x2 ∧ w.cell? ⟨g, 3, none⟩ = some x3 ∧ w.frozen? ⟨g, 0, none⟩ = false ∧ w.frozen? ⟨g, 1, none⟩ = false ∧ w.frozen? ⟨g, 2, none⟩ = false ∧ w.frozen? ⟨g, 3, none⟩ = false := ⟨(blk_cell h.out 0).trans rfl, (blk_cell h.out 1).trans rfl, (blk_cell h.out 2).trans rfl, (blk_cell h.out 3).trans rfl, blk_frozen h.out 0, blk_frozen h.out 1, blk_frozen h.out 2, blk_frozen h.out 3⟩
theorem zz0 {B : Prop} (f : B := by first | rfl | (simp only [i64_w, i32_w]; done) | (simp only [aid_isEmpty, aid_isEmpty2]; done) | (simp; done) | (simp [*]; done)) : B := f
theorem zz1 {B : Prop} (f : B := by repeat (first | exact Drawn0.refl _ | apply Drawn0.step)) : B := f
theorem zz3 {B A0 : Prop} (a0 : Aside0 A0) (f : A0 → B := by intro g0_; have := g0_; omega) : B := f a0.out
theorem zz4 {B A0 : Prop} (a0 : Aside0 A0) (f : A0 → B := by intro g0_; repeat (first | (with_reducible first | exact g0_ | apply below_alloc | apply pw_below_drewN | apply below_drew1) | exact g0_)) : B := f a0.out
theorem zz5 {B : Prop} (f : B := by first | rfl | (simp [errW_none, errW_some] <;> rfl) | (simp [*, errW_none, errW_some] <;> rfl)) : B := f
theorem zz6 {B A0 A1 : Prop} (a0 : Aside0 A0) (a1 : Aside0 A1) (f : A0 → A1 → B := by intro g0_ g1_; repeat (first | (with_reducible first | exact g0_ | apply below_alloc | apply pw_below_drewN | apply below_drew1 | refine below_set ?_ g1_) | exact g0_)) : B := f a0.out a1.out
theorem zz7 {B A0 A1 : Prop} (a0 : Aside0 A0) (a1 : Aside0 A1) (f : A0 → A1 → B := by intro g0_ g1_; repeat (first | exact (Kd.C_below g0_ g1_) | (with_reducible refine Kd.C_alloc ?_ _) | (with_reducible refine Kd.C_drewN ?_ _) | (with_reducible refine Kd.C_drew ?_))) : B := f a0.out a1.out
theorem zz8 {B : Prop} (f : B := by first | (go_simp; done) | (go_simp; rfl)) : B := f
theorem zz9 {B A0 : Prop} (a0 : Aside0 A0) (f : A0 → B := by intro g0_; first | (with_reducible exact g0_) | ((with_reducible repeat (first | apply Kd.R_alloc | apply Kd.R_drewN | apply Kd.R_drew)); exact g0_)) : B := f a0.out
theorem zz11 {B A0 : Prop} (a0 : Aside0 A0) (f : A0 → B := by intro g0_; have := g0_; first | omega | exact Nat.le_refl _) : B := f a0.out
theorem zz18 {B : Prop} (f : B := by first | omega | exact Nat.le_refl _) : B := f
theorem zz26 {B A0 A1 : Prop} (a0 : Aside0 A0) (a1 : Aside0 A1) (f : A0 → A1 → B := by intro g0_ g1_; have := g0_; have := g1_; omega) : B := f a0.out a1.out
theorem zz27 {B A0 : Prop} (a0 : Aside0 A0) (f : A0 → B := by intro g0_; first | (with_reducible exact g0_) | ((with_reducible repeat (first | apply blk_drewN | apply blk_drew | apply blk_alloc)); exact g0_)) : B := f a0.out
theorem zz29 {B : Prop} (f : B := by (try simp only [List.map_toArray, List.map_cons, List.map_nil]); first | done | rfl | (simp only [List.length_drop, List.length_take]; rfl)) : B := f
theorem zz38 {B A0 A1 A2 : Prop} (a0 : Aside0 A0) (a1 : Aside0 A1) (a2 : Aside0 A2) (f : A0 → A1 → A2 → B := by intro g0_ g1_ g2_; repeat (first | (with_reducible first | exact g0_ | apply below_alloc | apply pw_below_drewN | apply below_drew1 | refine below_set ?_ g1_ | refine below_set ?_ g2_) | exact g0_)) : B := f a0.out a1.out a2.out
theorem zz39 {B A0 : Prop} (a0 : Aside0 A0) (f : A0 → B := by intro g0_; (with_reducible repeat (first | apply Kd.R_alloc | apply Kd.R_drewN | apply Kd.R_drew)); exact Kd.R_mono g0_ (fun _ hk => hk.2)) : B := f a0.out
theorem zz41 {B A0 : Prop} (a0 : Aside0 A0) (f : A0 → B := by intro g0_; (with_reducible repeat (first | apply Kd.R_alloc | apply Kd.R_drewN | apply Kd.R_drew)); exact Kd.R_mono g0_ (fun _ hk => ⟨trivial, hk⟩)) : B := f a0.out
theorem zz42 {B A0 : Prop} (a0 : Aside0 A0) (f : A0 → B := by intro g0_; first | ((repeat (first | (with_reducible first | exact g0_ | refine blk_drewN ?_ _ | refine blk_drew ?_ | refine blk_alloc ?_ _ | apply blk_put) | exact g0_)); all_goals rfl; done) | (apply blk_put (i := 3); apply blk_put (i := 2); apply blk_put (i := 1); apply blk_put (i := 0); exact g0_; all_goals rfl)) : B := f a0.out
theorem zz43 {B : Prop} (f : B := by first | exact Kd.R_nil _ _ _ _ _ | exact Kd.N_nil _ _ _ _ _ | exact Kd.V_nil _ _ _ _ _ | exact Kd.Q_nil _ _ _ _ _ | exact Kd.S_nil _ _ _ _ _) : B := f
theorem zz44 {B A0 : Prop} (a0 : Aside0 A0) (f : A0 → B := by intro g0_; repeat (first | exact (Kd.R_reads' g0_).2.2 | (with_reducible refine Kd.C_alloc ?_ _) | (with_reducible refine Kd.C_drewN ?_ _) | (with_reducible refine Kd.C_drew ?_))) : B := f a0.out
theorem zz45 {B A0 : Prop} (a0 : Aside0 A0) (f : A0 → B := by intro g0_; (with_reducible repeat (first | apply Kd.R_alloc | apply Kd.R_drewN | apply Kd.R_drew)); exact Kd.R_mono g0_ (fun _ hk => ⟨hk.1.2, hk.2⟩)) : B := f a0.out
theorem zz46 {B A0 : Prop} (a0 : Aside0 A0) (f : A0 → B := by intro g0_; (with_reducible repeat (first | apply Kd.R_alloc | apply Kd.R_drewN | apply Kd.R_drew)); exact Kd.R_mono g0_ (fun _ hk => ⟨hk.2, hk.1⟩)) : B := f a0.out
theorem zz47 {B A0 A1 A2 A3 : Prop} (a0 : Aside0 A0) (a1 : Aside0 A1) (a2 : Aside0 A2) (a3 : Aside0 A3) (f : A0 → A1 → A2 → A3 → B := by intro g0_ g1_ g2_ g3_; repeat (first | (with_reducible first | exact g0_ | apply below_alloc | apply pw_below_drewN | apply below_drew1 | refine below_set ?_ g1_ | refine below_set ?_ g2_ | refine below_set ?_ g3_) | exact g0_)) : B := f a0.out a1.out a2.out a3.out
theorem zz48 {B A0 A1 : Prop} (a0 : Aside0 A0) (a1 : Aside0 A1) (f : A0 → A1 → B := by intro g0_ g1_; (with_reducible repeat (first | apply Kd.R_alloc | apply Kd.R_drewN | apply Kd.R_drew)); exact (Kd.R_mono (Kd.R_far (p := ⟨gb189, 3, none⟩) (Kd.R_far (p := ⟨gb189, 2, none⟩) (Kd.R_far (p := ⟨gb189, 1, none⟩) (Kd.R_far (p := ⟨gb189, 0, none⟩) (Kd.R_types g0_ g1_ (by decide)) (fun _ hk => hk.2) (.string a0_0)) (fun _ hk => hk.2) (.slice Ao39 t186.length co39)) (fun _ hk => hk.2) (.bool t168)) (fun _ hk => hk.2) (.string t184)) (fun _ h_ => h_.1))) : B := f a0.out a1.out
theorem zz50 {B A0 A1 : Prop} (a0 : Aside0 A0) (a1 : Aside0 A1) (f : A0 → A1 → B := by intro g0_ g1_; (repeat (first | (with_reducible first | exact g0_ | refine blk_drewN ?_ _ | refine blk_drew ?_ | refine blk_alloc ?_ _ | apply blk_put | apply blk_far) | exact g0_)); all_goals first | rfl | exact g1_) : B := f a0.out a1.out
theorem zz51 {B A0 : Prop} (a0 : Aside0 A0) (f : A0 → B := by intro g0_; apply Kd.R_mono; (focus ((repeat (first | (with_reducible first | exact g0_ | apply Kd.R_alloc | apply Kd.R_drewN | apply Kd.R_drew | apply Kd.R_far) | exact g0_)); all_goals (intro _ hk_; first | exact hk_.2 | exact hk_.1.2 | exact hk_.1.1.2 | exact hk_.1.1.1.2 | exact hk_.1.1.1.1.2 | exact hk_.1.1.1.1.1.2 | exact hk_.1.1.1.1.1.1.2))); intro _ hk_; first | exact trivial | (repeat' (with_reducible apply And.intro)) <;> first | exact hk_ | exact hk_.2 | exact hk_.1.2 | exact hk_.1.1.2 | exact hk_.1.1.1.2 | exact hk_.1.1.1.1.2 | exact hk_.1.1.1.1.1.2 | exact hk_.1.1.1.1.1.1.2 | exact hk_.1 | exact hk_.1.1 | exact hk_.1.1.1 | exact hk_.1.1.1.1 | exact hk_.1.1.1.1.1 | exact hk_.1.1.1.1.1.1 | exact hk_.2.2 | exact hk_.1.2.2 | exact hk_.1.1.2.2 | exact hk_.1.1.1.2.2 | exact hk_.1.1.1.1.2.2 | exact hk_.1.1.1.1.1.2.2 | exact hk_.1.1.1.1.1.1.2.2 | exact hk_.2.2.2 | exact hk_.1.2.2.2 | exact hk_.1.1.2.2.2 | exact hk_.1.1.1.2.2.2 | exact hk_.1.1.1.1.2.2.2 | exact hk_.1.1.1.1.1.2.2.2 | exact hk_.1.1.1.1.1.1.2.2.2 | exact hk_.2.2.2.2 | exact hk_.1.2.2.2.2 | exact hk_.1.1.2.2.2.2 | exact hk_.1.1.1.2.2.2.2 | exact hk_.1.1.1.1.2.2.2.2 | exact hk_.1.1.1.1.1.2.2.2.2 | exact hk_.1.1.1.1.1.1.2.2.2.2 | exact hk_.2.2.2.2.2 | exact hk_.1.2.2.2.2.2 | exact hk_.1.1.2.2.2.2.2 | exact hk_.1.1.1.2.2.2.2.2 | exact hk_.1.1.1.1.2.2.2.2.2 | exact hk_.1.1.1.1.1.2.2.2.2.2 | exact hk_.1.1.1.1.1.1.2.2.2.2.2 | exact hk_.2.1 | exact hk_.1.2.1 | exact hk_.1.1.2.1 | exact hk_.1.1.1.2.1 | exact hk_.1.1.1.1.2.1 | exact hk_.1.1.1.1.1.2.1 | exact hk_.2.2.1 | exact hk_.1.2.2.1 | exact hk_.1.1.2.2.1 | exact hk_.1.1.1.2.2.1 | exact hk_.1.1.1.1.2.2.1 | exact hk_.1.1.1.1.1.2.2.1 | exact hk_.2.2.2.1 | exact hk_.1.2.2.2.1 | exact hk_.1.1.2.2.2.1 | exact hk_.1.1.1.2.2.2.1 | exact hk_.1.1.1.1.2.2.2.1 | exact hk_.1.1.1.1.1.2.2.2.1 | exact hk_.2.2.2.2.1 | exact hk_.1.2.2.2.2.1 | exact hk_.1.1.2.2.2.2.1 | exact hk_.1.1.1.2.2.2.2.1 | exact hk_.1.1.1.1.2.2.2.2.1 | exact hk_.1.1.1.1.1.2.2.2.2.1 | exact hk_.2.2.2.2.2.1 | exact hk_.1.2.2.2.2.2.1 | exact hk_.1.1.2.2.2.2.2.1 | exact hk_.1.1.1.2.2.2.2.2.1 | exact hk_.1.1.1.1.2.2.2.2.2.1 | exact hk_.1.1.1.1.1.2.2.2.2.2.1) : B := f a0.out
theorem zz52 {B A0 A1 : Prop} (a0 : Aside0 A0) (a1 : Aside0 A1) (f : A0 → A1 → B := by intro g0_ g1_; (with_reducible repeat (first | apply Kd.R_alloc | apply Kd.R_drewN | apply Kd.R_drew)); exact (Kd.R_mono (Kd.R_far (p := ⟨gb189, 3, none⟩) (Kd.R_far (p := ⟨gb189, 2, none⟩) (Kd.R_far (p := ⟨gb189, 1, none⟩) (Kd.R_far (p := ⟨gb189, 0, none⟩) (Kd.R_types g0_ g1_ (by decide)) (fun _ hk => hk.2) (.string a0_0)) (fun _ hk => hk.2) (.slice Ao59 t186.length co59)) (fun _ hk => hk.2) (.bool t168)) (fun _ hk => hk.2) (.string t184)) (fun _ h_ => h_.1))) : B := f a0.out a1.out
theorem zz61 {B A0 : Prop} (a0 : Aside0 A0) (f : A0 → B := by intro g0_; (with_reducible repeat (first | apply Kd.R_alloc | apply Kd.R_drewN | apply Kd.R_drew)); exact Kd.R_mono g0_ (fun _ hk => trivial)) : B := f a0.out
theorem zz62 {B A0 : Prop} (a0 : Aside0 A0) (f : A0 → B := by intro g0_; repeat (first | (with_reducible first | exact g0_ | apply Kept.alloc | apply Kept.drewN | apply Kept.drew) | exact g0_)) : B := f a0.out
theorem zz65 {B A0 : Prop} (a0 : Aside0 A0) (f : A0 → B := by intro g0_; first | (with_reducible exact g0_) | ((with_reducible repeat (first | apply Kd.V_alloc | apply Kd.V_drewN | apply Kd.V_drew)); exact g0_)) : B := f a0.out
theorem zz66 {B A0 : Prop} (a0 : Aside0 A0) (f : A0 → B := by intro g0_; repeat (first | exact (Kd.V_reads' g0_).2.2 | (with_reducible refine Kd.C_alloc ?_ _) | (with_reducible refine Kd.C_drewN ?_ _) | (with_reducible refine Kd.C_drew ?_))) : B := f a0.out
theorem zz69 {B A0 : Prop} (a0 : Aside0 A0) (f : A0 → B := by intro g0_; (with_reducible repeat (first | apply Kd.R_alloc | apply Kd.R_drewN | apply Kd.R_drew)); exact Kd.R_mono g0_ (fun _ hk => hk.1)) : B := f a0.out
theorem zz72 {B A0 : Prop} (a0 : Aside0 A0) (f : A0 → B := by intro g0_; (with_reducible repeat (first | apply Kd.R_alloc | apply Kd.R_drewN | apply Kd.R_drew)); exact Kd.R_mono g0_ (fun _ hk => ⟨hk.1.1, hk.2⟩)) : B := f a0.out
theorem zz75 {B A0 : Prop} (a0 : Aside0 A0) (f : A0 → B := by intro g0_; (with_reducible repeat (first | apply Kd.R_alloc | apply Kd.R_drewN | apply Kd.R_drew)); exact Kd.R_mono g0_ (fun _ hk => ⟨hk.1.1.1, ⟨hk.2, hk.1.2⟩⟩)) : B := f a0.out
theorem zz76 {B A0 : Prop} (a0 : Aside0 A0) (f : A0 → B := by intro g0_; (with_reducible repeat (first | apply Kd.R_alloc | apply Kd.R_drewN | apply Kd.R_drew)); exact Kd.R_mono g0_ (fun _ hk => ⟨hk.1.1, ⟨hk.2, hk.1.2⟩⟩)) : B := f a0.out
theorem zz77 {B A0 : Prop} (a0 : Aside0 A0) (f : A0 → B := by intro g0_; (with_reducible repeat (first | apply Kd.V_alloc | apply Kd.V_drewN | apply Kd.V_drew)); exact Kd.V_mono g0_ (fun _ hk => ⟨hk.1.1.1, ⟨hk.1.2, ⟨hk.1.1.2.2.1, ⟨hk.1.1.2.1, ⟨hk.1.1.2.2.2, hk.2⟩⟩⟩⟩⟩)) : B := f a0.out
theorem zz78 {B A0 : Prop} (a0 : Aside0 A0) (f : A0 → B := by intro g0_; (with_reducible repeat (first | apply Kd.V_alloc | apply Kd.V_drewN | apply Kd.V_drew)); exact Kd.V_mono g0_ (fun _ hk => ⟨hk.1.1.1, ⟨hk.2, ⟨hk.1.1.2.2.1, ⟨hk.1.1.2.1, ⟨hk.1.1.2.2.2, hk.1.2⟩⟩⟩⟩⟩)) : B := f a0.out
theorem zz79 {B A0 A1 : Prop} (a0 : Aside0 A0) (a1 : Aside0 A1) (f : A0 → A1 → B := by intro g0_ g1_; first | exact Kd.own_blk (Kd.R_ne g0_ g1_ (by decide)) | (rw [add_block]; exact Kd.own_blk (Kd.R_ne g0_ g1_ (by decide))) | (show (Addr.add _ _).block ≠ _; rw [add_block]; exact Kd.own_blk (Kd.R_ne g0_ g1_ (by decide))) | (dsimp only; exact Kd.own_blk (Kd.R_ne g0_ g1_ (by decide)))) : B := f a0.out a1.out
theorem zz80 {B A0 A1 : Prop} (a0 : Aside0 A0) (a1 : Aside0 A1) (f : A0 → A1 → B := by intro g0_ g1_; (with_reducible repeat (first | apply Kd.R_alloc | apply Kd.R_drewN | apply Kd.R_drew)); exact (Kd.R_mono (Kd.R_far (p := ⟨gb318, 3, none⟩) (Kd.R_far (p := ⟨gb318, 2, none⟩) (Kd.R_far (p := ⟨gb318, 1, none⟩) (Kd.R_far (p := ⟨gb318, 0, none⟩) (Kd.R_types g0_ g1_ (by decide)) (fun _ hk => hk.2) (.string t311)) (fun _ hk => hk.2) (.slice Ao44 t312.length co44)) (fun _ hk => hk.2) (.bool t315)) (fun _ hk => hk.2) (.string t316)) (fun _ h_ => h_.1))) : B := f a0.out a1.out
theorem zz83 {B A0 : Prop} (a0 : Aside0 A0) (f : A0 → B := by intro g0_; (with_reducible repeat (first | apply Kd.R_alloc | apply Kd.R_drewN | apply Kd.R_drew)); exact Kd.R_mono g0_ (fun _ hk => ⟨hk.1, hk.2.1⟩)) : B := f a0.out
theorem zz92 {B : Prop} (f : B := by (try simp only [List.map_toArray, List.map_cons, List.map_nil]); first | done | (simp only [hji4]; rfl) | rfl | (simp only [List.length_drop, List.length_take]; rfl)) : B := f
theorem zz93 {B : Prop} (f : B := by (try simp only [List.map_toArray, List.map_cons, List.map_nil]); first | done | (simp only [hji9]; rfl) | rfl | (simp only [List.length_drop, List.length_take]; rfl)) : B := f
theorem zz94 {B : Prop} (f : B := by first | rfl | (simp [errW_none, errW_some] <;> rfl) | (simp only [← hji4, ← hji9]; first | rfl | (simp [errW_none, errW_some] <;> rfl)) | (simp [*, errW_none, errW_some] <;> rfl)) : B := f
theorem zz116 {B A0 A1 : Prop} (a0 : Aside0 A0) (a1 : Aside0 A1) (f : A0 → A1 → B := by intro g0_ g1_; (with_reducible repeat (first | apply Kd.R_alloc | apply Kd.R_drewN | apply Kd.R_drew)); exact (Kd.R_mono (Kd.R_far (p := ⟨gb436, 3, none⟩) (Kd.R_far (p := ⟨gb436, 2, none⟩) (Kd.R_far (p := ⟨gb436, 1, none⟩) (Kd.R_far (p := ⟨gb436, 0, none⟩) (Kd.R_types g0_ g1_ (by decide)) (fun _ hk => hk.2) (.string a0)) (fun _ hk => hk.2) (.slice Ao30 t433.length co30)) (fun _ hk => hk.2) (.bool t418)) (fun _ hk => hk.2) (.string t419)) (fun _ h_ => h_.1))) : B := f a0.out a1.out
theorem zz118 {B A0 A1 : Prop} (a0 : Aside0 A0) (a1 : Aside0 A1) (f : A0 → A1 → B := by intro g0_ g1_; (with_reducible repeat (first | apply Kd.R_alloc | apply Kd.R_drewN | apply Kd.R_drew)); exact (Kd.R_mono (Kd.R_far (p := ⟨gb436, 3, none⟩) (Kd.R_far (p := ⟨gb436, 2, none⟩) (Kd.R_far (p := ⟨gb436, 1, none⟩) (Kd.R_far (p := ⟨gb436, 0, none⟩) (Kd.R_types g0_ g1_ (by decide)) (fun _ hk => hk.2) (.string a0)) (fun _ hk => hk.2) (.slice Ao39 t433.length co39)) (fun _ hk => hk.2) (.bool t418)) (fun _ hk => hk.2) (.string t419)) (fun _ h_ => h_.1))) : B := f a0.out a1.out
theorem zz120 {B : Prop} (f : B := by (try simp only [List.map_toArray, List.map_cons, List.map_nil]); first | done | rfl | (simp only [List.length_drop, List.length_take]; rfl) | (simp <;> repeat' (first | rfl | constructor))) : B := f
theorem zz122 {B : Prop} (f : B := by rw [← hq_]; exact (zz6 HB GE441)) : B := f
theorem zz124 {B : Prop} (f : B := by rw [← hq_]; exact (zz27 BK461)) : B := f
theorem zz125 {B : Prop} (f : B := by rw [← hq_]; exact (zz27 BK462)) : B := f
theorem zz126 {B : Prop} (f : B := by rw [← hq_]; exact (zz38 HB GE461 GE462)) : B := f
theorem zz138 {B A0 : Prop} (a0 : Aside0 A0) (f : A0 → B := by intro g0_; (with_reducible repeat (first | apply Kd.V_alloc | apply Kd.V_drewN | apply Kd.V_drew)); exact Kd.V_mono (Kd.V_far (p := ⟨gb523, 3, none⟩) (Kd.V_far (p := ⟨gb523, 2, none⟩) (Kd.V_far (p := ⟨gb523, 1, none⟩) (Kd.V_far (p := ⟨gb523, 0, none⟩) (Kd.V_mono g0_ (fun k_ hk => (⟨hk, hk.2⟩ : _ ∧ k_ ≠ gb523))) (fun _ hk => hk.2) (.string t516)) (fun _ hk => hk.2) (.slice Ao34 t517.length co34)) (fun _ hk => hk.2) (.bool t520)) (fun _ hk => hk.2) (.string t521)) (fun _ hk => ⟨hk.1.1.1.1.1, ⟨hk.1.1.1.1.2, hk.1.1.1.2⟩⟩)) : B := f a0.out
theorem zz139 {B A0 : Prop} (a0 : Aside0 A0) (f : A0 → B := by intro g0_; (with_reducible repeat (first | apply Kd.V_alloc | apply Kd.V_drewN | apply Kd.V_drew)); exact Kd.V_mono g0_ (fun _ hk => ⟨hk.1.1, ⟨hk.1.2, hk.2⟩⟩)) : B := f a0.out
theorem zz142 {B A0 : Prop} (a0 : Aside0 A0) (f : A0 → B := by intro g0_; (with_reducible repeat (first | apply Kd.V_alloc | apply Kd.V_drewN | apply Kd.V_drew)); exact Kd.V_mono g0_ (fun _ hk => ⟨hk.1.1, ⟨(by simp [Value.ownBlock]), ⟨hk.2, ⟨hk.1.2.1, hk.1.2.2⟩⟩⟩⟩)) : B := f a0.out
theorem zz144 {B A0 A1 : Prop} (a0 : Aside0 A0) (a1 : Aside0 A1) (f : A0 → A1 → B := by intro g0_ g1_; (with_reducible repeat (first | apply Kd.R_alloc | apply Kd.R_drewN | apply Kd.R_drew)); exact (Kd.R_mono (Kd.R_far (p := ⟨gb535, 3, none⟩) (Kd.R_far (p := ⟨gb535, 2, none⟩) (Kd.R_far (p := ⟨gb535, 1, none⟩) (Kd.R_far (p := ⟨gb535, 0, none⟩) (Kd.R_types g0_ g1_ (by decide)) (fun _ hk => hk.2) (.string t528)) (fun _ hk => hk.2) (.slice Ao54 t529.length co54)) (fun _ hk => hk.2) (.bool t532)) (fun _ hk => hk.2) (.string t533)) (fun _ h_ => h_.1))) : B := f a0.out a1.out
theorem zz146 {B A0 : Prop} (a0 : Aside0 A0) (f : A0 → B := by intro g0_; (with_reducible repeat (first | apply Kd.V_alloc | apply Kd.V_drewN | apply Kd.V_drew)); exact (Kd.V_mono (Kd.V_far (p := ⟨gb535, 3, none⟩) (Kd.V_far (p := ⟨gb535, 2, none⟩) (Kd.V_far (p := ⟨gb535, 1, none⟩) (Kd.V_far (p := ⟨gb535, 0, none⟩) (Kd.V_mono g0_ (fun k_ hk => (⟨hk, hk.2⟩ : _ ∧ k_ ≠ gb535))) (fun _ hk => hk.2) (.string t528)) (fun _ hk => hk.2) (.slice Ao54 t529.length co54)) (fun _ hk => hk.2) (.bool t532)) (fun _ hk => hk.2) (.string t533)) (fun _ h_ => h_.1))) : B := f a0.out
theorem zz147 {B A0 : Prop} (a0 : Aside0 A0) (f : A0 → B := by intro g0_; (with_reducible repeat (first | apply Kd.R_alloc | apply Kd.R_drewN | apply Kd.R_drew)); exact Kd.R_mono g0_ (fun _ hk => ⟨hk.1.1, hk.1.2⟩)) : B := f a0.out
theorem zz148 {B A0 : Prop} (a0 : Aside0 A0) (f : A0 → B := by intro g0_; (with_reducible repeat (first | apply Kd.V_alloc | apply Kd.V_drewN | apply Kd.V_drew)); exact Kd.V_mono g0_ (fun _ hk => ⟨hk.1.1.1, ⟨hk.1.1.2.1, ⟨hk.1.1.2.2.1, ⟨hk.1.1.2.2.2.1, hk.1.1.2.2.2.2⟩⟩⟩⟩)) : B := f a0.out
theorem zz149 {B A0 A1 : Prop} (a0 : Aside0 A0) (a1 : Aside0 A1) (f : A0 → A1 → B := by intro g0_ g1_; (with_reducible repeat (first | apply Kd.R_alloc | apply Kd.R_drewN | apply Kd.R_drew)); exact (Kd.R_mono (Kd.R_far (p := ⟨gb535, 3, none⟩) (Kd.R_far (p := ⟨gb535, 2, none⟩) (Kd.R_far (p := ⟨gb535, 1, none⟩) (Kd.R_far (p := ⟨gb535, 0, none⟩) (Kd.R_types g0_ g1_ (by decide)) (fun _ hk => hk.2) (.string t528)) (fun _ hk => hk.2) (.slice Ao66 t529.length co66)) (fun _ hk => hk.2) (.bool t532)) (fun _ hk => hk.2) (.string t533)) (fun _ h_ => h_.1))) : B := f a0.out a1.out
theorem zz151 {B A0 : Prop} (a0 : Aside0 A0) (f : A0 → B := by intro g0_; (with_reducible repeat (first | apply Kd.V_alloc | apply Kd.V_drewN | apply Kd.V_drew)); exact (Kd.V_mono (Kd.V_far (p := ⟨gb535, 3, none⟩) (Kd.V_far (p := ⟨gb535, 2, none⟩) (Kd.V_far (p := ⟨gb535, 1, none⟩) (Kd.V_far (p := ⟨gb535, 0, none⟩) (Kd.V_mono g0_ (fun k_ hk => (⟨hk, hk.2⟩ : _ ∧ k_ ≠ gb535))) (fun _ hk => hk.2) (.string t528)) (fun _ hk => hk.2) (.slice Ao66 t529.length co66)) (fun _ hk => hk.2) (.bool t532)) (fun _ hk => hk.2) (.string t533)) (fun _ h_ => h_.1))) : B := f a0.out
theorem zz154 {B A0 : Prop} (a0 : Aside0 A0) (f : A0 → B := by intro g0_; (with_reducible repeat (first | apply Kd.V_alloc | apply Kd.V_drewN | apply Kd.V_drew)); exact Kd.V_mono g0_ (fun _ hk => ⟨⟨hk.1.1.1, ⟨hk.1.1.2.2.1, ⟨hk.1.2, ⟨hk.1.1.2.2.2.1, ⟨hk.1.1.2.2.2.2, hk.2⟩⟩⟩⟩⟩, hk.1.1.2.1⟩)) : B := f a0.out
theorem zz156 {B A0 : Prop} (a0 : Aside0 A0) (f : A0 → B := by intro g0_; (with_reducible repeat (first | apply Kd.V_alloc | apply Kd.V_drewN | apply Kd.V_drew)); exact Kd.V_mono g0_ (fun _ hk => ⟨hk.1.1, ⟨hk.2, ⟨hk.1.2.1, ⟨hk.1.2.2.2.1, hk.1.2.2.2.2.1⟩⟩⟩⟩)) : B := f a0.out
theorem zz157 {B A0 : Prop} (a0 : Aside0 A0) (f : A0 → B := by intro g0_; (with_reducible repeat (first | apply Kd.V_alloc | apply Kd.V_drewN | apply Kd.V_drew)); exact Kd.V_mono (Kd.V_far (p := ⟨gb535, 3, none⟩) (Kd.V_far (p := ⟨gb535, 2, none⟩) (Kd.V_far (p := ⟨gb535, 1, none⟩) (Kd.V_far (p := ⟨gb535, 0, none⟩) (Kd.V_mono g0_ (fun k_ hk => (⟨hk, hk.2⟩ : _ ∧ k_ ≠ gb535))) (fun _ hk => hk.2) (.string t528)) (fun _ hk => hk.2) (.slice Ao78 t529.length co78)) (fun _ hk => hk.2) (.bool t532)) (fun _ hk => hk.2) (.string t533)) (fun _ hk => ⟨hk.1.1.1.1, ⟨hk.1.1.1.2.1, ⟨hk.1.1.1.2.2.1, ⟨hk.1.1.1.2.2.2.1, hk.1.1.1.2.2.2.2⟩⟩⟩⟩)) : B := f a0.out
theorem zz166 {B : Prop} (f : B := by rw [hw]; exact (zz51 (rt HO561 BK573))) : B := f
theorem zz167 {B : Prop} (f : B := by rw [hw]; exact (zz51 (rt HO566 BK573))) : B := f
theorem zz168 {B : Prop} (f : B := by rw [hw]; exact (zz51 (rt HO570 BK573))) : B := f
theorem zz169 {B : Prop} (f : B := by rw [hw]; exact (zz50 BK556 NB556_573)) : B := f
theorem zz171 {B : Prop} (f : B := by rw [hw]; exact (zz38 HB GE556 GE573)) : B := f
theorem zz172 {B A0 : Prop} (a0 : Aside0 A0) (f : A0 → B := by intro g0_; (with_reducible repeat (first | apply Kd.R_alloc | apply Kd.R_drewN | apply Kd.R_drew)); exact Kd.R_mono g0_ (fun _ hk => by first | exact ⟨hk.1.1, ⟨hk.1.2, hk.2⟩⟩ | (refine ⟨?_, ⟨?_, ?_⟩⟩ <;> (first | exact hk.2 | exact hk.1 | exact hk.1.1 | exact hk.2.2 | exact hk.2.1 | exact hk.1.2 | exact hk.2.2.2 | exact hk.1.2.1 | exact hk.1.1.2 | exact hk.1.2.2 | exact hk.1.1.1 | exact hk.2.2.1 | exact hk.2.2.2.2 | exact hk.2.2.2.1 | exact hk.1.1.1.1 | exact hk.1.1.2.2 | exact hk.1.1.1.2 | exact hk.1.2.2.1 | exact hk.1.1.2.1 | exact hk.1.2.2.2 | exact hk.1.1.2.2.1 | exact hk.2.2.2.2.1 | exact hk.1.1.2.2.2 | exact hk.1.1.1.1.1 | exact hk.1.1.1.2.1 | exact hk.1.1.1.2.2 | exact hk.1.1.1.1.2 | exact hk.1.2.2.2.2 | exact hk.1.2.2.2.1 | exact hk.1.1.2.2.2.2 | exact hk.1.1.1.1.1.2 | exact hk.1.1.1.2.2.2 | exact hk.1.1.1.2.2.1 | exact hk.1.1.1.1.2.2 | exact hk.1.1.1.1.1.1 | exact hk.1.1.1.1.2.1 | exact hk.1.2.2.2.2.1 | exact hk.1.1.2.2.2.1 | exact hk.1.1.1.2.2.2.1 | exact hk.1.1.1.2.2.2.2 | exact hk.1.1.1.1.2.2.2 | exact hk.1.1.1.1.2.2.1 | exact hk.1.1.1.1.1.2.1 | exact hk.1.1.1.1.1.2.2 | exact hk.1.1.2.2.2.2.1 | exact hk.1.1.1.1.1.2.2.1 | exact hk.1.1.1.2.2.2.2.1 | exact hk.1.1.1.1.1.2.2.2 | exact hk.1.1.1.1.2.2.2.1 | exact hk.1.1.1.1.2.2.2.2 | exact hk.1.1.1.1.1.2.2.2.2 | exact hk.1.1.1.1.2.2.2.2.1 | exact hk.1.1.1.1.1.2.2.2.1 | exact hk.1.1.1.1.1.2.2.2.2.1)))) : B := f a0.out
theorem zz176 {B A0 : Prop} (a0 : Aside0 A0) (f : A0 → B := by intro g0_; (with_reducible repeat (first | apply Kd.R_alloc | apply Kd.R_drewN | apply Kd.R_drew)); exact Kd.R_mono g0_ (fun _ hk => by first | exact ⟨hk.1.1.2, ⟨hk.1.2, hk.2⟩⟩ | (refine ⟨?_, ⟨?_, ?_⟩⟩ <;> (first | exact hk.2 | exact hk.1 | exact hk.1.1 | exact hk.2.2 | exact hk.2.1 | exact hk.1.2 | exact hk.2.2.2 | exact hk.1.2.1 | exact hk.1.1.2 | exact hk.1.2.2 | exact hk.1.1.1 | exact hk.2.2.1 | exact hk.2.2.2.2 | exact hk.2.2.2.1 | exact hk.1.1.1.1 | exact hk.1.1.2.2 | exact hk.1.1.1.2 | exact hk.1.2.2.1 | exact hk.1.1.2.1 | exact hk.1.2.2.2 | exact hk.1.1.2.2.1 | exact hk.2.2.2.2.1 | exact hk.1.1.2.2.2 | exact hk.1.1.1.1.1 | exact hk.1.1.1.2.1 | exact hk.1.1.1.2.2 | exact hk.1.1.1.1.2 | exact hk.1.2.2.2.2 | exact hk.1.2.2.2.1 | exact hk.1.1.2.2.2.2 | exact hk.1.1.1.1.1.2 | exact hk.1.1.1.2.2.2 | exact hk.1.1.1.2.2.1 | exact hk.1.1.1.1.2.2 | exact hk.1.1.1.1.1.1 | exact hk.1.1.1.1.2.1 | exact hk.1.2.2.2.2.1 | exact hk.1.1.2.2.2.1 | exact hk.1.1.1.2.2.2.1 | exact hk.1.1.1.2.2.2.2 | exact hk.1.1.1.1.2.2.2 | exact hk.1.1.1.1.2.2.1 | exact hk.1.1.1.1.1.2.1 | exact hk.1.1.1.1.1.2.2 | exact hk.1.1.2.2.2.2.1 | exact hk.1.1.1.1.1.2.2.1 | exact hk.1.1.1.2.2.2.2.1 | exact hk.1.1.1.1.1.2.2.2 | exact hk.1.1.1.1.2.2.2.1 | exact hk.1.1.1.1.2.2.2.2 | exact hk.1.1.1.1.1.2.2.2.2 | exact hk.1.1.1.1.2.2.2.2.1 | exact hk.1.1.1.1.1.2.2.2.1 | exact hk.1.1.1.1.1.2.2.2.2.1)))) : B := f a0.out
theorem zz181 {B A0 : Prop} (a0 : Aside0 A0) (f : A0 → B := by intro g0_; (with_reducible repeat (first | apply Kd.R_alloc | apply Kd.R_drewN | apply Kd.R_drew)); exact Kd.R_mono g0_ (fun _ hk => by first | exact ⟨hk.2.2.1, hk.2.1⟩ | (refine ⟨?_, ?_⟩ <;> (first | exact hk.2 | exact hk.1 | exact hk.1.1 | exact hk.2.2 | exact hk.2.1 | exact hk.1.2 | exact hk.2.2.2 | exact hk.1.2.1 | exact hk.1.1.2 | exact hk.1.2.2 | exact hk.1.1.1 | exact hk.2.2.1 | exact hk.2.2.2.2 | exact hk.2.2.2.1 | exact hk.1.1.1.1 | exact hk.1.1.2.2 | exact hk.1.1.1.2 | exact hk.1.2.2.1 | exact hk.1.1.2.1 | exact hk.1.2.2.2 | exact hk.1.1.2.2.1 | exact hk.2.2.2.2.1 | exact hk.1.1.2.2.2 | exact hk.1.1.1.1.1 | exact hk.1.1.1.2.1 | exact hk.1.1.1.2.2 | exact hk.1.1.1.1.2 | exact hk.1.2.2.2.2 | exact hk.1.2.2.2.1 | exact hk.1.1.2.2.2.2 | exact hk.1.1.1.1.1.2 | exact hk.1.1.1.2.2.2 | exact hk.1.1.1.2.2.1 | exact hk.1.1.1.1.2.2 | exact hk.1.1.1.1.1.1 | exact hk.1.1.1.1.2.1 | exact hk.1.2.2.2.2.1 | exact hk.1.1.2.2.2.1 | exact hk.1.1.1.2.2.2.1 | exact hk.1.1.1.2.2.2.2 | exact hk.1.1.1.1.2.2.2 | exact hk.1.1.1.1.2.2.1 | exact hk.1.1.1.1.1.2.1 | exact hk.1.1.1.1.1.2.2 | exact hk.1.1.2.2.2.2.1 | exact hk.1.1.1.1.1.2.2.1 | exact hk.1.1.1.2.2.2.2.1 | exact hk.1.1.1.1.1.2.2.2 | exact hk.1.1.1.1.2.2.2.1 | exact hk.1.1.1.1.2.2.2.2 | exact hk.1.1.1.1.1.2.2.2.2 | exact hk.1.1.1.1.2.2.2.2.1 | exact hk.1.1.1.1.1.2.2.2.1 | exact hk.1.1.1.1.1.2.2.2.2.1)))) : B := f a0.out
theorem zz182 {B A0 : Prop} (a0 : Aside0 A0) (f : A0 → B := by intro g0_; (with_reducible repeat (first | apply Kd.R_alloc | apply Kd.R_drewN | apply Kd.R_drew)); exact Kd.R_mono g0_ (fun _ hk => by first | exact ⟨hk.2.1, hk.2.2.1⟩ | (refine ⟨?_, ?_⟩ <;> (first | exact hk.2 | exact hk.1 | exact hk.1.1 | exact hk.2.2 | exact hk.2.1 | exact hk.1.2 | exact hk.2.2.2 | exact hk.1.2.1 | exact hk.1.1.2 | exact hk.1.2.2 | exact hk.1.1.1 | exact hk.2.2.1 | exact hk.2.2.2.2 | exact hk.2.2.2.1 | exact hk.1.1.1.1 | exact hk.1.1.2.2 | exact hk.1.1.1.2 | exact hk.1.2.2.1 | exact hk.1.1.2.1 | exact hk.1.2.2.2 | exact hk.1.1.2.2.1 | exact hk.2.2.2.2.1 | exact hk.1.1.2.2.2 | exact hk.1.1.1.1.1 | exact hk.1.1.1.2.1 | exact hk.1.1.1.2.2 | exact hk.1.1.1.1.2 | exact hk.1.2.2.2.2 | exact hk.1.2.2.2.1 | exact hk.1.1.2.2.2.2 | exact hk.1.1.1.1.1.2 | exact hk.1.1.1.2.2.2 | exact hk.1.1.1.2.2.1 | exact hk.1.1.1.1.2.2 | exact hk.1.1.1.1.1.1 | exact hk.1.1.1.1.2.1 | exact hk.1.2.2.2.2.1 | exact hk.1.1.2.2.2.1 | exact hk.1.1.1.2.2.2.1 | exact hk.1.1.1.2.2.2.2 | exact hk.1.1.1.1.2.2.2 | exact hk.1.1.1.1.2.2.1 | exact hk.1.1.1.1.1.2.1 | exact hk.1.1.1.1.1.2.2 | exact hk.1.1.2.2.2.2.1 | exact hk.1.1.1.1.1.2.2.1 | exact hk.1.1.1.2.2.2.2.1 | exact hk.1.1.1.1.1.2.2.2 | exact hk.1.1.1.1.2.2.2.1 | exact hk.1.1.1.1.2.2.2.2 | exact hk.1.1.1.1.1.2.2.2.2 | exact hk.1.1.1.1.2.2.2.2.1 | exact hk.1.1.1.1.1.2.2.2.1 | exact hk.1.1.1.1.1.2.2.2.2.1)))) : B := f a0.out
theorem zz183 {B A0 : Prop} (a0 : Aside0 A0) (f : A0 → B := by intro g0_; (with_reducible repeat (first | apply Kd.R_alloc | apply Kd.R_drewN | apply Kd.R_drew)); exact Kd.R_mono g0_ (fun _ hk => by first | exact ⟨hk.1.1.2, hk.1.2⟩ | (refine ⟨?_, ?_⟩ <;> (first | exact hk.2 | exact hk.1 | exact hk.1.1 | exact hk.2.2 | exact hk.2.1 | exact hk.1.2 | exact hk.2.2.2 | exact hk.1.2.1 | exact hk.1.1.2 | exact hk.1.2.2 | exact hk.1.1.1 | exact hk.2.2.1 | exact hk.2.2.2.2 | exact hk.2.2.2.1 | exact hk.1.1.1.1 | exact hk.1.1.2.2 | exact hk.1.1.1.2 | exact hk.1.2.2.1 | exact hk.1.1.2.1 | exact hk.1.2.2.2 | exact hk.1.1.2.2.1 | exact hk.2.2.2.2.1 | exact hk.1.1.2.2.2 | exact hk.1.1.1.1.1 | exact hk.1.1.1.2.1 | exact hk.1.1.1.2.2 | exact hk.1.1.1.1.2 | exact hk.1.2.2.2.2 | exact hk.1.2.2.2.1 | exact hk.1.1.2.2.2.2 | exact hk.1.1.1.1.1.2 | exact hk.1.1.1.2.2.2 | exact hk.1.1.1.2.2.1 | exact hk.1.1.1.1.2.2 | exact hk.1.1.1.1.1.1 | exact hk.1.1.1.1.2.1 | exact hk.1.2.2.2.2.1 | exact hk.1.1.2.2.2.1 | exact hk.1.1.1.2.2.2.1 | exact hk.1.1.1.2.2.2.2 | exact hk.1.1.1.1.2.2.2 | exact hk.1.1.1.1.2.2.1 | exact hk.1.1.1.1.1.2.1 | exact hk.1.1.1.1.1.2.2 | exact hk.1.1.2.2.2.2.1 | exact hk.1.1.1.1.1.2.2.1 | exact hk.1.1.1.2.2.2.2.1 | exact hk.1.1.1.1.1.2.2.2 | exact hk.1.1.1.1.2.2.2.1 | exact hk.1.1.1.1.2.2.2.2 | exact hk.1.1.1.1.1.2.2.2.2 | exact hk.1.1.1.1.2.2.2.2.1 | exact hk.1.1.1.1.1.2.2.2.1 | exact hk.1.1.1.1.1.2.2.2.2.1)))) : B := f a0.out
theorem zz185 {B A0 : Prop} (a0 : Aside0 A0) (f : A0 → B := by intro g0_; (try simp only [List.map_toArray, List.map_cons, List.map_nil]); first | done | (rw [show t589.length = t574.length from (Kd.R_reads' g0_).1.symm] <;> rfl) | rfl | (simp only [List.length_drop, List.length_take]; rfl)) : B := f a0.out
theorem zz186 {B A0 : Prop} (a0 : Aside0 A0) (f : A0 → B := by intro g0_; rw [show t589.length = t574.length from (Kd.R_reads' g0_).1.symm]; exact (Kd.R_reads' g0_).2.1) : B := f a0.out
end Go.Proofs.YtgjfegfopjfdpaaGreatDoor.P
end
section
namespace Go.Proofs.YtgjfegfopjfdpaaGreatDoor.P
open Go.RowKit Go.Proofs.YtgjfegfopjfdpaaGreatDoorW.PrintWords Go.Proofs.YtgjfegfopjfdpaaGreatDoorW.PrintLast Go.Proofs.YtgjfegfopjfdpaaGreatDoorW.PrintMore
attribute [local go_sem] max2_int min2_int max_two min_two max_three min_three max_four min_four
set_option linter.unusedVariables false
set_option linter.unusedSimpArgs false
def laws_szStringS.l0 : Nat → List ByteArray → Int → Int → Option (Int)
 | 0, _, _, _ => none
 | k + 1, x0, x1, x5 => if x5 < (x0.length : Int) then (if 0 ≤ x5 then (if (wrap64 (x1 - ((rdOf ByteArray.empty x0 x5).size : Int))) < 0 then (some (-1)) else (laws_szStringS.l0 k x0 (wrap64 (x1 - ((rdOf ByteArray.empty x0 x5).size : Int))) (wrap64 (x5 + 1)))) else (none)) else (some x1)
def laws_szStringS.f (k : Nat) (l0 : List ByteArray) (a1 : Int) : Option (Int) := if (wrap64 (a1 - (l0.length : Int))) < 0 then (some (-1)) else (laws_szStringS.l0 k l0 (wrap64 (a1 - (l0.length : Int))) 0)
set_option maxHeartbeats 8000000 in
set_option maxRecDepth 100000 in
theorem laws_szStringS.calls (k : Nat) (A0 : Option Addr) (c0 : Nat) (l0 : List ByteArray) (a1 : Int) (r : Int) (w : World) (hr0 : Kd.C Kd.string w A0 l0.length l0) (hc0 : l0.length ≤ c0) (h : laws_szStringS.f k l0 a1 = some r) :
  Calls Tryz.prog 28 #[.slice A0 l0.length c0, .int .i64 a1] w fun e w' => e = .returned (.int .i64 r) ∧ Drawn0 w w' := by
 have HR0 := Aside0.mk hr0;have HC0 := Aside0.mk hc0;clear hr0 hc0;have H : (if (wrap64 (a1 - (l0.length : Int))) < 0 then (some (-1)) else (laws_szStringS.l0 k l0 (wrap64 (a1 - (l0.length : Int))) 0)) = some r := h;clear h;by_cases c3 : (wrap64 (a1 - (l0.length : Int))) < 0
 ·rw [if_pos c3] at H
  have c3b0 : decide ((wrap64 (a1 - (l0.length : Int))) < 0) = true := decide_eq_true c3;clear c3;obtain rfl := Option.some.inj H;go_enter Tryz.func28, Tryz.ntmps28;go_wp2
  go_ret
  exact ⟨zz0, zz1⟩
 ·rw [if_neg c3] at H
  have c3b0 : decide ((wrap64 (a1 - (l0.length : Int))) < 0) = false := decide_eq_false c3;clear c3;have H' := Aside0.mk H;clear H;go_enter Tryz.func28, Tryz.ntmps28;go_wp2
  go_loopg [1, 5] k (fun kq v1 v5 w' => ∃ (x1_1 : Int) (x5_1 : Int), v1 = .int .i64 x1_1 ∧ v5 = .int .i64 x5_1 ∧ Aside0 (laws_szStringS.l0 kq l0 x1_1 x5_1 = some r) ∧ Aside0 (kq ≤ k) ∧ Drawn0 w w')
  case atStart => exact ⟨(wrap64 (a1 - (l0.length : Int))), (0), zz0, zz0, H', ⟨Nat.le_refl _⟩, zz1⟩
  case round =>
   clear H';obtain ⟨x1_1, x5_1, rfl, rfl, HA, HK1, ⟨m1, rfl⟩⟩ := hrel;cases gk with
   | zero => exact absurd HA.out (by simp [laws_szStringS.l0])
   | succ k1 =>
    have H := HA.out;clear HA;simp only [laws_szStringS.l0] at H
    by_cases c4 : x5_1 < (l0.length : Int)
    ·rw [if_pos c4] at H
     have c4b0 : decide (x5_1 < (l0.length : Int)) = true := decide_eq_true c4;clear c4;by_cases c5 : 0 ≤ x5_1
     ·rw [if_pos c5] at H
      have c5b0 : decide (0 ≤ x5_1) = true := decide_eq_true c5;clear c5;by_cases c6 : (wrap64 (x1_1 - ((rdOf ByteArray.empty l0 x5_1).size : Int))) < 0
      ·rw [if_pos c6] at H
       have c6b0 : decide ((wrap64 (x1_1 - ((rdOf ByteArray.empty l0 x5_1).size : Int))) < 0) = true := decide_eq_true c6;clear c6;obtain rfl := Option.some.inj H;have p101 : 0 ≤ (x5_1 : Int) := ofD;have q101 : x5_1 < (l0.length : Int) := ofD;obtain ⟨ad101, e101, hx101_0⟩ := Kd.at_string HR0.out x5_1 p101 q101;cases e101
       replace p101 := eq_true p101;replace q101 := eq_true q101;go_wp2
       go_ret
       exact ⟨zz0, zz1⟩
      ·rw [if_neg c6] at H
       have c6b0 : decide ((wrap64 (x1_1 - ((rdOf ByteArray.empty l0 x5_1).size : Int))) < 0) = false := decide_eq_false c6;clear c6;have H' := Aside0.mk H;clear H;have p101 : 0 ≤ (x5_1 : Int) := ofD;have q101 : x5_1 < (l0.length : Int) := ofD;obtain ⟨ad101, e101, hx101_0⟩ := Kd.at_string HR0.out x5_1 p101 q101;cases e101
       replace p101 := eq_true p101;replace q101 := eq_true q101;go_wp2
       go_roundg k1
       case measure => have := HK1.out; omega
       case rel => exact ⟨(wrap64 (x1_1 - ((rdOf ByteArray.empty l0 x5_1).size : Int))), (wrap64 (x5_1 + 1)), zz0, zz0, H', ⟨(zz3 HK1)⟩, zz1⟩
     ·rw [if_neg c5] at H
      exact absurd H (by simp)
    ·rw [if_neg c4] at H
     have c4b0 : decide (x5_1 < (l0.length : Int)) = false := decide_eq_false c4;clear c4;obtain rfl := Option.some.inj H;go_wp2
     go_ret
     exact ⟨zz0, zz1⟩
def laws_szAddr.f (k : Nat) (a0_0 : ByteArray) (l0_1 : List ByteArray) (a0_2 : Bool) (a0_3 : ByteArray) (a1 : Int) : Option (Int) := if (wrap64 (a1 - (a0_0.size : Int))) < 0 then (some (-1)) else ((laws_szStringS.f k l0_1 (wrap64 (a1 - (a0_0.size : Int)))).bind fun t103 => (if t103 < 0 then (some (-1)) else (if (wrap64 (t103 - (a0_3.size : Int))) < 0 then (some (-1)) else (some (wrap64 (t103 - (a0_3.size : Int)))))))
set_option maxHeartbeats 8000000 in
set_option maxRecDepth 100000 in
theorem laws_szAddr.calls (k : Nat) (a0_0 : ByteArray) (A0_1 : Option Addr) (c0_1 : Nat) (l0_1 : List ByteArray) (a0_2 : Bool) (a0_3 : ByteArray) (a1 : Int) (r : Int) (w : World) (hr0_1 : Kd.C Kd.string w A0_1 l0_1.length l0_1) (hc0_1 : l0_1.length ≤ c0_1) (h : laws_szAddr.f k a0_0 l0_1 a0_2 a0_3 a1 = some r) :
  Calls Tryz.prog 7 #[.agg #[.string a0_0, .slice A0_1 l0_1.length c0_1, .bool a0_2, .string a0_3], .int .i64 a1] w fun e w' => e = .returned (.int .i64 r) ∧ Below w.heap.size w w' := by
 have hu24 := Tryz.underlying24;have HR0_1 := Aside0.mk hr0_1;have HC0_1 := Aside0.mk hc0_1;clear hr0_1 hc0_1;have HB := Aside0.mk (Below.refl w.heap.size w);have H : (if (wrap64 (a1 - (a0_0.size : Int))) < 0 then (some (-1)) else ((laws_szStringS.f k l0_1 (wrap64 (a1 - (a0_0.size : Int)))).bind fun t103 => (if t103 < 0 then (some (-1)) else (if (wrap64 (t103 - (a0_3.size : Int))) < 0 then (some (-1)) else (some (wrap64 (t103 - (a0_3.size : Int)))))))) = some r := h;clear h;by_cases c3 : (wrap64 (a1 - (a0_0.size : Int))) < 0
 ·rw [if_pos c3] at H
  have c3b0 : decide ((wrap64 (a1 - (a0_0.size : Int))) < 0) = true := decide_eq_true c3;clear c3;obtain rfl := Option.some.inj H;go_enter Tryz.func7, Tryz.ntmps7;go_wp2_with (first | ((with_reducible refine gate_dst (N := 2) rfl ?_); refine boxE 2 #[.string a0_0, .slice A0_1 l0_1.length c0_1, .bool a0_2, .string a0_3] 24 ?_; intro gb102 hg w4 hbox hb; have n0_ := Aside0.mk (below_step (zz4 HB) hb); have n1_ := Aside0.mk (hbox); have n2_ := Aside0.mk ((by rw [hg]; exact (below_size (zz4 HB)) : w.heap.size ≤ gb102)); have n3_ := Aside0.mk ((by rw [hg]; exact (below_size (zz4 HB)) : w.heap.size ≤ gb102)); clear HB; have HB := n0_; have BK102 := n1_; have GW102 := n2_; have GE102 := n3_; clear n0_ n1_ n2_ n3_; clear hb hbox hg; obtain ⟨_, _, _, _, _, _, _, _⟩ := cf4 BK102))
  go_ret
  exact ⟨zz5, (zz6 HB GE102)⟩
 ·rw [if_neg c3] at H
  have c3b0 : decide ((wrap64 (a1 - (a0_0.size : Int))) < 0) = false := decide_eq_false c3;clear c3;replace H := bindA H;obtain ⟨t103, A6, H⟩ := H;by_cases c7 : t103 < 0
  ·rw [if_pos c7] at H
   have c7b0 : decide (t103 < 0) = true := decide_eq_true c7;clear c7;obtain rfl := Option.some.inj H;go_enter Tryz.func7, Tryz.ntmps7;go_wp2_with (first | ((with_reducible refine gate_dst (N := 2) rfl ?_); refine boxE 2 #[.string a0_0, .slice A0_1 l0_1.length c0_1, .bool a0_2, .string a0_3] 24 ?_; intro gb102 hg w8 hbox hb; have n0_ := Aside0.mk (below_step (zz4 HB) hb); have n1_ := Aside0.mk (hbox); have n2_ := Aside0.mk ((by rw [hg]; exact (below_size (zz4 HB)) : w.heap.size ≤ gb102)); have n3_ := Aside0.mk ((by rw [hg]; exact (below_size (zz4 HB)) : w.heap.size ≤ gb102)); clear HB; have HB := n0_; have BK102 := n1_; have GW102 := n2_; have GE102 := n3_; clear n0_ n1_ n2_ n3_; clear hb hbox hg; obtain ⟨_, _, _, _, _, _, _, _⟩ := cf4 BK102) | ((with_reducible refine gate_callee (f := 28) rfl ?_); refine gsL (some 15) Tryz.func28 #[.slice A0_1 l0_1.length c0_1, .int .i64 (wrap64 (a1 - (a0_0.size : Int)))] ?_; (with_reducible refine (laws_szStringS.calls k _ _ l0_1 (wrap64 (a1 - (a0_0.size : Int))) t103 _ ?side1 ?side2 A6.out).mono ?_); (case side1 => exact (zz7 HR0_1 HB)); (case side2 => exact HC0_1.out); rintro e w' ⟨rfl, ⟨nd, rfl⟩⟩; refine ⟨_, rfl, ?_⟩))
   go_ret
   exact ⟨zz5, (zz6 HB GE102)⟩
  ·rw [if_neg c7] at H
   have c7b0 : decide (t103 < 0) = false := decide_eq_false c7;clear c7;by_cases c10 : (wrap64 (t103 - (a0_3.size : Int))) < 0
   ·rw [if_pos c10] at H
    have c10b0 : decide ((wrap64 (t103 - (a0_3.size : Int))) < 0) = true := decide_eq_true c10;clear c10;obtain rfl := Option.some.inj H;go_enter Tryz.func7, Tryz.ntmps7;go_wp2_with (first | ((with_reducible refine gate_dst (N := 2) rfl ?_); refine boxE 2 #[.string a0_0, .slice A0_1 l0_1.length c0_1, .bool a0_2, .string a0_3] 24 ?_; intro gb102 hg w11 hbox hb; have n0_ := Aside0.mk (below_step (zz4 HB) hb); have n1_ := Aside0.mk (hbox); have n2_ := Aside0.mk ((by rw [hg]; exact (below_size (zz4 HB)) : w.heap.size ≤ gb102)); have n3_ := Aside0.mk ((by rw [hg]; exact (below_size (zz4 HB)) : w.heap.size ≤ gb102)); clear HB; have HB := n0_; have BK102 := n1_; have GW102 := n2_; have GE102 := n3_; clear n0_ n1_ n2_ n3_; clear hb hbox hg; obtain ⟨_, _, _, _, _, _, _, _⟩ := cf4 BK102) | ((with_reducible refine gate_callee (f := 28) rfl ?_); refine gsL (some 15) Tryz.func28 #[.slice A0_1 l0_1.length c0_1, .int .i64 (wrap64 (a1 - (a0_0.size : Int)))] ?_; (with_reducible refine (laws_szStringS.calls k _ _ l0_1 (wrap64 (a1 - (a0_0.size : Int))) t103 _ ?side1 ?side2 A6.out).mono ?_); (case side1 => exact (zz7 HR0_1 HB)); (case side2 => exact HC0_1.out); rintro e w' ⟨rfl, ⟨nd, rfl⟩⟩; refine ⟨_, rfl, ?_⟩))
    go_ret
    exact ⟨zz5, (zz6 HB GE102)⟩
   ·rw [if_neg c10] at H
    have c10b0 : decide ((wrap64 (t103 - (a0_3.size : Int))) < 0) = false := decide_eq_false c10;clear c10;obtain rfl := Option.some.inj H;go_enter Tryz.func7, Tryz.ntmps7;go_wp2_with (first | ((with_reducible refine gate_dst (N := 2) rfl ?_); refine boxE 2 #[.string a0_0, .slice A0_1 l0_1.length c0_1, .bool a0_2, .string a0_3] 24 ?_; intro gb102 hg w13 hbox hb; have n0_ := Aside0.mk (below_step (zz4 HB) hb); have n1_ := Aside0.mk (hbox); have n2_ := Aside0.mk ((by rw [hg]; exact (below_size (zz4 HB)) : w.heap.size ≤ gb102)); have n3_ := Aside0.mk ((by rw [hg]; exact (below_size (zz4 HB)) : w.heap.size ≤ gb102)); clear HB; have HB := n0_; have BK102 := n1_; have GW102 := n2_; have GE102 := n3_; clear n0_ n1_ n2_ n3_; clear hb hbox hg; obtain ⟨_, _, _, _, _, _, _, _⟩ := cf4 BK102) | ((with_reducible refine gate_callee (f := 28) rfl ?_); refine gsL (some 15) Tryz.func28 #[.slice A0_1 l0_1.length c0_1, .int .i64 (wrap64 (a1 - (a0_0.size : Int)))] ?_; (with_reducible refine (laws_szStringS.calls k _ _ l0_1 (wrap64 (a1 - (a0_0.size : Int))) t103 _ ?side1 ?side2 A6.out).mono ?_); (case side1 => exact (zz7 HR0_1 HB)); (case side2 => exact HC0_1.out); rintro e w' ⟨rfl, ⟨nd, rfl⟩⟩; refine ⟨_, rfl, ?_⟩))
    go_ret
    exact ⟨zz5, (zz6 HB GE102)⟩
mutual
def spec_l3Marks.l0 : Nat → ByteArray → List ByteArray → Bool → Int → Int → Option (List ByteArray)
 | 0, _, _, _, _, _ => none
 | k + 1, x0, x3, x4, x5, x6 => if x6 < (x0.size : Int) then (spec_l3Marks.j1 k x0 x3 x4 x5 x6 (decide ((x0.size : Int) ≤ 300))) else (spec_l3Marks.j1 k x0 x3 x4 x5 x6 false)
def spec_l3Marks.j1 : Nat → ByteArray → List ByteArray → Bool → Int → Int → Bool → Option (List ByteArray)
 | 0, _, _, _, _, _, _ => none
 | k + 1, x0, x3, x4, x5, x6, x16 => if x16 = true then (if x5 ≥ 0 then (if 0 ≤ x6 then (if x6 < (x0.size : Int) then (spec_l3Marks.j2 k x0 x3 x4 x5 x6 ((bt x0 x6) == 62)) else (none)) else (none)) else (spec_l3Marks.j2 k x0 x3 x4 x5 x6 false)) else (some x3)
def spec_l3Marks.j2 : Nat → ByteArray → List ByteArray → Bool → Int → Int → Bool → Option (List ByteArray)
 | 0, _, _, _, _, _, _ => none
 | k + 1, x0, x3, x4, x5, x6, x19 => if x19 = true then (if 0 ≤ x5 then (if x5 ≤ x6 then (if x6 ≤ (x0.size : Int) then (if x3.length < 8796093022208 then (spec_l3Marks.l0 k x0 (x3 ++ [x0.extract (x5 : Int).toNat (x6 : Int).toNat]) x4 (-1) (wrap64 (x6 + 1))) else (none)) else (none)) else (none)) else (none)) else (if x5 ≥ 0 then (spec_l3Marks.l0 k x0 x3 x4 x5 (wrap64 (x6 + 1))) else (if x4 = true then (if 0 ≤ x6 then (if x6 < (x0.size : Int) then (spec_l3Marks.l0 k x0 x3 ((bt x0 x6) != 41) x5 (wrap64 (x6 + 1))) else (none)) else (none)) else (if 0 ≤ x6 then (if x6 < (x0.size : Int) then (if (bt x0 x6) = 40 then (spec_l3Marks.l0 k x0 x3 true x5 (wrap64 (x6 + 1))) else (if (bt x0 x6) = 60 then (spec_l3Marks.l0 k x0 x3 x4 (wrap64 (x6 + 1)) (wrap64 (x6 + 1))) else (spec_l3Marks.l0 k x0 x3 x4 x5 (wrap64 (x6 + 1))))) else (none)) else (none))))
end
def spec_l3Marks.f (k : Nat) (a0 : ByteArray) : Option (List ByteArray) := spec_l3Marks.l0 k a0 (([] : List ByteArray)) false (-1) 0
theorem spec_l3Marks.mono_l : ∀ k, (∀ y0 y1 y2 y3 y4, LeO (spec_l3Marks.l0 k y0 y1 y2 y3 y4) (spec_l3Marks.l0 (k + 1) y0 y1 y2 y3 y4)) ∧ (∀ y0 y1 y2 y3 y4 y5, LeO (spec_l3Marks.j1 k y0 y1 y2 y3 y4 y5) (spec_l3Marks.j1 (k + 1) y0 y1 y2 y3 y4 y5)) ∧ (∀ y0 y1 y2 y3 y4 y5, LeO (spec_l3Marks.j2 k y0 y1 y2 y3 y4 y5) (spec_l3Marks.j2 (k + 1) y0 y1 y2 y3 y4 y5))
 | 0 => ⟨fun _ _ _ _ _ r h => by simp [spec_l3Marks.l0] at h, fun _ _ _ _ _ _ r h => by simp [spec_l3Marks.j1] at h, fun _ _ _ _ _ _ r h => by simp [spec_l3Marks.j2] at h⟩
 | k + 1 => by
  obtain ⟨ih0, ih1, ih2⟩ := spec_l3Marks.mono_l k;refine ⟨?_, ?_, ?_⟩
  ·intro y0 y1 y2 y3 y4
   unfold spec_l3Marks.l0
   repeat' first | (with_reducible first | exact ih0 _ _ _ _ _ | exact ih1 _ _ _ _ _ _ | exact ih2 _ _ _ _ _ _ | exact LeO.refl _ | exact LeO.none _ | refine LeO.ite ?_ ?_ | refine LeO.bind ?_ (fun _ => ?_)) | exact LeO.none _ | refine LeO.ite ?_ ?_ | refine LeO.bind ?_ (fun _ => ?_)
  ·intro y0 y1 y2 y3 y4 y5
   unfold spec_l3Marks.j1
   repeat' first | (with_reducible first | exact ih0 _ _ _ _ _ | exact ih1 _ _ _ _ _ _ | exact ih2 _ _ _ _ _ _ | exact LeO.refl _ | exact LeO.none _ | refine LeO.ite ?_ ?_ | refine LeO.bind ?_ (fun _ => ?_)) | exact LeO.none _ | refine LeO.ite ?_ ?_ | refine LeO.bind ?_ (fun _ => ?_)
  ·intro y0 y1 y2 y3 y4 y5
   unfold spec_l3Marks.j2
   repeat' first | (with_reducible first | exact ih0 _ _ _ _ _ | exact ih1 _ _ _ _ _ _ | exact ih2 _ _ _ _ _ _ | exact LeO.refl _ | exact LeO.none _ | refine LeO.ite ?_ ?_ | refine LeO.bind ?_ (fun _ => ?_)) | exact LeO.none _ | refine LeO.ite ?_ ?_ | refine LeO.bind ?_ (fun _ => ?_)
theorem spec_l3Marks.mono : ∀ a0 k, LeO (spec_l3Marks.f k a0) (spec_l3Marks.f (k + 1) a0) := by
 intro a0 k;obtain ⟨ih0, ih1, ih2⟩ := spec_l3Marks.mono_l k;unfold spec_l3Marks.f
 repeat' first | (with_reducible first | exact ih0 _ _ _ _ _ | exact ih1 _ _ _ _ _ _ | exact ih2 _ _ _ _ _ _ | exact LeO.refl _ | exact LeO.none _ | refine LeO.ite ?_ ?_ | refine LeO.bind ?_ (fun _ => ?_)) | exact LeO.none _ | refine LeO.ite ?_ ?_ | refine LeO.bind ?_ (fun _ => ?_)
set_option maxHeartbeats 8000000 in
set_option maxRecDepth 100000 in
theorem spec_l3Marks.calls (k : Nat) (a0 : ByteArray) (r : List ByteArray) (w : World) (h : spec_l3Marks.f k a0 = some r) :
  Calls Tryz.prog 40 #[.string a0] w fun e w' => ∃ v0_ : Value, e = .returned (v0_) ∧ Kd.R Kd.string 9 w' w.heap.size (fun _ => True) v0_ r ∧ Below w.heap.size w w' := by
 have HB := Aside0.mk (Below.refl w.heap.size w);have H : (spec_l3Marks.l0 k a0 (([] : List ByteArray)) false (-1) 0) = some r := h;clear h;obtain ⟨y104, Ny104⟩ := toY (([] : List ByteArray));(first | with_reducible replace H := bindZ Ny104 H | rw [← Ny104.out] at H | skip)
 have H' := Aside0.mk H;clear H;go_enter Tryz.func40, Tryz.ntmps40;go_wp2_with (first | ((with_reducible refine gate_dst (N := 7) rfl ?_); (try (refine gate_guard (by rfl) ?_; dsimp only)); refine Kd.R_lit Kd.string _ 9 ?hg (N := 7) ?hd (xs := ([] : List ByteArray)) (inner := []) (ok := fun _ => True) (okp := fun _ => True) ?hr ?hp (fun _ hk => hk) trivial (Below.refl _ _) (Nat.le_refl _) (by simp) ?_; (case hd => rfl); (case hg => rfl); (case hr => exact zz8); (case hp => exact (Reps.none _ _)); intro v105 w2 ho3 hb hg_ hnew_; clear hg_ hnew_; (first | rw [← Ny104.out] at ho3 | (simp only [Int.reduceToNat] at ho3; rw [← Ny104.out] at ho3)); have n0_ := Aside0.mk (Kd.R_lower ho3 (below_size (zz4 HB))); have n1_ := Aside0.mk (below_step (zz4 HB) hb); clear HB; have HO106 := n0_; have HB := n1_; clear n0_ n1_; clear hb ho3))
 go_loopg [3, 4, 5, 6] k (fun kq v3 v4 v5 v6 w' => ∃ (x3_1 : List ByteArray) (x4_1 : Bool) (x5_1 : Int) (x6_1 : Int), v4 = .bool x4_1 ∧ v5 = .int .i64 x5_1 ∧ v6 = .int .i64 x6_1 ∧ Aside0 (spec_l3Marks.l0 kq a0 x3_1 x4_1 x5_1 x6_1 = some r) ∧ Aside0 (kq ≤ k) ∧ Aside0 (Kd.R Kd.string 9 w' w.heap.size (fun _ => True) v3 x3_1) ∧ Aside0 (Below w.heap.size w w'))
 case atStart => exact ⟨(y104), (false), ((-1)), (0), zz0, zz0, zz0, H', ⟨Nat.le_refl _⟩, ⟨(zz9 HO106)⟩, ⟨(zz4 HB)⟩⟩
 case round =>
  clear H';obtain ⟨x3_1, x4_1, x5_1, x6_1, rfl, rfl, rfl, HA, HK1, HO_3, HB⟩ := hrel;cases gk with
  | zero => exact absurd HA.out (by simp [spec_l3Marks.l0])
  | succ k1 =>
   have H := HA.out;clear HA;simp only [spec_l3Marks.l0] at H
   have HC4 := Aside0.mk H;clear H;go_upto_region 5 with (fail)
   go_cut [16] (fun v16 wc => ∃ (kq : Nat) (x16_3 : Bool), v16 = .bool x16_3 ∧ Aside0 (spec_l3Marks.j1 kq a0 x3_1 x4_1 x5_1 x6_1 x16_3 = some r) ∧ Aside0 (kq ≤ k1) ∧ Aside0 (Kd.R Kd.string 9 wc w.heap.size (fun _ => True) u3 x3_1) ∧ Aside0 (Below w.heap.size w wc))
   case first =>
    have H := HC4.out;clear HC4;by_cases c5 : x6_1 < (a0.size : Int)
    ·rw [if_pos c5] at H
     have c5b0 : decide (x6_1 < (a0.size : Int)) = true := decide_eq_true c5;clear c5;(first | rw [c5b0] | (simp only [i64_w, i32_w]; rw [c5b0]) | skip)
     have H' := Aside0.mk H;clear H;go_wp2
     go_meet
     case rel => exact ⟨_, (decide ((a0.size : Int) ≤ 300)), zz0, H', ⟨(zz11 HK1)⟩, ⟨(zz9 HO_3)⟩, ⟨(zz4 HB)⟩⟩
    ·rw [if_neg c5] at H
     have c5b0 : decide (x6_1 < (a0.size : Int)) = false := decide_eq_false c5;clear c5;(first | rw [c5b0] | (simp only [i64_w, i32_w]; rw [c5b0]) | skip)
     have H' := Aside0.mk H;clear H;go_wp2
     go_meet
     case rel => exact ⟨_, (false), zz0, H', ⟨(zz11 HK1)⟩, ⟨(zz9 HO_3)⟩, ⟨(zz4 HB)⟩⟩
   case rest =>
    clear HC4;obtain ⟨kq, x16_3, rfl, HA, HJ3, HO_3, HB⟩ := hcut;cases kq with
    | zero => exact absurd HA.out (by simp [spec_l3Marks.j1])
    | succ kj3 =>
     have H := HA.out;clear HA;simp only [spec_l3Marks.j1] at H
     by_cases c6 : x16_3 = true
     ·subst c6
      rw [if_pos rfl] at H;have HC7 := Aside0.mk H;clear H;go_upto_region 7 with (fail)
      go_cut [19] (fun v19 wc => ∃ (kq : Nat) (x19_6 : Bool), v19 = .bool x19_6 ∧ Aside0 (spec_l3Marks.j2 kq a0 x3_1 x4_1 x5_1 x6_1 x19_6 = some r) ∧ Aside0 (kq ≤ kj3) ∧ Aside0 (Kd.R Kd.string 9 wc w.heap.size (fun _ => True) u3 x3_1) ∧ Aside0 (Below w.heap.size w wc))
      case first =>
       have H := HC7.out;clear HC7;by_cases c8 : x5_1 ≥ 0
       ·rw [if_pos c8] at H
        have c8b0 : decide (0 ≤ x5_1) = true := decide_eq_true c8;clear c8;(first | rw [c8b0] | (simp only [i64_w, i32_w]; rw [c8b0]) | skip)
        by_cases c9 : 0 ≤ x6_1
        ·rw [if_pos c9] at H
         have c9b0 : decide (0 ≤ x6_1) = true := decide_eq_true c9;clear c9;by_cases c10 : x6_1 < (a0.size : Int)
         ·rw [if_pos c10] at H
          have c10b0 : decide (x6_1 < (a0.size : Int)) = true := decide_eq_true c10;clear c10;have H' := Aside0.mk H;clear H;have p11 : 0 ≤ (x6_1 : Int) := ofD;have q11 : x6_1 < (a0.size : Int) := ofD;have hx11 := bt_at a0 x6_1;replace p11 := eq_true p11;replace q11 := eq_true q11;go_wp2
          go_meet
          case rel => exact ⟨_, (((bt a0 x6_1) == 62)), zz0, H', ⟨(by have := HK1.out; have := HJ3.out; first | omega | exact Nat.le_refl _)⟩, ⟨(zz9 HO_3)⟩, ⟨(zz4 HB)⟩⟩
         ·rw [if_neg c10] at H
          exact absurd H (by simp)
        ·rw [if_neg c9] at H
         exact absurd H (by simp)
       ·rw [if_neg c8] at H
        have c8b0 : decide (0 ≤ x5_1) = false := decide_eq_false c8;clear c8;(first | rw [c8b0] | (simp only [i64_w, i32_w]; rw [c8b0]) | skip)
        have H' := Aside0.mk H;clear H;go_wp2
        go_meet
        case rel => exact ⟨_, (false), zz0, H', ⟨(by have := HK1.out; have := HJ3.out; first | omega | exact Nat.le_refl _)⟩, ⟨(zz9 HO_3)⟩, ⟨(zz4 HB)⟩⟩
      case rest =>
       clear HC7;obtain ⟨kq, x19_6, rfl, HA, HJ6, HO_3, HB⟩ := hcut;cases kq with
       | zero => exact absurd HA.out (by simp [spec_l3Marks.j2])
       | succ kj6 =>
        have H := HA.out;clear HA;simp only [spec_l3Marks.j2] at H
        by_cases c12 : x19_6 = true
        ·subst c12
         rw [if_pos rfl] at H;by_cases c13 : 0 ≤ x5_1
         ·rw [if_pos c13] at H
          have c13b0 := eq_true c13;have c13b1 : decide (0 ≤ x5_1) = true := decide_eq_true c13;clear c13;by_cases c14 : x5_1 ≤ x6_1
          ·rw [if_pos c14] at H
           have c14b0 := eq_true c14;have c14b1 : decide (x5_1 ≤ x6_1) = true := decide_eq_true c14;clear c14;by_cases c15 : x6_1 ≤ (a0.size : Int)
           ·rw [if_pos c15] at H
            have c15b0 := eq_true c15;have c15b1 : decide (x6_1 ≤ (a0.size : Int)) = true := decide_eq_true c15;clear c15;by_cases c16 : x3_1.length < 8796093022208
            ·rw [if_pos c16] at H
             have LMc16 := Aside0.mk c16;clear c16;obtain ⟨y107, Ny107⟩ := toY (x3_1 ++ [a0.extract (x5_1 : Int).toNat (x6_1 : Int).toNat]);(first | with_reducible replace H := bindZ Ny107 H | rw [← Ny107.out] at H | skip)
             have H' := Aside0.mk H;clear H;go_wp2_with (first | ((with_reducible refine gate_builtin (b := .append) (xs := #[.tmp 28, .tmp 33]) rfl ?_); (try (refine gate_guard (by rfl) ?_; dsimp only)); at_builtin; refine Kd.R_append Kd.string (w0 := w) w.heap.size rfl (.tmp 28) (.tmp 33) 22 9 (.string ⟨#[]⟩) 16 rfl Tryz.underlying22 info9 rfl (by decide) (by omega) u3 x3_1 (a0.extract (x5_1 : Int).toNat (x6_1 : Int).toNat) [.string (a0.extract (x5_1 : Int).toNat (x6_1 : Int).toNat)] (fun _ => True) (fun _ => False) rfl rfl ?aP (fun _ hk => hk.elim) ?aF ?aO ?aB ?aS ?aL ?_; (case aP => exact rfl); (case aB => exact (zz4 HB)); (case aF => exact (fun _ _ => trivial)); (case aO => exact (zz9 HO_3)); (case aS => exact (below_size (zz4 HB))); (case aL => exact (zz3 LMc16)); intro v108 w17 ho hb hg hat; rw [← Ny107.out] at ho; have n0_ := Aside0.mk (hb); have n1_ := Aside0.mk (ho); clear HB; clear HO_3; have HB := n0_; have HO109 := n1_; clear n0_ n1_; clear ho hb hg hat))
             go_roundg kj6
             case measure => have := HK1.out; have := HJ3.out; have := HJ6.out; omega
             case rel => exact ⟨(y107), (x4_1), ((-1)), (wrap64 (x6_1 + 1)), zz0, zz0, zz0, H', ⟨(by have := HK1.out; have := HJ3.out; have := HJ6.out; omega)⟩, ⟨(zz9 HO109)⟩, ⟨(zz4 HB)⟩⟩
            ·rw [if_neg c16] at H
             exact absurd H (by simp)
           ·rw [if_neg c15] at H
            exact absurd H (by simp)
          ·rw [if_neg c14] at H
           exact absurd H (by simp)
         ·rw [if_neg c13] at H
          exact absurd H (by simp)
        ·replace c12 := Bool.eq_false_iff.mpr c12
         subst c12;rw [if_neg (show ¬ (false = true) by decide)] at H;by_cases c18 : x5_1 ≥ 0
         ·rw [if_pos c18] at H
          have c18b0 : decide (0 ≤ x5_1) = true := decide_eq_true c18;clear c18;have H' := Aside0.mk H;clear H;go_wp2
          go_roundg kj6
          case measure => have := HK1.out; have := HJ3.out; have := HJ6.out; omega
          case rel => exact ⟨(x3_1), (x4_1), (x5_1), (wrap64 (x6_1 + 1)), zz0, zz0, zz0, H', ⟨(by have := HK1.out; have := HJ3.out; have := HJ6.out; omega)⟩, ⟨(zz9 HO_3)⟩, ⟨(zz4 HB)⟩⟩
         ·rw [if_neg c18] at H
          have c18b0 : decide (0 ≤ x5_1) = false := decide_eq_false c18;clear c18;by_cases c19 : x4_1 = true
          ·subst c19
           rw [if_pos rfl] at H;by_cases c20 : 0 ≤ x6_1
           ·rw [if_pos c20] at H
            have c20b0 : decide (0 ≤ x6_1) = true := decide_eq_true c20;clear c20;by_cases c21 : x6_1 < (a0.size : Int)
            ·rw [if_pos c21] at H
             have c21b0 : decide (x6_1 < (a0.size : Int)) = true := decide_eq_true c21;clear c21;have H' := Aside0.mk H;clear H;have p22 : 0 ≤ (x6_1 : Int) := ofD;have q22 : x6_1 < (a0.size : Int) := ofD;have hx22 := bt_at a0 x6_1;replace p22 := eq_true p22;replace q22 := eq_true q22;go_wp2
             go_roundg kj6
             case measure => have := HK1.out; have := HJ3.out; have := HJ6.out; omega
             case rel => exact ⟨(x3_1), (((bt a0 x6_1) != 41)), (x5_1), (wrap64 (x6_1 + 1)), zz0, zz0, zz0, H', ⟨(by have := HK1.out; have := HJ3.out; have := HJ6.out; omega)⟩, ⟨(zz9 HO_3)⟩, ⟨(zz4 HB)⟩⟩
            ·rw [if_neg c21] at H
             exact absurd H (by simp)
           ·rw [if_neg c20] at H
            exact absurd H (by simp)
          ·replace c19 := Bool.eq_false_iff.mpr c19
           subst c19;rw [if_neg (show ¬ (false = true) by decide)] at H;by_cases c23 : 0 ≤ x6_1
           ·rw [if_pos c23] at H
            have c23b0 : decide (0 ≤ x6_1) = true := decide_eq_true c23;clear c23;by_cases c24 : x6_1 < (a0.size : Int)
            ·rw [if_pos c24] at H
             have c24b0 : decide (x6_1 < (a0.size : Int)) = true := decide_eq_true c24;clear c24;by_cases c26 : (bt a0 x6_1) = 40
             ·rw [if_pos c26] at H
              have c26b0 : ((bt a0 x6_1) == 40) = true := beq_iff_eq.mpr c26;have c26b1 : ((bt a0 x6_1) != 40) = false := bne_eq_false_iff_eq.mpr c26;clear c26;have H' := Aside0.mk H;clear H;have p25 : 0 ≤ (x6_1 : Int) := ofD;have q25 : x6_1 < (a0.size : Int) := ofD;have hx25 := bt_at a0 x6_1;replace p25 := eq_true p25;replace q25 := eq_true q25;go_wp2
              go_roundg kj6
              case measure => have := HK1.out; have := HJ3.out; have := HJ6.out; omega
              case rel => exact ⟨(x3_1), (true), (x5_1), (wrap64 (x6_1 + 1)), zz0, zz0, zz0, H', ⟨(by have := HK1.out; have := HJ3.out; have := HJ6.out; omega)⟩, ⟨(zz9 HO_3)⟩, ⟨(zz4 HB)⟩⟩
             ·rw [if_neg c26] at H
              have c26b0 : ((bt a0 x6_1) == 40) = false := beq_eq_false_iff_ne.mpr c26;have c26b1 : ((bt a0 x6_1) != 40) = true := bne_iff_ne.mpr c26;by_cases c28 : (bt a0 x6_1) = 60
              ·rw [if_pos c28] at H
               have c28b0 : ((bt a0 x6_1) == 60) = true := beq_iff_eq.mpr c28;have c28b1 : ((bt a0 x6_1) != 60) = false := bne_eq_false_iff_eq.mpr c28;clear c28;have H' := Aside0.mk H;clear H;have p25 : 0 ≤ (x6_1 : Int) := ofD;have q25 : x6_1 < (a0.size : Int) := ofD;have hx25 := bt_at a0 x6_1;replace p25 := eq_true p25;replace q25 := eq_true q25;have p27 : 0 ≤ (x6_1 : Int) := ofD;have q27 : x6_1 < (a0.size : Int) := ofD;have hx27 := bt_at a0 x6_1;replace p27 := eq_true p27;replace q27 := eq_true q27;go_wp2
               go_roundg kj6
               case measure => have := HK1.out; have := HJ3.out; have := HJ6.out; omega
               case rel => exact ⟨(x3_1), (false), (wrap64 (x6_1 + 1)), (wrap64 (x6_1 + 1)), zz0, zz0, zz0, H', ⟨(by have := HK1.out; have := HJ3.out; have := HJ6.out; omega)⟩, ⟨(zz9 HO_3)⟩, ⟨(zz4 HB)⟩⟩
              ·rw [if_neg c28] at H
               have c28b0 : ((bt a0 x6_1) == 60) = false := beq_eq_false_iff_ne.mpr c28;have c28b1 : ((bt a0 x6_1) != 60) = true := bne_iff_ne.mpr c28;have H' := Aside0.mk H;clear H;have p25 : 0 ≤ (x6_1 : Int) := ofD;have q25 : x6_1 < (a0.size : Int) := ofD;have hx25 := bt_at a0 x6_1;replace p25 := eq_true p25;replace q25 := eq_true q25;have p27 : 0 ≤ (x6_1 : Int) := ofD;have q27 : x6_1 < (a0.size : Int) := ofD;have hx27 := bt_at a0 x6_1;replace p27 := eq_true p27;replace q27 := eq_true q27;go_wp2
               go_roundg kj6
               case measure => have := HK1.out; have := HJ3.out; have := HJ6.out; omega
               case rel => exact ⟨(x3_1), (false), (x5_1), (wrap64 (x6_1 + 1)), zz0, zz0, zz0, H', ⟨(by have := HK1.out; have := HJ3.out; have := HJ6.out; omega)⟩, ⟨(zz9 HO_3)⟩, ⟨(zz4 HB)⟩⟩
            ·rw [if_neg c24] at H
             exact absurd H (by simp)
           ·rw [if_neg c23] at H
            exact absurd H (by simp)
     ·replace c6 := Bool.eq_false_iff.mpr c6
      subst c6;rw [if_neg (show ¬ (false = true) by decide)] at H;obtain rfl := Option.some.inj H;go_wp2
      go_ret
      exact ⟨_, zz5, (zz9 HO_3), (zz4 HB)⟩
def spec_l3Head.f (a0 : ByteArray) : Option (Int) := if a0.toList = ([] : List UInt8) then (some 0) else (if 0 < (a0.size : Int) then (some (bt a0 0)) else (none))
set_option maxHeartbeats 8000000 in
set_option maxRecDepth 100000 in
theorem spec_l3Head.calls (a0 : ByteArray) (r : Int) (w : World) (h : spec_l3Head.f a0 = some r) :
  Calls Tryz.prog 41 #[.string a0] w fun e w' => e = .returned (.int .u8 r) ∧ Drawn0 w w' := by
 have H : (if a0.toList = ([] : List UInt8) then (some 0) else (if 0 < (a0.size : Int) then (some (bt a0 0)) else (none))) = some r := h;clear h;by_cases c2 : a0.toList = ([] : List UInt8)
 ·rw [if_pos c2] at H
  have c2b0 : (a0.toList == ([] : List UInt8)) = true := beq_iff_eq.mpr c2;have c2b1 : (a0.toList != ([] : List UInt8)) = false := bne_eq_false_iff_eq.mpr c2;clear c2;obtain rfl := Option.some.inj H;go_enter Tryz.func41, Tryz.ntmps41;go_wp2
  go_ret
  exact ⟨zz0, zz1⟩
 ·rw [if_neg c2] at H
  have c2b0 : (a0.toList == ([] : List UInt8)) = false := beq_eq_false_iff_ne.mpr c2;have c2b1 : (a0.toList != ([] : List UInt8)) = true := bne_iff_ne.mpr c2;by_cases c3 : 0 < (a0.size : Int)
  ·rw [if_pos c3] at H
   have c3b0 : decide (0 < (a0.size : Int)) = true := decide_eq_true c3;have c3b1 : decide (0 < a0.size) = true := decide_eq_true (by omega);clear c3;obtain rfl := Option.some.inj H;have p4 : 0 ≤ (0 : Int) := (by omega);have q4 : 0 < a0.size := (by have : (0 : Int) < (a0.size : Int) := ofD; omega);have hx4 : ∀ h : 0 < a0.size, ((a0[0]'h).toNat : Int) = bt a0 0 := bt_at a0 0;clear p4;have qi4 : (0 < (a0.size : Int)) = True := eq_true ofD;replace q4 := eq_true q4;go_enter Tryz.func41, Tryz.ntmps41;go_wp2
   go_ret
   exact ⟨zz0, zz1⟩
  ·rw [if_neg c3] at H
   exact absurd H (by simp)
def spec_PageBase.l0 : Nat → List ByteArray → Int → Option (ByteArray × Bool)
 | 0, _, _ => none
 | k + 1, x4, x5 => if x5 < (x4.length : Int) then (if 0 ≤ x5 then ((spec_l3Head.f (rdOf ByteArray.empty x4 x5)).bind fun t114 => (if t114 = 64 then (if 1 ≤ ((rdOf ByteArray.empty x4 x5).size : Int) then (some ((rdOf ByteArray.empty x4 x5).extract 1 (rdOf ByteArray.empty x4 x5).size, true)) else (none)) else (spec_PageBase.l0 k x4 (wrap64 (x5 + 1))))) else (none)) else (some ((⟨#[]⟩ : ByteArray), false))
def spec_PageBase.f (k : Nat) (a0 : ByteArray) : Option (ByteArray × Bool) := (spec_l3Marks.f k a0).bind fun t110 => (spec_PageBase.l0 k t110 0)
theorem spec_PageBase.mono_l : ∀ k, (∀ y0 y1, LeO (spec_PageBase.l0 k y0 y1) (spec_PageBase.l0 (k + 1) y0 y1))
 | 0 => fun _ _ r h => by simp [spec_PageBase.l0] at h
 | k + 1 => by
  have ih0 := spec_PageBase.mono_l k
  ·intro y0 y1
   unfold spec_PageBase.l0
   repeat' first | (with_reducible first | exact ih0 _ _ | exact spec_l3Marks.mono _ _ | exact LeO.refl _ | exact LeO.none _ | refine LeO.ite ?_ ?_ | refine LeO.bind ?_ (fun _ => ?_)) | exact LeO.none _ | refine LeO.ite ?_ ?_ | refine LeO.bind ?_ (fun _ => ?_)
set_option maxHeartbeats 8000000 in
set_option maxRecDepth 100000 in
theorem spec_PageBase.calls (k : Nat) (a0 : ByteArray) (r1 : ByteArray) (r2 : Bool) (w : World) (h : spec_PageBase.f k a0 = some (r1, r2)) :
  Calls Tryz.prog 18 #[.string a0] w fun e w' => e = .returned (.tuple #[.string r1, .bool r2]) ∧ Below w.heap.size w w' := by
 have HB := Aside0.mk (Below.refl w.heap.size w);have H : ((spec_l3Marks.f k a0).bind fun t110 => (spec_PageBase.l0 k t110 0)) = some (r1, r2) := h;clear h;replace H := bindA H;obtain ⟨t110, A2, H⟩ := H;have H' := Aside0.mk H;clear H;go_enter Tryz.func18, Tryz.ntmps18;go_wp2_with (first | ((with_reducible refine gate_callee (f := 40) rfl ?_); refine gsL (some 7) Tryz.func40 #[.string a0] ?_; (with_reducible refine (spec_l3Marks.calls k a0 t110 _ A2.out).mono ?_); rintro e w3 ⟨v111, rfl, ho0, hb⟩; refine ⟨_, rfl, ?_⟩; have n0_ := Aside0.mk (Kd.R_lower ho0 (below_size (zz4 HB))); have n1_ := Aside0.mk (below_step (zz4 HB) hb); clear HB; have HO112 := n0_; have HB := n1_; clear n0_ n1_; (try clear hb ho0)))
 go_loopg [5] k (fun kq v5 w' => ∃ (x5_1 : Int), v5 = .int .i64 x5_1 ∧ Aside0 (spec_PageBase.l0 kq t110 x5_1 = some (r1, r2)) ∧ Aside0 (kq ≤ k) ∧ Aside0 (Kd.R Kd.string 9 w' w.heap.size (fun _ => True) v111 t110) ∧ Aside0 (Below w.heap.size w w'))
 case atStart => exact ⟨(0), zz0, H', ⟨Nat.le_refl _⟩, ⟨(zz9 HO112)⟩, ⟨(zz4 HB)⟩⟩
 case round =>
  clear H';obtain ⟨x5_1, rfl, HA, HK1, HO_4, HB⟩ := hrel;cases gk with
  | zero => exact absurd HA.out (by simp [spec_PageBase.l0])
  | succ k1 =>
   have H := HA.out;clear HA;simp only [spec_PageBase.l0] at H
   by_cases c4 : x5_1 < (t110.length : Int)
   ·rw [if_pos c4] at H
    have c4b0 : decide (x5_1 < (t110.length : Int)) = true := decide_eq_true c4;clear c4;by_cases c5 : 0 ≤ x5_1
    ·rw [if_pos c5] at H
     have c5b0 : decide (0 ≤ x5_1) = true := decide_eq_true c5;clear c5;replace H := bindA H;obtain ⟨t114, A6, H⟩ := H;by_cases c7 : t114 = 64
     ·rw [if_pos c7] at H
      have c7b0 : (t114 == 64) = true := beq_iff_eq.mpr c7;have c7b1 : (t114 != 64) = false := bne_eq_false_iff_eq.mpr c7;clear c7;by_cases c8 : 1 ≤ ((rdOf ByteArray.empty t110 x5_1).size : Int)
      ·rw [if_pos c8] at H
       have c8b0 := eq_true c8;have c8b1 : decide (1 ≤ ((rdOf ByteArray.empty t110 x5_1).size : Int)) = true := decide_eq_true c8;clear c8;simp only [Option.some.injEq, Prod.mk.injEq] at H
       obtain ⟨rfl, rfl⟩ := H;obtain ⟨Ao9, co9, eo9⟩ := Kd.R_slice HO_4.out;subst eo9;have p113 : 0 ≤ (x5_1 : Int) := ofD;have q113 : x5_1 < (t110.length : Int) := ofD;obtain ⟨ad113, e113, hx113_0⟩ := Kd.at_string (Kd.R_reads' HO_4.out).2.2 x5_1 p113 q113;cases e113
       replace p113 := eq_true p113;replace q113 := eq_true q113;go_wp2_with (first | ((with_reducible refine gate_callee (f := 41) rfl ?_); refine gsL (some 18) Tryz.func41 #[.string (rdOf ByteArray.empty t110 x5_1)] ?_; (with_reducible refine (spec_l3Head.calls (rdOf ByteArray.empty t110 x5_1) t114 _ A6.out).mono ?_); rintro e w' ⟨rfl, ⟨nd, rfl⟩⟩; refine ⟨_, rfl, ?_⟩; have p115 : 0 ≤ (x5_1 : Int) := ofD; have q115 : x5_1 < (t110.length : Int) := ofD; obtain ⟨ad115, e115, hx115_0⟩ := Kd.at_string (Kd.R_reads' HO_4.out).2.2 x5_1 p115 q115; obtain rfl : ad113 = ad115 := (by injection e115); replace p115 := eq_true p115; replace q115 := eq_true q115))
       go_ret2
       exact ⟨zz5, (zz4 HB)⟩
      ·rw [if_neg c8] at H
       exact absurd H (by simp)
     ·rw [if_neg c7] at H
      have c7b0 : (t114 == 64) = false := beq_eq_false_iff_ne.mpr c7;have c7b1 : (t114 != 64) = true := bne_iff_ne.mpr c7;have H' := Aside0.mk H;clear H;obtain ⟨Ao10, co10, eo10⟩ := Kd.R_slice HO_4.out;subst eo10;have p113 : 0 ≤ (x5_1 : Int) := ofD;have q113 : x5_1 < (t110.length : Int) := ofD;obtain ⟨ad113, e113, hx113_0⟩ := Kd.at_string (Kd.R_reads' HO_4.out).2.2 x5_1 p113 q113;cases e113
      replace p113 := eq_true p113;replace q113 := eq_true q113;go_wp2_with (first | ((with_reducible refine gate_callee (f := 41) rfl ?_); refine gsL (some 18) Tryz.func41 #[.string (rdOf ByteArray.empty t110 x5_1)] ?_; (with_reducible refine (spec_l3Head.calls (rdOf ByteArray.empty t110 x5_1) t114 _ A6.out).mono ?_); rintro e w' ⟨rfl, ⟨nd, rfl⟩⟩; refine ⟨_, rfl, ?_⟩))
      go_roundg k1
      case measure => have := HK1.out; omega
      case rel => exact ⟨(wrap64 (x5_1 + 1)), zz0, H', ⟨(zz3 HK1)⟩, ⟨(zz9 HO_4)⟩, ⟨(zz4 HB)⟩⟩
    ·rw [if_neg c5] at H
     exact absurd H (by simp)
   ·rw [if_neg c4] at H
    have c4b0 : decide (x5_1 < (t110.length : Int)) = false := decide_eq_false c4;clear c4;simp only [Option.some.injEq, Prod.mk.injEq] at H
    obtain ⟨rfl, rfl⟩ := H;obtain ⟨Ao11, co11, eo11⟩ := Kd.R_slice HO_4.out;subst eo11;go_wp2
    go_ret2
    exact ⟨zz5, (zz4 HB)⟩
def spec_l6In.f (a0 : Int) (a1 : Int) (a2 : Int) : Option (Bool) := if a0 ≥ a1 then (some (decide (a0 ≤ a2))) else (some false)
set_option maxHeartbeats 8000000 in
set_option maxRecDepth 100000 in
theorem spec_l6In.calls (a0 : Int) (a1 : Int) (a2 : Int) (r : Bool) (w : World) (h : spec_l6In.f a0 a1 a2 = some r) :
  Calls Tryz.prog 66 #[.int .i64 a0, .int .i64 a1, .int .i64 a2] w fun e w' => e = .returned (.bool r) ∧ Drawn0 w w' := by
 have H : (if a0 ≥ a1 then (some (decide (a0 ≤ a2))) else (some false)) = some r := h;clear h;by_cases c4 : a0 ≥ a1
 ·rw [if_pos c4] at H
  have c4b0 : decide (a1 ≤ a0) = true := decide_eq_true c4;clear c4;obtain rfl := Option.some.inj H;go_enter Tryz.func66, Tryz.ntmps66;go_wp2
  go_ret
  exact ⟨zz0, zz1⟩
 ·rw [if_neg c4] at H
  have c4b0 : decide (a1 ≤ a0) = false := decide_eq_false c4;clear c4;obtain rfl := Option.some.inj H;go_enter Tryz.func66, Tryz.ntmps66;go_wp2
  go_ret
  exact ⟨zz0, zz1⟩
def spec_l1House.l0 : Nat → ByteArray → Int → Option (Bool)
 | 0, _, _ => none
 | k + 1, x0, x3 => if x3 < (x0.size : Int) then (if 0 ≤ x3 then (if (bt x0 x3) < 97 then (some false) else (if (bt x0 x3) > 122 then (some false) else (spec_l1House.l0 k x0 (wrap64 (x3 + 1))))) else (none)) else ((spec_l6In.f (x0.size : Int) 1 5).bind fun t116 => (some t116))
def spec_l1House.f (k : Nat) (a0 : ByteArray) : Option (Bool) := spec_l1House.l0 k a0 0
theorem spec_l1House.mono_l : ∀ k, (∀ y0 y1, LeO (spec_l1House.l0 k y0 y1) (spec_l1House.l0 (k + 1) y0 y1))
 | 0 => fun _ _ r h => by simp [spec_l1House.l0] at h
 | k + 1 => by
  have ih0 := spec_l1House.mono_l k
  ·intro y0 y1
   unfold spec_l1House.l0
   repeat' first | (with_reducible first | exact ih0 _ _ | exact LeO.refl _ | exact LeO.none _ | refine LeO.ite ?_ ?_ | refine LeO.bind ?_ (fun _ => ?_)) | exact LeO.none _ | refine LeO.ite ?_ ?_ | refine LeO.bind ?_ (fun _ => ?_)
theorem spec_l1House.mono : ∀ a0 k, LeO (spec_l1House.f k a0) (spec_l1House.f (k + 1) a0) := by
 intro a0 k;have ih0 := spec_l1House.mono_l k;unfold spec_l1House.f
 repeat' first | (with_reducible first | exact ih0 _ _ | exact LeO.refl _ | exact LeO.none _ | refine LeO.ite ?_ ?_ | refine LeO.bind ?_ (fun _ => ?_)) | exact LeO.none _ | refine LeO.ite ?_ ?_ | refine LeO.bind ?_ (fun _ => ?_)
set_option maxHeartbeats 8000000 in
set_option maxRecDepth 100000 in
theorem spec_l1House.calls (k : Nat) (a0 : ByteArray) (r : Bool) (w : World) (h : spec_l1House.f k a0 = some r) :
  Calls Tryz.prog 42 #[.string a0] w fun e w' => e = .returned (.bool r) ∧ Drawn0 w w' := by
 have H : (spec_l1House.l0 k a0 0) = some r := h;clear h;have H' := Aside0.mk H;clear H;go_enter Tryz.func42, Tryz.ntmps42;go_wp2
 go_loopg [3] k (fun kq v3 w' => ∃ (x3_1 : Int), v3 = .int .i64 x3_1 ∧ Aside0 (spec_l1House.l0 kq a0 x3_1 = some r) ∧ Aside0 (kq ≤ k) ∧ Drawn0 w w')
 case atStart => exact ⟨(0), zz0, H', ⟨Nat.le_refl _⟩, zz1⟩
 case round =>
  clear H';obtain ⟨x3_1, rfl, HA, HK1, ⟨m1, rfl⟩⟩ := hrel;cases gk with
  | zero => exact absurd HA.out (by simp [spec_l1House.l0])
  | succ k1 =>
   have H := HA.out;clear HA;simp only [spec_l1House.l0] at H
   by_cases c2 : x3_1 < (a0.size : Int)
   ·rw [if_pos c2] at H
    have c2b0 : decide (x3_1 < (a0.size : Int)) = true := decide_eq_true c2;clear c2;by_cases c3 : 0 ≤ x3_1
    ·rw [if_pos c3] at H
     have c3b0 : decide (0 ≤ x3_1) = true := decide_eq_true c3;clear c3;by_cases c5 : (bt a0 x3_1) < 97
     ·rw [if_pos c5] at H
      have c5b0 : decide ((bt a0 x3_1) < 97) = true := decide_eq_true c5;clear c5;obtain rfl := Option.some.inj H;have p4 : 0 ≤ (x3_1 : Int) := ofD;have q4 : x3_1 < (a0.size : Int) := ofD;have hx4 := bt_at a0 x3_1;replace p4 := eq_true p4;replace q4 := eq_true q4;go_wp2
      go_ret
      exact ⟨zz0, zz1⟩
     ·rw [if_neg c5] at H
      have c5b0 : decide ((bt a0 x3_1) < 97) = false := decide_eq_false c5;clear c5;by_cases c7 : (bt a0 x3_1) > 122
      ·rw [if_pos c7] at H
       have c7b0 : decide (122 < (bt a0 x3_1)) = true := decide_eq_true c7;clear c7;obtain rfl := Option.some.inj H;have p4 : 0 ≤ (x3_1 : Int) := ofD;have q4 : x3_1 < (a0.size : Int) := ofD;have hx4 := bt_at a0 x3_1;replace p4 := eq_true p4;replace q4 := eq_true q4;have p6 : 0 ≤ (x3_1 : Int) := ofD;have q6 : x3_1 < (a0.size : Int) := ofD;have hx6 := bt_at a0 x3_1;replace p6 := eq_true p6;replace q6 := eq_true q6;go_wp2
       go_ret
       exact ⟨zz0, zz1⟩
      ·rw [if_neg c7] at H
       have c7b0 : decide (122 < (bt a0 x3_1)) = false := decide_eq_false c7;clear c7;have H' := Aside0.mk H;clear H;have p4 : 0 ≤ (x3_1 : Int) := ofD;have q4 : x3_1 < (a0.size : Int) := ofD;have hx4 := bt_at a0 x3_1;replace p4 := eq_true p4;replace q4 := eq_true q4;have p6 : 0 ≤ (x3_1 : Int) := ofD;have q6 : x3_1 < (a0.size : Int) := ofD;have hx6 := bt_at a0 x3_1;replace p6 := eq_true p6;replace q6 := eq_true q6;go_wp2
       go_roundg k1
       case measure => have := HK1.out; omega
       case rel => exact ⟨(wrap64 (x3_1 + 1)), zz0, H', ⟨(zz3 HK1)⟩, zz1⟩
    ·rw [if_neg c3] at H
     exact absurd H (by simp)
   ·rw [if_neg c2] at H
    have c2b0 : decide (x3_1 < (a0.size : Int)) = false := decide_eq_false c2;clear c2;replace H := bindA H;obtain ⟨t116, A8, H⟩ := H;obtain rfl := Option.some.inj H;go_wp2_with (first | ((with_reducible refine gate_callee (f := 66) rfl ?_); refine gsL (some 22) Tryz.func66 #[.int .i64 (a0.size : Int), .int .i64 1, .int .i64 5] ?_; (with_reducible refine (spec_l6In.calls (a0.size : Int) 1 5 t116 _ A8.out).mono ?_); rintro e w' ⟨rfl, ⟨nd, rfl⟩⟩; refine ⟨_, rfl, ?_⟩))
    go_ret
    exact ⟨zz0, zz1⟩
mutual
def spec_l1Hex.j0 : Nat → Int → Bool → Option (Int)
 | 0, _, _ => none
 | k + 1, x0, x3 => if x3 = true then (some ((x0 - 48) % 256)) else (if x0 ≥ 97 then (spec_l1Hex.j1 k x0 (decide (x0 ≤ 102))) else (spec_l1Hex.j1 k x0 false))
def spec_l1Hex.j1 : Nat → Int → Bool → Option (Int)
 | 0, _, _ => none
 | k + 1, x0, x13 => if x13 = true then (some (((x0 - 97) % 256) + 10)) else (if x0 ≥ 65 then (if x0 ≤ 70 then (some (((x0 - 65) % 256) + 10)) else (some (-1))) else (some (-1)))
end
def spec_l1Hex.f (k : Nat) (a0 : Int) : Option (Int) := if a0 ≥ 48 then (spec_l1Hex.j0 k a0 (decide (a0 ≤ 57))) else (spec_l1Hex.j0 k a0 false)
theorem spec_l1Hex.mono_l : ∀ k, (∀ y0 y1, LeO (spec_l1Hex.j0 k y0 y1) (spec_l1Hex.j0 (k + 1) y0 y1)) ∧ (∀ y0 y1, LeO (spec_l1Hex.j1 k y0 y1) (spec_l1Hex.j1 (k + 1) y0 y1))
 | 0 => ⟨fun _ _ r h => by simp [spec_l1Hex.j0] at h, fun _ _ r h => by simp [spec_l1Hex.j1] at h⟩
 | k + 1 => by
  obtain ⟨ih0, ih1⟩ := spec_l1Hex.mono_l k;refine ⟨?_, ?_⟩
  ·intro y0 y1
   unfold spec_l1Hex.j0
   repeat' first | (with_reducible first | exact ih0 _ _ | exact ih1 _ _ | exact LeO.refl _ | exact LeO.none _ | refine LeO.ite ?_ ?_ | refine LeO.bind ?_ (fun _ => ?_)) | exact LeO.none _ | refine LeO.ite ?_ ?_ | refine LeO.bind ?_ (fun _ => ?_)
  ·intro y0 y1
   unfold spec_l1Hex.j1
   repeat' first | (with_reducible first | exact ih0 _ _ | exact ih1 _ _ | exact LeO.refl _ | exact LeO.none _ | refine LeO.ite ?_ ?_ | refine LeO.bind ?_ (fun _ => ?_)) | exact LeO.none _ | refine LeO.ite ?_ ?_ | refine LeO.bind ?_ (fun _ => ?_)
theorem spec_l1Hex.mono : ∀ a0 k, LeO (spec_l1Hex.f k a0) (spec_l1Hex.f (k + 1) a0) := by
 intro a0 k;obtain ⟨ih0, ih1⟩ := spec_l1Hex.mono_l k;unfold spec_l1Hex.f
 repeat' first | (with_reducible first | exact ih0 _ _ | exact ih1 _ _ | exact LeO.refl _ | exact LeO.none _ | refine LeO.ite ?_ ?_ | refine LeO.bind ?_ (fun _ => ?_)) | exact LeO.none _ | refine LeO.ite ?_ ?_ | refine LeO.bind ?_ (fun _ => ?_)
set_option maxHeartbeats 8000000 in
set_option maxRecDepth 100000 in
theorem spec_l1Hex.calls (k : Nat) (a0 : Int) (r : Int) (w : World) (h : spec_l1Hex.f k a0 = some r) :
  Calls Tryz.prog 86 #[.int .u8 a0] w fun e w' => e = .returned (.int .i64 r) ∧ Drawn0 w w' := by
 have H : (if a0 ≥ 48 then (spec_l1Hex.j0 k a0 (decide (a0 ≤ 57))) else (spec_l1Hex.j0 k a0 false)) = some r := h;clear h;have HC2 := Aside0.mk H;clear H;go_enter Tryz.func86, Tryz.ntmps86;go_upto_region 1 with (fail)
 go_cut [3] (fun v3 wc => ∃ (kq : Nat) (x3_1 : Bool), v3 = .bool x3_1 ∧ Aside0 (spec_l1Hex.j0 kq a0 x3_1 = some r) ∧ Aside0 (kq ≤ k) ∧ Drawn0 w wc)
 case first =>
  have H := HC2.out;clear HC2;by_cases c3 : a0 ≥ 48
  ·rw [if_pos c3] at H
   have c3b0 : decide (48 ≤ a0) = true := decide_eq_true c3;clear c3;(first | rw [c3b0] | (simp only [i64_w, i32_w]; rw [c3b0]) | skip)
   have H' := Aside0.mk H;clear H;go_wp2
   go_meet
   case rel => exact ⟨_, (decide (a0 ≤ 57)), zz0, H', ⟨zz18⟩, zz1⟩
  ·rw [if_neg c3] at H
   have c3b0 : decide (48 ≤ a0) = false := decide_eq_false c3;clear c3;(first | rw [c3b0] | (simp only [i64_w, i32_w]; rw [c3b0]) | skip)
   have H' := Aside0.mk H;clear H;go_wp2
   go_meet
   case rel => exact ⟨_, (false), zz0, H', ⟨zz18⟩, zz1⟩
 case rest =>
  clear HC2;obtain ⟨kq, x3_1, rfl, HA, HJ1, ⟨mc1, rfl⟩⟩ := hcut;cases kq with
  | zero => exact absurd HA.out (by simp [spec_l1Hex.j0])
  | succ kj1 =>
   have H := HA.out;clear HA;simp only [spec_l1Hex.j0] at H
   by_cases c4 : x3_1 = true
   ·subst c4
    rw [if_pos rfl] at H;obtain rfl := Option.some.inj H;go_wp2
    go_ret
    exact ⟨zz0, zz1⟩
   ·replace c4 := Bool.eq_false_iff.mpr c4
    subst c4;rw [if_neg (show ¬ (false = true) by decide)] at H;have HC5 := Aside0.mk H;clear H;go_upto_region 3 with (fail)
    go_cut [13] (fun v13 wc => ∃ (kq : Nat) (x13_4 : Bool), v13 = .bool x13_4 ∧ Aside0 (spec_l1Hex.j1 kq a0 x13_4 = some r) ∧ Aside0 (kq ≤ kj1) ∧ Drawn0 w wc)
    case first =>
     have H := HC5.out;clear HC5;by_cases c6 : a0 ≥ 97
     ·rw [if_pos c6] at H
      have c6b0 : decide (97 ≤ a0) = true := decide_eq_true c6;clear c6;(first | rw [c6b0] | (simp only [i64_w, i32_w]; rw [c6b0]) | skip)
      have H' := Aside0.mk H;clear H;go_wp2
      go_meet
      case rel => exact ⟨_, (decide (a0 ≤ 102)), zz0, H', ⟨(zz11 HJ1)⟩, zz1⟩
     ·rw [if_neg c6] at H
      have c6b0 : decide (97 ≤ a0) = false := decide_eq_false c6;clear c6;(first | rw [c6b0] | (simp only [i64_w, i32_w]; rw [c6b0]) | skip)
      have H' := Aside0.mk H;clear H;go_wp2
      go_meet
      case rel => exact ⟨_, (false), zz0, H', ⟨(zz11 HJ1)⟩, zz1⟩
    case rest =>
     clear HC5;obtain ⟨kq, x13_4, rfl, HA, HJ4, ⟨mc4, rfl⟩⟩ := hcut;cases kq with
     | zero => exact absurd HA.out (by simp [spec_l1Hex.j1])
     | succ kj4 =>
      have H := HA.out;clear HA;simp only [spec_l1Hex.j1] at H
      by_cases c7 : x13_4 = true
      ·subst c7
       rw [if_pos rfl] at H;obtain rfl := Option.some.inj H;go_wp2
       go_ret
       exact ⟨zz0, zz1⟩
      ·replace c7 := Bool.eq_false_iff.mpr c7
       subst c7;rw [if_neg (show ¬ (false = true) by decide)] at H;by_cases c8 : a0 ≥ 65
       ·rw [if_pos c8] at H
        have c8b0 : decide (65 ≤ a0) = true := decide_eq_true c8;clear c8;by_cases c9 : a0 ≤ 70
        ·rw [if_pos c9] at H
         have c9b0 : decide (a0 ≤ 70) = true := decide_eq_true c9;clear c9;obtain rfl := Option.some.inj H;go_wp2
         go_ret
         exact ⟨zz0, zz1⟩
        ·rw [if_neg c9] at H
         have c9b0 : decide (a0 ≤ 70) = false := decide_eq_false c9;clear c9;obtain rfl := Option.some.inj H;go_wp2
         go_ret
         exact ⟨zz0, zz1⟩
       ·rw [if_neg c8] at H
        have c8b0 : decide (65 ≤ a0) = false := decide_eq_false c8;clear c8;obtain rfl := Option.some.inj H;go_wp2
        go_ret
        exact ⟨zz0, zz1⟩
def spec_l1Plain.f (a0 : Int) : Option (Bool) := if a0 ≥ 97 then (if a0 ≤ 122 then (some true) else (if a0 ≥ 48 then (if a0 ≤ 57 then (some true) else (if a0 = 46 then (some true) else (some (a0 == 45)))) else (if a0 = 46 then (some true) else (some (a0 == 45))))) else (if a0 ≥ 48 then (if a0 ≤ 57 then (some true) else (if a0 = 46 then (some true) else (some (a0 == 45)))) else (if a0 = 46 then (some true) else (some (a0 == 45))))
set_option maxHeartbeats 8000000 in
set_option maxRecDepth 100000 in
theorem spec_l1Plain.calls (a0 : Int) (r : Bool) (w : World) (h : spec_l1Plain.f a0 = some r) :
  Calls Tryz.prog 87 #[.int .u8 a0] w fun e w' => e = .returned (.bool r) ∧ Drawn0 w w' := by
 have H : (if a0 ≥ 97 then (if a0 ≤ 122 then (some true) else (if a0 ≥ 48 then (if a0 ≤ 57 then (some true) else (if a0 = 46 then (some true) else (some (a0 == 45)))) else (if a0 = 46 then (some true) else (some (a0 == 45))))) else (if a0 ≥ 48 then (if a0 ≤ 57 then (some true) else (if a0 = 46 then (some true) else (some (a0 == 45)))) else (if a0 = 46 then (some true) else (some (a0 == 45))))) = some r := h;clear h;by_cases c2 : a0 ≥ 97
 ·rw [if_pos c2] at H
  have c2b0 : decide (97 ≤ a0) = true := decide_eq_true c2;clear c2;by_cases c3 : a0 ≤ 122
  ·rw [if_pos c3] at H
   have c3b0 : decide (a0 ≤ 122) = true := decide_eq_true c3;clear c3;obtain rfl := Option.some.inj H;go_enter Tryz.func87, Tryz.ntmps87;go_wp2
   go_ret
   exact ⟨zz0, zz1⟩
  ·rw [if_neg c3] at H
   have c3b0 : decide (a0 ≤ 122) = false := decide_eq_false c3;clear c3;by_cases c4 : a0 ≥ 48
   ·rw [if_pos c4] at H
    have c4b0 : decide (48 ≤ a0) = true := decide_eq_true c4;clear c4;by_cases c5 : a0 ≤ 57
    ·rw [if_pos c5] at H
     have c5b0 : decide (a0 ≤ 57) = true := decide_eq_true c5;clear c5;obtain rfl := Option.some.inj H;go_enter Tryz.func87, Tryz.ntmps87;go_wp2
     go_ret
     exact ⟨zz0, zz1⟩
    ·rw [if_neg c5] at H
     have c5b0 : decide (a0 ≤ 57) = false := decide_eq_false c5;clear c5;by_cases c6 : a0 = 46
     ·rw [if_pos c6] at H
      have c6b0 : (a0 == 46) = true := beq_iff_eq.mpr c6;have c6b1 : (a0 != 46) = false := bne_eq_false_iff_eq.mpr c6;clear c6;obtain rfl := Option.some.inj H;go_enter Tryz.func87, Tryz.ntmps87;go_wp2
      go_ret
      exact ⟨zz0, zz1⟩
     ·rw [if_neg c6] at H
      have c6b0 : (a0 == 46) = false := beq_eq_false_iff_ne.mpr c6;have c6b1 : (a0 != 46) = true := bne_iff_ne.mpr c6;obtain rfl := Option.some.inj H;go_enter Tryz.func87, Tryz.ntmps87;go_wp2
      go_ret
      exact ⟨zz0, zz1⟩
   ·rw [if_neg c4] at H
    have c4b0 : decide (48 ≤ a0) = false := decide_eq_false c4;clear c4;by_cases c7 : a0 = 46
    ·rw [if_pos c7] at H
     have c7b0 : (a0 == 46) = true := beq_iff_eq.mpr c7;have c7b1 : (a0 != 46) = false := bne_eq_false_iff_eq.mpr c7;clear c7;obtain rfl := Option.some.inj H;go_enter Tryz.func87, Tryz.ntmps87;go_wp2
     go_ret
     exact ⟨zz0, zz1⟩
    ·rw [if_neg c7] at H
     have c7b0 : (a0 == 46) = false := beq_eq_false_iff_ne.mpr c7;have c7b1 : (a0 != 46) = true := bne_iff_ne.mpr c7;obtain rfl := Option.some.inj H;go_enter Tryz.func87, Tryz.ntmps87;go_wp2
     go_ret
     exact ⟨zz0, zz1⟩
 ·rw [if_neg c2] at H
  have c2b0 : decide (97 ≤ a0) = false := decide_eq_false c2;clear c2;by_cases c8 : a0 ≥ 48
  ·rw [if_pos c8] at H
   have c8b0 : decide (48 ≤ a0) = true := decide_eq_true c8;clear c8;by_cases c9 : a0 ≤ 57
   ·rw [if_pos c9] at H
    have c9b0 : decide (a0 ≤ 57) = true := decide_eq_true c9;clear c9;obtain rfl := Option.some.inj H;go_enter Tryz.func87, Tryz.ntmps87;go_wp2
    go_ret
    exact ⟨zz0, zz1⟩
   ·rw [if_neg c9] at H
    have c9b0 : decide (a0 ≤ 57) = false := decide_eq_false c9;clear c9;by_cases c10 : a0 = 46
    ·rw [if_pos c10] at H
     have c10b0 : (a0 == 46) = true := beq_iff_eq.mpr c10;have c10b1 : (a0 != 46) = false := bne_eq_false_iff_eq.mpr c10;clear c10;obtain rfl := Option.some.inj H;go_enter Tryz.func87, Tryz.ntmps87;go_wp2
     go_ret
     exact ⟨zz0, zz1⟩
    ·rw [if_neg c10] at H
     have c10b0 : (a0 == 46) = false := beq_eq_false_iff_ne.mpr c10;have c10b1 : (a0 != 46) = true := bne_iff_ne.mpr c10;obtain rfl := Option.some.inj H;go_enter Tryz.func87, Tryz.ntmps87;go_wp2
     go_ret
     exact ⟨zz0, zz1⟩
  ·rw [if_neg c8] at H
   have c8b0 : decide (48 ≤ a0) = false := decide_eq_false c8;clear c8;by_cases c11 : a0 = 46
   ·rw [if_pos c11] at H
    have c11b0 : (a0 == 46) = true := beq_iff_eq.mpr c11;have c11b1 : (a0 != 46) = false := bne_eq_false_iff_eq.mpr c11;clear c11;obtain rfl := Option.some.inj H;go_enter Tryz.func87, Tryz.ntmps87;go_wp2
    go_ret
    exact ⟨zz0, zz1⟩
   ·rw [if_neg c11] at H
    have c11b0 : (a0 == 46) = false := beq_eq_false_iff_ne.mpr c11;have c11b1 : (a0 != 46) = true := bne_iff_ne.mpr c11;obtain rfl := Option.some.inj H;go_enter Tryz.func87, Tryz.ntmps87;go_wp2
    go_ret
    exact ⟨zz0, zz1⟩
def spec_l1Sign.f (a0 : Int) : Option (ByteArray) := if 0 ≤ (wrap64 (Int.tdiv a0 16)) then (if (wrap64 (Int.tdiv a0 16)) ≤ (wrap64 ((wrap64 (Int.tdiv a0 16)) + 1)) then (if (wrap64 ((wrap64 (Int.tdiv a0 16)) + 1)) ≤ 16 then (if 1 + ((⟨#[48, 49, 50, 51, 52, 53, 54, 55, 56, 57, 65, 66, 67, 68, 69, 70]⟩ : ByteArray).extract ((wrap64 (Int.tdiv a0 16)) : Int).toNat ((wrap64 ((wrap64 (Int.tdiv a0 16)) + 1)) : Int).toNat).size ≤ 9223372036854775807 then (if 0 ≤ (Int.tmod a0 16) then (if (Int.tmod a0 16) ≤ (wrap64 ((Int.tmod a0 16) + 1)) then (if (wrap64 ((Int.tmod a0 16) + 1)) ≤ 16 then (if 1 + (((⟨#[48, 49, 50, 51, 52, 53, 54, 55, 56, 57, 65, 66, 67, 68, 69, 70]⟩ : ByteArray).extract ((wrap64 (Int.tdiv a0 16)) : Int).toNat ((wrap64 ((wrap64 (Int.tdiv a0 16)) + 1)) : Int).toNat).size) + ((⟨#[48, 49, 50, 51, 52, 53, 54, 55, 56, 57, 65, 66, 67, 68, 69, 70]⟩ : ByteArray).extract ((Int.tmod a0 16) : Int).toNat ((wrap64 ((Int.tmod a0 16) + 1)) : Int).toNat).size ≤ 9223372036854775807 then (some (((⟨#[37]⟩ : ByteArray) ++ ((⟨#[48, 49, 50, 51, 52, 53, 54, 55, 56, 57, 65, 66, 67, 68, 69, 70]⟩ : ByteArray).extract ((wrap64 (Int.tdiv a0 16)) : Int).toNat ((wrap64 ((wrap64 (Int.tdiv a0 16)) + 1)) : Int).toNat)) ++ ((⟨#[48, 49, 50, 51, 52, 53, 54, 55, 56, 57, 65, 66, 67, 68, 69, 70]⟩ : ByteArray).extract ((Int.tmod a0 16) : Int).toNat ((wrap64 ((Int.tmod a0 16) + 1)) : Int).toNat))) else (none)) else (none)) else (none)) else (none)) else (none)) else (none)) else (none)) else (none)
set_option maxHeartbeats 8000000 in
set_option maxRecDepth 100000 in
theorem spec_l1Sign.calls (a0 : Int) (r : ByteArray) (w : World) (h : spec_l1Sign.f a0 = some r) :
  Calls Tryz.prog 88 #[.int .i64 a0] w fun e w' => e = .returned (.string r) ∧ Drawn0 w w' := by
 have H : (if 0 ≤ (wrap64 (Int.tdiv a0 16)) then (if (wrap64 (Int.tdiv a0 16)) ≤ (wrap64 ((wrap64 (Int.tdiv a0 16)) + 1)) then (if (wrap64 ((wrap64 (Int.tdiv a0 16)) + 1)) ≤ 16 then (if 1 + ((⟨#[48, 49, 50, 51, 52, 53, 54, 55, 56, 57, 65, 66, 67, 68, 69, 70]⟩ : ByteArray).extract ((wrap64 (Int.tdiv a0 16)) : Int).toNat ((wrap64 ((wrap64 (Int.tdiv a0 16)) + 1)) : Int).toNat).size ≤ 9223372036854775807 then (if 0 ≤ (Int.tmod a0 16) then (if (Int.tmod a0 16) ≤ (wrap64 ((Int.tmod a0 16) + 1)) then (if (wrap64 ((Int.tmod a0 16) + 1)) ≤ 16 then (if 1 + (((⟨#[48, 49, 50, 51, 52, 53, 54, 55, 56, 57, 65, 66, 67, 68, 69, 70]⟩ : ByteArray).extract ((wrap64 (Int.tdiv a0 16)) : Int).toNat ((wrap64 ((wrap64 (Int.tdiv a0 16)) + 1)) : Int).toNat).size) + ((⟨#[48, 49, 50, 51, 52, 53, 54, 55, 56, 57, 65, 66, 67, 68, 69, 70]⟩ : ByteArray).extract ((Int.tmod a0 16) : Int).toNat ((wrap64 ((Int.tmod a0 16) + 1)) : Int).toNat).size ≤ 9223372036854775807 then (some (((⟨#[37]⟩ : ByteArray) ++ ((⟨#[48, 49, 50, 51, 52, 53, 54, 55, 56, 57, 65, 66, 67, 68, 69, 70]⟩ : ByteArray).extract ((wrap64 (Int.tdiv a0 16)) : Int).toNat ((wrap64 ((wrap64 (Int.tdiv a0 16)) + 1)) : Int).toNat)) ++ ((⟨#[48, 49, 50, 51, 52, 53, 54, 55, 56, 57, 65, 66, 67, 68, 69, 70]⟩ : ByteArray).extract ((Int.tmod a0 16) : Int).toNat ((wrap64 ((Int.tmod a0 16) + 1)) : Int).toNat))) else (none)) else (none)) else (none)) else (none)) else (none)) else (none)) else (none)) else (none)) = some r := h;clear h;obtain ⟨ji2, hji2⟩ : ∃ j_ : Int, (wrap64 (Int.tdiv a0 16)) = j_ := ⟨_, rfl⟩;replace H : (if 0 ≤ (ji2) then (if (ji2) ≤ (wrap64 ((ji2) + 1)) then (if (wrap64 ((ji2) + 1)) ≤ 16 then (if 1 + ((⟨#[48, 49, 50, 51, 52, 53, 54, 55, 56, 57, 65, 66, 67, 68, 69, 70]⟩ : ByteArray).extract ((ji2) : Int).toNat ((wrap64 ((ji2) + 1)) : Int).toNat).size ≤ 9223372036854775807 then (if 0 ≤ (Int.tmod a0 16) then (if (Int.tmod a0 16) ≤ (wrap64 ((Int.tmod a0 16) + 1)) then (if (wrap64 ((Int.tmod a0 16) + 1)) ≤ 16 then (if 1 + (((⟨#[48, 49, 50, 51, 52, 53, 54, 55, 56, 57, 65, 66, 67, 68, 69, 70]⟩ : ByteArray).extract ((ji2) : Int).toNat ((wrap64 ((ji2) + 1)) : Int).toNat).size) + ((⟨#[48, 49, 50, 51, 52, 53, 54, 55, 56, 57, 65, 66, 67, 68, 69, 70]⟩ : ByteArray).extract ((Int.tmod a0 16) : Int).toNat ((wrap64 ((Int.tmod a0 16) + 1)) : Int).toNat).size ≤ 9223372036854775807 then (some (((⟨#[37]⟩ : ByteArray) ++ ((⟨#[48, 49, 50, 51, 52, 53, 54, 55, 56, 57, 65, 66, 67, 68, 69, 70]⟩ : ByteArray).extract ((ji2) : Int).toNat ((wrap64 ((ji2) + 1)) : Int).toNat)) ++ ((⟨#[48, 49, 50, 51, 52, 53, 54, 55, 56, 57, 65, 66, 67, 68, 69, 70]⟩ : ByteArray).extract ((Int.tmod a0 16) : Int).toNat ((wrap64 ((Int.tmod a0 16) + 1)) : Int).toNat))) else (none)) else (none)) else (none)) else (none)) else (none)) else (none)) else (none)) else (none)) = some r := by first | (rw [hji2] at H; exact H) | (simp only [hji2] at H ⊢; exact H)
 have hji2w : (IntKind.i64.wrap (Int.tdiv a0 16)) = ji2 := (i64_w _).trans hji2;by_cases c3 : 0 ≤ (ji2)
 ·rw [if_pos c3] at H
  have c3b0 := eq_true c3;have c3b1 : decide (0 ≤ (ji2)) = true := decide_eq_true c3;clear c3;by_cases c4 : (ji2) ≤ (wrap64 ((ji2) + 1))
  ·rw [if_pos c4] at H
   have c4b0 := eq_true c4;have c4b1 : decide ((ji2) ≤ (wrap64 ((ji2) + 1))) = true := decide_eq_true c4;by_cases c5 : (wrap64 ((ji2) + 1)) ≤ 16
   ·rw [if_pos c5] at H
    have c5b0 := eq_true c5;have c5b1 : decide ((wrap64 ((ji2) + 1)) ≤ 16) = true := decide_eq_true c5;by_cases c6 : 1 + ((⟨#[48, 49, 50, 51, 52, 53, 54, 55, 56, 57, 65, 66, 67, 68, 69, 70]⟩ : ByteArray).extract ((ji2) : Int).toNat ((wrap64 ((ji2) + 1)) : Int).toNat).size ≤ 9223372036854775807
    ·rw [if_pos c6] at H
     have c6b0 := eq_true c6;have c6b1 : decide (1 + ((⟨#[48, 49, 50, 51, 52, 53, 54, 55, 56, 57, 65, 66, 67, 68, 69, 70]⟩ : ByteArray).extract ((ji2) : Int).toNat ((wrap64 ((ji2) + 1)) : Int).toNat).size ≤ 9223372036854775807) = true := decide_eq_true c6;try have c6b2 : (9223372036854775807 < 1 + ((⟨#[48, 49, 50, 51, 52, 53, 54, 55, 56, 57, 65, 66, 67, 68, 69, 70]⟩ : ByteArray).extract ((ji2) : Int).toNat ((wrap64 ((ji2) + 1)) : Int).toNat).size) = False := eq_false (Nat.not_lt.2 c6)
     obtain ⟨ji7, hji7⟩ : ∃ j_ : Int, (Int.tmod a0 16) = j_ := ⟨_, rfl⟩;replace H : (if 0 ≤ (ji7) then (if (ji7) ≤ (wrap64 ((ji7) + 1)) then (if (wrap64 ((ji7) + 1)) ≤ 16 then (if 1 + (((⟨#[48, 49, 50, 51, 52, 53, 54, 55, 56, 57, 65, 66, 67, 68, 69, 70]⟩ : ByteArray).extract ((ji2) : Int).toNat ((wrap64 ((ji2) + 1)) : Int).toNat).size) + ((⟨#[48, 49, 50, 51, 52, 53, 54, 55, 56, 57, 65, 66, 67, 68, 69, 70]⟩ : ByteArray).extract ((ji7) : Int).toNat ((wrap64 ((ji7) + 1)) : Int).toNat).size ≤ 9223372036854775807 then (some (((⟨#[37]⟩ : ByteArray) ++ ((⟨#[48, 49, 50, 51, 52, 53, 54, 55, 56, 57, 65, 66, 67, 68, 69, 70]⟩ : ByteArray).extract ((ji2) : Int).toNat ((wrap64 ((ji2) + 1)) : Int).toNat)) ++ ((⟨#[48, 49, 50, 51, 52, 53, 54, 55, 56, 57, 65, 66, 67, 68, 69, 70]⟩ : ByteArray).extract ((ji7) : Int).toNat ((wrap64 ((ji7) + 1)) : Int).toNat))) else (none)) else (none)) else (none)) else (none)) = some r := by first | (rw [hji7] at H; exact H) | (simp only [hji7] at H ⊢; exact H)
     by_cases c8 : 0 ≤ (ji7)
     ·rw [if_pos c8] at H
      have c8b0 := eq_true c8;have c8b1 : decide (0 ≤ (ji7)) = true := decide_eq_true c8;clear c8;by_cases c9 : (ji7) ≤ (wrap64 ((ji7) + 1))
      ·rw [if_pos c9] at H
       have c9b0 := eq_true c9;have c9b1 : decide ((ji7) ≤ (wrap64 ((ji7) + 1))) = true := decide_eq_true c9;by_cases c10 : (wrap64 ((ji7) + 1)) ≤ 16
       ·rw [if_pos c10] at H
        have c10b0 := eq_true c10;have c10b1 : decide ((wrap64 ((ji7) + 1)) ≤ 16) = true := decide_eq_true c10;by_cases c11 : 1 + (((⟨#[48, 49, 50, 51, 52, 53, 54, 55, 56, 57, 65, 66, 67, 68, 69, 70]⟩ : ByteArray).extract ((ji2) : Int).toNat ((wrap64 ((ji2) + 1)) : Int).toNat).size) + ((⟨#[48, 49, 50, 51, 52, 53, 54, 55, 56, 57, 65, 66, 67, 68, 69, 70]⟩ : ByteArray).extract ((ji7) : Int).toNat ((wrap64 ((ji7) + 1)) : Int).toNat).size ≤ 9223372036854775807
        ·rw [if_pos c11] at H
         have c11b0 := eq_true c11;have c11b1 : decide (1 + (((⟨#[48, 49, 50, 51, 52, 53, 54, 55, 56, 57, 65, 66, 67, 68, 69, 70]⟩ : ByteArray).extract ((ji2) : Int).toNat ((wrap64 ((ji2) + 1)) : Int).toNat).size) + ((⟨#[48, 49, 50, 51, 52, 53, 54, 55, 56, 57, 65, 66, 67, 68, 69, 70]⟩ : ByteArray).extract ((ji7) : Int).toNat ((wrap64 ((ji7) + 1)) : Int).toNat).size ≤ 9223372036854775807) = true := decide_eq_true c11;try have c11b2 : (9223372036854775807 < 1 + (((⟨#[48, 49, 50, 51, 52, 53, 54, 55, 56, 57, 65, 66, 67, 68, 69, 70]⟩ : ByteArray).extract ((ji2) : Int).toNat ((wrap64 ((ji2) + 1)) : Int).toNat).size) + ((⟨#[48, 49, 50, 51, 52, 53, 54, 55, 56, 57, 65, 66, 67, 68, 69, 70]⟩ : ByteArray).extract ((ji7) : Int).toNat ((wrap64 ((ji7) + 1)) : Int).toNat).size) = False := eq_false (Nat.not_lt.2 c11)
         obtain rfl := Option.some.inj H;go_enter Tryz.func88, Tryz.ntmps88;go_wp2
         repeat (go_quiet (fail); try go_wp2)
         go_ret
         exact ⟨(by first | rfl | (simp only [i64_w, i32_w]; done) | (simp only [aid_isEmpty, aid_isEmpty2]; done) | (simp; done) | (simp only [← hji2, ← hji7] <;> (first | rfl | simp)) | (simp [*]; done)), zz1⟩
        ·rw [if_neg c11] at H
         exact absurd H (by simp)
       ·rw [if_neg c10] at H
        exact absurd H (by simp)
      ·rw [if_neg c9] at H
       exact absurd H (by simp)
     ·rw [if_neg c8] at H
      exact absurd H (by simp)
    ·rw [if_neg c6] at H
     exact absurd H (by simp)
   ·rw [if_neg c5] at H
    exact absurd H (by simp)
  ·rw [if_neg c4] at H
   exact absurd H (by simp)
 ·rw [if_neg c3] at H
  exact absurd H (by simp)
mutual
def spec_EscNorm.l0 : Nat → ByteArray → ByteArray → Int → Option (ByteArray × Bool)
 | 0, _, _, _ => none
 | k + 1, x0, x4, x5 => if x5 < (x0.size : Int) then (if 0 ≤ x5 then (if (bt x0 x5) = 37 then (if (wrap64 (x5 + 2)) ≥ (x0.size : Int) then (spec_EscNorm.j1 k x0 x4 x5 true) else (if 0 ≤ (wrap64 (x5 + 1)) then (if (wrap64 (x5 + 1)) < (x0.size : Int) then ((spec_l1Hex.f k (bt x0 (wrap64 (x5 + 1)))).bind fun t117 => (if t117 < 0 then (spec_EscNorm.j1 k x0 x4 x5 true) else (if 0 ≤ (wrap64 (x5 + 2)) then (if (wrap64 (x5 + 2)) < (x0.size : Int) then ((spec_l1Hex.f k (bt x0 (wrap64 (x5 + 2)))).bind fun t118 => (spec_EscNorm.j1 k x0 x4 x5 (decide (t118 < 0)))) else (none)) else (none)))) else (none)) else (none))) else (spec_EscNorm.j2 k x0 x4 x5 (wrap64 (bt x0 x5)))) else (none)) else (some (x4, true))
def spec_EscNorm.j2 : Nat → ByteArray → ByteArray → Int → Int → Option (ByteArray × Bool)
 | 0, _, _, _, _ => none
 | k + 1, x0, x4, x5, x6 => (spec_l1Plain.f ((x6) % 256)).bind fun t121 => (if t121 = true then ((some (([(x6) % 256] : List Int) : List Int)).bind fun y122 => (if x4.size + (strOfNums y122).size ≤ 9223372036854775807 then (spec_EscNorm.l0 k x0 (x4 ++ (strOfNums y122)) (wrap64 (x5 + 1))) else (none))) else ((spec_l1Sign.f x6).bind fun t125 => (if x4.size + t125.size ≤ 9223372036854775807 then (spec_EscNorm.l0 k x0 (x4 ++ t125) (wrap64 (x5 + 1))) else (none))))
def spec_EscNorm.j1 : Nat → ByteArray → ByteArray → Int → Bool → Option (ByteArray × Bool)
 | 0, _, _, _, _ => none
 | k + 1, x0, x4, x5, x44 => if x44 = true then (some ((⟨#[]⟩ : ByteArray), false)) else (if 0 ≤ (wrap64 (x5 + 1)) then (if (wrap64 (x5 + 1)) < (x0.size : Int) then ((spec_l1Hex.f k (bt x0 (wrap64 (x5 + 1)))).bind fun t119 => (if 0 ≤ (wrap64 (x5 + 2)) then (if (wrap64 (x5 + 2)) < (x0.size : Int) then ((spec_l1Hex.f k (bt x0 (wrap64 (x5 + 2)))).bind fun t120 => (spec_EscNorm.j2 k x0 x4 (wrap64 (x5 + 2)) (wrap64 ((wrap64 (t119 * 16)) + t120)))) else (none)) else (none))) else (none)) else (none))
end
def spec_EscNorm.f (k : Nat) (a0 : ByteArray) : Option (ByteArray × Bool) := if (a0.size : Int) > 60 then (some ((⟨#[]⟩ : ByteArray), false)) else (spec_EscNorm.l0 k a0 (⟨#[]⟩ : ByteArray) 0)
theorem spec_EscNorm.mono_l : ∀ k, (∀ y0 y1 y2, LeO (spec_EscNorm.l0 k y0 y1 y2) (spec_EscNorm.l0 (k + 1) y0 y1 y2)) ∧ (∀ y0 y1 y2 y3, LeO (spec_EscNorm.j2 k y0 y1 y2 y3) (spec_EscNorm.j2 (k + 1) y0 y1 y2 y3)) ∧ (∀ y0 y1 y2 y3, LeO (spec_EscNorm.j1 k y0 y1 y2 y3) (spec_EscNorm.j1 (k + 1) y0 y1 y2 y3))
 | 0 => ⟨fun _ _ _ r h => by simp [spec_EscNorm.l0] at h, fun _ _ _ _ r h => by simp [spec_EscNorm.j2] at h, fun _ _ _ _ r h => by simp [spec_EscNorm.j1] at h⟩
 | k + 1 => by
  obtain ⟨ih0, ih1, ih2⟩ := spec_EscNorm.mono_l k;refine ⟨?_, ?_, ?_⟩
  ·intro y0 y1 y2
   unfold spec_EscNorm.l0
   repeat' first | (with_reducible first | exact ih0 _ _ _ | exact ih1 _ _ _ _ | exact ih2 _ _ _ _ | exact spec_l1Hex.mono _ _ | exact LeO.refl _ | exact LeO.none _ | refine LeO.ite ?_ ?_ | refine LeO.bind ?_ (fun _ => ?_)) | exact LeO.none _ | refine LeO.ite ?_ ?_ | refine LeO.bind ?_ (fun _ => ?_)
  ·intro y0 y1 y2 y3
   unfold spec_EscNorm.j2
   repeat' first | (with_reducible first | exact ih0 _ _ _ | exact ih1 _ _ _ _ | exact ih2 _ _ _ _ | exact spec_l1Hex.mono _ _ | exact LeO.refl _ | exact LeO.none _ | refine LeO.ite ?_ ?_ | refine LeO.bind ?_ (fun _ => ?_)) | exact LeO.none _ | refine LeO.ite ?_ ?_ | refine LeO.bind ?_ (fun _ => ?_)
  ·intro y0 y1 y2 y3
   unfold spec_EscNorm.j1
   repeat' first | (with_reducible first | exact ih0 _ _ _ | exact ih1 _ _ _ _ | exact ih2 _ _ _ _ | exact spec_l1Hex.mono _ _ | exact LeO.refl _ | exact LeO.none _ | refine LeO.ite ?_ ?_ | refine LeO.bind ?_ (fun _ => ?_)) | exact LeO.none _ | refine LeO.ite ?_ ?_ | refine LeO.bind ?_ (fun _ => ?_)
theorem spec_EscNorm.mono : ∀ a0 k, LeO (spec_EscNorm.f k a0) (spec_EscNorm.f (k + 1) a0) := by
 intro a0 k;obtain ⟨ih0, ih1, ih2⟩ := spec_EscNorm.mono_l k;unfold spec_EscNorm.f
 repeat' first | (with_reducible first | exact ih0 _ _ _ | exact ih1 _ _ _ _ | exact ih2 _ _ _ _ | exact spec_l1Hex.mono _ _ | exact LeO.refl _ | exact LeO.none _ | refine LeO.ite ?_ ?_ | refine LeO.bind ?_ (fun _ => ?_)) | exact LeO.none _ | refine LeO.ite ?_ ?_ | refine LeO.bind ?_ (fun _ => ?_)
set_option maxHeartbeats 8000000 in
set_option maxRecDepth 100000 in
theorem spec_EscNorm.calls (k : Nat) (a0 : ByteArray) (r1 : ByteArray) (r2 : Bool) (w : World) (h : spec_EscNorm.f k a0 = some (r1, r2)) :
  Calls Tryz.prog 67 #[.string a0] w fun e w' => e = .returned (.tuple #[.string r1, .bool r2]) ∧ Below w.heap.size w w' := by
 have HB := Aside0.mk (Below.refl w.heap.size w);have H : (if (a0.size : Int) > 60 then (some ((⟨#[]⟩ : ByteArray), false)) else (spec_EscNorm.l0 k a0 (⟨#[]⟩ : ByteArray) 0)) = some (r1, r2) := h;clear h;by_cases c2 : (a0.size : Int) > 60
 ·rw [if_pos c2] at H
  have c2b0 : decide (60 < (a0.size : Int)) = true := decide_eq_true c2;have c2b1 : decide (60 < a0.size) = true := decide_eq_true (by omega);clear c2;simp only [Option.some.injEq, Prod.mk.injEq] at H
  obtain ⟨rfl, rfl⟩ := H;go_enter Tryz.func67, Tryz.ntmps67;go_wp2
  repeat (go_quiet (fail); try go_wp2)
  go_ret2
  exact ⟨zz5, (zz4 HB)⟩
 ·rw [if_neg c2] at H
  have c2b0 : decide (60 < (a0.size : Int)) = false := decide_eq_false c2;have c2b1 : decide (60 < a0.size) = false := decide_eq_false (by omega);clear c2;have H' := Aside0.mk H;clear H;go_enter Tryz.func67, Tryz.ntmps67;go_wp2
  repeat (go_quiet (fail); try go_wp2)
  go_loopg [4, 5] k (fun kq v4 v5 w' => ∃ (x4_1 : ByteArray) (x5_1 : Int), v4 = .string x4_1 ∧ v5 = .int .i64 x5_1 ∧ Aside0 (spec_EscNorm.l0 kq a0 x4_1 x5_1 = some (r1, r2)) ∧ Aside0 (kq ≤ k) ∧ Aside0 (Below w.heap.size w w'))
  case atStart => exact ⟨((⟨#[]⟩ : ByteArray)), (0), zz0, zz0, H', ⟨Nat.le_refl _⟩, ⟨(zz4 HB)⟩⟩
  case round =>
   clear H';obtain ⟨x4_1, x5_1, rfl, rfl, HA, HK1, HB⟩ := hrel;cases gk with
   | zero => exact absurd HA.out (by simp [spec_EscNorm.l0])
   | succ k1 =>
    have H := HA.out;clear HA;simp only [spec_EscNorm.l0] at H
    by_cases c3 : x5_1 < (a0.size : Int)
    ·rw [if_pos c3] at H
     have c3b0 : decide (x5_1 < (a0.size : Int)) = true := decide_eq_true c3;clear c3;by_cases c4 : 0 ≤ x5_1
     ·rw [if_pos c4] at H
      have c4b0 : decide (0 ≤ x5_1) = true := decide_eq_true c4;clear c4;have HC7 := Aside0.mk H;clear H;have p5 : 0 ≤ (x5_1 : Int) := ofD;have q5 : x5_1 < (a0.size : Int) := ofD;have hx5 := bt_at a0 x5_1;replace p5 := eq_true p5;replace q5 := eq_true q5;have p6 : 0 ≤ (x5_1 : Int) := ofD;have q6 : x5_1 < (a0.size : Int) := ofD;have hx6 := bt_at a0 x5_1;replace p6 := eq_true p6;replace q6 := eq_true q6;go_upto_if 23 with (fail)
      repeat (go_quiet (fail); go_upto_if 23 with (fail))
      go_cut [5, 6] (fun v5 v6 wc => ∃ (kq : Nat) (x5_6 : Int) (x6_6 : Int), v5 = .int .i64 x5_6 ∧ v6 = .int .i64 x6_6 ∧ Aside0 (spec_EscNorm.j2 kq a0 x4_1 x5_6 x6_6 = some (r1, r2)) ∧ Aside0 (kq ≤ k1) ∧ Aside0 (Below w.heap.size w wc))
      case first =>
       have H := HC7.out;clear HC7;by_cases c8 : (bt a0 x5_1) = 37
       ·rw [if_pos c8] at H
        have c8b0 : ((bt a0 x5_1) == 37) = true := beq_iff_eq.mpr c8;have c8b1 : ((bt a0 x5_1) != 37) = false := bne_eq_false_iff_eq.mpr c8;clear c8;(first | rw [c8b0] | (simp only [i64_w, i32_w]; rw [c8b0]) | skip)
        have HC9 := Aside0.mk H;clear H;go_upto_region 9 with (fail)
        repeat (go_quiet (fail); go_upto_region 9 with (fail))
        go_cut [44] (fun v44 wc => ∃ (kq : Nat) (x44_8 : Bool), v44 = .bool x44_8 ∧ Aside0 (spec_EscNorm.j1 kq a0 x4_1 x5_1 x44_8 = some (r1, r2)) ∧ Aside0 (kq ≤ k1) ∧ Aside0 (Below w.heap.size w wc))
        case first =>
         have H := HC9.out;clear HC9;by_cases c10 : (wrap64 (x5_1 + 2)) ≥ (a0.size : Int)
         ·rw [if_pos c10] at H
          have c10b0 : decide ((a0.size : Int) ≤ (wrap64 (x5_1 + 2))) = true := decide_eq_true c10;clear c10;(first | rw [c10b0] | (simp only [i64_w, i32_w]; rw [c10b0]) | skip)
          have H' := Aside0.mk H;clear H;go_wp2
          repeat (go_quiet (fail); try go_wp2)
          go_meet
          case rel => exact ⟨_, (true), zz0, H', ⟨(zz11 HK1)⟩, ⟨(zz4 HB)⟩⟩
         ·rw [if_neg c10] at H
          have c10b0 : decide ((a0.size : Int) ≤ (wrap64 (x5_1 + 2))) = false := decide_eq_false c10;clear c10;(first | rw [c10b0] | (simp only [i64_w, i32_w]; rw [c10b0]) | skip)
          obtain ⟨ji11, hji11⟩ : ∃ j_ : Int, (wrap64 (x5_1 + 1)) = j_ := ⟨_, rfl⟩;replace H : (if 0 ≤ (ji11) then (if (ji11) < (a0.size : Int) then ((spec_l1Hex.f k1 (bt a0 (ji11))).bind fun t117 => (if t117 < 0 then (spec_EscNorm.j1 k1 a0 x4_1 x5_1 true) else (if 0 ≤ (wrap64 (x5_1 + 2)) then (if (wrap64 (x5_1 + 2)) < (a0.size : Int) then ((spec_l1Hex.f k1 (bt a0 (wrap64 (x5_1 + 2)))).bind fun t118 => (spec_EscNorm.j1 k1 a0 x4_1 x5_1 (decide (t118 < 0)))) else (none)) else (none)))) else (none)) else (none)) = some (r1, r2) := by first | (rw [hji11] at H; exact H) | (simp only [hji11] at H ⊢; exact H)
          have hji11w : (IntKind.i64.wrap (x5_1 + 1)) = ji11 := (i64_w _).trans hji11;by_cases c12 : 0 ≤ (ji11)
          ·rw [if_pos c12] at H
           have c12b0 : decide (0 ≤ (ji11)) = true := decide_eq_true c12;clear c12;by_cases c13 : (ji11) < (a0.size : Int)
           ·rw [if_pos c13] at H
            have c13b0 : decide ((ji11) < (a0.size : Int)) = true := decide_eq_true c13;clear c13;replace H := bindA H;obtain ⟨t117, A15, H⟩ := H;by_cases c16 : t117 < 0
            ·rw [if_pos c16] at H
             have c16b0 : decide (t117 < 0) = true := decide_eq_true c16;clear c16;have H' := Aside0.mk H;clear H;have p14 : 0 ≤ ((ji11) : Int) := ofD;have q14 : (ji11) < (a0.size : Int) := ofD;have hx14 := bt_at a0 (ji11);replace p14 := eq_true p14;replace q14 := eq_true q14;go_wp2_with (first | (go_at_call 86; (with_reducible refine (spec_l1Hex.calls k1 (bt a0 (ji11)) t117 _ A15.out).mono ?_); rintro e w' ⟨rfl, ⟨nd, rfl⟩⟩; (try first | exact ⟨rfl, _, World.drewN_drewN _ _ _⟩ | exact ⟨rfl, _, Eq.trans (World.drewN_drewN _ _ _) (congrArg (World.drewN _) (Nat.add_assoc _ _ _))⟩)))
             repeat (go_quiet (first | (go_at_call 86; (with_reducible refine (spec_l1Hex.calls k1 (bt a0 (ji11)) t117 _ A15.out).mono ?_); rintro e w' ⟨rfl, ⟨nd, rfl⟩⟩; (try first | exact ⟨rfl, _, World.drewN_drewN _ _ _⟩ | exact ⟨rfl, _, Eq.trans (World.drewN_drewN _ _ _) (congrArg (World.drewN _) (Nat.add_assoc _ _ _))⟩))); try go_wp2_with (first | (go_at_call 86; (with_reducible refine (spec_l1Hex.calls k1 (bt a0 (ji11)) t117 _ A15.out).mono ?_); rintro e w' ⟨rfl, ⟨nd, rfl⟩⟩; (try first | exact ⟨rfl, _, World.drewN_drewN _ _ _⟩ | exact ⟨rfl, _, Eq.trans (World.drewN_drewN _ _ _) (congrArg (World.drewN _) (Nat.add_assoc _ _ _))⟩))))
             go_meet
             case rel => exact ⟨_, (true), zz0, H', ⟨(zz11 HK1)⟩, ⟨(zz4 HB)⟩⟩
            ·rw [if_neg c16] at H
             have c16b0 : decide (t117 < 0) = false := decide_eq_false c16;clear c16;obtain ⟨ji17, hji17⟩ : ∃ j_ : Int, (wrap64 (x5_1 + 2)) = j_ := ⟨_, rfl⟩;replace H : (if 0 ≤ (ji17) then (if (ji17) < (a0.size : Int) then ((spec_l1Hex.f k1 (bt a0 (ji17))).bind fun t118 => (spec_EscNorm.j1 k1 a0 x4_1 x5_1 (decide (t118 < 0)))) else (none)) else (none)) = some (r1, r2) := by first | (rw [hji17] at H; exact H) | (simp only [hji17] at H ⊢; exact H)
             (try rw [hji17] at c10b0)
             (try rw [hji17] at A15)
             have hji17w : (IntKind.i64.wrap (x5_1 + 2)) = ji17 := (i64_w _).trans hji17;by_cases c18 : 0 ≤ (ji17)
             ·rw [if_pos c18] at H
              have c18b0 : decide (0 ≤ (ji17)) = true := decide_eq_true c18;clear c18;by_cases c19 : (ji17) < (a0.size : Int)
              ·rw [if_pos c19] at H
               have c19b0 : decide ((ji17) < (a0.size : Int)) = true := decide_eq_true c19;clear c19;replace H := bindA H;obtain ⟨t118, A21, H⟩ := H;have H' := Aside0.mk H;clear H;have p14 : 0 ≤ ((ji11) : Int) := ofD;have q14 : (ji11) < (a0.size : Int) := ofD;have hx14 := bt_at a0 (ji11);replace p14 := eq_true p14;replace q14 := eq_true q14;go_wp2_with (first | (go_at_call 86; (with_reducible refine (spec_l1Hex.calls k1 (bt a0 (ji11)) t117 _ A15.out).mono ?_); rintro e w' ⟨rfl, ⟨nd, rfl⟩⟩; (try first | exact ⟨rfl, _, World.drewN_drewN _ _ _⟩ | exact ⟨rfl, _, Eq.trans (World.drewN_drewN _ _ _) (congrArg (World.drewN _) (Nat.add_assoc _ _ _))⟩); have p20 : 0 ≤ ((ji17) : Int) := ofD; have q20 : (ji17) < (a0.size : Int) := ofD; have hx20 := bt_at a0 (ji17); replace p20 := eq_true p20; replace q20 := eq_true q20) | (go_at_call 86; (with_reducible refine (spec_l1Hex.calls k1 (bt a0 (ji17)) t118 _ A21.out).mono ?_); rintro e w' ⟨rfl, ⟨nd, rfl⟩⟩; (try first | exact ⟨rfl, _, World.drewN_drewN _ _ _⟩ | exact ⟨rfl, _, Eq.trans (World.drewN_drewN _ _ _) (congrArg (World.drewN _) (Nat.add_assoc _ _ _))⟩)))
               repeat (go_quiet (first | (go_at_call 86; (with_reducible refine (spec_l1Hex.calls k1 (bt a0 (ji11)) t117 _ A15.out).mono ?_); rintro e w' ⟨rfl, ⟨nd, rfl⟩⟩; (try first | exact ⟨rfl, _, World.drewN_drewN _ _ _⟩ | exact ⟨rfl, _, Eq.trans (World.drewN_drewN _ _ _) (congrArg (World.drewN _) (Nat.add_assoc _ _ _))⟩); have p20 : 0 ≤ ((ji17) : Int) := ofD; have q20 : (ji17) < (a0.size : Int) := ofD; have hx20 := bt_at a0 (ji17); replace p20 := eq_true p20; replace q20 := eq_true q20) | (go_at_call 86; (with_reducible refine (spec_l1Hex.calls k1 (bt a0 (ji17)) t118 _ A21.out).mono ?_); rintro e w' ⟨rfl, ⟨nd, rfl⟩⟩; (try first | exact ⟨rfl, _, World.drewN_drewN _ _ _⟩ | exact ⟨rfl, _, Eq.trans (World.drewN_drewN _ _ _) (congrArg (World.drewN _) (Nat.add_assoc _ _ _))⟩))); try go_wp2_with (first | (go_at_call 86; (with_reducible refine (spec_l1Hex.calls k1 (bt a0 (ji11)) t117 _ A15.out).mono ?_); rintro e w' ⟨rfl, ⟨nd, rfl⟩⟩; (try first | exact ⟨rfl, _, World.drewN_drewN _ _ _⟩ | exact ⟨rfl, _, Eq.trans (World.drewN_drewN _ _ _) (congrArg (World.drewN _) (Nat.add_assoc _ _ _))⟩); have p20 : 0 ≤ ((ji17) : Int) := ofD; have q20 : (ji17) < (a0.size : Int) := ofD; have hx20 := bt_at a0 (ji17); replace p20 := eq_true p20; replace q20 := eq_true q20) | (go_at_call 86; (with_reducible refine (spec_l1Hex.calls k1 (bt a0 (ji17)) t118 _ A21.out).mono ?_); rintro e w' ⟨rfl, ⟨nd, rfl⟩⟩; (try first | exact ⟨rfl, _, World.drewN_drewN _ _ _⟩ | exact ⟨rfl, _, Eq.trans (World.drewN_drewN _ _ _) (congrArg (World.drewN _) (Nat.add_assoc _ _ _))⟩))))
               go_meet
               case rel => exact ⟨_, (decide (t118 < 0)), zz0, H', ⟨(zz11 HK1)⟩, ⟨(zz4 HB)⟩⟩
              ·rw [if_neg c19] at H
               exact absurd H (by simp)
             ·rw [if_neg c18] at H
              exact absurd H (by simp)
           ·rw [if_neg c13] at H
            exact absurd H (by simp)
          ·rw [if_neg c12] at H
           exact absurd H (by simp)
        case rest =>
         clear HC9;obtain ⟨kq, x44_8, rfl, HA, HJ8, HB⟩ := hcut;cases kq with
         | zero => exact absurd HA.out (by simp [spec_EscNorm.j1])
         | succ kj8 =>
          have H := HA.out;clear HA;simp only [spec_EscNorm.j1] at H
          by_cases c22 : x44_8 = true
          ·subst c22
           rw [if_pos rfl] at H;simp only [Option.some.injEq, Prod.mk.injEq] at H
           obtain ⟨rfl, rfl⟩ := H;go_wp2
           repeat (go_quiet (fail); try go_wp2)
           go_ret2
           exact ⟨zz5, (zz4 HB)⟩
          ·replace c22 := Bool.eq_false_iff.mpr c22
           subst c22;rw [if_neg (show ¬ (false = true) by decide)] at H;obtain ⟨ji23, hji23⟩ : ∃ j_ : Int, (wrap64 (x5_1 + 1)) = j_ := ⟨_, rfl⟩;replace H : (if 0 ≤ (ji23) then (if (ji23) < (a0.size : Int) then ((spec_l1Hex.f kj8 (bt a0 (ji23))).bind fun t119 => (if 0 ≤ (wrap64 (x5_1 + 2)) then (if (wrap64 (x5_1 + 2)) < (a0.size : Int) then ((spec_l1Hex.f kj8 (bt a0 (wrap64 (x5_1 + 2)))).bind fun t120 => (spec_EscNorm.j2 kj8 a0 x4_1 (wrap64 (x5_1 + 2)) (wrap64 ((wrap64 (t119 * 16)) + t120)))) else (none)) else (none))) else (none)) else (none)) = some (r1, r2) := by first | (rw [hji23] at H; exact H) | (simp only [hji23] at H ⊢; exact H)
           have hji23w : (IntKind.i64.wrap (x5_1 + 1)) = ji23 := (i64_w _).trans hji23;by_cases c24 : 0 ≤ (ji23)
           ·rw [if_pos c24] at H
            have c24b0 : decide (0 ≤ (ji23)) = true := decide_eq_true c24;clear c24;by_cases c25 : (ji23) < (a0.size : Int)
            ·rw [if_pos c25] at H
             have c25b0 : decide ((ji23) < (a0.size : Int)) = true := decide_eq_true c25;clear c25;replace H := bindA H;obtain ⟨t119, A27, H⟩ := H;obtain ⟨ji28, hji28⟩ : ∃ j_ : Int, (wrap64 (x5_1 + 2)) = j_ := ⟨_, rfl⟩;replace H : (if 0 ≤ (ji28) then (if (ji28) < (a0.size : Int) then ((spec_l1Hex.f kj8 (bt a0 (ji28))).bind fun t120 => (spec_EscNorm.j2 kj8 a0 x4_1 ji28 (wrap64 ((wrap64 (t119 * 16)) + t120)))) else (none)) else (none)) = some (r1, r2) := by first | (rw [hji28] at H; exact H) | (simp only [hji28] at H ⊢; exact H)
             (try rw [hji28] at A27)
             have hji28w : (IntKind.i64.wrap (x5_1 + 2)) = ji28 := (i64_w _).trans hji28;by_cases c29 : 0 ≤ (ji28)
             ·rw [if_pos c29] at H
              have c29b0 : decide (0 ≤ (ji28)) = true := decide_eq_true c29;clear c29;by_cases c30 : (ji28) < (a0.size : Int)
              ·rw [if_pos c30] at H
               have c30b0 : decide ((ji28) < (a0.size : Int)) = true := decide_eq_true c30;clear c30;replace H := bindA H;obtain ⟨t120, A32, H⟩ := H;have H' := Aside0.mk H;clear H;have p26 : 0 ≤ ((ji23) : Int) := ofD;have q26 : (ji23) < (a0.size : Int) := ofD;have hx26 := bt_at a0 (ji23);replace p26 := eq_true p26;replace q26 := eq_true q26;go_wp2_with (first | (go_at_call 86; (with_reducible refine (spec_l1Hex.calls kj8 (bt a0 (ji23)) t119 _ A27.out).mono ?_); rintro e w' ⟨rfl, ⟨nd, rfl⟩⟩; (try first | exact ⟨rfl, _, World.drewN_drewN _ _ _⟩ | exact ⟨rfl, _, Eq.trans (World.drewN_drewN _ _ _) (congrArg (World.drewN _) (Nat.add_assoc _ _ _))⟩); have p31 : 0 ≤ ((ji28) : Int) := ofD; have q31 : (ji28) < (a0.size : Int) := ofD; have hx31 := bt_at a0 (ji28); replace p31 := eq_true p31; replace q31 := eq_true q31) | (go_at_call 86; (with_reducible refine (spec_l1Hex.calls kj8 (bt a0 (ji28)) t120 _ A32.out).mono ?_); rintro e w' ⟨rfl, ⟨nd, rfl⟩⟩; (try first | exact ⟨rfl, _, World.drewN_drewN _ _ _⟩ | exact ⟨rfl, _, Eq.trans (World.drewN_drewN _ _ _) (congrArg (World.drewN _) (Nat.add_assoc _ _ _))⟩)))
               repeat (go_quiet (first | (go_at_call 86; (with_reducible refine (spec_l1Hex.calls kj8 (bt a0 (ji23)) t119 _ A27.out).mono ?_); rintro e w' ⟨rfl, ⟨nd, rfl⟩⟩; (try first | exact ⟨rfl, _, World.drewN_drewN _ _ _⟩ | exact ⟨rfl, _, Eq.trans (World.drewN_drewN _ _ _) (congrArg (World.drewN _) (Nat.add_assoc _ _ _))⟩); have p31 : 0 ≤ ((ji28) : Int) := ofD; have q31 : (ji28) < (a0.size : Int) := ofD; have hx31 := bt_at a0 (ji28); replace p31 := eq_true p31; replace q31 := eq_true q31) | (go_at_call 86; (with_reducible refine (spec_l1Hex.calls kj8 (bt a0 (ji28)) t120 _ A32.out).mono ?_); rintro e w' ⟨rfl, ⟨nd, rfl⟩⟩; (try first | exact ⟨rfl, _, World.drewN_drewN _ _ _⟩ | exact ⟨rfl, _, Eq.trans (World.drewN_drewN _ _ _) (congrArg (World.drewN _) (Nat.add_assoc _ _ _))⟩))); try go_wp2_with (first | (go_at_call 86; (with_reducible refine (spec_l1Hex.calls kj8 (bt a0 (ji23)) t119 _ A27.out).mono ?_); rintro e w' ⟨rfl, ⟨nd, rfl⟩⟩; (try first | exact ⟨rfl, _, World.drewN_drewN _ _ _⟩ | exact ⟨rfl, _, Eq.trans (World.drewN_drewN _ _ _) (congrArg (World.drewN _) (Nat.add_assoc _ _ _))⟩); have p31 : 0 ≤ ((ji28) : Int) := ofD; have q31 : (ji28) < (a0.size : Int) := ofD; have hx31 := bt_at a0 (ji28); replace p31 := eq_true p31; replace q31 := eq_true q31) | (go_at_call 86; (with_reducible refine (spec_l1Hex.calls kj8 (bt a0 (ji28)) t120 _ A32.out).mono ?_); rintro e w' ⟨rfl, ⟨nd, rfl⟩⟩; (try first | exact ⟨rfl, _, World.drewN_drewN _ _ _⟩ | exact ⟨rfl, _, Eq.trans (World.drewN_drewN _ _ _) (congrArg (World.drewN _) (Nat.add_assoc _ _ _))⟩))))
               go_meet
               case rel => exact ⟨_, (ji28), (wrap64 ((wrap64 (t119 * 16)) + t120)), (by first | rfl | (simp only [i64_w, i32_w]; done) | (simp only [aid_isEmpty, aid_isEmpty2]; done) | (simp; done) | ((simp only [← hji28] <;> (first | rfl | simp)); done) | (simp [*]; done)), zz0, H', ⟨(by have := HK1.out; have := HJ8.out; first | omega | exact Nat.le_refl _)⟩, ⟨(zz4 HB)⟩⟩
              ·rw [if_neg c30] at H
               exact absurd H (by simp)
             ·rw [if_neg c29] at H
              exact absurd H (by simp)
            ·rw [if_neg c25] at H
             exact absurd H (by simp)
           ·rw [if_neg c24] at H
            exact absurd H (by simp)
       ·rw [if_neg c8] at H
        have c8b0 : ((bt a0 x5_1) == 37) = false := beq_eq_false_iff_ne.mpr c8;have c8b1 : ((bt a0 x5_1) != 37) = true := bne_iff_ne.mpr c8;(first | rw [c8b0] | (simp only [i64_w, i32_w]; rw [c8b0]) | skip)
        have H' := Aside0.mk H;clear H;go_wp2
        repeat (go_quiet (fail); try go_wp2)
        go_meet
        case rel => exact ⟨_, (x5_1), (wrap64 (bt a0 x5_1)), zz0, zz0, H', ⟨(zz11 HK1)⟩, ⟨(zz4 HB)⟩⟩
      case rest =>
       clear HC7;obtain ⟨kq, x5_6, x6_6, rfl, rfl, HA, HJ6, HB⟩ := hcut;cases kq with
       | zero => exact absurd HA.out (by simp [spec_EscNorm.j2])
       | succ kj6 =>
        have H := HA.out;clear HA;simp only [spec_EscNorm.j2] at H
        replace H := bindA H;obtain ⟨t121, A33, H⟩ := H;by_cases c34 : t121 = true
        ·subst c34
         rw [if_pos rfl] at H;obtain ⟨y122, Ny122⟩ := toY (([(x6_6) % 256] : List Int));(first | with_reducible replace H := bindZ Ny122 H | rw [← Ny122.out] at H | skip)
         by_cases c35 : x4_1.size + (strOfNums y122).size ≤ 9223372036854775807
         ·rw [if_pos c35] at H
          have c35b0 := eq_true c35;have c35b1 : decide (x4_1.size + (strOfNums y122).size ≤ 9223372036854775807) = true := decide_eq_true c35;try have c35b2 : (9223372036854775807 < x4_1.size + (strOfNums y122).size) = False := eq_false (Nat.not_lt.2 c35)
          have H' := Aside0.mk H;clear H;go_wp2_with (first | (go_at_call 87; (with_reducible refine (spec_l1Plain.calls ((x6_6) % 256) true _ A33.out).mono ?_); rintro e w' ⟨rfl, ⟨nd, rfl⟩⟩; (try first | exact ⟨rfl, _, World.drewN_drewN _ _ _⟩ | exact ⟨rfl, _, Eq.trans (World.drewN_drewN _ _ _) (congrArg (World.drewN _) (Nat.add_assoc _ _ _))⟩)) | ((with_reducible refine gate_dst (N := 65) rfl ?_); refine Kd.R_lit (Kd.int .u8) _ 5 ?hg (N := 65) ?hd (xs := ([(x6_6) % 256] : List Int)) (inner := [.int .u8 ((x6_6) % 256)]) (ok := fun _ => True) (okp := fun _ => True) ?hr ?hp (fun _ hk => hk) trivial (Below.refl _ _) (Nat.le_refl _) (by simp) ?_; (case hd => rfl); (case hg => rfl); (case hr => exact zz8); (case hp => exact (Reps.one (show Kd.M (Kd.int .u8) _ _ _ ((x6_6) % 256) [.int .u8 ((x6_6) % 256)] from rfl) (Reps.none _ _))); intro v123 w36 ho37 hb hg_ hnew_; clear hg_ hnew_; (first | rw [← Ny122.out] at ho37 | (simp only [Int.reduceToNat] at ho37; rw [← Ny122.out] at ho37)); have n0_ := Aside0.mk (Kd.R_lower ho37 (below_size (zz4 HB))); have n1_ := Aside0.mk (below_step (zz4 HB) hb); clear HB; have HO124 := n0_; have HB := n1_; clear n0_ n1_; clear hb ho37; have hcv38 := own_string (P := Tryz.prog) Tryz.underlying34 Tryz.underlying5 Tryz.underlying9 (Kd.own_of_R HO124.out)))
          repeat (go_quiet (first | (go_at_call 87; (with_reducible refine (spec_l1Plain.calls ((x6_6) % 256) true _ A33.out).mono ?_); rintro e w' ⟨rfl, ⟨nd, rfl⟩⟩; (try first | exact ⟨rfl, _, World.drewN_drewN _ _ _⟩ | exact ⟨rfl, _, Eq.trans (World.drewN_drewN _ _ _) (congrArg (World.drewN _) (Nat.add_assoc _ _ _))⟩)) | ((with_reducible refine gate_dst (N := 65) rfl ?_); refine Kd.R_lit (Kd.int .u8) _ 5 ?hg (N := 65) ?hd (xs := ([(x6_6) % 256] : List Int)) (inner := [.int .u8 ((x6_6) % 256)]) (ok := fun _ => True) (okp := fun _ => True) ?hr ?hp (fun _ hk => hk) trivial (Below.refl _ _) (Nat.le_refl _) (by simp) ?_; (case hd => rfl); (case hg => rfl); (case hr => exact zz8); (case hp => exact (Reps.one (show Kd.M (Kd.int .u8) _ _ _ ((x6_6) % 256) [.int .u8 ((x6_6) % 256)] from rfl) (Reps.none _ _))); intro v123 w36 ho37 hb hg_ hnew_; clear hg_ hnew_; (first | rw [← Ny122.out] at ho37 | (simp only [Int.reduceToNat] at ho37; rw [← Ny122.out] at ho37)); have n0_ := Aside0.mk (Kd.R_lower ho37 (below_size (zz4 HB))); have n1_ := Aside0.mk (below_step (zz4 HB) hb); clear HB; have HO124 := n0_; have HB := n1_; clear n0_ n1_; clear hb ho37; have hcv38 := own_string (P := Tryz.prog) Tryz.underlying34 Tryz.underlying5 Tryz.underlying9 (Kd.own_of_R HO124.out))); try go_wp2_with (first | (go_at_call 87; (with_reducible refine (spec_l1Plain.calls ((x6_6) % 256) true _ A33.out).mono ?_); rintro e w' ⟨rfl, ⟨nd, rfl⟩⟩; (try first | exact ⟨rfl, _, World.drewN_drewN _ _ _⟩ | exact ⟨rfl, _, Eq.trans (World.drewN_drewN _ _ _) (congrArg (World.drewN _) (Nat.add_assoc _ _ _))⟩)) | ((with_reducible refine gate_dst (N := 65) rfl ?_); refine Kd.R_lit (Kd.int .u8) _ 5 ?hg (N := 65) ?hd (xs := ([(x6_6) % 256] : List Int)) (inner := [.int .u8 ((x6_6) % 256)]) (ok := fun _ => True) (okp := fun _ => True) ?hr ?hp (fun _ hk => hk) trivial (Below.refl _ _) (Nat.le_refl _) (by simp) ?_; (case hd => rfl); (case hg => rfl); (case hr => exact zz8); (case hp => exact (Reps.one (show Kd.M (Kd.int .u8) _ _ _ ((x6_6) % 256) [.int .u8 ((x6_6) % 256)] from rfl) (Reps.none _ _))); intro v123 w36 ho37 hb hg_ hnew_; clear hg_ hnew_; (first | rw [← Ny122.out] at ho37 | (simp only [Int.reduceToNat] at ho37; rw [← Ny122.out] at ho37)); have n0_ := Aside0.mk (Kd.R_lower ho37 (below_size (zz4 HB))); have n1_ := Aside0.mk (below_step (zz4 HB) hb); clear HB; have HO124 := n0_; have HB := n1_; clear n0_ n1_; clear hb ho37; have hcv38 := own_string (P := Tryz.prog) Tryz.underlying34 Tryz.underlying5 Tryz.underlying9 (Kd.own_of_R HO124.out))))
          go_roundg kj6
          case measure => have := HK1.out; have := HJ6.out; omega
          case rel => exact ⟨(x4_1 ++ (strOfNums y122)), (wrap64 (x5_6 + 1)), zz0, zz0, H', ⟨(zz26 HK1 HJ6)⟩, ⟨(zz4 HB)⟩⟩
         ·rw [if_neg c35] at H
          exact absurd H (by simp)
        ·replace c34 := Bool.eq_false_iff.mpr c34
         subst c34;rw [if_neg (show ¬ (false = true) by decide)] at H;replace H := bindA H;obtain ⟨t125, A39, H⟩ := H;by_cases c40 : x4_1.size + t125.size ≤ 9223372036854775807
         ·rw [if_pos c40] at H
          have c40b0 := eq_true c40;have c40b1 : decide (x4_1.size + t125.size ≤ 9223372036854775807) = true := decide_eq_true c40;try have c40b2 : (9223372036854775807 < x4_1.size + t125.size) = False := eq_false (Nat.not_lt.2 c40)
          have H' := Aside0.mk H;clear H;go_wp2_with (first | (go_at_call 87; (with_reducible refine (spec_l1Plain.calls ((x6_6) % 256) false _ A33.out).mono ?_); rintro e w' ⟨rfl, ⟨nd, rfl⟩⟩; (try first | exact ⟨rfl, _, World.drewN_drewN _ _ _⟩ | exact ⟨rfl, _, Eq.trans (World.drewN_drewN _ _ _) (congrArg (World.drewN _) (Nat.add_assoc _ _ _))⟩)) | (go_at_call 88; (with_reducible refine (spec_l1Sign.calls x6_6 t125 _ A39.out).mono ?_); rintro e w' ⟨rfl, ⟨nd, rfl⟩⟩; (try first | exact ⟨rfl, _, World.drewN_drewN _ _ _⟩ | exact ⟨rfl, _, Eq.trans (World.drewN_drewN _ _ _) (congrArg (World.drewN _) (Nat.add_assoc _ _ _))⟩)))
          repeat (go_quiet (first | (go_at_call 87; (with_reducible refine (spec_l1Plain.calls ((x6_6) % 256) false _ A33.out).mono ?_); rintro e w' ⟨rfl, ⟨nd, rfl⟩⟩; (try first | exact ⟨rfl, _, World.drewN_drewN _ _ _⟩ | exact ⟨rfl, _, Eq.trans (World.drewN_drewN _ _ _) (congrArg (World.drewN _) (Nat.add_assoc _ _ _))⟩)) | (go_at_call 88; (with_reducible refine (spec_l1Sign.calls x6_6 t125 _ A39.out).mono ?_); rintro e w' ⟨rfl, ⟨nd, rfl⟩⟩; (try first | exact ⟨rfl, _, World.drewN_drewN _ _ _⟩ | exact ⟨rfl, _, Eq.trans (World.drewN_drewN _ _ _) (congrArg (World.drewN _) (Nat.add_assoc _ _ _))⟩))); try go_wp2_with (first | (go_at_call 87; (with_reducible refine (spec_l1Plain.calls ((x6_6) % 256) false _ A33.out).mono ?_); rintro e w' ⟨rfl, ⟨nd, rfl⟩⟩; (try first | exact ⟨rfl, _, World.drewN_drewN _ _ _⟩ | exact ⟨rfl, _, Eq.trans (World.drewN_drewN _ _ _) (congrArg (World.drewN _) (Nat.add_assoc _ _ _))⟩)) | (go_at_call 88; (with_reducible refine (spec_l1Sign.calls x6_6 t125 _ A39.out).mono ?_); rintro e w' ⟨rfl, ⟨nd, rfl⟩⟩; (try first | exact ⟨rfl, _, World.drewN_drewN _ _ _⟩ | exact ⟨rfl, _, Eq.trans (World.drewN_drewN _ _ _) (congrArg (World.drewN _) (Nat.add_assoc _ _ _))⟩))))
          go_roundg kj6
          case measure => have := HK1.out; have := HJ6.out; omega
          case rel => exact ⟨(x4_1 ++ t125), (wrap64 (x5_6 + 1)), zz0, zz0, H', ⟨(zz26 HK1 HJ6)⟩, ⟨(zz4 HB)⟩⟩
         ·rw [if_neg c40] at H
          exact absurd H (by simp)
     ·rw [if_neg c4] at H
      exact absurd H (by simp)
    ·rw [if_neg c3] at H
     have c3b0 : decide (x5_1 < (a0.size : Int)) = false := decide_eq_false c3;clear c3;simp only [Option.some.injEq, Prod.mk.injEq] at H
     obtain ⟨rfl, rfl⟩ := H;go_wp2
     repeat (go_quiet (fail); try go_wp2)
     go_ret2
     exact ⟨zz5, (zz4 HB)⟩
def spec_l1Norm.f (k : Nat) (a0 : ByteArray) : Option (Bool) := (spec_EscNorm.f k a0).bind fun bt126 => (if bt126.2 = true then (some (bt126.1.toList == a0.toList)) else (some false))
theorem spec_l1Norm.mono : ∀ a0 k, LeO (spec_l1Norm.f k a0) (spec_l1Norm.f (k + 1) a0) := by
 intro a0 k;unfold spec_l1Norm.f
 repeat' first | (with_reducible first | exact spec_EscNorm.mono _ _ | exact LeO.refl _ | exact LeO.none _ | refine LeO.ite ?_ ?_ | refine LeO.bind ?_ (fun _ => ?_)) | exact LeO.none _ | refine LeO.ite ?_ ?_ | refine LeO.bind ?_ (fun _ => ?_)
set_option maxHeartbeats 8000000 in
set_option maxRecDepth 100000 in
theorem spec_l1Norm.calls (k : Nat) (a0 : ByteArray) (r : Bool) (w : World) (h : spec_l1Norm.f k a0 = some r) :
  Calls Tryz.prog 43 #[.string a0] w fun e w' => e = .returned (.bool r) ∧ Below w.heap.size w w' := by
 have HB := Aside0.mk (Below.refl w.heap.size w);have H : ((spec_EscNorm.f k a0).bind fun bt126 => (if bt126.2 = true then (some (bt126.1.toList == a0.toList)) else (some false))) = some r := h;clear h;replace H := bindA H;obtain ⟨⟨t126, t127⟩, A2, H⟩ := H;try dsimp -simprocs only at H
 by_cases c3 : t127 = true
 ·subst c3
  rw [if_pos rfl] at H;obtain rfl := Option.some.inj H;go_enter Tryz.func43, Tryz.ntmps43;go_wp2_with (first | ((with_reducible refine gate_callee (f := 67) rfl ?_); refine gsL (some 7) Tryz.func67 #[.string a0] ?_; (with_reducible refine (spec_EscNorm.calls k a0 t126 true _ A2.out).mono ?_); rintro e w4 ⟨rfl, hb⟩; refine ⟨_, rfl, ?_⟩; have n0_ := Aside0.mk (below_step (zz4 HB) hb); clear HB; have HB := n0_; clear n0_; (try clear hb)))
  go_ret
  exact ⟨zz5, (zz4 HB)⟩
 ·replace c3 := Bool.eq_false_iff.mpr c3
  subst c3;rw [if_neg (show ¬ (false = true) by decide)] at H;obtain rfl := Option.some.inj H;go_enter Tryz.func43, Tryz.ntmps43;go_wp2_with (first | ((with_reducible refine gate_callee (f := 67) rfl ?_); refine gsL (some 7) Tryz.func67 #[.string a0] ?_; (with_reducible refine (spec_EscNorm.calls k a0 t126 false _ A2.out).mono ?_); rintro e w5 ⟨rfl, hb⟩; refine ⟨_, rfl, ?_⟩; have n0_ := Aside0.mk (below_step (zz4 HB) hb); clear HB; have HB := n0_; clear n0_; (try clear hb)))
  go_ret
  exact ⟨zz5, (zz4 HB)⟩
def spec_l1Path.l0 : Nat → ByteArray → Int → ByteArray → List ByteArray → Bool → ByteArray → Option (ByteArray)
 | 0, _, _, _, _, _, _ => none
 | k + 1, x3, x4, x129000, x129001, x129002, x129003 => if x4 < (x129001.length : Int) then (if x4 > 0 then (if x3.size + 1 ≤ 9223372036854775807 then (if 0 ≤ x4 then (if x3.size + 1 + (rdOf ByteArray.empty x129001 x4).size ≤ 9223372036854775807 then (spec_l1Path.l0 k ((x3 ++ (⟨#[47]⟩ : ByteArray)) ++ (rdOf ByteArray.empty x129001 x4)) (wrap64 (x4 + 1)) x129000 x129001 x129002 x129003) else (none)) else (none)) else (none)) else (if 0 ≤ x4 then (if x3.size + (rdOf ByteArray.empty x129001 x4).size ≤ 9223372036854775807 then (spec_l1Path.l0 k (x3 ++ (rdOf ByteArray.empty x129001 x4)) (wrap64 (x4 + 1)) x129000 x129001 x129002 x129003) else (none)) else (none))) else (if x129002 = true then (if x3.size + 1 ≤ 9223372036854775807 then (if x3.size + 1 + x129003.size ≤ 9223372036854775807 then (some ((x3 ++ (⟨#[63]⟩ : ByteArray)) ++ x129003)) else (none)) else (none)) else (some x3))
def spec_l1Path.f (k : Nat) (a0_0 : ByteArray) (l0_1 : List ByteArray) (a0_2 : Bool) (a0_3 : ByteArray) : Option (ByteArray) := spec_l1Path.l0 k (⟨#[47]⟩ : ByteArray) 0 a0_0 l0_1 a0_2 a0_3
theorem spec_l1Path.mono_l : ∀ k, (∀ y0 y1 y2 y3 y4 y5, LeO (spec_l1Path.l0 k y0 y1 y2 y3 y4 y5) (spec_l1Path.l0 (k + 1) y0 y1 y2 y3 y4 y5))
 | 0 => fun _ _ _ _ _ _ r h => by simp [spec_l1Path.l0] at h
 | k + 1 => by
  have ih0 := spec_l1Path.mono_l k
  ·intro y0 y1 y2 y3 y4 y5
   unfold spec_l1Path.l0
   repeat' first | (with_reducible first | exact ih0 _ _ _ _ _ _ | exact LeO.refl _ | exact LeO.none _ | refine LeO.ite ?_ ?_ | refine LeO.bind ?_ (fun _ => ?_)) | exact LeO.none _ | refine LeO.ite ?_ ?_ | refine LeO.bind ?_ (fun _ => ?_)
theorem spec_l1Path.mono : ∀ a0 a1 a2 a3 k, LeO (spec_l1Path.f k a0 a1 a2 a3) (spec_l1Path.f (k + 1) a0 a1 a2 a3) := by
 intro a0 a1 a2 a3 k;have ih0 := spec_l1Path.mono_l k;unfold spec_l1Path.f
 repeat' first | (with_reducible first | exact ih0 _ _ _ _ _ _ | exact LeO.refl _ | exact LeO.none _ | refine LeO.ite ?_ ?_ | refine LeO.bind ?_ (fun _ => ?_)) | exact LeO.none _ | refine LeO.ite ?_ ?_ | refine LeO.bind ?_ (fun _ => ?_)
set_option maxHeartbeats 8000000 in
set_option maxRecDepth 100000 in
theorem spec_l1Path.calls (k : Nat) (a0_0 : ByteArray) (A0_1 : Option Addr) (c0_1 : Nat) (l0_1 : List ByteArray) (a0_2 : Bool) (a0_3 : ByteArray) (r : ByteArray) (w : World) (hr0_1 : Kd.C Kd.string w A0_1 l0_1.length l0_1) (hc0_1 : l0_1.length ≤ c0_1) (h : spec_l1Path.f k a0_0 l0_1 a0_2 a0_3 = some r) :
  Calls Tryz.prog 68 #[.agg #[.string a0_0, .slice A0_1 l0_1.length c0_1, .bool a0_2, .string a0_3]] w fun e w' => e = .returned (.string r) ∧ Below w.heap.size w w' := by
 have hu27 := Tryz.underlying27;have HR0_1 := Aside0.mk hr0_1;have HC0_1 := Aside0.mk hc0_1;clear hr0_1 hc0_1;have HB := Aside0.mk (Below.refl w.heap.size w);have H : (spec_l1Path.l0 k (⟨#[47]⟩ : ByteArray) 0 a0_0 l0_1 a0_2 a0_3) = some r := h;clear h;have H' := Aside0.mk H;clear H;go_enter Tryz.func68, Tryz.ntmps68;go_wp2_with (first | ((with_reducible refine gate_dst (N := 1) rfl ?_); refine boxE 1 #[.string a0_0, .slice A0_1 l0_1.length c0_1, .bool a0_2, .string a0_3] 27 ?_; intro gb128 hg w2 hbox hb; have n0_ := Aside0.mk (below_step (zz4 HB) hb); have n1_ := Aside0.mk (hbox); have n2_ := Aside0.mk ((by rw [hg]; exact (below_size (zz4 HB)) : w.heap.size ≤ gb128)); have n3_ := Aside0.mk ((by rw [hg]; exact (below_size (zz4 HB)) : w.heap.size ≤ gb128)); clear HB; have HB := n0_; have BK128 := n1_; have GW128 := n2_; have GE128 := n3_; clear n0_ n1_ n2_ n3_; clear hb hbox hg))
 go_loopg [3, 4] k (fun kq v3 v4 w' => ∃ (x3_1 : ByteArray) (x4_1 : Int), v3 = .string x3_1 ∧ v4 = .int .i64 x4_1 ∧ Aside0 (spec_l1Path.l0 kq x3_1 x4_1 a0_0 l0_1 a0_2 a0_3 = some r) ∧ Aside0 (kq ≤ k) ∧ Aside0 (w'.heap[gb128]? = some (.cells #[.string a0_0, (.slice A0_1 l0_1.length c0_1), .bool a0_2, .string a0_3] 27 (0, 0))) ∧ Aside0 (Below w.heap.size w w'))
 case atStart => exact ⟨((⟨#[47]⟩ : ByteArray)), (0), zz0, zz0, H', ⟨Nat.le_refl _⟩, ⟨(zz27 BK128)⟩, ⟨(zz6 HB GE128)⟩⟩
 case round =>
  clear H';obtain ⟨x3_1, x4_1, rfl, rfl, HA, HK1, BK128, HB⟩ := hrel;cases gk with
  | zero => exact absurd HA.out (by simp [spec_l1Path.l0])
  | succ k1 =>
   have H := HA.out;clear HA;simp only [spec_l1Path.l0] at H
   by_cases c3 : x4_1 < (l0_1.length : Int)
   ·rw [if_pos c3] at H
    have c3b0 : decide (x4_1 < (l0_1.length : Int)) = true := decide_eq_true c3;clear c3;by_cases c4 : x4_1 > 0
    ·rw [if_pos c4] at H
     have c4b0 : decide (0 < x4_1) = true := decide_eq_true c4;clear c4;by_cases c5 : x3_1.size + 1 ≤ 9223372036854775807
     ·rw [if_pos c5] at H
      have c5b0 := eq_true c5;have c5b1 : decide (x3_1.size + 1 ≤ 9223372036854775807) = true := decide_eq_true c5;try have c5b2 : (9223372036854775807 < x3_1.size + 1) = False := eq_false (Nat.not_lt.2 c5)
      by_cases c6 : 0 ≤ x4_1
      ·rw [if_pos c6] at H
       have c6b0 : decide (0 ≤ x4_1) = true := decide_eq_true c6;clear c6;by_cases c7 : x3_1.size + 1 + (rdOf ByteArray.empty l0_1 x4_1).size ≤ 9223372036854775807
       ·rw [if_pos c7] at H
        have c7b0 := eq_true c7;have c7b1 : decide (x3_1.size + 1 + (rdOf ByteArray.empty l0_1 x4_1).size ≤ 9223372036854775807) = true := decide_eq_true c7;try have c7b2 : (9223372036854775807 < x3_1.size + 1 + (rdOf ByteArray.empty l0_1 x4_1).size) = False := eq_false (Nat.not_lt.2 c7)
        have H' := Aside0.mk H;clear H;obtain ⟨_, _, _, _, _, _, _, _⟩ := cf4 BK128;have p129 : 0 ≤ (x4_1 : Int) := ofD;have q129 : x4_1 < (l0_1.length : Int) := ofD;obtain ⟨ad129, e129, hx129_0⟩ := Kd.at_string HR0_1.out x4_1 p129 q129;cases e129
        replace hx129_0 := (HB.out.cell (World.block_lt_of_cell? w _ hx129_0)).trans hx129_0;replace p129 := eq_true p129;replace q129 := eq_true q129;go_wp2
        go_roundg k1
        case measure => have := HK1.out; omega
        case rel => exact ⟨((x3_1 ++ (⟨#[47]⟩ : ByteArray)) ++ (rdOf ByteArray.empty l0_1 x4_1)), (wrap64 (x4_1 + 1)), zz0, zz0, H', ⟨(zz3 HK1)⟩, ⟨(zz27 BK128)⟩, ⟨(zz6 HB GE128)⟩⟩
       ·rw [if_neg c7] at H
        exact absurd H (by simp)
      ·rw [if_neg c6] at H
       exact absurd H (by simp)
     ·rw [if_neg c5] at H
      exact absurd H (by simp)
    ·rw [if_neg c4] at H
     have c4b0 : decide (0 < x4_1) = false := decide_eq_false c4;clear c4;by_cases c9 : 0 ≤ x4_1
     ·rw [if_pos c9] at H
      have c9b0 : decide (0 ≤ x4_1) = true := decide_eq_true c9;clear c9;by_cases c10 : x3_1.size + (rdOf ByteArray.empty l0_1 x4_1).size ≤ 9223372036854775807
      ·rw [if_pos c10] at H
       have c10b0 := eq_true c10;have c10b1 : decide (x3_1.size + (rdOf ByteArray.empty l0_1 x4_1).size ≤ 9223372036854775807) = true := decide_eq_true c10;try have c10b2 : (9223372036854775807 < x3_1.size + (rdOf ByteArray.empty l0_1 x4_1).size) = False := eq_false (Nat.not_lt.2 c10)
       have H' := Aside0.mk H;clear H;obtain ⟨_, _, _, _, _, _, _, _⟩ := cf4 BK128;have p130 : 0 ≤ (x4_1 : Int) := ofD;have q130 : x4_1 < (l0_1.length : Int) := ofD;obtain ⟨ad130, e130, hx130_0⟩ := Kd.at_string HR0_1.out x4_1 p130 q130;cases e130
       replace hx130_0 := (HB.out.cell (World.block_lt_of_cell? w _ hx130_0)).trans hx130_0;replace p130 := eq_true p130;replace q130 := eq_true q130;go_wp2
       go_roundg k1
       case measure => have := HK1.out; omega
       case rel => exact ⟨(x3_1 ++ (rdOf ByteArray.empty l0_1 x4_1)), (wrap64 (x4_1 + 1)), zz0, zz0, H', ⟨(zz3 HK1)⟩, ⟨(zz27 BK128)⟩, ⟨(zz6 HB GE128)⟩⟩
      ·rw [if_neg c10] at H
       exact absurd H (by simp)
     ·rw [if_neg c9] at H
      exact absurd H (by simp)
   ·rw [if_neg c3] at H
    have c3b0 : decide (x4_1 < (l0_1.length : Int)) = false := decide_eq_false c3;clear c3;by_cases c12 : a0_2 = true
    ·subst c12
     rw [if_pos rfl] at H;by_cases c13 : x3_1.size + 1 ≤ 9223372036854775807
     ·rw [if_pos c13] at H
      have c13b0 := eq_true c13;have c13b1 : decide (x3_1.size + 1 ≤ 9223372036854775807) = true := decide_eq_true c13;try have c13b2 : (9223372036854775807 < x3_1.size + 1) = False := eq_false (Nat.not_lt.2 c13)
      by_cases c14 : x3_1.size + 1 + a0_3.size ≤ 9223372036854775807
      ·rw [if_pos c14] at H
       have c14b0 := eq_true c14;have c14b1 : decide (x3_1.size + 1 + a0_3.size ≤ 9223372036854775807) = true := decide_eq_true c14;try have c14b2 : (9223372036854775807 < x3_1.size + 1 + a0_3.size) = False := eq_false (Nat.not_lt.2 c14)
       obtain rfl := Option.some.inj H;obtain ⟨_, _, _, _, _, _, _, _⟩ := cf4 BK128;go_wp2
       go_ret
       exact ⟨zz5, (zz6 HB GE128)⟩
      ·rw [if_neg c14] at H
       exact absurd H (by simp)
     ·rw [if_neg c13] at H
      exact absurd H (by simp)
    ·replace c12 := Bool.eq_false_iff.mpr c12
     subst c12;rw [if_neg (show ¬ (false = true) by decide)] at H;obtain rfl := Option.some.inj H;obtain ⟨_, _, _, _, _, _, _, _⟩ := cf4 BK128;go_wp2
     go_ret
     exact ⟨zz5, (zz6 HB GE128)⟩
def spec_l1Text.f (k : Nat) (a0_0 : ByteArray) (l0_1 : List ByteArray) (a0_2 : Bool) (a0_3 : ByteArray) : Option (ByteArray) := if 2 + a0_0.size ≤ 9223372036854775807 then ((spec_l1Path.f k a0_0 l0_1 a0_2 a0_3).bind fun t132 => (if 2 + a0_0.size + t132.size ≤ 9223372036854775807 then (some (((⟨#[47, 47]⟩ : ByteArray) ++ a0_0) ++ t132)) else (none))) else (none)
theorem spec_l1Text.mono : ∀ a0 a1 a2 a3 k, LeO (spec_l1Text.f k a0 a1 a2 a3) (spec_l1Text.f (k + 1) a0 a1 a2 a3) := by
 intro a0 a1 a2 a3 k;unfold spec_l1Text.f
 repeat' first | (with_reducible first | exact spec_l1Path.mono _ _ _ _ _ | exact LeO.refl _ | exact LeO.none _ | refine LeO.ite ?_ ?_ | refine LeO.bind ?_ (fun _ => ?_)) | exact LeO.none _ | refine LeO.ite ?_ ?_ | refine LeO.bind ?_ (fun _ => ?_)
set_option maxHeartbeats 8000000 in
set_option maxRecDepth 100000 in
theorem spec_l1Text.calls (k : Nat) (a0_0 : ByteArray) (A0_1 : Option Addr) (c0_1 : Nat) (l0_1 : List ByteArray) (a0_2 : Bool) (a0_3 : ByteArray) (r : ByteArray) (w : World) (hr0_1 : Kd.C Kd.string w A0_1 l0_1.length l0_1) (hc0_1 : l0_1.length ≤ c0_1) (h : spec_l1Text.f k a0_0 l0_1 a0_2 a0_3 = some r) :
  Calls Tryz.prog 44 #[.agg #[.string a0_0, .slice A0_1 l0_1.length c0_1, .bool a0_2, .string a0_3]] w fun e w' => e = .returned (.string r) ∧ Below w.heap.size w w' := by
 have hu27 := Tryz.underlying27;have HR0_1 := Aside0.mk hr0_1;have HC0_1 := Aside0.mk hc0_1;clear hr0_1 hc0_1;have HB := Aside0.mk (Below.refl w.heap.size w);have H : (if 2 + a0_0.size ≤ 9223372036854775807 then ((spec_l1Path.f k a0_0 l0_1 a0_2 a0_3).bind fun t132 => (if 2 + a0_0.size + t132.size ≤ 9223372036854775807 then (some (((⟨#[47, 47]⟩ : ByteArray) ++ a0_0) ++ t132)) else (none))) else (none)) = some r := h;clear h;by_cases c2 : 2 + a0_0.size ≤ 9223372036854775807
 ·rw [if_pos c2] at H
  have c2b0 := eq_true c2;have c2b1 : decide (2 + a0_0.size ≤ 9223372036854775807) = true := decide_eq_true c2;try have c2b2 : (9223372036854775807 < 2 + a0_0.size) = False := eq_false (Nat.not_lt.2 c2)
  replace H := bindA H;obtain ⟨t132, A3, H⟩ := H;by_cases c4 : 2 + a0_0.size + t132.size ≤ 9223372036854775807
  ·rw [if_pos c4] at H
   have c4b0 := eq_true c4;have c4b1 : decide (2 + a0_0.size + t132.size ≤ 9223372036854775807) = true := decide_eq_true c4;try have c4b2 : (9223372036854775807 < 2 + a0_0.size + t132.size) = False := eq_false (Nat.not_lt.2 c4)
   obtain rfl := Option.some.inj H;go_enter Tryz.func44, Tryz.ntmps44;try go_wp2_with (first | ((with_reducible refine gate_dst (N := 1) rfl ?_); refine boxE 1 #[.string a0_0, .slice A0_1 l0_1.length c0_1, .bool a0_2, .string a0_3] 27 ?_; intro gb131 hg w5 hbox hb; have n0_ := Aside0.mk (below_step (zz4 HB) hb); have n1_ := Aside0.mk (hbox); have n2_ := Aside0.mk ((by rw [hg]; exact (below_size (zz4 HB)) : w.heap.size ≤ gb131)); have n3_ := Aside0.mk ((by rw [hg]; exact (below_size (zz4 HB)) : w.heap.size ≤ gb131)); clear HB; have HB := n0_; have BK131 := n1_; have GW131 := n2_; have GE131 := n3_; clear n0_ n1_ n2_ n3_; clear hb hbox hg))
   have n0_ := Aside0.mk (blk_drew BK131.out);have n1_ := Aside0.mk (below_drew1 HB.out);clear BK131;clear HB;have BK131 := n0_;have HB := n1_;clear n0_ n1_;refine start_ (n := 7) (S := fun w' => w'.cell? ⟨gb131, 0, none⟩ = some (.string a0_0) ∧ w'.cell? ⟨gb131, 1, none⟩ = some (.slice A0_1 l0_1.length c0_1) ∧ w'.cell? ⟨gb131, 2, none⟩ = some (.bool a0_2) ∧ w'.cell? ⟨gb131, 3, none⟩ = some (.string a0_3)) (ds := []) #[false, false, false, false, false, false, false] (by kernel_rfl) rfl rfl ⟨(blk_cell BK131.out 0).trans rfl, (blk_cell BK131.out 1).trans rfl, (blk_cell BK131.out 2).trans rfl, (blk_cell BK131.out 3).trans rfl⟩ (fun hHeld => ?_);generalize w5.drew = w6 at BK131 HB hHeld ⊢;refine pure_ (i := 0) (N := some 3) (v := ?_) (a' := ?_) #[true, false, false, false, false, false, false] rfl rfl (by kernel_rfl) (fun _ _ _ h => h) (Or.inl ⟨by rfl, ?_⟩) ?_ ?_;rotate_left
   ·intro w'
    go_simp
    with_reducible rfl
   rotate_left
   ·simp only [Act.put, List.setIfInBounds_toArray, List.set_cons_zero, List.set_cons_succ, i64_w, i32_w]
    rfl
   refine take_ (i := 1) (N := some 4) (v := ?_) (a' := ?_) #[true, true, false, false, false, false, false] rfl rfl (by kernel_rfl) (fun _ _ _ h => h) (Or.inl ⟨by rfl, ?_⟩) hHeld ?_ ?_;rotate_left
   ·rintro w' ⟨s0, s1, s2, s3⟩
    go_simp
    with_reducible rfl
   rotate_left
   ·simp only [Act.put, List.setIfInBounds_toArray, List.set_cons_zero, List.set_cons_succ, i64_w, i32_w]
    rfl
   refine pure_ (i := 2) (N := some 5) (v := ?_) (a' := ?_) #[true, true, true, false, false, false, false] rfl rfl (by kernel_rfl) (fun _ _ _ h => h) (Or.inl ⟨by rfl, ?_⟩) ?_ ?_;rotate_left
   ·intro w'
    go_simp
    with_reducible rfl
   rotate_left
   ·simp only [Act.put, List.setIfInBounds_toArray, List.set_cons_zero, List.set_cons_succ, i64_w, i32_w]
    rfl
   refine take_ (i := 3) (N := some 6) (v := ?_) (a' := ?_) #[true, true, true, true, false, false, false] rfl rfl (by kernel_rfl) (fun _ _ _ h => h) (Or.inl ⟨by rfl, ?_⟩) hHeld ?_ ?_;rotate_left
   ·rintro w' ⟨s0, s1, s2, s3⟩
    go_simp
    with_reducible rfl
   rotate_left
   ·simp only [Act.put, List.setIfInBounds_toArray, List.set_cons_zero, List.set_cons_succ, i64_w, i32_w]
    rfl
   refine one_ (i := 4) (N := some 7) #[true, true, true, true, true, false, false] rfl rfl (by kernel_rfl) (by decide) (fun K hK => ?_);refine goes_ Tryz.func68 (by kernel_rfl) rfl #[.agg #[.string a0_0, .slice A0_1 l0_1.length c0_1, .bool a0_2, .string a0_3]] (by rfl) rfl rfl zz29 ?_;with_reducible refine (spec_l1Path.calls k a0_0 _ _ l0_1 a0_2 a0_3 t132 _ ?side1 ?side2 A3.out).mono ?_
   (case side1 => exact (zz7 HR0_1 HB))
   (case side2 => exact HC0_1.out)
   rintro e w7 ⟨rfl, hb⟩;refine ⟨_, rfl, ?_⟩;have n0_ := Aside0.mk (blk_below (zz27 BK131) hb);have n1_ := Aside0.mk (below_step (zz6 HB GE131) hb);clear BK131;clear HB;have BK131 := n0_;have HB := n1_;clear n0_ n1_;(try clear hb)
   (try clear hb2)
   (try clear hk)
   (try clear hi)
   refine hK.out _ _ ⟨(blk_cell BK131.out 0).trans rfl, (blk_cell BK131.out 1).trans rfl, (blk_cell BK131.out 2).trans rfl, (blk_cell BK131.out 3).trans rfl⟩ (fun hHeld => ?_);clear hK K;refine norm_ (a' := ?_) ?_ ?_;rotate_left
   ·show Act.put _ (some 7) _ = _
    simp only [Act.put, List.setIfInBounds_toArray, List.set_cons_zero, List.set_cons_succ, i64_w, i32_w]
    rfl
   refine pure_ (i := 5) (N := some 8) (v := ?_) (a' := ?_) #[true, true, true, true, true, true, false] rfl rfl (by kernel_rfl) (fun _ _ _ h => h) (Or.inl ⟨by rfl, ?_⟩) ?_ ?_;rotate_left
   ·intro w'
    go_simp
    with_reducible rfl
   rotate_left
   ·simp only [Act.put, List.setIfInBounds_toArray, List.set_cons_zero, List.set_cons_succ, i64_w, i32_w]
    rfl
   refine pure_ (i := 6) (N := some 2) (v := ?_) (a' := ?_) #[true, true, true, true, true, true, true] rfl rfl (by kernel_rfl) (fun _ _ _ h => h) (Or.inl ⟨by rfl, ?_⟩) ?_ ?_;rotate_left
   ·intro w'
    go_simp
    with_reducible rfl
   rotate_left
   ·simp only [Act.put, List.setIfInBounds_toArray, List.set_cons_zero, List.set_cons_succ, i64_w, i32_w]
    rfl
   refine done_ (by kernel_rfl) ?_;try go_wp2
   go_ret
   exact ⟨zz5, (zz6 HB GE131)⟩
  ·rw [if_neg c4] at H
   exact absurd H (by simp)
 ·rw [if_neg c2] at H
  exact absurd H (by simp)
mutual
def spec_AddrOk.j0 : Nat → Bool → ByteArray → List ByteArray → Bool → ByteArray → Option (Bool)
 | 0, _, _, _, _, _ => none
 | k + 1, x29, x134000, x134001, x134002, x134003 => if x29 = true then (some false) else (spec_AddrOk.l0 k 0 x134000 x134001 x134002 x134003)
def spec_AddrOk.l0 : Nat → Int → ByteArray → List ByteArray → Bool → ByteArray → Option (Bool)
 | 0, _, _, _, _, _ => none
 | k + 1, x3, x134000, x134001, x134002, x134003 => if x3 < (x134001.length : Int) then (if 0 ≤ x3 then ((spec_l1Norm.f k (rdOf ByteArray.empty x134001 x3)).bind fun t137 => (if t137 = true then (if (rdOf ByteArray.empty x134001 x3).toList = ([] : List UInt8) then (some false) else (if (rdOf ByteArray.empty x134001 x3).toList = ([46] : List UInt8) then (some false) else (if (rdOf ByteArray.empty x134001 x3).toList = ([46, 46] : List UInt8) then (some false) else (spec_AddrOk.l0 k (wrap64 (x3 + 1)) x134000 x134001 x134002 x134003)))) else (some false))) else (none)) else ((spec_l1Text.f k x134000 x134001 x134002 x134003).bind fun t141 => (some (decide ((t141.size : Int) ≤ 60))))
end
def spec_AddrOk.f (k : Nat) (a0_0 : ByteArray) (l0_1 : List ByteArray) (a0_2 : Bool) (a0_3 : ByteArray) : Option (Bool) := (spec_l1House.f k a0_0).bind fun t134 => (if t134 = true then (if (l0_1.length : Int) > 5 then (spec_AddrOk.j0 k true a0_0 l0_1 a0_2 a0_3) else ((spec_l1Norm.f k a0_3).bind fun t135 => (if t135 = true then (if a0_2 = true then (spec_AddrOk.j0 k false a0_0 l0_1 a0_2 a0_3) else (spec_AddrOk.j0 k (a0_3.toList != ([] : List UInt8)) a0_0 l0_1 a0_2 a0_3)) else (spec_AddrOk.j0 k true a0_0 l0_1 a0_2 a0_3)))) else (spec_AddrOk.j0 k true a0_0 l0_1 a0_2 a0_3))
theorem spec_AddrOk.mono_l : ∀ k, (∀ y0 y1 y2 y3 y4, LeO (spec_AddrOk.j0 k y0 y1 y2 y3 y4) (spec_AddrOk.j0 (k + 1) y0 y1 y2 y3 y4)) ∧ (∀ y0 y1 y2 y3 y4, LeO (spec_AddrOk.l0 k y0 y1 y2 y3 y4) (spec_AddrOk.l0 (k + 1) y0 y1 y2 y3 y4))
 | 0 => ⟨fun _ _ _ _ _ r h => by simp [spec_AddrOk.j0] at h, fun _ _ _ _ _ r h => by simp [spec_AddrOk.l0] at h⟩
 | k + 1 => by
  obtain ⟨ih0, ih1⟩ := spec_AddrOk.mono_l k;refine ⟨?_, ?_⟩
  ·intro y0 y1 y2 y3 y4
   unfold spec_AddrOk.j0
   repeat' first | (with_reducible first | exact ih0 _ _ _ _ _ | exact ih1 _ _ _ _ _ | exact spec_l1House.mono _ _ | exact spec_l1Norm.mono _ _ | exact spec_l1Text.mono _ _ _ _ _ | exact LeO.refl _ | exact LeO.none _ | refine LeO.ite ?_ ?_ | refine LeO.bind ?_ (fun _ => ?_)) | exact LeO.none _ | refine LeO.ite ?_ ?_ | refine LeO.bind ?_ (fun _ => ?_)
  ·intro y0 y1 y2 y3 y4
   unfold spec_AddrOk.l0
   repeat' first | (with_reducible first | exact ih0 _ _ _ _ _ | exact ih1 _ _ _ _ _ | exact spec_l1House.mono _ _ | exact spec_l1Norm.mono _ _ | exact spec_l1Text.mono _ _ _ _ _ | exact LeO.refl _ | exact LeO.none _ | refine LeO.ite ?_ ?_ | refine LeO.bind ?_ (fun _ => ?_)) | exact LeO.none _ | refine LeO.ite ?_ ?_ | refine LeO.bind ?_ (fun _ => ?_)
set_option maxHeartbeats 8000000 in
set_option maxRecDepth 100000 in
theorem spec_AddrOk.calls (k : Nat) (a0_0 : ByteArray) (A0_1 : Option Addr) (c0_1 : Nat) (l0_1 : List ByteArray) (a0_2 : Bool) (a0_3 : ByteArray) (r : Bool) (w : World) (hr0_1 : Kd.C Kd.string w A0_1 l0_1.length l0_1) (hc0_1 : l0_1.length ≤ c0_1) (h : spec_AddrOk.f k a0_0 l0_1 a0_2 a0_3 = some r) :
  Calls Tryz.prog 20 #[.agg #[.string a0_0, .slice A0_1 l0_1.length c0_1, .bool a0_2, .string a0_3]] w fun e w' => e = .returned (.bool r) ∧ Below w.heap.size w w' := by
 have hu27 := Tryz.underlying27;have HR0_1 := Aside0.mk hr0_1;have HC0_1 := Aside0.mk hc0_1;clear hr0_1 hc0_1;have HB := Aside0.mk (Below.refl w.heap.size w);have H : ((spec_l1House.f k a0_0).bind fun t134 => (if t134 = true then (if (l0_1.length : Int) > 5 then (spec_AddrOk.j0 k true a0_0 l0_1 a0_2 a0_3) else ((spec_l1Norm.f k a0_3).bind fun t135 => (if t135 = true then (if a0_2 = true then (spec_AddrOk.j0 k false a0_0 l0_1 a0_2 a0_3) else (spec_AddrOk.j0 k (a0_3.toList != ([] : List UInt8)) a0_0 l0_1 a0_2 a0_3)) else (spec_AddrOk.j0 k true a0_0 l0_1 a0_2 a0_3)))) else (spec_AddrOk.j0 k true a0_0 l0_1 a0_2 a0_3))) = some r := h;clear h;have HC2 := Aside0.mk H;clear H;go_enter Tryz.func20, Tryz.ntmps20;go_upto_region 1 with (first | ((with_reducible refine gate_dst (N := 1) rfl ?_); (try (refine gate_guard (by rfl) ?_; dsimp only)); refine boxE 1 #[.string a0_0, .slice A0_1 l0_1.length c0_1, .bool a0_2, .string a0_3] 27 ?_; intro gb133 hg w3 hbox hb; have n0_ := Aside0.mk (below_step (zz4 HB) hb); have n1_ := Aside0.mk (hbox); have n2_ := Aside0.mk ((by rw [hg]; exact (below_size (zz4 HB)) : w.heap.size ≤ gb133)); have n3_ := Aside0.mk ((by rw [hg]; exact (below_size (zz4 HB)) : w.heap.size ≤ gb133)); clear HB; have HB := n0_; have BK133 := n1_; have GW133 := n2_; have GE133 := n3_; clear n0_ n1_ n2_ n3_; clear hb hbox hg))
 (try simp only [Act.put, List.setIfInBounds_toArray, List.set_cons_zero, List.set_cons_succ])
 go_cut [29] (fun v29 wc => ∃ (kq : Nat) (x29_1 : Bool), v29 = .bool x29_1 ∧ Aside0 (spec_AddrOk.j0 kq x29_1 a0_0 l0_1 a0_2 a0_3 = some r) ∧ Aside0 (kq ≤ k) ∧ Aside0 (wc.heap[gb133]? = some (.cells #[.string a0_0, (.slice A0_1 l0_1.length c0_1), .bool a0_2, .string a0_3] 27 (0, 0))) ∧ Aside0 (Below w.heap.size w wc))
 case first =>
  have H := HC2.out;clear HC2;replace H := bindA H;obtain ⟨t134, A4, H⟩ := H;by_cases c5 : t134 = true
  ·subst c5
   rw [if_pos rfl] at H;by_cases c6 : (l0_1.length : Int) > 5
   ·rw [if_pos c6] at H
    have c6b0 : decide (5 < (l0_1.length : Int)) = true := decide_eq_true c6;have c6b1 : decide (5 < l0_1.length) = true := decide_eq_true (by omega);clear c6;(first | rw [c6b0] | (simp only [i64_w, i32_w]; rw [c6b0]) | skip)
    have H' := Aside0.mk H;clear H;obtain ⟨_, _, _, _, _, _, _, _⟩ := cf4 BK133;go_wp2_with (first | ((with_reducible refine gate_callee (f := 42) rfl ?_); refine gsL (some 6) Tryz.func42 #[.string a0_0] ?_; (with_reducible refine (spec_l1House.calls k a0_0 true _ A4.out).mono ?_); rintro e w' ⟨rfl, ⟨nd, rfl⟩⟩; refine ⟨_, rfl, ?_⟩))
    go_meet
    case rel => exact ⟨_, (true), zz0, H', ⟨zz18⟩, ⟨(zz27 BK133)⟩, ⟨(zz6 HB GE133)⟩⟩
   ·rw [if_neg c6] at H
    have c6b0 : decide (5 < (l0_1.length : Int)) = false := decide_eq_false c6;have c6b1 : decide (5 < l0_1.length) = false := decide_eq_false (by omega);clear c6;(first | rw [c6b0] | (simp only [i64_w, i32_w]; rw [c6b0]) | skip)
    replace H := bindA H;obtain ⟨t135, A8, H⟩ := H;by_cases c9 : t135 = true
    ·subst c9
     rw [if_pos rfl] at H;by_cases c10 : a0_2 = true
     ·subst c10
      rw [if_pos rfl] at H;have H' := Aside0.mk H;clear H;obtain ⟨_, _, _, _, _, _, _, _⟩ := cf4 BK133;go_wp2_with (first | ((with_reducible refine gate_callee (f := 42) rfl ?_); refine gsL (some 6) Tryz.func42 #[.string a0_0] ?_; (with_reducible refine (spec_l1House.calls k a0_0 true _ A4.out).mono ?_); rintro e w' ⟨rfl, ⟨nd, rfl⟩⟩; refine ⟨_, rfl, ?_⟩) | (go_at_call 43; (with_reducible refine (spec_l1Norm.calls k a0_3 true _ A8.out).mono ?_); rintro e w12 ⟨rfl, hb⟩; have n0_ := Aside0.mk (blk_below (zz27 BK133) hb); have n1_ := Aside0.mk (below_step (zz6 HB GE133) hb); clear BK133; clear HB; have BK133 := n0_; have HB := n1_; clear n0_ n1_; (try clear hb); obtain ⟨_, _, _, _, _, _, _, _⟩ := cf4 BK133))
      go_meet
      case rel => exact ⟨_, (false), zz0, H', ⟨zz18⟩, ⟨(zz27 BK133)⟩, ⟨(zz6 HB GE133)⟩⟩
     ·replace c10 := Bool.eq_false_iff.mpr c10
      subst c10;rw [if_neg (show ¬ (false = true) by decide)] at H;have H' := Aside0.mk H;clear H;obtain ⟨_, _, _, _, _, _, _, _⟩ := cf4 BK133;go_wp2_with (first | ((with_reducible refine gate_callee (f := 42) rfl ?_); refine gsL (some 6) Tryz.func42 #[.string a0_0] ?_; (with_reducible refine (spec_l1House.calls k a0_0 true _ A4.out).mono ?_); rintro e w' ⟨rfl, ⟨nd, rfl⟩⟩; refine ⟨_, rfl, ?_⟩) | (go_at_call 43; (with_reducible refine (spec_l1Norm.calls k a0_3 true _ A8.out).mono ?_); rintro e w15 ⟨rfl, hb⟩; have n0_ := Aside0.mk (blk_below (zz27 BK133) hb); have n1_ := Aside0.mk (below_step (zz6 HB GE133) hb); clear BK133; clear HB; have BK133 := n0_; have HB := n1_; clear n0_ n1_; (try clear hb); obtain ⟨_, _, _, _, _, _, _, _⟩ := cf4 BK133))
      go_meet
      case rel => exact ⟨_, ((a0_3.toList != ([] : List UInt8))), zz0, H', ⟨zz18⟩, ⟨(zz27 BK133)⟩, ⟨(zz6 HB GE133)⟩⟩
    ·replace c9 := Bool.eq_false_iff.mpr c9
     subst c9;rw [if_neg (show ¬ (false = true) by decide)] at H;have H' := Aside0.mk H;clear H;obtain ⟨_, _, _, _, _, _, _, _⟩ := cf4 BK133;go_wp2_with (first | ((with_reducible refine gate_callee (f := 42) rfl ?_); refine gsL (some 6) Tryz.func42 #[.string a0_0] ?_; (with_reducible refine (spec_l1House.calls k a0_0 true _ A4.out).mono ?_); rintro e w' ⟨rfl, ⟨nd, rfl⟩⟩; refine ⟨_, rfl, ?_⟩) | (go_at_call 43; (with_reducible refine (spec_l1Norm.calls k a0_3 false _ A8.out).mono ?_); rintro e w18 ⟨rfl, hb⟩; have n0_ := Aside0.mk (blk_below (zz27 BK133) hb); have n1_ := Aside0.mk (below_step (zz6 HB GE133) hb); clear BK133; clear HB; have BK133 := n0_; have HB := n1_; clear n0_ n1_; (try clear hb)))
     go_meet
     case rel => exact ⟨_, (true), zz0, H', ⟨zz18⟩, ⟨(zz27 BK133)⟩, ⟨(zz6 HB GE133)⟩⟩
  ·replace c5 := Bool.eq_false_iff.mpr c5
   subst c5;rw [if_neg (show ¬ (false = true) by decide)] at H;have H' := Aside0.mk H;clear H;obtain ⟨_, _, _, _, _, _, _, _⟩ := cf4 BK133;go_wp2_with (first | ((with_reducible refine gate_callee (f := 42) rfl ?_); refine gsL (some 6) Tryz.func42 #[.string a0_0] ?_; (with_reducible refine (spec_l1House.calls k a0_0 false _ A4.out).mono ?_); rintro e w' ⟨rfl, ⟨nd, rfl⟩⟩; refine ⟨_, rfl, ?_⟩))
   go_meet
   case rel => exact ⟨_, (true), zz0, H', ⟨zz18⟩, ⟨(zz27 BK133)⟩, ⟨(zz6 HB GE133)⟩⟩
 case rest =>
  clear HC2;obtain ⟨kq, x29_1, rfl, HA, HJ1, BK133, HB⟩ := hcut;cases kq with
  | zero => exact absurd HA.out (by simp [spec_AddrOk.j0])
  | succ kj1 =>
   have H := HA.out;clear HA;simp only [spec_AddrOk.j0] at H
   by_cases c20 : x29_1 = true
   ·subst c20
    rw [if_pos rfl] at H;obtain rfl := Option.some.inj H;go_wp2
    go_ret
    exact ⟨zz5, (zz6 HB GE133)⟩
   ·replace c20 := Bool.eq_false_iff.mpr c20
    subst c20;rw [if_neg (show ¬ (false = true) by decide)] at H;have H' := Aside0.mk H;clear H;go_wp2
    go_loopg [3] kj1 (fun kq v3 w' => ∃ (x3_2 : Int), v3 = .int .i64 x3_2 ∧ Aside0 (spec_AddrOk.l0 kq x3_2 a0_0 l0_1 a0_2 a0_3 = some r) ∧ Aside0 (kq ≤ kj1) ∧ Aside0 (w'.heap[gb133]? = some (.cells #[.string a0_0, (.slice A0_1 l0_1.length c0_1), .bool a0_2, .string a0_3] 27 (0, 0))) ∧ Aside0 (Below w.heap.size w w'))
    case atStart => exact ⟨(0), zz0, H', ⟨Nat.le_refl _⟩, ⟨(zz27 BK133)⟩, ⟨(zz6 HB GE133)⟩⟩
    case round =>
     clear H';obtain ⟨x3_2, rfl, HA, HK2, BK133, HB⟩ := hrel;cases gk with
     | zero => exact absurd HA.out (by simp [spec_AddrOk.l0])
     | succ k2 =>
      have H := HA.out;clear HA;simp only [spec_AddrOk.l0] at H
      by_cases c21 : x3_2 < (l0_1.length : Int)
      ·rw [if_pos c21] at H
       have c21b0 : decide (x3_2 < (l0_1.length : Int)) = true := decide_eq_true c21;clear c21;by_cases c22 : 0 ≤ x3_2
       ·rw [if_pos c22] at H
        have c22b0 : decide (0 ≤ x3_2) = true := decide_eq_true c22;clear c22;replace H := bindA H;obtain ⟨t137, A23, H⟩ := H;by_cases c24 : t137 = true
        ·subst c24
         rw [if_pos rfl] at H;by_cases c25 : (rdOf ByteArray.empty l0_1 x3_2).toList = ([] : List UInt8)
         ·rw [if_pos c25] at H
          have c25b0 : ((rdOf ByteArray.empty l0_1 x3_2).toList == ([] : List UInt8)) = true := beq_iff_eq.mpr c25;have c25b1 : ((rdOf ByteArray.empty l0_1 x3_2).toList != ([] : List UInt8)) = false := bne_eq_false_iff_eq.mpr c25;clear c25;obtain rfl := Option.some.inj H;obtain ⟨_, _, _, _, _, _, _, _⟩ := cf4 BK133;have p136 : 0 ≤ (x3_2 : Int) := ofD;have q136 : x3_2 < (l0_1.length : Int) := ofD;obtain ⟨ad136, e136, hx136_0⟩ := Kd.at_string HR0_1.out x3_2 p136 q136;cases e136
          replace hx136_0 := (HB.out.cell (World.block_lt_of_cell? w _ hx136_0)).trans hx136_0;replace p136 := eq_true p136;replace q136 := eq_true q136;go_wp2_with (first | ((with_reducible refine gate_callee (f := 43) rfl ?_); refine gsL (some 42) Tryz.func43 #[.string (rdOf ByteArray.empty l0_1 x3_2)] ?_; (with_reducible refine (spec_l1Norm.calls k2 (rdOf ByteArray.empty l0_1 x3_2) true _ A23.out).mono ?_); rintro e w27 ⟨rfl, hb⟩; refine ⟨_, rfl, ?_⟩; have n0_ := Aside0.mk (blk_below (zz27 BK133) hb); have n1_ := Aside0.mk (below_step (zz6 HB GE133) hb); clear BK133; clear HB; have BK133 := n0_; have HB := n1_; clear n0_ n1_; (try clear hb); obtain ⟨_, _, _, _, _, _, _, _⟩ := cf4 BK133; have p138 : 0 ≤ (x3_2 : Int) := ofD; have q138 : x3_2 < (l0_1.length : Int) := ofD; obtain ⟨ad138, e138, hx138_0⟩ := Kd.at_string HR0_1.out x3_2 p138 q138; obtain rfl : ad136 = ad138 := (by injection e138); replace hx138_0 := (HB.out.cell (World.block_lt_of_cell? w _ hx138_0)).trans hx138_0; replace p138 := eq_true p138; replace q138 := eq_true q138))
          go_ret
          exact ⟨zz5, (zz6 HB GE133)⟩
         ·rw [if_neg c25] at H
          have c25b0 : ((rdOf ByteArray.empty l0_1 x3_2).toList == ([] : List UInt8)) = false := beq_eq_false_iff_ne.mpr c25;have c25b1 : ((rdOf ByteArray.empty l0_1 x3_2).toList != ([] : List UInt8)) = true := bne_iff_ne.mpr c25;by_cases c29 : (rdOf ByteArray.empty l0_1 x3_2).toList = ([46] : List UInt8)
          ·rw [if_pos c29] at H
           have c29b0 : ((rdOf ByteArray.empty l0_1 x3_2).toList == ([46] : List UInt8)) = true := beq_iff_eq.mpr c29;have c29b1 : ((rdOf ByteArray.empty l0_1 x3_2).toList != ([46] : List UInt8)) = false := bne_eq_false_iff_eq.mpr c29;clear c29;obtain rfl := Option.some.inj H;obtain ⟨_, _, _, _, _, _, _, _⟩ := cf4 BK133;have p136 : 0 ≤ (x3_2 : Int) := ofD;have q136 : x3_2 < (l0_1.length : Int) := ofD;obtain ⟨ad136, e136, hx136_0⟩ := Kd.at_string HR0_1.out x3_2 p136 q136;cases e136
           replace hx136_0 := (HB.out.cell (World.block_lt_of_cell? w _ hx136_0)).trans hx136_0;replace p136 := eq_true p136;replace q136 := eq_true q136;go_wp2_with (first | ((with_reducible refine gate_callee (f := 43) rfl ?_); refine gsL (some 42) Tryz.func43 #[.string (rdOf ByteArray.empty l0_1 x3_2)] ?_; (with_reducible refine (spec_l1Norm.calls k2 (rdOf ByteArray.empty l0_1 x3_2) true _ A23.out).mono ?_); rintro e w31 ⟨rfl, hb⟩; refine ⟨_, rfl, ?_⟩; have n0_ := Aside0.mk (blk_below (zz27 BK133) hb); have n1_ := Aside0.mk (below_step (zz6 HB GE133) hb); clear BK133; clear HB; have BK133 := n0_; have HB := n1_; clear n0_ n1_; (try clear hb); obtain ⟨_, _, _, _, _, _, _, _⟩ := cf4 BK133; have p138 : 0 ≤ (x3_2 : Int) := ofD; have q138 : x3_2 < (l0_1.length : Int) := ofD; obtain ⟨ad138, e138, hx138_0⟩ := Kd.at_string HR0_1.out x3_2 p138 q138; obtain rfl : ad136 = ad138 := (by injection e138); replace hx138_0 := (HB.out.cell (World.block_lt_of_cell? w _ hx138_0)).trans hx138_0; replace p138 := eq_true p138; replace q138 := eq_true q138; have p139 : 0 ≤ (x3_2 : Int) := ofD; have q139 : x3_2 < (l0_1.length : Int) := ofD; obtain ⟨ad139, e139, hx139_0⟩ := Kd.at_string HR0_1.out x3_2 p139 q139; obtain rfl : ad136 = ad139 := (by injection e139); replace hx139_0 := (HB.out.cell (World.block_lt_of_cell? w _ hx139_0)).trans hx139_0; replace p139 := eq_true p139; replace q139 := eq_true q139))
           go_ret
           exact ⟨zz5, (zz6 HB GE133)⟩
          ·rw [if_neg c29] at H
           have c29b0 : ((rdOf ByteArray.empty l0_1 x3_2).toList == ([46] : List UInt8)) = false := beq_eq_false_iff_ne.mpr c29;have c29b1 : ((rdOf ByteArray.empty l0_1 x3_2).toList != ([46] : List UInt8)) = true := bne_iff_ne.mpr c29;by_cases c33 : (rdOf ByteArray.empty l0_1 x3_2).toList = ([46, 46] : List UInt8)
           ·rw [if_pos c33] at H
            have c33b0 : ((rdOf ByteArray.empty l0_1 x3_2).toList == ([46, 46] : List UInt8)) = true := beq_iff_eq.mpr c33;have c33b1 : ((rdOf ByteArray.empty l0_1 x3_2).toList != ([46, 46] : List UInt8)) = false := bne_eq_false_iff_eq.mpr c33;clear c33;obtain rfl := Option.some.inj H;obtain ⟨_, _, _, _, _, _, _, _⟩ := cf4 BK133;have p136 : 0 ≤ (x3_2 : Int) := ofD;have q136 : x3_2 < (l0_1.length : Int) := ofD;obtain ⟨ad136, e136, hx136_0⟩ := Kd.at_string HR0_1.out x3_2 p136 q136;cases e136
            replace hx136_0 := (HB.out.cell (World.block_lt_of_cell? w _ hx136_0)).trans hx136_0;replace p136 := eq_true p136;replace q136 := eq_true q136;go_wp2_with (first | ((with_reducible refine gate_callee (f := 43) rfl ?_); refine gsL (some 42) Tryz.func43 #[.string (rdOf ByteArray.empty l0_1 x3_2)] ?_; (with_reducible refine (spec_l1Norm.calls k2 (rdOf ByteArray.empty l0_1 x3_2) true _ A23.out).mono ?_); rintro e w35 ⟨rfl, hb⟩; refine ⟨_, rfl, ?_⟩; have n0_ := Aside0.mk (blk_below (zz27 BK133) hb); have n1_ := Aside0.mk (below_step (zz6 HB GE133) hb); clear BK133; clear HB; have BK133 := n0_; have HB := n1_; clear n0_ n1_; (try clear hb); obtain ⟨_, _, _, _, _, _, _, _⟩ := cf4 BK133; have p138 : 0 ≤ (x3_2 : Int) := ofD; have q138 : x3_2 < (l0_1.length : Int) := ofD; obtain ⟨ad138, e138, hx138_0⟩ := Kd.at_string HR0_1.out x3_2 p138 q138; obtain rfl : ad136 = ad138 := (by injection e138); replace hx138_0 := (HB.out.cell (World.block_lt_of_cell? w _ hx138_0)).trans hx138_0; replace p138 := eq_true p138; replace q138 := eq_true q138; have p139 : 0 ≤ (x3_2 : Int) := ofD; have q139 : x3_2 < (l0_1.length : Int) := ofD; obtain ⟨ad139, e139, hx139_0⟩ := Kd.at_string HR0_1.out x3_2 p139 q139; obtain rfl : ad136 = ad139 := (by injection e139); replace hx139_0 := (HB.out.cell (World.block_lt_of_cell? w _ hx139_0)).trans hx139_0; replace p139 := eq_true p139; replace q139 := eq_true q139; have p140 : 0 ≤ (x3_2 : Int) := ofD; have q140 : x3_2 < (l0_1.length : Int) := ofD; obtain ⟨ad140, e140, hx140_0⟩ := Kd.at_string HR0_1.out x3_2 p140 q140; obtain rfl : ad136 = ad140 := (by injection e140); replace hx140_0 := (HB.out.cell (World.block_lt_of_cell? w _ hx140_0)).trans hx140_0; replace p140 := eq_true p140; replace q140 := eq_true q140))
            go_ret
            exact ⟨zz5, (zz6 HB GE133)⟩
           ·rw [if_neg c33] at H
            have c33b0 : ((rdOf ByteArray.empty l0_1 x3_2).toList == ([46, 46] : List UInt8)) = false := beq_eq_false_iff_ne.mpr c33;have c33b1 : ((rdOf ByteArray.empty l0_1 x3_2).toList != ([46, 46] : List UInt8)) = true := bne_iff_ne.mpr c33;have H' := Aside0.mk H;clear H;obtain ⟨_, _, _, _, _, _, _, _⟩ := cf4 BK133;have p136 : 0 ≤ (x3_2 : Int) := ofD;have q136 : x3_2 < (l0_1.length : Int) := ofD;obtain ⟨ad136, e136, hx136_0⟩ := Kd.at_string HR0_1.out x3_2 p136 q136;cases e136
            replace hx136_0 := (HB.out.cell (World.block_lt_of_cell? w _ hx136_0)).trans hx136_0;replace p136 := eq_true p136;replace q136 := eq_true q136;go_wp2_with (first | ((with_reducible refine gate_callee (f := 43) rfl ?_); refine gsL (some 42) Tryz.func43 #[.string (rdOf ByteArray.empty l0_1 x3_2)] ?_; (with_reducible refine (spec_l1Norm.calls k2 (rdOf ByteArray.empty l0_1 x3_2) true _ A23.out).mono ?_); rintro e w38 ⟨rfl, hb⟩; refine ⟨_, rfl, ?_⟩; have n0_ := Aside0.mk (blk_below (zz27 BK133) hb); have n1_ := Aside0.mk (below_step (zz6 HB GE133) hb); clear BK133; clear HB; have BK133 := n0_; have HB := n1_; clear n0_ n1_; (try clear hb); obtain ⟨_, _, _, _, _, _, _, _⟩ := cf4 BK133; have p138 : 0 ≤ (x3_2 : Int) := ofD; have q138 : x3_2 < (l0_1.length : Int) := ofD; obtain ⟨ad138, e138, hx138_0⟩ := Kd.at_string HR0_1.out x3_2 p138 q138; obtain rfl : ad136 = ad138 := (by injection e138); replace hx138_0 := (HB.out.cell (World.block_lt_of_cell? w _ hx138_0)).trans hx138_0; replace p138 := eq_true p138; replace q138 := eq_true q138; have p139 : 0 ≤ (x3_2 : Int) := ofD; have q139 : x3_2 < (l0_1.length : Int) := ofD; obtain ⟨ad139, e139, hx139_0⟩ := Kd.at_string HR0_1.out x3_2 p139 q139; obtain rfl : ad136 = ad139 := (by injection e139); replace hx139_0 := (HB.out.cell (World.block_lt_of_cell? w _ hx139_0)).trans hx139_0; replace p139 := eq_true p139; replace q139 := eq_true q139; have p140 : 0 ≤ (x3_2 : Int) := ofD; have q140 : x3_2 < (l0_1.length : Int) := ofD; obtain ⟨ad140, e140, hx140_0⟩ := Kd.at_string HR0_1.out x3_2 p140 q140; obtain rfl : ad136 = ad140 := (by injection e140); replace hx140_0 := (HB.out.cell (World.block_lt_of_cell? w _ hx140_0)).trans hx140_0; replace p140 := eq_true p140; replace q140 := eq_true q140))
            go_roundg k2
            case measure => have := HJ1.out; have := HK2.out; omega
            case rel => exact ⟨(wrap64 (x3_2 + 1)), zz0, H', ⟨(zz26 HJ1 HK2)⟩, ⟨(zz27 BK133)⟩, ⟨(zz6 HB GE133)⟩⟩
        ·replace c24 := Bool.eq_false_iff.mpr c24
         subst c24;rw [if_neg (show ¬ (false = true) by decide)] at H;obtain rfl := Option.some.inj H;obtain ⟨_, _, _, _, _, _, _, _⟩ := cf4 BK133;have p136 : 0 ≤ (x3_2 : Int) := ofD;have q136 : x3_2 < (l0_1.length : Int) := ofD;obtain ⟨ad136, e136, hx136_0⟩ := Kd.at_string HR0_1.out x3_2 p136 q136;cases e136
         replace hx136_0 := (HB.out.cell (World.block_lt_of_cell? w _ hx136_0)).trans hx136_0;replace p136 := eq_true p136;replace q136 := eq_true q136;go_wp2_with (first | ((with_reducible refine gate_callee (f := 43) rfl ?_); refine gsL (some 42) Tryz.func43 #[.string (rdOf ByteArray.empty l0_1 x3_2)] ?_; (with_reducible refine (spec_l1Norm.calls k2 (rdOf ByteArray.empty l0_1 x3_2) false _ A23.out).mono ?_); rintro e w41 ⟨rfl, hb⟩; refine ⟨_, rfl, ?_⟩; have n0_ := Aside0.mk (blk_below (zz27 BK133) hb); have n1_ := Aside0.mk (below_step (zz6 HB GE133) hb); clear BK133; clear HB; have BK133 := n0_; have HB := n1_; clear n0_ n1_; (try clear hb)))
         go_ret
         exact ⟨zz5, (zz6 HB GE133)⟩
       ·rw [if_neg c22] at H
        exact absurd H (by simp)
      ·rw [if_neg c21] at H
       have c21b0 : decide (x3_2 < (l0_1.length : Int)) = false := decide_eq_false c21;clear c21;replace H := bindA H;obtain ⟨t141, A42, H⟩ := H;obtain rfl := Option.some.inj H;obtain ⟨_, _, _, _, _, _, _, _⟩ := cf4 BK133;go_wp2_with (first | ((with_reducible refine gate_callee (f := 44) rfl ?_); refine gsL (some 69) Tryz.func44 #[.agg #[.string a0_0, .slice A0_1 l0_1.length c0_1, .bool a0_2, .string a0_3]] ?_; (with_reducible refine (spec_l1Text.calls k2 a0_0 _ _ l0_1 a0_2 a0_3 t141 _ ?side1 ?side2 A42.out).mono ?_); (case side1 => exact (zz7 HR0_1 HB)); (case side2 => exact HC0_1.out); rintro e w44 ⟨rfl, hb⟩; refine ⟨_, rfl, ?_⟩; have n0_ := Aside0.mk (blk_below (zz27 BK133) hb); have n1_ := Aside0.mk (below_step (zz6 HB GE133) hb); clear BK133; clear HB; have BK133 := n0_; have HB := n1_; clear n0_ n1_; (try clear hb)))
       go_ret
       exact ⟨zz5, (zz6 HB GE133)⟩
def spec_l1Cut.l0 : Nat → ByteArray → Int → Int → Option (ByteArray × ByteArray × Bool)
 | 0, _, _, _ => none
 | k + 1, x0, x1, x7 => if x7 < (x0.size : Int) then (if 0 ≤ x7 then (if (bt x0 x7) = x1 then (if x7 ≤ (x0.size : Int) then (if 0 ≤ (wrap64 (x7 + 1)) then (if (wrap64 (x7 + 1)) ≤ (x0.size : Int) then (some (x0.extract 0 (x7 : Int).toNat, x0.extract ((wrap64 (x7 + 1)) : Int).toNat x0.size, true)) else (none)) else (none)) else (none)) else (spec_l1Cut.l0 k x0 x1 (wrap64 (x7 + 1)))) else (none)) else (some (x0, (⟨#[]⟩ : ByteArray), false))
def spec_l1Cut.f (k : Nat) (a0 : ByteArray) (a1 : Int) : Option (ByteArray × ByteArray × Bool) := spec_l1Cut.l0 k a0 a1 0
set_option maxHeartbeats 8000000 in
set_option maxRecDepth 100000 in
theorem spec_l1Cut.calls (k : Nat) (a0 : ByteArray) (a1 : Int) (r1 : ByteArray) (r2 : ByteArray) (r3 : Bool) (w : World) (h : spec_l1Cut.f k a0 a1 = some (r1, r2, r3)) :
  Calls Tryz.prog 54 #[.string a0, .int .u8 a1] w fun e w' => e = .returned (.tuple #[.string r1, .string r2, .bool r3]) ∧ Drawn0 w w' := by
 have H : (spec_l1Cut.l0 k a0 a1 0) = some (r1, r2, r3) := h;clear h;have H' := Aside0.mk H;clear H;go_enter Tryz.func54, Tryz.ntmps54;go_wp2
 repeat (go_quiet (fail); try go_wp2)
 go_loopg [7] k (fun kq v7 w' => ∃ (x7_1 : Int), v7 = .int .i64 x7_1 ∧ Aside0 (spec_l1Cut.l0 kq a0 a1 x7_1 = some (r1, r2, r3)) ∧ Aside0 (kq ≤ k) ∧ Drawn0 w w')
 case atStart => exact ⟨(0), zz0, H', ⟨Nat.le_refl _⟩, zz1⟩
 case round =>
  clear H';obtain ⟨x7_1, rfl, HA, HK1, ⟨m1, rfl⟩⟩ := hrel;cases gk with
  | zero => exact absurd HA.out (by simp [spec_l1Cut.l0])
  | succ k1 =>
   have H := HA.out;clear HA;simp only [spec_l1Cut.l0] at H
   by_cases c3 : x7_1 < (a0.size : Int)
   ·rw [if_pos c3] at H
    have c3b0 : decide (x7_1 < (a0.size : Int)) = true := decide_eq_true c3;clear c3;by_cases c4 : 0 ≤ x7_1
    ·rw [if_pos c4] at H
     have c4b0 : decide (0 ≤ x7_1) = true := decide_eq_true c4;clear c4;by_cases c6 : (bt a0 x7_1) = a1
     ·rw [if_pos c6] at H
      have c6b0 : ((bt a0 x7_1) == a1) = true := beq_iff_eq.mpr c6;have c6b1 : ((bt a0 x7_1) != a1) = false := bne_eq_false_iff_eq.mpr c6;clear c6;have c7b0 := eq_true (ofD : 0 ≤ x7_1);by_cases c8 : x7_1 ≤ (a0.size : Int)
      ·rw [if_pos c8] at H
       have c8b0 := eq_true c8;have c8b1 : decide (x7_1 ≤ (a0.size : Int)) = true := decide_eq_true c8;clear c8;obtain ⟨ji9, hji9⟩ : ∃ j_ : Int, (wrap64 (x7_1 + 1)) = j_ := ⟨_, rfl⟩;replace H : (if 0 ≤ (ji9) then (if (ji9) ≤ (a0.size : Int) then (some (a0.extract 0 (x7_1 : Int).toNat, a0.extract ((ji9) : Int).toNat a0.size, true)) else (none)) else (none)) = some (r1, r2, r3) := by first | (rw [hji9] at H; exact H) | (simp only [hji9] at H ⊢; exact H)
       have hji9w : (IntKind.i64.wrap (x7_1 + 1)) = ji9 := (i64_w _).trans hji9;by_cases c10 : 0 ≤ (ji9)
       ·rw [if_pos c10] at H
        have c10b0 := eq_true c10;have c10b1 : decide (0 ≤ (ji9)) = true := decide_eq_true c10;clear c10;by_cases c11 : (ji9) ≤ (a0.size : Int)
        ·rw [if_pos c11] at H
         have c11b0 := eq_true c11;have c11b1 : decide ((ji9) ≤ (a0.size : Int)) = true := decide_eq_true c11;clear c11;simp only [Option.some.injEq, Prod.mk.injEq] at H
         obtain ⟨rfl, rfl, rfl⟩ := H;have p5 : 0 ≤ (x7_1 : Int) := ofD;have q5 : x7_1 < (a0.size : Int) := ofD;have hx5 := bt_at a0 x7_1;replace p5 := eq_true p5;replace q5 := eq_true q5;go_wp2
         repeat (go_quiet (fail); try go_wp2)
         go_ret3
         exact ⟨(by first | rfl | (simp only [i64_w, i32_w]; done) | (simp only [aid_isEmpty, aid_isEmpty2]; done) | (simp; done) | ((simp only [← hji9] <;> (first | rfl | simp)); done) | (simp [*]; done)), zz1⟩
        ·rw [if_neg c11] at H
         exact absurd H (by simp)
       ·rw [if_neg c10] at H
        exact absurd H (by simp)
      ·rw [if_neg c8] at H
       exact absurd H (by simp)
     ·rw [if_neg c6] at H
      have c6b0 : ((bt a0 x7_1) == a1) = false := beq_eq_false_iff_ne.mpr c6;have c6b1 : ((bt a0 x7_1) != a1) = true := bne_iff_ne.mpr c6;have H' := Aside0.mk H;clear H;have p5 : 0 ≤ (x7_1 : Int) := ofD;have q5 : x7_1 < (a0.size : Int) := ofD;have hx5 := bt_at a0 x7_1;replace p5 := eq_true p5;replace q5 := eq_true q5;go_wp2
      repeat (go_quiet (fail); try go_wp2)
      go_roundg k1
      case measure => have := HK1.out; omega
      case rel => exact ⟨(wrap64 (x7_1 + 1)), zz0, H', ⟨(zz3 HK1)⟩, zz1⟩
    ·rw [if_neg c4] at H
     exact absurd H (by simp)
   ·rw [if_neg c3] at H
    have c3b0 : decide (x7_1 < (a0.size : Int)) = false := decide_eq_false c3;clear c3;simp only [Option.some.injEq, Prod.mk.injEq] at H
    obtain ⟨rfl, rfl, rfl⟩ := H;go_wp2
    repeat (go_quiet (fail); try go_wp2)
    go_ret3
    exact ⟨zz0, zz1⟩
def spec_l1Split.l0 : Nat → Int → List ByteArray → ByteArray → Bool → Option (List ByteArray)
 | 0, _, _, _, _ => none
 | k + 1, x1, x5, x6, x7 => if x7 = true then ((spec_l1Cut.f k x6 x1).bind fun bt145 => (if x5.length < 8796093022208 then (spec_l1Split.l0 k x1 (x5 ++ [bt145.1]) bt145.2.1 bt145.2.2) else (none))) else (some x5)
def spec_l1Split.f (k : Nat) (a0 : ByteArray) (a1 : Int) : Option (List ByteArray) := spec_l1Split.l0 k a1 (([] : List ByteArray)) a0 true
set_option maxHeartbeats 8000000 in
set_option maxRecDepth 100000 in
theorem spec_l1Split.calls (k : Nat) (a0 : ByteArray) (a1 : Int) (r : List ByteArray) (w : World) (h : spec_l1Split.f k a0 a1 = some r) :
  Calls Tryz.prog 82 #[.string a0, .int .u8 a1] w fun e w' => ∃ v0_ : Value, e = .returned (v0_) ∧ Kd.R Kd.string 9 w' w.heap.size (fun _ => True) v0_ r ∧ Below w.heap.size w w' := by
 have HB := Aside0.mk (Below.refl w.heap.size w);have H : (spec_l1Split.l0 k a1 (([] : List ByteArray)) a0 true) = some r := h;clear h;obtain ⟨y142, Ny142⟩ := toY (([] : List ByteArray));(first | with_reducible replace H := bindZ Ny142 H | rw [← Ny142.out] at H | skip)
 have H' := Aside0.mk H;clear H;go_enter Tryz.func82, Tryz.ntmps82;go_wp2_with (first | ((with_reducible refine gate_dst (N := 9) rfl ?_); refine Kd.R_lit Kd.string _ 9 ?hg (N := 9) ?hd (xs := ([] : List ByteArray)) (inner := []) (ok := fun _ => True) (okp := fun _ => True) ?hr ?hp (fun _ hk => hk) trivial (Below.refl _ _) (Nat.le_refl _) (by simp) ?_; (case hd => rfl); (case hg => rfl); (case hr => exact zz8); (case hp => exact (Reps.none _ _)); intro v143 w3 ho4 hb hg_ hnew_; clear hg_ hnew_; (first | rw [← Ny142.out] at ho4 | (simp only [Int.reduceToNat] at ho4; rw [← Ny142.out] at ho4)); have n0_ := Aside0.mk (Kd.R_lower ho4 (below_size (zz4 HB))); have n1_ := Aside0.mk (below_step (zz4 HB) hb); clear HB; have HO144 := n0_; have HB := n1_; clear n0_ n1_; clear hb ho4))
 go_loopg [5, 6, 7] k (fun kq v5 v6 v7 w' => ∃ (x5_1 : List ByteArray) (x6_1 : ByteArray) (x7_1 : Bool), v6 = .string x6_1 ∧ v7 = .bool x7_1 ∧ Aside0 (spec_l1Split.l0 kq a1 x5_1 x6_1 x7_1 = some r) ∧ Aside0 (kq ≤ k) ∧ Aside0 (Kd.R Kd.string 9 w' w.heap.size (fun _ => True) v5 x5_1) ∧ Aside0 (Below w.heap.size w w'))
 case atStart => exact ⟨(y142), (a0), (true), zz0, zz0, H', ⟨Nat.le_refl _⟩, ⟨(zz9 HO144)⟩, ⟨(zz4 HB)⟩⟩
 case round =>
  clear H';obtain ⟨x5_1, x6_1, x7_1, rfl, rfl, HA, HK1, HO_5, HB⟩ := hrel;cases gk with
  | zero => exact absurd HA.out (by simp [spec_l1Split.l0])
  | succ k1 =>
   have H := HA.out;clear HA;simp only [spec_l1Split.l0] at H
   by_cases c5 : x7_1 = true
   ·subst c5
    rw [if_pos rfl] at H;replace H := bindA H;obtain ⟨⟨t145, t146, t147⟩, A6, H⟩ := H;try dsimp -simprocs only at H
    by_cases c7 : x5_1.length < 8796093022208
    ·rw [if_pos c7] at H
     have LMc7 := Aside0.mk c7;clear c7;obtain ⟨y148, Ny148⟩ := toY (x5_1 ++ [t145]);(first | with_reducible replace H := bindZ Ny148 H | rw [← Ny148.out] at H | skip)
     have H' := Aside0.mk H;clear H;go_wp2_with (first | ((with_reducible refine gate_callee (f := 54) rfl ?_); refine gsL (some 15) Tryz.func54 #[.string x6_1, .int .u8 a1] ?_; (with_reducible refine (spec_l1Cut.calls k1 x6_1 a1 t145 t146 t147 _ A6.out).mono ?_); rintro e w' ⟨rfl, ⟨nd, rfl⟩⟩; refine ⟨_, rfl, ?_⟩) | ((with_reducible refine gate_builtin (b := .append) (xs := #[.tmp 19, .tmp 21]) rfl ?_); at_builtin; refine Kd.R_append Kd.string (w0 := w) w.heap.size rfl (.tmp 19) (.tmp 21) 22 9 (.string ⟨#[]⟩) 16 rfl Tryz.underlying22 info9 rfl (by decide) (by omega) u5 x5_1 t145 [.string t145] (fun _ => True) (fun _ => False) rfl rfl ?aP (fun _ hk => hk.elim) ?aF ?aO ?aB ?aS ?aL ?_; (case aP => exact rfl); (case aB => exact (zz4 HB)); (case aF => exact (fun _ _ => trivial)); (case aO => exact (zz9 HO_5)); (case aS => exact (below_size (zz4 HB))); (case aL => exact (zz3 LMc7)); intro v149 w8 ho hb hg hat; rw [← Ny148.out] at ho; have n0_ := Aside0.mk (hb); have n1_ := Aside0.mk (ho); clear HB; clear HO_5; have HB := n0_; have HO150 := n1_; clear n0_ n1_; clear ho hb hg hat))
     go_roundg k1
     case measure => have := HK1.out; omega
     case rel => exact ⟨(y148), (t146), (t147), zz0, zz0, H', ⟨(zz3 HK1)⟩, ⟨(zz9 HO150)⟩, ⟨(zz4 HB)⟩⟩
    ·rw [if_neg c7] at H
     exact absurd H (by simp)
   ·replace c5 := Bool.eq_false_iff.mpr c5
    subst c5;rw [if_neg (show ¬ (false = true) by decide)] at H;obtain rfl := Option.some.inj H;go_wp2
    go_ret
    exact ⟨_, zz5, (zz9 HO_5), (zz4 HB)⟩
mutual
def spec_PathClean.l0 : Nat → List ByteArray → List ByteArray → Int → Option (List ByteArray)
 | 0, _, _, _ => none
 | k + 1, x0, x3, x4 => if x4 < (x0.length : Int) then (if 0 ≤ x4 then (if (rdOf ByteArray.empty x0 x4).toList = ([] : List UInt8) then (spec_PathClean.j1 k x0 x3 x4 true) else (spec_PathClean.j1 k x0 x3 x4 ((rdOf ByteArray.empty x0 x4).toList == ([46] : List UInt8)))) else (none)) else (some x3)
def spec_PathClean.j1 : Nat → List ByteArray → List ByteArray → Int → Bool → Option (List ByteArray)
 | 0, _, _, _, _ => none
 | k + 1, x0, x3, x4, x19 => if x19 = true then (spec_PathClean.l0 k x0 x3 (wrap64 (x4 + 1))) else (if 0 ≤ x4 then (if x4 < (x0.length : Int) then (if (rdOf ByteArray.empty x0 x4).toList = ([46, 46] : List UInt8) then (if 0 ≤ (mx (wrap64 ((x3.length : Int) - 1)) 0) then (if (mx (wrap64 ((x3.length : Int) - 1)) 0) ≤ (x3.length : Int) then (spec_PathClean.l0 k x0 (x3.take ((mx (wrap64 ((x3.length : Int) - 1)) 0) : Int).toNat) (wrap64 (x4 + 1))) else (none)) else (none)) else (if x3.length < 8796093022208 then (spec_PathClean.l0 k x0 (x3 ++ [rdOf ByteArray.empty x0 x4]) (wrap64 (x4 + 1))) else (none))) else (none)) else (none))
end
def spec_PathClean.f (k : Nat) (l0 : List ByteArray) : Option (List ByteArray) := spec_PathClean.l0 k l0 (([] : List ByteArray)) 0
set_option maxHeartbeats 8000000 in
set_option maxRecDepth 100000 in
theorem spec_PathClean.calls (k : Nat) (A0 : Option Addr) (c0 : Nat) (l0 : List ByteArray) (r : List ByteArray) (w : World) (hr0 : Kd.C Kd.string w A0 l0.length l0) (hc0 : l0.length ≤ c0) (h : spec_PathClean.f k l0 = some r) :
  Calls Tryz.prog 83 #[.slice A0 l0.length c0] w fun e w' => ∃ v0_ : Value, e = .returned (v0_) ∧ Kd.R Kd.string 9 w' w.heap.size (fun _ => True) v0_ r ∧ Below w.heap.size w w' := by
 have HR0 := Aside0.mk hr0;have HC0 := Aside0.mk hc0;clear hr0 hc0;have HB := Aside0.mk (Below.refl w.heap.size w);have H : (spec_PathClean.l0 k l0 (([] : List ByteArray)) 0) = some r := h;clear h;obtain ⟨y151, Ny151⟩ := toY (([] : List ByteArray));(first | with_reducible replace H := bindZ Ny151 H | rw [← Ny151.out] at H | skip)
 have H' := Aside0.mk H;clear H;go_enter Tryz.func83, Tryz.ntmps83;go_wp2_with (first | ((with_reducible refine gate_dst (N := 5) rfl ?_); refine Kd.R_lit Kd.string _ 9 ?hg (N := 5) ?hd (xs := ([] : List ByteArray)) (inner := []) (ok := fun _ => True) (okp := fun _ => True) ?hr ?hp (fun _ hk => hk) trivial (Below.refl _ _) (Nat.le_refl _) (by simp) ?_; (case hd => rfl); (case hg => rfl); (case hr => exact zz8); (case hp => exact (Reps.none _ _)); intro v152 w2 ho3 hb hg_ hnew_; clear hg_ hnew_; (first | rw [← Ny151.out] at ho3 | (simp only [Int.reduceToNat] at ho3; rw [← Ny151.out] at ho3)); have n0_ := Aside0.mk (Kd.R_lower ho3 (below_size (zz4 HB))); have n1_ := Aside0.mk (below_step (zz4 HB) hb); clear HB; have HO153 := n0_; have HB := n1_; clear n0_ n1_; clear hb ho3))
 go_loopg [3, 4] k (fun kq v3 v4 w' => ∃ (x3_1 : List ByteArray) (x4_1 : Int), v4 = .int .i64 x4_1 ∧ Aside0 (spec_PathClean.l0 kq l0 x3_1 x4_1 = some r) ∧ Aside0 (kq ≤ k) ∧ Aside0 (Kd.R Kd.string 9 w' w.heap.size (fun _ => True) v3 x3_1) ∧ Aside0 (Below w.heap.size w w'))
 case atStart => exact ⟨(y151), (0), zz0, H', ⟨Nat.le_refl _⟩, ⟨(zz9 HO153)⟩, ⟨(zz4 HB)⟩⟩
 case round =>
  clear H';obtain ⟨x3_1, x4_1, rfl, HA, HK1, HO_3, HB⟩ := hrel;cases gk with
  | zero => exact absurd HA.out (by simp [spec_PathClean.l0])
  | succ k1 =>
   have H := HA.out;clear HA;simp only [spec_PathClean.l0] at H
   by_cases c4 : x4_1 < (l0.length : Int)
   ·rw [if_pos c4] at H
    have c4b0 : decide (x4_1 < (l0.length : Int)) = true := decide_eq_true c4;clear c4;have HC5 := Aside0.mk H;clear H;go_upto_region 6 with (fail)
    go_cut [19] (fun v19 wc => ∃ (kq : Nat) (x19_4 : Bool), v19 = .bool x19_4 ∧ Aside0 (spec_PathClean.j1 kq l0 x3_1 x4_1 x19_4 = some r) ∧ Aside0 (kq ≤ k1) ∧ Aside0 (Kd.R Kd.string 9 wc w.heap.size (fun _ => True) u3 x3_1) ∧ Aside0 (Below w.heap.size w wc))
    case first =>
     have H := HC5.out;clear HC5;by_cases c6 : 0 ≤ x4_1
     ·rw [if_pos c6] at H
      have c6b0 : decide (0 ≤ x4_1) = true := decide_eq_true c6;clear c6;(first | rw [c6b0] | (simp only [i64_w, i32_w]; rw [c6b0]) | skip)
      by_cases c7 : (rdOf ByteArray.empty l0 x4_1).toList = ([] : List UInt8)
      ·rw [if_pos c7] at H
       have c7b0 : ((rdOf ByteArray.empty l0 x4_1).toList == ([] : List UInt8)) = true := beq_iff_eq.mpr c7;have c7b1 : ((rdOf ByteArray.empty l0 x4_1).toList != ([] : List UInt8)) = false := bne_eq_false_iff_eq.mpr c7;clear c7;have H' := Aside0.mk H;clear H;have p154 : 0 ≤ (x4_1 : Int) := ofD;have q154 : x4_1 < (l0.length : Int) := ofD;obtain ⟨ad154, e154, hx154_0⟩ := Kd.at_string HR0.out x4_1 p154 q154;cases e154
       replace hx154_0 := (HB.out.cell (World.block_lt_of_cell? w _ hx154_0)).trans hx154_0;replace p154 := eq_true p154;replace q154 := eq_true q154;go_wp2
       go_meet
       case rel => exact ⟨_, (true), zz0, H', ⟨(zz11 HK1)⟩, ⟨(zz9 HO_3)⟩, ⟨(zz4 HB)⟩⟩
      ·rw [if_neg c7] at H
       have c7b0 : ((rdOf ByteArray.empty l0 x4_1).toList == ([] : List UInt8)) = false := beq_eq_false_iff_ne.mpr c7;have c7b1 : ((rdOf ByteArray.empty l0 x4_1).toList != ([] : List UInt8)) = true := bne_iff_ne.mpr c7;have H' := Aside0.mk H;clear H;have p154 : 0 ≤ (x4_1 : Int) := ofD;have q154 : x4_1 < (l0.length : Int) := ofD;obtain ⟨ad154, e154, hx154_0⟩ := Kd.at_string HR0.out x4_1 p154 q154;cases e154
       replace hx154_0 := (HB.out.cell (World.block_lt_of_cell? w _ hx154_0)).trans hx154_0;replace p154 := eq_true p154;replace q154 := eq_true q154;have p155 : 0 ≤ (x4_1 : Int) := ofD;have q155 : x4_1 < (l0.length : Int) := ofD;obtain ⟨ad155, e155, hx155_0⟩ := Kd.at_string HR0.out x4_1 p155 q155;obtain rfl : ad154 = ad155 := (by injection e155);replace hx155_0 := (HB.out.cell (World.block_lt_of_cell? w _ hx155_0)).trans hx155_0;replace p155 := eq_true p155;replace q155 := eq_true q155;go_wp2
       go_meet
       case rel => exact ⟨_, (((rdOf ByteArray.empty l0 x4_1).toList == ([46] : List UInt8))), zz0, H', ⟨(zz11 HK1)⟩, ⟨(zz9 HO_3)⟩, ⟨(zz4 HB)⟩⟩
     ·rw [if_neg c6] at H
      exact absurd H (by simp)
    case rest =>
     clear HC5;obtain ⟨kq, x19_4, rfl, HA, HJ4, HO_3, HB⟩ := hcut;cases kq with
     | zero => exact absurd HA.out (by simp [spec_PathClean.j1])
     | succ kj4 =>
      have H := HA.out;clear HA;simp only [spec_PathClean.j1] at H
      by_cases c8 : x19_4 = true
      ·subst c8
       rw [if_pos rfl] at H;have H' := Aside0.mk H;clear H;go_wp2
       go_roundg kj4
       case measure => have := HK1.out; have := HJ4.out; omega
       case rel => exact ⟨(x3_1), (wrap64 (x4_1 + 1)), zz0, H', ⟨(zz26 HK1 HJ4)⟩, ⟨(zz9 HO_3)⟩, ⟨(zz4 HB)⟩⟩
      ·replace c8 := Bool.eq_false_iff.mpr c8
       subst c8;rw [if_neg (show ¬ (false = true) by decide)] at H;by_cases c9 : 0 ≤ x4_1
       ·rw [if_pos c9] at H
        have c9b0 : decide (0 ≤ x4_1) = true := decide_eq_true c9;clear c9;by_cases c10 : x4_1 < (l0.length : Int)
        ·rw [if_pos c10] at H
         have c10b0 : decide (x4_1 < (l0.length : Int)) = true := decide_eq_true c10;clear c10;by_cases c11 : (rdOf ByteArray.empty l0 x4_1).toList = ([46, 46] : List UInt8)
         ·rw [if_pos c11] at H
          have c11b0 : ((rdOf ByteArray.empty l0 x4_1).toList == ([46, 46] : List UInt8)) = true := beq_iff_eq.mpr c11;have c11b1 : ((rdOf ByteArray.empty l0 x4_1).toList != ([46, 46] : List UInt8)) = false := bne_eq_false_iff_eq.mpr c11;clear c11;obtain ⟨ji12, hji12⟩ : ∃ j_ : Int, (mx (wrap64 ((x3_1.length : Int) - 1)) 0) = j_ := ⟨_, rfl⟩;replace H : (if 0 ≤ (ji12) then (if (ji12) ≤ (x3_1.length : Int) then (spec_PathClean.l0 kj4 l0 (x3_1.take ((ji12) : Int).toNat) (wrap64 (x4_1 + 1))) else (none)) else (none)) = some r := by first | (rw [hji12] at H; exact H) | (simp only [hji12] at H ⊢; exact H)
          have hji12_ : (if (wrap64 ((x3_1.length : Int) - 1)) < 0 then 0 else (wrap64 ((x3_1.length : Int) - 1))) = ji12 := hji12;by_cases c13 : 0 ≤ (ji12)
          ·rw [if_pos c13] at H
           have c13b0 := eq_true c13;have c13b1 : decide (0 ≤ (ji12)) = true := decide_eq_true c13;clear c13;by_cases c14 : (ji12) ≤ (x3_1.length : Int)
           ·rw [if_pos c14] at H
            have c14b0 := eq_true c14;have c14b1 : decide ((ji12) ≤ (x3_1.length : Int)) = true := decide_eq_true c14;clear c14;obtain ⟨y157, Ny157⟩ := toY (x3_1.take ((ji12) : Int).toNat);(first | with_reducible replace H := bindZ Ny157 H | rw [← Ny157.out] at H | skip)
            have H' := Aside0.mk H;clear H;have p156 : 0 ≤ (x4_1 : Int) := ofD;have q156 : x4_1 < (l0.length : Int) := ofD;obtain ⟨ad156, e156, hx156_0⟩ := Kd.at_string HR0.out x4_1 p156 q156;cases e156
            replace hx156_0 := (HB.out.cell (World.block_lt_of_cell? w _ hx156_0)).trans hx156_0;replace p156 := eq_true p156;replace q156 := eq_true q156;obtain ⟨Ao15, co15, eo15⟩ := Kd.R_slice HO_3.out;subst eo15;have q16 : ((ji12) : Int) ≤ ((x3_1.length : Int) : Int) := ofD;obtain ⟨i016, hi016, _, hsz16, _⟩ := info_parts info9;have hcut16 := cut_to (P := Tryz.prog) 22 9 .i64 Tryz.underlying22 hi016 Ao15 x3_1.length co15 (ji12) ofD q16 (Kd.R_reads' HO_3.out).2.1;have hr16 := Kd.R_take (m := ((ji12) : Int).toNat) HO_3.out (by omega);have hy16 : y157.length = ((ji12) : Int).toNat := (by rw [Ny157.out, List.length_take]; omega);rw [← Ny157.out] at hr16;rw [← hy16] at hr16 hcut16;clear hy16 hi016 hsz16 HO_3;have HO159 := Aside0.mk hr16;clear hr16;replace q16 := eq_true q16;go_wp2
            go_roundg kj4
            case measure => have := HK1.out; have := HJ4.out; omega
            case rel => exact ⟨(y157), (wrap64 (x4_1 + 1)), zz0, H', ⟨(zz26 HK1 HJ4)⟩, ⟨(zz9 HO159)⟩, ⟨(zz4 HB)⟩⟩
           ·rw [if_neg c14] at H
            exact absurd H (by simp)
          ·rw [if_neg c13] at H
           exact absurd H (by simp)
         ·rw [if_neg c11] at H
          have c11b0 : ((rdOf ByteArray.empty l0 x4_1).toList == ([46, 46] : List UInt8)) = false := beq_eq_false_iff_ne.mpr c11;have c11b1 : ((rdOf ByteArray.empty l0 x4_1).toList != ([46, 46] : List UInt8)) = true := bne_iff_ne.mpr c11;by_cases c17 : x3_1.length < 8796093022208
          ·rw [if_pos c17] at H
           have LMc17 := Aside0.mk c17;clear c17;obtain ⟨y161, Ny161⟩ := toY (x3_1 ++ [rdOf ByteArray.empty l0 x4_1]);(first | with_reducible replace H := bindZ Ny161 H | rw [← Ny161.out] at H | skip)
           have H' := Aside0.mk H;clear H;have p156 : 0 ≤ (x4_1 : Int) := ofD;have q156 : x4_1 < (l0.length : Int) := ofD;obtain ⟨ad156, e156, hx156_0⟩ := Kd.at_string HR0.out x4_1 p156 q156;cases e156
           replace hx156_0 := (HB.out.cell (World.block_lt_of_cell? w _ hx156_0)).trans hx156_0;replace p156 := eq_true p156;replace q156 := eq_true q156;have p160 : 0 ≤ (x4_1 : Int) := ofD;have q160 : x4_1 < (l0.length : Int) := ofD;obtain ⟨ad160, e160, hx160_0⟩ := Kd.at_string HR0.out x4_1 p160 q160;obtain rfl : ad156 = ad160 := (by injection e160);replace hx160_0 := (HB.out.cell (World.block_lt_of_cell? w _ hx160_0)).trans hx160_0;replace p160 := eq_true p160;replace q160 := eq_true q160;go_wp2_with (first | ((with_reducible refine gate_builtin (b := .append) (xs := #[.tmp 12, .tmp 17]) rfl ?_); at_builtin; refine Kd.R_append Kd.string (w0 := w) w.heap.size rfl (.tmp 12) (.tmp 17) 22 9 (.string ⟨#[]⟩) 16 rfl Tryz.underlying22 info9 rfl (by decide) (by omega) u3 x3_1 (rdOf ByteArray.empty l0 x4_1) [.string (rdOf ByteArray.empty l0 x4_1)] (fun _ => True) (fun _ => False) rfl rfl ?aP (fun _ hk => hk.elim) ?aF ?aO ?aB ?aS ?aL ?_; (case aP => exact rfl); (case aB => exact (zz4 HB)); (case aF => exact (fun _ _ => trivial)); (case aO => exact (zz9 HO_3)); (case aS => exact (below_size (zz4 HB))); (case aL => exact (zz3 LMc17)); intro v162 w18 ho hb hg hat; rw [← Ny161.out] at ho; have n0_ := Aside0.mk (hb); have n1_ := Aside0.mk (ho); clear HB; clear HO_3; have HB := n0_; have HO163 := n1_; clear n0_ n1_; clear ho hb hg hat))
           go_roundg kj4
           case measure => have := HK1.out; have := HJ4.out; omega
           case rel => exact ⟨(y161), (wrap64 (x4_1 + 1)), zz0, H', ⟨(zz26 HK1 HJ4)⟩, ⟨(zz9 HO163)⟩, ⟨(zz4 HB)⟩⟩
          ·rw [if_neg c17] at H
           exact absurd H (by simp)
        ·rw [if_neg c10] at H
         exact absurd H (by simp)
       ·rw [if_neg c9] at H
        exact absurd H (by simp)
   ·rw [if_neg c4] at H
    have c4b0 : decide (x4_1 < (l0.length : Int)) = false := decide_eq_false c4;clear c4;obtain rfl := Option.some.inj H;go_wp2
    go_ret
    exact ⟨_, zz5, (zz9 HO_3), (zz4 HB)⟩
def spec_l1Way.l0 : Nat → ByteArray → Bool → List ByteArray → List ByteArray → Int → ByteArray → List ByteArray → Bool → ByteArray → Option (ByteArray × List ByteArray × Bool × ByteArray × Bool)
 | 0, _, _, _, _, _, _, _, _, _ => none
 | k + 1, x6, x7, x8, x9, x10, x165000, x165001, x165002, x165003 => if x10 < (x9.length : Int) then (if 0 ≤ x10 then ((spec_EscNorm.f k (rdOf ByteArray.empty x9 x10)).bind fun bt179 => (if bt179.2 = true then (if x8.length < 8796093022208 then (spec_l1Way.l0 k x6 x7 (x8 ++ [bt179.1]) x9 (wrap64 (x10 + 1)) x165000 x165001 x165002 x165003) else (none)) else (some ((⟨#[]⟩ : ByteArray), ([] : List ByteArray), false, (⟨#[]⟩ : ByteArray), false)))) else (none)) else ((spec_EscNorm.f k x6).bind fun bt184 => ((spec_PathClean.f k x8).bind fun t186 => (if bt184.2 = true then ((spec_AddrOk.f k x165000 t186 x7 bt184.1).bind fun t190 => (if t190 = true then (some (x165000, t186, x7, bt184.1, true)) else (some ((⟨#[]⟩ : ByteArray), ([] : List ByteArray), false, (⟨#[]⟩ : ByteArray), false)))) else (some ((⟨#[]⟩ : ByteArray), ([] : List ByteArray), false, (⟨#[]⟩ : ByteArray), false)))))
def spec_l1Way.f (k : Nat) (a0_0 : ByteArray) (l0_1 : List ByteArray) (a0_2 : Bool) (a0_3 : ByteArray) (a1 : ByteArray) : Option (ByteArray × List ByteArray × Bool × ByteArray × Bool) := (spec_l1Cut.f k a1 63).bind fun bt166 => ((some (([] : List ByteArray) : List ByteArray)).bind fun y169 => (if y169.length + l0_1.length < 8796093022208 then ((spec_l1Split.f k bt166.1 47).bind fun t175 => (spec_l1Way.l0 k bt166.2.1 bt166.2.2 (y169 ++ l0_1) t175 0 a0_0 l0_1 a0_2 a0_3)) else (none)))
def spec_l1Way.T12 : Bool × List (List Nat × List Nat) := (true, [([], []), ([0], [0]), ([], []), ([2], [2]), ([], []), ([], []), ([1, 3, 4, 5], [1, 3, 4, 5]), ([], []), ([7, 6, 3, 0, 1, 2, 3, 4, 5, 6, 7], [6, 7])])
def spec_l1Way.B12 : List Nat := [0, 1, 0, 4, 0, 0, 63, 0, 255]
theorem spec_l1Way.tab12 : rtab .any (opsOf Tryz.f56 12) = spec_l1Way.T12 := by kernel_rfl
theorem spec_l1Way.bits12 : waitsOk spec_l1Way.T12.2 spec_l1Way.B12 = true := by kernel_rfl
set_option maxHeartbeats 8000000 in
set_option maxRecDepth 100000 in
theorem spec_l1Way.calls (k : Nat) (a0_0 : ByteArray) (A0_1 : Option Addr) (c0_1 : Nat) (l0_1 : List ByteArray) (a0_2 : Bool) (a0_3 : ByteArray) (a1 : ByteArray) (r1 : ByteArray) (r2 : List ByteArray) (r3 : Bool) (r4 : ByteArray) (r5 : Bool) (w : World) (hr0_1 : Kd.C Kd.string w A0_1 l0_1.length l0_1) (hc0_1 : l0_1.length ≤ c0_1) (h : spec_l1Way.f k a0_0 l0_1 a0_2 a0_3 a1 = some (r1, r2, r3, r4, r5)) :
  Calls Tryz.prog 56 #[.agg #[.string a0_0, .slice A0_1 l0_1.length c0_1, .bool a0_2, .string a0_3], .string a1] w fun e w' => ∃ v1_ : Value, e = .returned (.tuple #[.agg #[.string r1, v1_, .bool r3, .string r4], .bool r5]) ∧ Kd.R Kd.string 9 w' w.heap.size (fun _ => True) v1_ r2 ∧ Below w.heap.size w w' := by
 have hu27 := Tryz.underlying27;have HR0_1 := Aside0.mk hr0_1;have HC0_1 := Aside0.mk hc0_1;clear hr0_1 hc0_1;have HB := Aside0.mk (Below.refl w.heap.size w);have H : ((spec_l1Cut.f k a1 63).bind fun bt166 => ((some (([] : List ByteArray) : List ByteArray)).bind fun y169 => (if y169.length + l0_1.length < 8796093022208 then ((spec_l1Split.f k bt166.1 47).bind fun t175 => (spec_l1Way.l0 k bt166.2.1 bt166.2.2 (y169 ++ l0_1) t175 0 a0_0 l0_1 a0_2 a0_3)) else (none)))) = some (r1, r2, r3, r4, r5) := h;clear h;replace H := bindA H;obtain ⟨⟨t166, t167, t168⟩, A3, H⟩ := H;try dsimp -simprocs only at H
 obtain ⟨y169, Ny169⟩ := toY (([] : List ByteArray));(first | with_reducible replace H := bindZ Ny169 H | rw [← Ny169.out] at H | skip)
 by_cases c4 : y169.length + l0_1.length < 8796093022208
 ·rw [if_pos c4] at H
  have LMc4 := Aside0.mk c4;clear c4;obtain ⟨y172, Ny172⟩ := toY (y169 ++ l0_1);(first | with_reducible replace H := bindZ Ny172 H | rw [← Ny172.out] at H | skip)
  replace H := bindA H;obtain ⟨t175, A5, H⟩ := H;have H' := Aside0.mk H;clear H;go_enter Tryz.func56, Tryz.ntmps56;go_wp2_with (first | ((with_reducible refine gate_dst (N := 2) rfl ?_); refine boxE 2 #[.string a0_0, .slice A0_1 l0_1.length c0_1, .bool a0_2, .string a0_3] 27 ?_; intro gb164 hg w6 hbox hb; have n0_ := Aside0.mk (below_step (zz4 HB) hb); have n1_ := Aside0.mk (hbox); have n2_ := Aside0.mk ((by rw [hg]; exact (below_size (zz4 HB)) : w.heap.size ≤ gb164)); have n3_ := Aside0.mk ((by rw [hg]; exact (below_size (zz4 HB)) : w.heap.size ≤ gb164)); clear HB; have HB := n0_; have BK164 := n1_; have GW164 := n2_; have GE164 := n3_; clear n0_ n1_ n2_ n3_; clear hb hbox hg) | ((with_reducible refine gate_dst (N := 4) rfl ?_); refine boxE 4 #[.string (⟨#[]⟩ : ByteArray), .slice none 0 0, .bool false, .string (⟨#[]⟩ : ByteArray)] 27 ?_; intro gb165 hg w7 hbox hb; have n0_ := Aside0.mk (blk_below (zz27 BK164) hb); have n1_ := Aside0.mk (below_step (zz6 HB GE164) hb); have n2_ := Aside0.mk (hbox); have n3_ := Aside0.mk ((by rw [hg]; exact (below_size (zz6 HB GE164)) : w.heap.size ≤ gb165)); have n4_ := Aside0.mk ((by rw [hg]; exact (below_size (zz6 HB GE164)) : w.heap.size ≤ gb165)); have n5_ := Aside0.mk ((by rw [hg]; exact Nat.ne_of_lt (blk_lt (zz27 BK164)) : gb164 ≠ gb165)); have n6_ := Aside0.mk ((by rw [hg]; exact Nat.ne_of_gt (blk_lt (zz27 BK164)) : gb165 ≠ gb164)); clear BK164; clear HB; have BK164 := n0_; have HB := n1_; have BK165 := n2_; have GW165 := n3_; have GE165 := n4_; have NB164_165 := n5_; have NB165_164 := n6_; clear n0_ n1_ n2_ n3_ n4_ n5_ n6_; clear hb hbox hg) | ((with_reducible refine gate_callee (f := 54) rfl ?_); refine gsL (some 18) Tryz.func54 #[.string a1, .int .u8 63] ?_; (with_reducible refine (spec_l1Cut.calls k a1 63 t166 t167 t168 _ A3.out).mono ?_); rintro e w' ⟨rfl, ⟨nd, rfl⟩⟩; refine ⟨_, rfl, ?_⟩) | ((with_reducible refine gate_dst (N := 22) rfl ?_); refine Kd.R_lit Kd.string _ 9 ?hg (N := 22) ?hd (xs := ([] : List ByteArray)) (inner := []) (ok := fun _ => True) (okp := fun _ => True) ?hr ?hp (fun _ hk => hk) trivial (Below.refl _ _) (Nat.le_refl _) (by simp) ?_; (case hd => rfl); (case hg => rfl); (case hr => exact zz8); (case hp => exact (Reps.none _ _)); intro v170 w8 ho9 hb hg_ hnew_; clear hg_ hnew_; (first | rw [← Ny169.out] at ho9 | (simp only [Int.reduceToNat] at ho9; rw [← Ny169.out] at ho9)); have n0_ := Aside0.mk (Kd.R_lower ho9 (below_size (zz38 HB GE164 GE165))); have n1_ := Aside0.mk (blk_below (zz27 BK164) hb); have n2_ := Aside0.mk (blk_below (zz27 BK165) hb); have n3_ := Aside0.mk (below_step (zz38 HB GE164 GE165) hb); clear BK164; clear BK165; clear HB; have HO171 := n0_; have BK164 := n1_; have BK165 := n2_; have HB := n3_; clear n0_ n1_ n2_ n3_; clear hb ho9; have hnb10 := NB164_165.out; have hnc10 := NB165_164.out; obtain ⟨_, _, _, _, _, _, _, _⟩ := cf4 BK164) | ((with_reducible refine gate_builtin (b := .append) (xs := #[.tmp 22, .tmp 24]) rfl ?_); at_builtin; refine Kd.R_append_rows Kd.string (w0 := w) w.heap.size rfl (.tmp 22) (.tmp 24) 22 9 (.string ⟨#[]⟩) 16 rfl Tryz.underlying22 info9 rfl (by decide) (by omega) v170 y169 l0_1 _ _ _ (fun _ => True) (fun _ => False) rfl rfl ?aO ?aR (fun _ _ h => h) (fun _ h => h.elim) ?aF ?aB ?aS ?aL ?_; (case aR => exact (zz7 HR0_1 HB)); (case aB => exact (zz38 HB GE164 GE165)); (case aF => exact (fun _ _ => trivial)); (case aO => exact (zz9 HO171)); (case aS => exact (below_size (zz38 HB GE164 GE165))); (case aL => exact (zz3 LMc4)); intro v173 w12 ho hb hg hat; rw [← Ny172.out] at ho; have n0_ := Aside0.mk (blk_grown (zz27 BK164) hg (Kd.R_ne HO171.out BK164.out (by decide))); have n1_ := Aside0.mk (blk_grown (zz27 BK165) hg (Kd.R_ne HO171.out BK165.out (by decide))); have n2_ := Aside0.mk (hb); have n3_ := Aside0.mk (ho); clear BK164; clear BK165; clear HB; clear HO171; have BK164 := n0_; have BK165 := n1_; have HB := n2_; have HO174 := n3_; clear n0_ n1_ n2_ n3_; clear ho hb hg hat) | ((with_reducible refine gate_callee (f := 82) rfl ?_); refine gsL (some 27) Tryz.func82 #[.string t166, .int .u8 47] ?_; (with_reducible refine (spec_l1Split.calls k t166 47 t175 _ A5.out).mono ?_); rintro e w13 ⟨v176, rfl, ho0, hb⟩; refine ⟨_, rfl, ?_⟩; have n0_ := Aside0.mk (Kd.R_elder' (zz9 HO174) (Kd.R_base ho0) hb); have n1_ := Aside0.mk (Kd.R_lower (Kd.R_new' ho0 (Kd.R_lt (zz9 HO174))) (below_size (zz38 HB GE164 GE165))); have n2_ := Aside0.mk (blk_below (zz27 BK164) hb); have n3_ := Aside0.mk (blk_below (zz27 BK165) hb); have n4_ := Aside0.mk (below_step (zz38 HB GE164 GE165) hb); clear HO174; clear BK164; clear BK165; clear HB; have HO174 := n0_; have HO177 := n1_; have BK164 := n2_; have BK165 := n3_; have HB := n4_; clear n0_ n1_ n2_ n3_ n4_; (try clear hb ho0)))
  go_loopg [8, 10] k (fun kq v8 v10 w' => ∃ (x8_1 : List ByteArray) (x10_1 : Int) (x166000_1 : ByteArray) (x166002_1 : Bool) (x166003_1 : ByteArray), v10 = .int .i64 x10_1 ∧ Aside0 (spec_l1Way.l0 kq t167 t168 x8_1 t175 x10_1 a0_0 l0_1 a0_2 a0_3 = some (r1, r2, r3, r4, r5)) ∧ Aside0 (kq ≤ k) ∧ Aside0 (Kd.R Kd.string 9 w' w.heap.size (fun k_ => some k_ ≠ (v176 : Value).ownBlock) v8 x8_1) ∧ Aside0 (Kd.R Kd.string 9 w' w.heap.size (fun k_ => some k_ ≠ (v8 : Value).ownBlock) v176 t175) ∧ Aside0 (w'.heap[gb164]? = some (.cells #[.string a0_0, (.slice A0_1 l0_1.length c0_1), .bool a0_2, .string a0_3] 27 (0, 0))) ∧ Aside0 (w'.heap[gb165]? = some (.cells #[.string x166000_1, (.slice none 0 0), .bool x166002_1, .string x166003_1] 27 (0, 0))) ∧ Aside0 (Below w.heap.size w w'))
  case atStart => exact ⟨(y172), (0), ((⟨#[]⟩ : ByteArray)), (false), ((⟨#[]⟩ : ByteArray)), zz0, H', ⟨Nat.le_refl _⟩, ⟨(zz39 HO174)⟩, ⟨(zz39 HO177)⟩, ⟨(zz27 BK164)⟩, ⟨(zz27 BK165)⟩, ⟨(zz38 HB GE164 GE165)⟩⟩
  case round =>
   clear H';obtain ⟨x8_1, x10_1, x166000_1, x166002_1, x166003_1, rfl, HA, HK1, HO_8, HO_9, BK164, BK165, HB⟩ := hrel;cases gk with
   | zero => exact absurd HA.out (by simp [spec_l1Way.l0])
   | succ k1 =>
    have H := HA.out;clear HA;simp only [spec_l1Way.l0] at H
    by_cases c14 : x10_1 < (t175.length : Int)
    ·rw [if_pos c14] at H
     have c14b0 : decide (x10_1 < (t175.length : Int)) = true := decide_eq_true c14;clear c14;by_cases c15 : 0 ≤ x10_1
     ·rw [if_pos c15] at H
      have c15b0 : decide (0 ≤ x10_1) = true := decide_eq_true c15;clear c15;replace H := bindA H;obtain ⟨⟨t179, t180⟩, A16, H⟩ := H;try dsimp -simprocs only at H
      by_cases c17 : t180 = true
      ·subst c17
       rw [if_pos rfl] at H;by_cases c18 : x8_1.length < 8796093022208
       ·rw [if_pos c18] at H
        have LMc18 := Aside0.mk c18;clear c18;obtain ⟨y181, Ny181⟩ := toY (x8_1 ++ [t179]);(first | with_reducible replace H := bindZ Ny181 H | rw [← Ny181.out] at H | skip)
        have H' := Aside0.mk H;clear H;obtain ⟨Ao19, co19, eo19⟩ := Kd.R_slice HO_9.out;subst eo19;have p178 : 0 ≤ (x10_1 : Int) := ofD;have q178 : x10_1 < (t175.length : Int) := ofD;obtain ⟨ad178, e178, hx178_0⟩ := Kd.at_string (Kd.R_reads' HO_9.out).2.2 x10_1 p178 q178;cases e178
        replace p178 := eq_true p178;replace q178 := eq_true q178;go_wp2_with (first | ((with_reducible refine gate_callee (f := 67) rfl ?_); refine gsL (some 39) Tryz.func67 #[.string (rdOf ByteArray.empty t175 x10_1)] ?_; (with_reducible refine (spec_EscNorm.calls k1 (rdOf ByteArray.empty t175 x10_1) t179 true _ A16.out).mono ?_); rintro e w20 ⟨rfl, hb⟩; refine ⟨_, rfl, ?_⟩; have n0_ := Aside0.mk (Kd.R_below (zz9 HO_8) hb); have n1_ := Aside0.mk (Kd.R_below (zz9 HO_9) hb); have n2_ := Aside0.mk (blk_below (zz27 BK164) hb); have n3_ := Aside0.mk (blk_below (zz27 BK165) hb); have n4_ := Aside0.mk (below_step (zz38 HB GE164 GE165) hb); clear HO_8; clear HO_9; clear BK164; clear BK165; clear HB; have HO_8 := n0_; have HO_9 := n1_; have BK164 := n2_; have BK165 := n3_; have HB := n4_; clear n0_ n1_ n2_ n3_ n4_; (try clear hb)) | ((with_reducible refine gate_builtin (b := .append) (xs := #[.tmp 45, .tmp 47]) rfl ?_); at_builtin; refine Kd.R_append Kd.string (w0 := w) w.heap.size rfl (.tmp 45) (.tmp 47) 22 9 (.string ⟨#[]⟩) 16 rfl Tryz.underlying22 info9 rfl (by decide) (by omega) u8 x8_1 t179 [.string t179] (fun k_ => some k_ ≠ (.slice (some ad178) t175.length co19 : Value).ownBlock) (fun _ => False) rfl rfl ?aP (fun _ hk => hk.elim) ?aF ?aO ?aB ?aS ?aL ?_; (case aP => exact rfl); (case aB => exact (zz38 HB GE164 GE165)); (case aF => exact (fun k_ hk => Kd.fresh' (Kd.R_lt (zz9 HO_9)) k_ hk)); (case aO => exact (zz9 HO_8)); (case aS => exact (below_size (zz38 HB GE164 GE165))); (case aL => exact (zz3 LMc18)); intro v182 w21 ho hb hg hat; rw [← Ny181.out] at ho; have n0_ := Aside0.mk (Kd.R_after (ok := (fun _ => True)) (zz41 HO_9) hg hat); have n1_ := Aside0.mk (blk_grown (zz27 BK164) hg (Kd.R_ne HO_8.out BK164.out (by decide))); have n2_ := Aside0.mk (blk_grown (zz27 BK165) hg (Kd.R_ne HO_8.out BK165.out (by decide))); have n3_ := Aside0.mk (hb); have n4_ := Aside0.mk (ho); clear HO_9; clear BK164; clear BK165; clear HB; clear HO_8; have HO_9 := n0_; have BK164 := n1_; have BK165 := n2_; have HB := n3_; have HO183 := n4_; clear n0_ n1_ n2_ n3_ n4_; clear ho hb hg hat))
        go_roundg k1
        case measure => have := HK1.out; omega
        case rel => exact ⟨(y181), (wrap64 (x10_1 + 1)), (x166000_1), (x166002_1), (x166003_1), zz0, H', ⟨(zz3 HK1)⟩, ⟨(zz9 HO183)⟩, ⟨(zz39 HO_9)⟩, ⟨(zz27 BK164)⟩, ⟨(zz27 BK165)⟩, ⟨(zz38 HB GE164 GE165)⟩⟩
       ·rw [if_neg c18] at H
        exact absurd H (by simp)
      ·replace c17 := Bool.eq_false_iff.mpr c17
       subst c17;rw [if_neg (show ¬ (false = true) by decide)] at H;simp only [Option.some.injEq, Prod.mk.injEq] at H
       obtain ⟨rfl, rfl, rfl, rfl, rfl⟩ := H;obtain ⟨Ao22, co22, eo22⟩ := Kd.R_slice HO_9.out;subst eo22;have p178 : 0 ≤ (x10_1 : Int) := ofD;have q178 : x10_1 < (t175.length : Int) := ofD;obtain ⟨ad178, e178, hx178_0⟩ := Kd.at_string (Kd.R_reads' HO_9.out).2.2 x10_1 p178 q178;cases e178
       replace p178 := eq_true p178;replace q178 := eq_true q178;go_wp2_with (first | ((with_reducible refine gate_callee (f := 67) rfl ?_); refine gsL (some 39) Tryz.func67 #[.string (rdOf ByteArray.empty t175 x10_1)] ?_; (with_reducible refine (spec_EscNorm.calls k1 (rdOf ByteArray.empty t175 x10_1) t179 false _ A16.out).mono ?_); rintro e w23 ⟨rfl, hb⟩; refine ⟨_, rfl, ?_⟩; have n0_ := Aside0.mk (Kd.R_below (zz9 HO_8) hb); have n1_ := Aside0.mk (Kd.R_below (zz9 HO_9) hb); have n2_ := Aside0.mk (blk_below (zz27 BK164) hb); have n3_ := Aside0.mk (blk_below (zz27 BK165) hb); have n4_ := Aside0.mk (below_step (zz38 HB GE164 GE165) hb); clear HO_8; clear HO_9; clear BK164; clear BK165; clear HB; have HO_8 := n0_; have HO_9 := n1_; have BK164 := n2_; have BK165 := n3_; have HB := n4_; clear n0_ n1_ n2_ n3_ n4_; (try clear hb); have hnb24 := NB165_164.out; have hnc24 := NB164_165.out; obtain ⟨_, _, _, _, _, _, _, _⟩ := cf4 BK165))
       refine bodyPost_ret (results_ct rfl _ _ gb165 27 #[.string (⟨#[]⟩ : ByteArray), .slice none 0 0, .bool false, .string (⟨#[]⟩ : ByteArray)] (0, 0) _ rfl (zz42 BK165) Tryz.underlying27 rfl (by kernel_rfl)) rfl ?_;exact ⟨_, zz5, zz43, (zz38 HB GE164 GE165)⟩
     ·rw [if_neg c15] at H
      exact absurd H (by simp)
    ·rw [if_neg c14] at H
     have c14b0 : decide (x10_1 < (t175.length : Int)) = false := decide_eq_false c14;clear c14;replace H := bindA H;obtain ⟨⟨t184, t185⟩, A26, H⟩ := H;try dsimp -simprocs only at H
     replace H := bindA H;obtain ⟨t186, A27, H⟩ := H;by_cases c28 : t185 = true
     ·subst c28
      rw [if_pos rfl] at H;replace H := bindA H;obtain ⟨t190, A29, H⟩ := H;by_cases c30 : t190 = true
      ·subst c30
       rw [if_pos rfl] at H;simp only [Option.some.injEq, Prod.mk.injEq] at H
       obtain ⟨rfl, rfl, rfl, rfl, rfl⟩ := H;obtain ⟨Ao31, co31, eo31⟩ := Kd.R_slice HO_9.out;subst eo31;try go_wp2_with (first | ((with_reducible refine gate_callee (f := 67) rfl ?_); refine gsL (some 51) Tryz.func67 #[.string t167] ?_; (with_reducible refine (spec_EscNorm.calls k1 t167 t184 true _ A26.out).mono ?_); rintro e w32 ⟨rfl, hb⟩; refine ⟨_, rfl, ?_⟩; have n0_ := Aside0.mk (Kd.R_below (zz9 HO_8) hb); have n1_ := Aside0.mk (Kd.R_below (zz9 HO_9) hb); have n2_ := Aside0.mk (blk_below (zz27 BK164) hb); have n3_ := Aside0.mk (blk_below (zz27 BK165) hb); have n4_ := Aside0.mk (below_step (zz38 HB GE164 GE165) hb); clear HO_8; clear HO_9; clear BK164; clear BK165; clear HB; have HO_8 := n0_; have HO_9 := n1_; have BK164 := n2_; have BK165 := n3_; have HB := n4_; clear n0_ n1_ n2_ n3_ n4_; (try clear hb); obtain ⟨Ao33, co33, eo33⟩ := Kd.R_slice HO_8.out; subst eo33))
       have n0_ := Aside0.mk (Kd.R_drew HO_8.out);have n1_ := Aside0.mk (Kd.R_drew HO_9.out);have n2_ := Aside0.mk (blk_drew BK164.out);have n3_ := Aside0.mk (blk_drew BK165.out);have n4_ := Aside0.mk (below_drew1 HB.out);clear HO_8;clear HO_9;clear BK164;clear BK165;clear HB;have HO_8 := n0_;have HO_9 := n1_;have BK164 := n2_;have BK165 := n3_;have HB := n4_;clear n0_ n1_ n2_ n3_ n4_;refine start_ (n := 9) (S := fun w' => w'.cell? ⟨gb164, 0, none⟩ = some (.string a0_0) ∧ w'.cell? ⟨gb164, 1, none⟩ = some (.slice A0_1 l0_1.length c0_1) ∧ w'.cell? ⟨gb164, 2, none⟩ = some (.bool a0_2) ∧ w'.cell? ⟨gb164, 3, none⟩ = some (.string a0_3)) (ds := []) #[false, false, false, false, false, false, false, false, false] (by kernel_rfl) rfl rfl ⟨(blk_cell BK164.out 0).trans rfl, (blk_cell BK164.out 1).trans rfl, (blk_cell BK164.out 2).trans rfl, (blk_cell BK164.out 3).trans rfl⟩ (fun hHeld => ?_); refine with_tabW spec_l1Way.tab12 spec_l1Way.bits12 (fun HT_ HW_ => ?_);generalize w32.drew = w34 at HO_8 HO_9 BK164 BK165 HB hHeld ⊢;refine pureZ 0 (some 54) #[true, false, false, false, false, false, false, false, false] ?_;refine pureZ 2 (some 56) #[true, false, true, false, false, false, false, false, false] ?_;refine pureZ 4 (some 58) #[true, false, true, false, true, false, false, false, false] ?_;refine pureZ 5 (some 59) #[true, false, true, false, true, true, false, false, false] ?_;refine take_ (i := 1) (N := some 55) (v := ?_) (a' := ?_) #[true, true, true, false, true, true, false, false, false] rfl rfl (take_ofW HT_.out HW_.out (by kernel_rfl)) (fun _ _ _ h => h) (Or.inl ⟨by rfl, ?_⟩) hHeld ?_ ?_;rotate_left
       ·rintro w' ⟨s0, s1, s2, s3⟩
        go_simp
        with_reducible rfl
       rotate_left
       ·simp only [Act.put, List.setIfInBounds_toArray, List.set_cons_zero, List.set_cons_succ, i64_w, i32_w]
        rfl
       refine join_ (σ := Value × Nat) 1 #[true, true, true, true, true, true, true, true, false] (fun s_ => [(57, s_.1), (15, .pointer (some ⟨s_.2, 0, none⟩)), (60, .agg #[.string a0_0, s_.1, .bool t168, .string t184])]) (fun s_ w' => (w'.cell? ⟨gb164, 0, none⟩ = some (.string a0_0) ∧ w'.cell? ⟨gb164, 1, none⟩ = some (.slice A0_1 l0_1.length c0_1) ∧ w'.cell? ⟨gb164, 2, none⟩ = some (.bool a0_2) ∧ w'.cell? ⟨gb164, 3, none⟩ = some (.string a0_3)) ∧ (Kd.R Kd.string 9 w' w.heap.size (fun k_ => some k_ ≠ (.slice Ao33 x8_1.length co33 : Value).ownBlock ∧ some k_ ≠ (.slice Ao31 t175.length co31 : Value).ownBlock) s_.1 t186) ∧ (Kd.R Kd.string 9 w' w.heap.size (fun k_ => some k_ ≠ (s_.1 : Value).ownBlock ∧ some k_ ≠ (.slice Ao31 t175.length co31 : Value).ownBlock) (.slice Ao33 x8_1.length co33) x8_1) ∧ (Kd.R Kd.string 9 w' w.heap.size (fun k_ => some k_ ≠ (s_.1 : Value).ownBlock ∧ some k_ ≠ (.slice Ao33 x8_1.length co33 : Value).ownBlock) (.slice Ao31 t175.length co31) t175) ∧ (w'.heap[gb164]? = some (.cells #[.string a0_0, .slice A0_1 l0_1.length c0_1, .bool a0_2, .string a0_3] 27 (0, 0))) ∧ (w'.heap[gb165]? = some (.cells #[.string x166000_1, .slice none 0 0, .bool x166002_1, .string x166003_1] 27 (0, 0))) ∧ (w'.heap[s_.2]? = some (.cells #[.string (⟨#[]⟩ : ByteArray), .slice none 0 0, .bool false, .string (⟨#[]⟩ : ByteArray)] 27 (0, 0))) ∧ (w.heap.size ≤ s_.2) ∧ (w.heap.size ≤ s_.2) ∧ (gb164 ≠ s_.2) ∧ (s_.2 ≠ gb164) ∧ (gb165 ≠ s_.2) ∧ (s_.2 ≠ gb165) ∧ (Below w.heap.size w w')) ?_ ?_;rotate_left
       ·intro hCont
        refine two_ (i := 3) (j := 7) (Ni := some 57) (Nj := some 15) #[true, true, true, true, true, true, false, false, false] #[true, true, true, false, true, true, false, true, false] rfl rfl rfl rfl (two_of HT_.out (by kernel_rfl)) (by decide) (by decide) (fun K hK => ?_) (fun K hK => ?_)
        ·skip
         refine goes_ Tryz.func83 (by kernel_rfl) rfl #[.slice Ao33 x8_1.length co33] (by rfl) rfl rfl zz29 ?_;with_reducible refine (spec_PathClean.calls k1 _ _ x8_1 t186 _ ?side1 ?side2 A27.out).mono ?_
         (case side1 => exact (zz44 HO_8))
         (case side2 => exact (Kd.R_reads' HO_8.out).2.1)
         rintro e w35 ⟨v187, rfl, ho0, hb⟩;refine ⟨_, rfl, ?_⟩;have n0_ := Aside0.mk (Kd.R_elder' (zz9 HO_8) (Kd.R_base ho0) hb);have n1_ := Aside0.mk (Kd.R_elder' (zz9 HO_9) (Kd.R_base ho0) hb);have n2_ := Aside0.mk (Kd.R_lower (Kd.R_new' (Kd.R_new' ho0 (Kd.R_lt (zz9 HO_8))) (Kd.R_lt (zz9 HO_9))) (below_size (zz38 HB GE164 GE165)));have n3_ := Aside0.mk (blk_below (zz27 BK164) hb);have n4_ := Aside0.mk (blk_below (zz27 BK165) hb);have n5_ := Aside0.mk (below_step (zz38 HB GE164 GE165) hb);clear HO_8;clear HO_9;clear BK164;clear BK165;clear HB;have HO_8 := n0_;have HO_9 := n1_;have HO188 := n2_;have BK164 := n3_;have BK165 := n4_;have HB := n5_;clear n0_ n1_ n2_ n3_ n4_ n5_;(try clear hb)
         (try clear hb2)
         (try clear hk)
         (try clear hi)
         (try clear ho0)
         obtain ⟨Ao36, co36, eo36⟩ := Kd.R_slice HO188.out;(first | subst eo36 | (injection eo36 with f1_ f2_ f3_; have f4_ := f1_.symm; have f5_ := f3_.symm; clear f1_ f2_ f3_; subst f4_; subst f5_))
         refine hK.out _ _ ⟨(blk_cell BK164.out 0).trans rfl, (blk_cell BK164.out 1).trans rfl, (blk_cell BK164.out 2).trans rfl, (blk_cell BK164.out 3).trans rfl⟩ (fun hHeld => ?_);clear hK K;refine norm_ (a' := ?_) ?_ ?_;rotate_left
         ·show Act.put _ (some 57) _ = _
          simp only [Act.put, List.setIfInBounds_toArray, List.set_cons_zero, List.set_cons_succ, i64_w, i32_w]
          rfl
         refine pureZ 6 (some 60) #[true, true, true, true, true, true, true, false, false] ?_;refine one_ (i := 7) (N := some 15) #[true, true, true, true, true, true, true, true, false] rfl rfl (one_of HT_.out (by kernel_rfl)) (by decide) (fun K hK => ?_);refine box_step ?hg (N := 15) ?hd (cs := #[.string (⟨#[]⟩ : ByteArray), .slice none 0 0, .bool false, .string (⟨#[]⟩ : ByteArray)]) (t := 27) ?hr ?_; (case hd => rfl); (case hg => rfl); (case hr => exact zz8);intro gb189 hg w37 hbox hb;have n0_ := Aside0.mk (Kd.R_below (zz9 HO_8) hb);have n1_ := Aside0.mk (Kd.R_below (zz9 HO_9) hb);have n2_ := Aside0.mk (Kd.R_below (zz9 HO188) hb);have n3_ := Aside0.mk (blk_below (zz27 BK164) hb);have n4_ := Aside0.mk (blk_below (zz27 BK165) hb);have n5_ := Aside0.mk (below_step (zz38 HB GE164 GE165) hb);have n6_ := Aside0.mk (hbox);have n7_ := Aside0.mk ((by rw [hg]; exact (below_size (zz38 HB GE164 GE165)) : w.heap.size ≤ gb189));have n8_ := Aside0.mk ((by rw [hg]; exact (below_size (zz38 HB GE164 GE165)) : w.heap.size ≤ gb189));have n9_ := Aside0.mk ((by rw [hg]; exact Nat.ne_of_lt (blk_lt (zz27 BK164)) : gb164 ≠ gb189));have n10_ := Aside0.mk ((by rw [hg]; exact Nat.ne_of_gt (blk_lt (zz27 BK164)) : gb189 ≠ gb164));have n11_ := Aside0.mk ((by rw [hg]; exact Nat.ne_of_lt (blk_lt (zz27 BK165)) : gb165 ≠ gb189));have n12_ := Aside0.mk ((by rw [hg]; exact Nat.ne_of_gt (blk_lt (zz27 BK165)) : gb189 ≠ gb165));clear HO_8;clear HO_9;clear HO188;clear BK164;clear BK165;clear HB;have HO_8 := n0_;have HO_9 := n1_;have HO188 := n2_;have BK164 := n3_;have BK165 := n4_;have HB := n5_;have BK189 := n6_;have GW189 := n7_;have GE189 := n8_;have NB164_189 := n9_;have NB189_164 := n10_;have NB165_189 := n11_;have NB189_165 := n12_;clear n0_ n1_ n2_ n3_ n4_ n5_ n6_ n7_ n8_ n9_ n10_ n11_ n12_;clear hb hbox hg;refine hK.out _ _ ⟨(blk_cell BK164.out 0).trans rfl, (blk_cell BK164.out 1).trans rfl, (blk_cell BK164.out 2).trans rfl, (blk_cell BK164.out 3).trans rfl⟩ (fun hHeld => ?_);clear hK K;refine norm_ (a' := ?_) ?_ ?_;rotate_left
         ·show Act.put _ (some 15) _ = _
          simp only [Act.put, List.setIfInBounds_toArray, List.set_cons_zero, List.set_cons_succ, i64_w, i32_w]
          rfl
         exact norm_ viaP (hCont (.slice Ao36 t186.length co36, gb189) _ ⟨hHeld, (zz45 HO188), (zz46 HO_8), (zz46 HO_9), (zz27 BK164), (zz27 BK165), (zz27 BK189), GW189.out, GE189.out, NB164_189.out, NB189_164.out, NB165_189.out, NB189_165.out, (zz47 HB GE164 GE165 GE189)⟩)
        ·skip
         refine box_step ?hg (N := 15) ?hd (cs := #[.string (⟨#[]⟩ : ByteArray), .slice none 0 0, .bool false, .string (⟨#[]⟩ : ByteArray)]) (t := 27) ?hr ?_; (case hd => rfl); (case hg => rfl); (case hr => exact zz8);intro gb189 hg w35 hbox hb;have n0_ := Aside0.mk (Kd.R_below (zz9 HO_8) hb);have n1_ := Aside0.mk (Kd.R_below (zz9 HO_9) hb);have n2_ := Aside0.mk (blk_below (zz27 BK164) hb);have n3_ := Aside0.mk (blk_below (zz27 BK165) hb);have n4_ := Aside0.mk (below_step (zz38 HB GE164 GE165) hb);have n5_ := Aside0.mk (hbox);have n6_ := Aside0.mk ((by rw [hg]; exact (below_size (zz38 HB GE164 GE165)) : w.heap.size ≤ gb189));have n7_ := Aside0.mk ((by rw [hg]; exact (below_size (zz38 HB GE164 GE165)) : w.heap.size ≤ gb189));have n8_ := Aside0.mk ((by rw [hg]; exact Nat.ne_of_lt (blk_lt (zz27 BK164)) : gb164 ≠ gb189));have n9_ := Aside0.mk ((by rw [hg]; exact Nat.ne_of_gt (blk_lt (zz27 BK164)) : gb189 ≠ gb164));have n10_ := Aside0.mk ((by rw [hg]; exact Nat.ne_of_lt (blk_lt (zz27 BK165)) : gb165 ≠ gb189));have n11_ := Aside0.mk ((by rw [hg]; exact Nat.ne_of_gt (blk_lt (zz27 BK165)) : gb189 ≠ gb165));clear HO_8;clear HO_9;clear BK164;clear BK165;clear HB;have HO_8 := n0_;have HO_9 := n1_;have BK164 := n2_;have BK165 := n3_;have HB := n4_;have BK189 := n5_;have GW189 := n6_;have GE189 := n7_;have NB164_189 := n8_;have NB189_164 := n9_;have NB165_189 := n10_;have NB189_165 := n11_;clear n0_ n1_ n2_ n3_ n4_ n5_ n6_ n7_ n8_ n9_ n10_ n11_;clear hb hbox hg;refine hK.out _ _ ⟨(blk_cell BK164.out 0).trans rfl, (blk_cell BK164.out 1).trans rfl, (blk_cell BK164.out 2).trans rfl, (blk_cell BK164.out 3).trans rfl⟩ (fun hHeld => ?_);clear hK K;refine norm_ (a' := ?_) ?_ ?_;rotate_left
         ·show Act.put _ (some 15) _ = _
          simp only [Act.put, List.setIfInBounds_toArray, List.set_cons_zero, List.set_cons_succ, i64_w, i32_w]
          rfl
         refine one_ (i := 3) (N := some 57) #[true, true, true, true, true, true, false, true, false] rfl rfl (one_of HT_.out (by kernel_rfl)) (by decide) (fun K hK => ?_);refine goes_ Tryz.func83 (by kernel_rfl) rfl #[.slice Ao33 x8_1.length co33] (by rfl) rfl rfl zz29 ?_;with_reducible refine (spec_PathClean.calls k1 _ _ x8_1 t186 _ ?side1 ?side2 A27.out).mono ?_
         (case side1 => exact (zz44 HO_8))
         (case side2 => exact (Kd.R_reads' HO_8.out).2.1)
         rintro e w36 ⟨v187, rfl, ho0, hb⟩;refine ⟨_, rfl, ?_⟩;have n0_ := Aside0.mk (Kd.R_elder' (zz9 HO_8) (Kd.R_base ho0) hb);have n1_ := Aside0.mk (Kd.R_elder' (zz9 HO_9) (Kd.R_base ho0) hb);have n2_ := Aside0.mk (Kd.R_lower (Kd.R_new' (Kd.R_new' ho0 (Kd.R_lt (zz9 HO_8))) (Kd.R_lt (zz9 HO_9))) (below_size (zz47 HB GE164 GE165 GE189)));have n3_ := Aside0.mk (blk_below (zz27 BK164) hb);have n4_ := Aside0.mk (blk_below (zz27 BK165) hb);have n5_ := Aside0.mk (blk_below (zz27 BK189) hb);have n6_ := Aside0.mk (below_step (zz47 HB GE164 GE165 GE189) hb);clear HO_8;clear HO_9;clear BK164;clear BK165;clear BK189;clear HB;have HO_8 := n0_;have HO_9 := n1_;have HO188 := n2_;have BK164 := n3_;have BK165 := n4_;have BK189 := n5_;have HB := n6_;clear n0_ n1_ n2_ n3_ n4_ n5_ n6_;(try clear hb)
         (try clear hb2)
         (try clear hk)
         (try clear hi)
         (try clear ho0)
         obtain ⟨Ao37, co37, eo37⟩ := Kd.R_slice HO188.out;(first | subst eo37 | (injection eo37 with f1_ f2_ f3_; have f4_ := f1_.symm; have f5_ := f3_.symm; clear f1_ f2_ f3_; subst f4_; subst f5_))
         refine hK.out _ _ ⟨(blk_cell BK164.out 0).trans rfl, (blk_cell BK164.out 1).trans rfl, (blk_cell BK164.out 2).trans rfl, (blk_cell BK164.out 3).trans rfl⟩ (fun hHeld => ?_);clear hK K;refine norm_ (a' := ?_) ?_ ?_;rotate_left
         ·show Act.put _ (some 57) _ = _
          simp only [Act.put, List.setIfInBounds_toArray, List.set_cons_zero, List.set_cons_succ, i64_w, i32_w]
          rfl
         refine pureZ 6 (some 60) #[true, true, true, true, true, true, true, true, false] ?_;exact norm_ viaP (hCont (.slice Ao37 t186.length co37, gb189) _ ⟨hHeld, (zz45 HO188), (zz46 HO_8), (zz46 HO_9), (zz27 BK164), (zz27 BK165), (zz27 BK189), GW189.out, GE189.out, NB164_189.out, NB189_164.out, NB165_189.out, NB189_165.out, (zz47 HB GE164 GE165 GE189)⟩)
       rintro ⟨v187, gb189⟩ w38 ⟨hS_, h0_, h1_, h2_, h3_, h4_, h5_, h6_, h7_, h8_, h9_, h10_, h11_, h12_⟩;have n0_ : Aside0 (Kd.R Kd.string 9 w38 w.heap.size (fun k_ => some k_ ≠ (.slice Ao33 x8_1.length co33 : Value).ownBlock ∧ some k_ ≠ (.slice Ao31 t175.length co31 : Value).ownBlock) v187 t186) := ⟨h0_⟩;have n1_ : Aside0 (Kd.R Kd.string 9 w38 w.heap.size (fun k_ => some k_ ≠ (v187 : Value).ownBlock ∧ some k_ ≠ (.slice Ao31 t175.length co31 : Value).ownBlock) (.slice Ao33 x8_1.length co33) x8_1) := ⟨h1_⟩;have n2_ : Aside0 (Kd.R Kd.string 9 w38 w.heap.size (fun k_ => some k_ ≠ (v187 : Value).ownBlock ∧ some k_ ≠ (.slice Ao33 x8_1.length co33 : Value).ownBlock) (.slice Ao31 t175.length co31) t175) := ⟨h2_⟩;have n3_ : Aside0 (w38.heap[gb164]? = some (.cells #[.string a0_0, .slice A0_1 l0_1.length c0_1, .bool a0_2, .string a0_3] 27 (0, 0))) := ⟨h3_⟩;have n4_ : Aside0 (w38.heap[gb165]? = some (.cells #[.string x166000_1, .slice none 0 0, .bool x166002_1, .string x166003_1] 27 (0, 0))) := ⟨h4_⟩;have n5_ : Aside0 (w38.heap[gb189]? = some (.cells #[.string (⟨#[]⟩ : ByteArray), .slice none 0 0, .bool false, .string (⟨#[]⟩ : ByteArray)] 27 (0, 0))) := ⟨h5_⟩;have n6_ : Aside0 (w.heap.size ≤ gb189) := ⟨h6_⟩;have n7_ : Aside0 (w.heap.size ≤ gb189) := ⟨h7_⟩;have n8_ : Aside0 (gb164 ≠ gb189) := ⟨h8_⟩;have n9_ : Aside0 (gb189 ≠ gb164) := ⟨h9_⟩;have n10_ : Aside0 (gb165 ≠ gb189) := ⟨h10_⟩;have n11_ : Aside0 (gb189 ≠ gb165) := ⟨h11_⟩;have n12_ : Aside0 (Below w.heap.size w w38) := ⟨h12_⟩;clear HO_8;clear HO_9;clear BK164;clear BK165;clear HB;clear h0_ h1_ h2_ h3_ h4_ h5_ h6_ h7_ h8_ h9_ h10_ h11_ h12_;have HO188 := n0_;have HO_8 := n1_;have HO_9 := n2_;have BK164 := n3_;have BK165 := n4_;have BK189 := n5_;have GW189 := n6_;have GE189 := n7_;have NB164_189 := n8_;have NB189_164 := n9_;have NB165_189 := n10_;have NB189_165 := n11_;have HB := n12_;clear n0_ n1_ n2_ n3_ n4_ n5_ n6_ n7_ n8_ n9_ n10_ n11_ n12_;have hHeld : w38.cell? ⟨gb164, 0, none⟩ = some (.string a0_0) ∧ w38.cell? ⟨gb164, 1, none⟩ = some (.slice A0_1 l0_1.length c0_1) ∧ w38.cell? ⟨gb164, 2, none⟩ = some (.bool a0_2) ∧ w38.cell? ⟨gb164, 3, none⟩ = some (.string a0_3) := hS_;obtain ⟨Ao39, co39, eo39⟩ := Kd.R_slice HO188.out;(first | subst eo39 | (injection eo39 with f1_ f2_ f3_; have f4_ := f1_.symm; have f5_ := f3_.symm; clear f1_ f2_ f3_; subst f4_; subst f5_))
       refine norm_ (a' := ?_) ?_ ?_;rotate_left
       ·simp only [putAll, Act.put, List.setIfInBounds_toArray, List.set_cons_zero, List.set_cons_succ]
        rfl
       refine one_ (i := 8) (N := none) #[true, true, true, true, true, true, true, true, true] rfl rfl (one_of HT_.out (by kernel_rfl)) (by decide) (fun K hK => ?_);have hs40 : w38.cell? ⟨gb189, 0, none⟩ = some (.string (⟨#[]⟩ : ByteArray)) := (blk_cell BK189.out 0).trans rfl;have hfs40 := blk_frozen BK189.out 0;have hns40_0 := NB164_189.out;have hns40_1 := NB165_189.out;have hms40_0 := NB189_164.out;have hms40_1 := NB189_165.out;have hs41 : w38.cell? ⟨gb189, 1, none⟩ = some (.slice none 0 0) := (blk_cell BK189.out 1).trans rfl;have hfs41 := blk_frozen BK189.out 1;have hns41_0 := NB164_189.out;have hns41_1 := NB165_189.out;have hms41_0 := NB189_164.out;have hms41_1 := NB189_165.out;have hs42 : w38.cell? ⟨gb189, 2, none⟩ = some (.bool false) := (blk_cell BK189.out 2).trans rfl;have hfs42 := blk_frozen BK189.out 2;have hns42_0 := NB164_189.out;have hns42_1 := NB165_189.out;have hms42_0 := NB189_164.out;have hms42_1 := NB189_165.out;have hs43 : w38.cell? ⟨gb189, 3, none⟩ = some (.string (⟨#[]⟩ : ByteArray)) := (blk_cell BK189.out 3).trans rfl;have hfs43 := blk_frozen BK189.out 3;have hns43_0 := NB164_189.out;have hns43_1 := NB165_189.out;have hms43_0 := NB189_164.out;have hms43_1 := NB189_165.out;refine skip_ (w1 := ?_) (by rfl) rfl ?_ ?_;rotate_left
       ·go_simp
        rfl
       refine hK.out _ _ ⟨((cell_far (p := ⟨gb189, _, none⟩) NB164_189.out _).trans (((cell_far (p := ⟨gb189, _, none⟩) NB164_189.out _).trans (((cell_far (p := ⟨gb189, _, none⟩) NB164_189.out _).trans (((cell_far (p := ⟨gb189, _, none⟩) NB164_189.out _).trans (hHeld.1)))))))), ((cell_far (p := ⟨gb189, _, none⟩) NB164_189.out _).trans (((cell_far (p := ⟨gb189, _, none⟩) NB164_189.out _).trans (((cell_far (p := ⟨gb189, _, none⟩) NB164_189.out _).trans (((cell_far (p := ⟨gb189, _, none⟩) NB164_189.out _).trans (hHeld.2.1)))))))), ((cell_far (p := ⟨gb189, _, none⟩) NB164_189.out _).trans (((cell_far (p := ⟨gb189, _, none⟩) NB164_189.out _).trans (((cell_far (p := ⟨gb189, _, none⟩) NB164_189.out _).trans (((cell_far (p := ⟨gb189, _, none⟩) NB164_189.out _).trans (hHeld.2.2.1)))))))), ((cell_far (p := ⟨gb189, _, none⟩) NB164_189.out _).trans (((cell_far (p := ⟨gb189, _, none⟩) NB164_189.out _).trans (((cell_far (p := ⟨gb189, _, none⟩) NB164_189.out _).trans (((cell_far (p := ⟨gb189, _, none⟩) NB164_189.out _).trans (hHeld.2.2.2))))))))⟩ (fun hHeld => ?_);clear hK K;refine done_ (done_of HT_.out (by kernel_rfl)) ?_;have hnb44 := NB189_164.out;have hnc44 := NB164_189.out;have hnb45 := NB189_165.out;have hnc45 := NB165_189.out;obtain ⟨_, _, _, _, _, _, _, _⟩ := cf4 BK189;try go_wp2_with (first | (go_at_call 20; (with_reducible refine (spec_AddrOk.calls k1 a0_0 _ _ t186 t168 t184 true _ ?side1 ?side2 A29.out).mono ?_); (case side1 => exact (by refine (Kd.R_reads' (e := 9) (base := w.heap.size) (ok := fun k_ => (some k_ ≠ (.slice Ao33 x8_1.length co33 : Value).ownBlock ∧ some k_ ≠ (.slice Ao31 t175.length co31 : Value).ownBlock)) (n := t186.length) (c := co39) ?_).2.2; exact (zz48 HO188 BK189))); (case side2 => exact (Kd.R_reads' HO188.out).2.1); rintro e w47 ⟨rfl, hb⟩; have n0_ := Aside0.mk (Kd.R_below (zz48 HO_8 BK189) hb); have n1_ := Aside0.mk (Kd.R_below (zz48 HO_9 BK189) hb); have n2_ := Aside0.mk (Kd.R_below (zz48 HO188 BK189) hb); have n3_ := Aside0.mk (blk_below (g := gb164) (o := .cells #[.string a0_0, .slice A0_1 l0_1.length c0_1, .bool a0_2, .string a0_3] 27 (0, 0)) (zz50 BK164 NB164_189) hb); have n4_ := Aside0.mk (blk_below (g := gb165) (o := .cells #[.string x166000_1, .slice none 0 0, .bool x166002_1, .string x166003_1] 27 (0, 0)) (zz50 BK165 NB165_189) hb); have n5_ := Aside0.mk (blk_below (g := gb189) (o := .cells #[.string a0_0, .slice Ao39 t186.length co39, .bool t168, .string t184] 27 (0, 0)) (zz42 BK189) hb); have n6_ := Aside0.mk (below_step (zz47 HB GE164 GE165 GE189) hb); clear HO_8; clear HO_9; clear HO188; clear BK164; clear BK165; clear BK189; clear HB; have HO_8 := n0_; have HO_9 := n1_; have HO188 := n2_; have BK164 := n3_; have BK165 := n4_; have BK189 := n5_; have HB := n6_; clear n0_ n1_ n2_ n3_ n4_ n5_ n6_; (try clear hb); obtain ⟨_, _, _, _, _, _, _, _⟩ := cf4 BK189; have hnb49 := NB165_164.out; have hnc49 := NB164_165.out; obtain ⟨_, _, _, _, _, _, _, _⟩ := cf4 BK165))
       refine bodyPost_ret (results_ct rfl _ _ gb165 27 #[.string a0_0, .slice Ao39 t186.length co39, .bool t168, .string t184] (0, 0) _ rfl (zz42 BK165) Tryz.underlying27 rfl (by kernel_rfl)) rfl ?_;exact ⟨_, zz5, (zz51 (rt HO188 BK165)), (zz47 HB GE164 GE165 GE189)⟩
      ·replace c30 := Bool.eq_false_iff.mpr c30
       subst c30;rw [if_neg (show ¬ (false = true) by decide)] at H;simp only [Option.some.injEq, Prod.mk.injEq] at H
       obtain ⟨rfl, rfl, rfl, rfl, rfl⟩ := H;obtain ⟨Ao51, co51, eo51⟩ := Kd.R_slice HO_9.out;subst eo51;try go_wp2_with (first | ((with_reducible refine gate_callee (f := 67) rfl ?_); refine gsL (some 51) Tryz.func67 #[.string t167] ?_; (with_reducible refine (spec_EscNorm.calls k1 t167 t184 true _ A26.out).mono ?_); rintro e w52 ⟨rfl, hb⟩; refine ⟨_, rfl, ?_⟩; have n0_ := Aside0.mk (Kd.R_below (zz9 HO_8) hb); have n1_ := Aside0.mk (Kd.R_below (zz9 HO_9) hb); have n2_ := Aside0.mk (blk_below (zz27 BK164) hb); have n3_ := Aside0.mk (blk_below (zz27 BK165) hb); have n4_ := Aside0.mk (below_step (zz38 HB GE164 GE165) hb); clear HO_8; clear HO_9; clear BK164; clear BK165; clear HB; have HO_8 := n0_; have HO_9 := n1_; have BK164 := n2_; have BK165 := n3_; have HB := n4_; clear n0_ n1_ n2_ n3_ n4_; (try clear hb); obtain ⟨Ao53, co53, eo53⟩ := Kd.R_slice HO_8.out; subst eo53))
       have n0_ := Aside0.mk (Kd.R_drew HO_8.out);have n1_ := Aside0.mk (Kd.R_drew HO_9.out);have n2_ := Aside0.mk (blk_drew BK164.out);have n3_ := Aside0.mk (blk_drew BK165.out);have n4_ := Aside0.mk (below_drew1 HB.out);clear HO_8;clear HO_9;clear BK164;clear BK165;clear HB;have HO_8 := n0_;have HO_9 := n1_;have BK164 := n2_;have BK165 := n3_;have HB := n4_;clear n0_ n1_ n2_ n3_ n4_;refine start_ (n := 9) (S := fun w' => w'.cell? ⟨gb164, 0, none⟩ = some (.string a0_0) ∧ w'.cell? ⟨gb164, 1, none⟩ = some (.slice A0_1 l0_1.length c0_1) ∧ w'.cell? ⟨gb164, 2, none⟩ = some (.bool a0_2) ∧ w'.cell? ⟨gb164, 3, none⟩ = some (.string a0_3)) (ds := []) #[false, false, false, false, false, false, false, false, false] (by kernel_rfl) rfl rfl ⟨(blk_cell BK164.out 0).trans rfl, (blk_cell BK164.out 1).trans rfl, (blk_cell BK164.out 2).trans rfl, (blk_cell BK164.out 3).trans rfl⟩ (fun hHeld => ?_); refine with_tabW spec_l1Way.tab12 spec_l1Way.bits12 (fun HT_ HW_ => ?_);generalize w52.drew = w54 at HO_8 HO_9 BK164 BK165 HB hHeld ⊢;refine pureZ 0 (some 54) #[true, false, false, false, false, false, false, false, false] ?_;refine pureZ 2 (some 56) #[true, false, true, false, false, false, false, false, false] ?_;refine pureZ 4 (some 58) #[true, false, true, false, true, false, false, false, false] ?_;refine pureZ 5 (some 59) #[true, false, true, false, true, true, false, false, false] ?_;refine take_ (i := 1) (N := some 55) (v := ?_) (a' := ?_) #[true, true, true, false, true, true, false, false, false] rfl rfl (take_ofW HT_.out HW_.out (by kernel_rfl)) (fun _ _ _ h => h) (Or.inl ⟨by rfl, ?_⟩) hHeld ?_ ?_;rotate_left
       ·rintro w' ⟨s0, s1, s2, s3⟩
        go_simp
        with_reducible rfl
       rotate_left
       ·simp only [Act.put, List.setIfInBounds_toArray, List.set_cons_zero, List.set_cons_succ, i64_w, i32_w]
        rfl
       refine join_ (σ := Value × Nat) 1 #[true, true, true, true, true, true, true, true, false] (fun s_ => [(57, s_.1), (15, .pointer (some ⟨s_.2, 0, none⟩)), (60, .agg #[.string a0_0, s_.1, .bool t168, .string t184])]) (fun s_ w' => (w'.cell? ⟨gb164, 0, none⟩ = some (.string a0_0) ∧ w'.cell? ⟨gb164, 1, none⟩ = some (.slice A0_1 l0_1.length c0_1) ∧ w'.cell? ⟨gb164, 2, none⟩ = some (.bool a0_2) ∧ w'.cell? ⟨gb164, 3, none⟩ = some (.string a0_3)) ∧ (Kd.R Kd.string 9 w' w.heap.size (fun k_ => some k_ ≠ (.slice Ao53 x8_1.length co53 : Value).ownBlock ∧ some k_ ≠ (.slice Ao51 t175.length co51 : Value).ownBlock) s_.1 t186) ∧ (Kd.R Kd.string 9 w' w.heap.size (fun k_ => some k_ ≠ (s_.1 : Value).ownBlock ∧ some k_ ≠ (.slice Ao51 t175.length co51 : Value).ownBlock) (.slice Ao53 x8_1.length co53) x8_1) ∧ (Kd.R Kd.string 9 w' w.heap.size (fun k_ => some k_ ≠ (s_.1 : Value).ownBlock ∧ some k_ ≠ (.slice Ao53 x8_1.length co53 : Value).ownBlock) (.slice Ao51 t175.length co51) t175) ∧ (w'.heap[gb164]? = some (.cells #[.string a0_0, .slice A0_1 l0_1.length c0_1, .bool a0_2, .string a0_3] 27 (0, 0))) ∧ (w'.heap[gb165]? = some (.cells #[.string x166000_1, .slice none 0 0, .bool x166002_1, .string x166003_1] 27 (0, 0))) ∧ (w'.heap[s_.2]? = some (.cells #[.string (⟨#[]⟩ : ByteArray), .slice none 0 0, .bool false, .string (⟨#[]⟩ : ByteArray)] 27 (0, 0))) ∧ (w.heap.size ≤ s_.2) ∧ (w.heap.size ≤ s_.2) ∧ (gb164 ≠ s_.2) ∧ (s_.2 ≠ gb164) ∧ (gb165 ≠ s_.2) ∧ (s_.2 ≠ gb165) ∧ (Below w.heap.size w w')) ?_ ?_;rotate_left
       ·intro hCont
        refine two_ (i := 3) (j := 7) (Ni := some 57) (Nj := some 15) #[true, true, true, true, true, true, false, false, false] #[true, true, true, false, true, true, false, true, false] rfl rfl rfl rfl (two_of HT_.out (by kernel_rfl)) (by decide) (by decide) (fun K hK => ?_) (fun K hK => ?_)
        ·skip
         refine goes_ Tryz.func83 (by kernel_rfl) rfl #[.slice Ao53 x8_1.length co53] (by rfl) rfl rfl zz29 ?_;with_reducible refine (spec_PathClean.calls k1 _ _ x8_1 t186 _ ?side1 ?side2 A27.out).mono ?_
         (case side1 => exact (zz44 HO_8))
         (case side2 => exact (Kd.R_reads' HO_8.out).2.1)
         rintro e w55 ⟨v187, rfl, ho0, hb⟩;refine ⟨_, rfl, ?_⟩;have n0_ := Aside0.mk (Kd.R_elder' (zz9 HO_8) (Kd.R_base ho0) hb);have n1_ := Aside0.mk (Kd.R_elder' (zz9 HO_9) (Kd.R_base ho0) hb);have n2_ := Aside0.mk (Kd.R_lower (Kd.R_new' (Kd.R_new' ho0 (Kd.R_lt (zz9 HO_8))) (Kd.R_lt (zz9 HO_9))) (below_size (zz38 HB GE164 GE165)));have n3_ := Aside0.mk (blk_below (zz27 BK164) hb);have n4_ := Aside0.mk (blk_below (zz27 BK165) hb);have n5_ := Aside0.mk (below_step (zz38 HB GE164 GE165) hb);clear HO_8;clear HO_9;clear BK164;clear BK165;clear HB;have HO_8 := n0_;have HO_9 := n1_;have HO188 := n2_;have BK164 := n3_;have BK165 := n4_;have HB := n5_;clear n0_ n1_ n2_ n3_ n4_ n5_;(try clear hb)
         (try clear hb2)
         (try clear hk)
         (try clear hi)
         (try clear ho0)
         obtain ⟨Ao56, co56, eo56⟩ := Kd.R_slice HO188.out;(first | subst eo56 | (injection eo56 with f1_ f2_ f3_; have f4_ := f1_.symm; have f5_ := f3_.symm; clear f1_ f2_ f3_; subst f4_; subst f5_))
         refine hK.out _ _ ⟨(blk_cell BK164.out 0).trans rfl, (blk_cell BK164.out 1).trans rfl, (blk_cell BK164.out 2).trans rfl, (blk_cell BK164.out 3).trans rfl⟩ (fun hHeld => ?_);clear hK K;refine norm_ (a' := ?_) ?_ ?_;rotate_left
         ·show Act.put _ (some 57) _ = _
          simp only [Act.put, List.setIfInBounds_toArray, List.set_cons_zero, List.set_cons_succ, i64_w, i32_w]
          rfl
         refine pureZ 6 (some 60) #[true, true, true, true, true, true, true, false, false] ?_;refine one_ (i := 7) (N := some 15) #[true, true, true, true, true, true, true, true, false] rfl rfl (one_of HT_.out (by kernel_rfl)) (by decide) (fun K hK => ?_);refine box_step ?hg (N := 15) ?hd (cs := #[.string (⟨#[]⟩ : ByteArray), .slice none 0 0, .bool false, .string (⟨#[]⟩ : ByteArray)]) (t := 27) ?hr ?_; (case hd => rfl); (case hg => rfl); (case hr => exact zz8);intro gb189 hg w57 hbox hb;have n0_ := Aside0.mk (Kd.R_below (zz9 HO_8) hb);have n1_ := Aside0.mk (Kd.R_below (zz9 HO_9) hb);have n2_ := Aside0.mk (Kd.R_below (zz9 HO188) hb);have n3_ := Aside0.mk (blk_below (zz27 BK164) hb);have n4_ := Aside0.mk (blk_below (zz27 BK165) hb);have n5_ := Aside0.mk (below_step (zz38 HB GE164 GE165) hb);have n6_ := Aside0.mk (hbox);have n7_ := Aside0.mk ((by rw [hg]; exact (below_size (zz38 HB GE164 GE165)) : w.heap.size ≤ gb189));have n8_ := Aside0.mk ((by rw [hg]; exact (below_size (zz38 HB GE164 GE165)) : w.heap.size ≤ gb189));have n9_ := Aside0.mk ((by rw [hg]; exact Nat.ne_of_lt (blk_lt (zz27 BK164)) : gb164 ≠ gb189));have n10_ := Aside0.mk ((by rw [hg]; exact Nat.ne_of_gt (blk_lt (zz27 BK164)) : gb189 ≠ gb164));have n11_ := Aside0.mk ((by rw [hg]; exact Nat.ne_of_lt (blk_lt (zz27 BK165)) : gb165 ≠ gb189));have n12_ := Aside0.mk ((by rw [hg]; exact Nat.ne_of_gt (blk_lt (zz27 BK165)) : gb189 ≠ gb165));clear HO_8;clear HO_9;clear HO188;clear BK164;clear BK165;clear HB;have HO_8 := n0_;have HO_9 := n1_;have HO188 := n2_;have BK164 := n3_;have BK165 := n4_;have HB := n5_;have BK189 := n6_;have GW189 := n7_;have GE189 := n8_;have NB164_189 := n9_;have NB189_164 := n10_;have NB165_189 := n11_;have NB189_165 := n12_;clear n0_ n1_ n2_ n3_ n4_ n5_ n6_ n7_ n8_ n9_ n10_ n11_ n12_;clear hb hbox hg;refine hK.out _ _ ⟨(blk_cell BK164.out 0).trans rfl, (blk_cell BK164.out 1).trans rfl, (blk_cell BK164.out 2).trans rfl, (blk_cell BK164.out 3).trans rfl⟩ (fun hHeld => ?_);clear hK K;refine norm_ (a' := ?_) ?_ ?_;rotate_left
         ·show Act.put _ (some 15) _ = _
          simp only [Act.put, List.setIfInBounds_toArray, List.set_cons_zero, List.set_cons_succ, i64_w, i32_w]
          rfl
         exact norm_ viaP (hCont (.slice Ao56 t186.length co56, gb189) _ ⟨hHeld, (zz45 HO188), (zz46 HO_8), (zz46 HO_9), (zz27 BK164), (zz27 BK165), (zz27 BK189), GW189.out, GE189.out, NB164_189.out, NB189_164.out, NB165_189.out, NB189_165.out, (zz47 HB GE164 GE165 GE189)⟩)
        ·skip
         refine box_step ?hg (N := 15) ?hd (cs := #[.string (⟨#[]⟩ : ByteArray), .slice none 0 0, .bool false, .string (⟨#[]⟩ : ByteArray)]) (t := 27) ?hr ?_; (case hd => rfl); (case hg => rfl); (case hr => exact zz8);intro gb189 hg w55 hbox hb;have n0_ := Aside0.mk (Kd.R_below (zz9 HO_8) hb);have n1_ := Aside0.mk (Kd.R_below (zz9 HO_9) hb);have n2_ := Aside0.mk (blk_below (zz27 BK164) hb);have n3_ := Aside0.mk (blk_below (zz27 BK165) hb);have n4_ := Aside0.mk (below_step (zz38 HB GE164 GE165) hb);have n5_ := Aside0.mk (hbox);have n6_ := Aside0.mk ((by rw [hg]; exact (below_size (zz38 HB GE164 GE165)) : w.heap.size ≤ gb189));have n7_ := Aside0.mk ((by rw [hg]; exact (below_size (zz38 HB GE164 GE165)) : w.heap.size ≤ gb189));have n8_ := Aside0.mk ((by rw [hg]; exact Nat.ne_of_lt (blk_lt (zz27 BK164)) : gb164 ≠ gb189));have n9_ := Aside0.mk ((by rw [hg]; exact Nat.ne_of_gt (blk_lt (zz27 BK164)) : gb189 ≠ gb164));have n10_ := Aside0.mk ((by rw [hg]; exact Nat.ne_of_lt (blk_lt (zz27 BK165)) : gb165 ≠ gb189));have n11_ := Aside0.mk ((by rw [hg]; exact Nat.ne_of_gt (blk_lt (zz27 BK165)) : gb189 ≠ gb165));clear HO_8;clear HO_9;clear BK164;clear BK165;clear HB;have HO_8 := n0_;have HO_9 := n1_;have BK164 := n2_;have BK165 := n3_;have HB := n4_;have BK189 := n5_;have GW189 := n6_;have GE189 := n7_;have NB164_189 := n8_;have NB189_164 := n9_;have NB165_189 := n10_;have NB189_165 := n11_;clear n0_ n1_ n2_ n3_ n4_ n5_ n6_ n7_ n8_ n9_ n10_ n11_;clear hb hbox hg;refine hK.out _ _ ⟨(blk_cell BK164.out 0).trans rfl, (blk_cell BK164.out 1).trans rfl, (blk_cell BK164.out 2).trans rfl, (blk_cell BK164.out 3).trans rfl⟩ (fun hHeld => ?_);clear hK K;refine norm_ (a' := ?_) ?_ ?_;rotate_left
         ·show Act.put _ (some 15) _ = _
          simp only [Act.put, List.setIfInBounds_toArray, List.set_cons_zero, List.set_cons_succ, i64_w, i32_w]
          rfl
         refine one_ (i := 3) (N := some 57) #[true, true, true, true, true, true, false, true, false] rfl rfl (one_of HT_.out (by kernel_rfl)) (by decide) (fun K hK => ?_);refine goes_ Tryz.func83 (by kernel_rfl) rfl #[.slice Ao53 x8_1.length co53] (by rfl) rfl rfl zz29 ?_;with_reducible refine (spec_PathClean.calls k1 _ _ x8_1 t186 _ ?side1 ?side2 A27.out).mono ?_
         (case side1 => exact (zz44 HO_8))
         (case side2 => exact (Kd.R_reads' HO_8.out).2.1)
         rintro e w56 ⟨v187, rfl, ho0, hb⟩;refine ⟨_, rfl, ?_⟩;have n0_ := Aside0.mk (Kd.R_elder' (zz9 HO_8) (Kd.R_base ho0) hb);have n1_ := Aside0.mk (Kd.R_elder' (zz9 HO_9) (Kd.R_base ho0) hb);have n2_ := Aside0.mk (Kd.R_lower (Kd.R_new' (Kd.R_new' ho0 (Kd.R_lt (zz9 HO_8))) (Kd.R_lt (zz9 HO_9))) (below_size (zz47 HB GE164 GE165 GE189)));have n3_ := Aside0.mk (blk_below (zz27 BK164) hb);have n4_ := Aside0.mk (blk_below (zz27 BK165) hb);have n5_ := Aside0.mk (blk_below (zz27 BK189) hb);have n6_ := Aside0.mk (below_step (zz47 HB GE164 GE165 GE189) hb);clear HO_8;clear HO_9;clear BK164;clear BK165;clear BK189;clear HB;have HO_8 := n0_;have HO_9 := n1_;have HO188 := n2_;have BK164 := n3_;have BK165 := n4_;have BK189 := n5_;have HB := n6_;clear n0_ n1_ n2_ n3_ n4_ n5_ n6_;(try clear hb)
         (try clear hb2)
         (try clear hk)
         (try clear hi)
         (try clear ho0)
         obtain ⟨Ao57, co57, eo57⟩ := Kd.R_slice HO188.out;(first | subst eo57 | (injection eo57 with f1_ f2_ f3_; have f4_ := f1_.symm; have f5_ := f3_.symm; clear f1_ f2_ f3_; subst f4_; subst f5_))
         refine hK.out _ _ ⟨(blk_cell BK164.out 0).trans rfl, (blk_cell BK164.out 1).trans rfl, (blk_cell BK164.out 2).trans rfl, (blk_cell BK164.out 3).trans rfl⟩ (fun hHeld => ?_);clear hK K;refine norm_ (a' := ?_) ?_ ?_;rotate_left
         ·show Act.put _ (some 57) _ = _
          simp only [Act.put, List.setIfInBounds_toArray, List.set_cons_zero, List.set_cons_succ, i64_w, i32_w]
          rfl
         refine pureZ 6 (some 60) #[true, true, true, true, true, true, true, true, false] ?_;exact norm_ viaP (hCont (.slice Ao57 t186.length co57, gb189) _ ⟨hHeld, (zz45 HO188), (zz46 HO_8), (zz46 HO_9), (zz27 BK164), (zz27 BK165), (zz27 BK189), GW189.out, GE189.out, NB164_189.out, NB189_164.out, NB165_189.out, NB189_165.out, (zz47 HB GE164 GE165 GE189)⟩)
       rintro ⟨v187, gb189⟩ w58 ⟨hS_, h0_, h1_, h2_, h3_, h4_, h5_, h6_, h7_, h8_, h9_, h10_, h11_, h12_⟩;have n0_ : Aside0 (Kd.R Kd.string 9 w58 w.heap.size (fun k_ => some k_ ≠ (.slice Ao53 x8_1.length co53 : Value).ownBlock ∧ some k_ ≠ (.slice Ao51 t175.length co51 : Value).ownBlock) v187 t186) := ⟨h0_⟩;have n1_ : Aside0 (Kd.R Kd.string 9 w58 w.heap.size (fun k_ => some k_ ≠ (v187 : Value).ownBlock ∧ some k_ ≠ (.slice Ao51 t175.length co51 : Value).ownBlock) (.slice Ao53 x8_1.length co53) x8_1) := ⟨h1_⟩;have n2_ : Aside0 (Kd.R Kd.string 9 w58 w.heap.size (fun k_ => some k_ ≠ (v187 : Value).ownBlock ∧ some k_ ≠ (.slice Ao53 x8_1.length co53 : Value).ownBlock) (.slice Ao51 t175.length co51) t175) := ⟨h2_⟩;have n3_ : Aside0 (w58.heap[gb164]? = some (.cells #[.string a0_0, .slice A0_1 l0_1.length c0_1, .bool a0_2, .string a0_3] 27 (0, 0))) := ⟨h3_⟩;have n4_ : Aside0 (w58.heap[gb165]? = some (.cells #[.string x166000_1, .slice none 0 0, .bool x166002_1, .string x166003_1] 27 (0, 0))) := ⟨h4_⟩;have n5_ : Aside0 (w58.heap[gb189]? = some (.cells #[.string (⟨#[]⟩ : ByteArray), .slice none 0 0, .bool false, .string (⟨#[]⟩ : ByteArray)] 27 (0, 0))) := ⟨h5_⟩;have n6_ : Aside0 (w.heap.size ≤ gb189) := ⟨h6_⟩;have n7_ : Aside0 (w.heap.size ≤ gb189) := ⟨h7_⟩;have n8_ : Aside0 (gb164 ≠ gb189) := ⟨h8_⟩;have n9_ : Aside0 (gb189 ≠ gb164) := ⟨h9_⟩;have n10_ : Aside0 (gb165 ≠ gb189) := ⟨h10_⟩;have n11_ : Aside0 (gb189 ≠ gb165) := ⟨h11_⟩;have n12_ : Aside0 (Below w.heap.size w w58) := ⟨h12_⟩;clear HO_8;clear HO_9;clear BK164;clear BK165;clear HB;clear h0_ h1_ h2_ h3_ h4_ h5_ h6_ h7_ h8_ h9_ h10_ h11_ h12_;have HO188 := n0_;have HO_8 := n1_;have HO_9 := n2_;have BK164 := n3_;have BK165 := n4_;have BK189 := n5_;have GW189 := n6_;have GE189 := n7_;have NB164_189 := n8_;have NB189_164 := n9_;have NB165_189 := n10_;have NB189_165 := n11_;have HB := n12_;clear n0_ n1_ n2_ n3_ n4_ n5_ n6_ n7_ n8_ n9_ n10_ n11_ n12_;have hHeld : w58.cell? ⟨gb164, 0, none⟩ = some (.string a0_0) ∧ w58.cell? ⟨gb164, 1, none⟩ = some (.slice A0_1 l0_1.length c0_1) ∧ w58.cell? ⟨gb164, 2, none⟩ = some (.bool a0_2) ∧ w58.cell? ⟨gb164, 3, none⟩ = some (.string a0_3) := hS_;obtain ⟨Ao59, co59, eo59⟩ := Kd.R_slice HO188.out;(first | subst eo59 | (injection eo59 with f1_ f2_ f3_; have f4_ := f1_.symm; have f5_ := f3_.symm; clear f1_ f2_ f3_; subst f4_; subst f5_))
       refine norm_ (a' := ?_) ?_ ?_;rotate_left
       ·simp only [putAll, Act.put, List.setIfInBounds_toArray, List.set_cons_zero, List.set_cons_succ]
        rfl
       refine one_ (i := 8) (N := none) #[true, true, true, true, true, true, true, true, true] rfl rfl (one_of HT_.out (by kernel_rfl)) (by decide) (fun K hK => ?_);have hs60 : w58.cell? ⟨gb189, 0, none⟩ = some (.string (⟨#[]⟩ : ByteArray)) := (blk_cell BK189.out 0).trans rfl;have hfs60 := blk_frozen BK189.out 0;have hns60_0 := NB164_189.out;have hns60_1 := NB165_189.out;have hms60_0 := NB189_164.out;have hms60_1 := NB189_165.out;have hs61 : w58.cell? ⟨gb189, 1, none⟩ = some (.slice none 0 0) := (blk_cell BK189.out 1).trans rfl;have hfs61 := blk_frozen BK189.out 1;have hns61_0 := NB164_189.out;have hns61_1 := NB165_189.out;have hms61_0 := NB189_164.out;have hms61_1 := NB189_165.out;have hs62 : w58.cell? ⟨gb189, 2, none⟩ = some (.bool false) := (blk_cell BK189.out 2).trans rfl;have hfs62 := blk_frozen BK189.out 2;have hns62_0 := NB164_189.out;have hns62_1 := NB165_189.out;have hms62_0 := NB189_164.out;have hms62_1 := NB189_165.out;have hs63 : w58.cell? ⟨gb189, 3, none⟩ = some (.string (⟨#[]⟩ : ByteArray)) := (blk_cell BK189.out 3).trans rfl;have hfs63 := blk_frozen BK189.out 3;have hns63_0 := NB164_189.out;have hns63_1 := NB165_189.out;have hms63_0 := NB189_164.out;have hms63_1 := NB189_165.out;refine skip_ (w1 := ?_) (by rfl) rfl ?_ ?_;rotate_left
       ·go_simp
        rfl
       refine hK.out _ _ ⟨((cell_far (p := ⟨gb189, _, none⟩) NB164_189.out _).trans (((cell_far (p := ⟨gb189, _, none⟩) NB164_189.out _).trans (((cell_far (p := ⟨gb189, _, none⟩) NB164_189.out _).trans (((cell_far (p := ⟨gb189, _, none⟩) NB164_189.out _).trans (hHeld.1)))))))), ((cell_far (p := ⟨gb189, _, none⟩) NB164_189.out _).trans (((cell_far (p := ⟨gb189, _, none⟩) NB164_189.out _).trans (((cell_far (p := ⟨gb189, _, none⟩) NB164_189.out _).trans (((cell_far (p := ⟨gb189, _, none⟩) NB164_189.out _).trans (hHeld.2.1)))))))), ((cell_far (p := ⟨gb189, _, none⟩) NB164_189.out _).trans (((cell_far (p := ⟨gb189, _, none⟩) NB164_189.out _).trans (((cell_far (p := ⟨gb189, _, none⟩) NB164_189.out _).trans (((cell_far (p := ⟨gb189, _, none⟩) NB164_189.out _).trans (hHeld.2.2.1)))))))), ((cell_far (p := ⟨gb189, _, none⟩) NB164_189.out _).trans (((cell_far (p := ⟨gb189, _, none⟩) NB164_189.out _).trans (((cell_far (p := ⟨gb189, _, none⟩) NB164_189.out _).trans (((cell_far (p := ⟨gb189, _, none⟩) NB164_189.out _).trans (hHeld.2.2.2))))))))⟩ (fun hHeld => ?_);clear hK K;refine done_ (done_of HT_.out (by kernel_rfl)) ?_;have hnb64 := NB189_164.out;have hnc64 := NB164_189.out;have hnb65 := NB189_165.out;have hnc65 := NB165_189.out;obtain ⟨_, _, _, _, _, _, _, _⟩ := cf4 BK189;try go_wp2_with (first | (go_at_call 20; (with_reducible refine (spec_AddrOk.calls k1 a0_0 _ _ t186 t168 t184 false _ ?side1 ?side2 A29.out).mono ?_); (case side1 => exact (by refine (Kd.R_reads' (e := 9) (base := w.heap.size) (ok := fun k_ => (some k_ ≠ (.slice Ao53 x8_1.length co53 : Value).ownBlock ∧ some k_ ≠ (.slice Ao51 t175.length co51 : Value).ownBlock)) (n := t186.length) (c := co59) ?_).2.2; exact (zz52 HO188 BK189))); (case side2 => exact (Kd.R_reads' HO188.out).2.1); rintro e w67 ⟨rfl, hb⟩; have n0_ := Aside0.mk (Kd.R_below (zz52 HO_8 BK189) hb); have n1_ := Aside0.mk (Kd.R_below (zz52 HO_9 BK189) hb); have n2_ := Aside0.mk (Kd.R_below (zz52 HO188 BK189) hb); have n3_ := Aside0.mk (blk_below (g := gb164) (o := .cells #[.string a0_0, .slice A0_1 l0_1.length c0_1, .bool a0_2, .string a0_3] 27 (0, 0)) (zz50 BK164 NB164_189) hb); have n4_ := Aside0.mk (blk_below (g := gb165) (o := .cells #[.string x166000_1, .slice none 0 0, .bool x166002_1, .string x166003_1] 27 (0, 0)) (zz50 BK165 NB165_189) hb); have n5_ := Aside0.mk (blk_below (g := gb189) (o := .cells #[.string a0_0, .slice Ao59 t186.length co59, .bool t168, .string t184] 27 (0, 0)) (zz42 BK189) hb); have n6_ := Aside0.mk (below_step (zz47 HB GE164 GE165 GE189) hb); clear HO_8; clear HO_9; clear HO188; clear BK164; clear BK165; clear BK189; clear HB; have HO_8 := n0_; have HO_9 := n1_; have HO188 := n2_; have BK164 := n3_; have BK165 := n4_; have BK189 := n5_; have HB := n6_; clear n0_ n1_ n2_ n3_ n4_ n5_ n6_; (try clear hb); have hnb68 := NB165_164.out; have hnc68 := NB164_165.out; obtain ⟨_, _, _, _, _, _, _, _⟩ := cf4 BK165))
       refine bodyPost_ret (results_ct rfl _ _ gb165 27 #[.string (⟨#[]⟩ : ByteArray), .slice none 0 0, .bool false, .string (⟨#[]⟩ : ByteArray)] (0, 0) _ rfl (zz42 BK165) Tryz.underlying27 rfl (by kernel_rfl)) rfl ?_;exact ⟨_, zz5, zz43, (zz47 HB GE164 GE165 GE189)⟩
     ·replace c28 := Bool.eq_false_iff.mpr c28
      subst c28;rw [if_neg (show ¬ (false = true) by decide)] at H;simp only [Option.some.injEq, Prod.mk.injEq] at H
      obtain ⟨rfl, rfl, rfl, rfl, rfl⟩ := H;obtain ⟨Ao70, co70, eo70⟩ := Kd.R_slice HO_9.out;subst eo70;try go_wp2_with (first | ((with_reducible refine gate_callee (f := 67) rfl ?_); refine gsL (some 51) Tryz.func67 #[.string t167] ?_; (with_reducible refine (spec_EscNorm.calls k1 t167 t184 false _ A26.out).mono ?_); rintro e w71 ⟨rfl, hb⟩; refine ⟨_, rfl, ?_⟩; have n0_ := Aside0.mk (Kd.R_below (zz9 HO_8) hb); have n1_ := Aside0.mk (Kd.R_below (zz9 HO_9) hb); have n2_ := Aside0.mk (blk_below (zz27 BK164) hb); have n3_ := Aside0.mk (blk_below (zz27 BK165) hb); have n4_ := Aside0.mk (below_step (zz38 HB GE164 GE165) hb); clear HO_8; clear HO_9; clear BK164; clear BK165; clear HB; have HO_8 := n0_; have HO_9 := n1_; have BK164 := n2_; have BK165 := n3_; have HB := n4_; clear n0_ n1_ n2_ n3_ n4_; (try clear hb); obtain ⟨Ao72, co72, eo72⟩ := Kd.R_slice HO_8.out; subst eo72))
      have n0_ := Aside0.mk (Kd.R_drew HO_8.out);have n1_ := Aside0.mk (Kd.R_drew HO_9.out);have n2_ := Aside0.mk (blk_drew BK164.out);have n3_ := Aside0.mk (blk_drew BK165.out);have n4_ := Aside0.mk (below_drew1 HB.out);clear HO_8;clear HO_9;clear BK164;clear BK165;clear HB;have HO_8 := n0_;have HO_9 := n1_;have BK164 := n2_;have BK165 := n3_;have HB := n4_;clear n0_ n1_ n2_ n3_ n4_;refine start_ (n := 9) (S := fun w' => w'.cell? ⟨gb164, 0, none⟩ = some (.string a0_0) ∧ w'.cell? ⟨gb164, 1, none⟩ = some (.slice A0_1 l0_1.length c0_1) ∧ w'.cell? ⟨gb164, 2, none⟩ = some (.bool a0_2) ∧ w'.cell? ⟨gb164, 3, none⟩ = some (.string a0_3)) (ds := []) #[false, false, false, false, false, false, false, false, false] (by kernel_rfl) rfl rfl ⟨(blk_cell BK164.out 0).trans rfl, (blk_cell BK164.out 1).trans rfl, (blk_cell BK164.out 2).trans rfl, (blk_cell BK164.out 3).trans rfl⟩ (fun hHeld => ?_); refine with_tabW spec_l1Way.tab12 spec_l1Way.bits12 (fun HT_ HW_ => ?_);generalize w71.drew = w73 at HO_8 HO_9 BK164 BK165 HB hHeld ⊢;refine pureZ 0 (some 54) #[true, false, false, false, false, false, false, false, false] ?_;refine pureZ 2 (some 56) #[true, false, true, false, false, false, false, false, false] ?_;refine pureZ 4 (some 58) #[true, false, true, false, true, false, false, false, false] ?_;refine pureZ 5 (some 59) #[true, false, true, false, true, true, false, false, false] ?_;refine take_ (i := 1) (N := some 55) (v := ?_) (a' := ?_) #[true, true, true, false, true, true, false, false, false] rfl rfl (take_ofW HT_.out HW_.out (by kernel_rfl)) (fun _ _ _ h => h) (Or.inl ⟨by rfl, ?_⟩) hHeld ?_ ?_;rotate_left
      ·rintro w' ⟨s0, s1, s2, s3⟩
       go_simp
       with_reducible rfl
      rotate_left
      ·simp only [Act.put, List.setIfInBounds_toArray, List.set_cons_zero, List.set_cons_succ, i64_w, i32_w]
       rfl
      refine join_ (σ := Value × Nat) 1 #[true, true, true, true, true, true, true, true, false] (fun s_ => [(57, s_.1), (15, .pointer (some ⟨s_.2, 0, none⟩)), (60, .agg #[.string a0_0, s_.1, .bool t168, .string t184])]) (fun s_ w' => (w'.cell? ⟨gb164, 0, none⟩ = some (.string a0_0) ∧ w'.cell? ⟨gb164, 1, none⟩ = some (.slice A0_1 l0_1.length c0_1) ∧ w'.cell? ⟨gb164, 2, none⟩ = some (.bool a0_2) ∧ w'.cell? ⟨gb164, 3, none⟩ = some (.string a0_3)) ∧ (Kd.R Kd.string 9 w' w.heap.size (fun k_ => some k_ ≠ (.slice Ao72 x8_1.length co72 : Value).ownBlock ∧ some k_ ≠ (.slice Ao70 t175.length co70 : Value).ownBlock) s_.1 t186) ∧ (Kd.R Kd.string 9 w' w.heap.size (fun k_ => some k_ ≠ (s_.1 : Value).ownBlock ∧ some k_ ≠ (.slice Ao70 t175.length co70 : Value).ownBlock) (.slice Ao72 x8_1.length co72) x8_1) ∧ (Kd.R Kd.string 9 w' w.heap.size (fun k_ => some k_ ≠ (s_.1 : Value).ownBlock ∧ some k_ ≠ (.slice Ao72 x8_1.length co72 : Value).ownBlock) (.slice Ao70 t175.length co70) t175) ∧ (w'.heap[gb164]? = some (.cells #[.string a0_0, .slice A0_1 l0_1.length c0_1, .bool a0_2, .string a0_3] 27 (0, 0))) ∧ (w'.heap[gb165]? = some (.cells #[.string x166000_1, .slice none 0 0, .bool x166002_1, .string x166003_1] 27 (0, 0))) ∧ (w'.heap[s_.2]? = some (.cells #[.string (⟨#[]⟩ : ByteArray), .slice none 0 0, .bool false, .string (⟨#[]⟩ : ByteArray)] 27 (0, 0))) ∧ (w.heap.size ≤ s_.2) ∧ (w.heap.size ≤ s_.2) ∧ (gb164 ≠ s_.2) ∧ (s_.2 ≠ gb164) ∧ (gb165 ≠ s_.2) ∧ (s_.2 ≠ gb165) ∧ (Below w.heap.size w w')) ?_ ?_;rotate_left
      ·intro hCont
       refine two_ (i := 3) (j := 7) (Ni := some 57) (Nj := some 15) #[true, true, true, true, true, true, false, false, false] #[true, true, true, false, true, true, false, true, false] rfl rfl rfl rfl (two_of HT_.out (by kernel_rfl)) (by decide) (by decide) (fun K hK => ?_) (fun K hK => ?_)
       ·skip
        refine goes_ Tryz.func83 (by kernel_rfl) rfl #[.slice Ao72 x8_1.length co72] (by rfl) rfl rfl zz29 ?_;with_reducible refine (spec_PathClean.calls k1 _ _ x8_1 t186 _ ?side1 ?side2 A27.out).mono ?_
        (case side1 => exact (zz44 HO_8))
        (case side2 => exact (Kd.R_reads' HO_8.out).2.1)
        rintro e w74 ⟨v187, rfl, ho0, hb⟩;refine ⟨_, rfl, ?_⟩;have n0_ := Aside0.mk (Kd.R_elder' (zz9 HO_8) (Kd.R_base ho0) hb);have n1_ := Aside0.mk (Kd.R_elder' (zz9 HO_9) (Kd.R_base ho0) hb);have n2_ := Aside0.mk (Kd.R_lower (Kd.R_new' (Kd.R_new' ho0 (Kd.R_lt (zz9 HO_8))) (Kd.R_lt (zz9 HO_9))) (below_size (zz38 HB GE164 GE165)));have n3_ := Aside0.mk (blk_below (zz27 BK164) hb);have n4_ := Aside0.mk (blk_below (zz27 BK165) hb);have n5_ := Aside0.mk (below_step (zz38 HB GE164 GE165) hb);clear HO_8;clear HO_9;clear BK164;clear BK165;clear HB;have HO_8 := n0_;have HO_9 := n1_;have HO188 := n2_;have BK164 := n3_;have BK165 := n4_;have HB := n5_;clear n0_ n1_ n2_ n3_ n4_ n5_;(try clear hb)
        (try clear hb2)
        (try clear hk)
        (try clear hi)
        (try clear ho0)
        obtain ⟨Ao75, co75, eo75⟩ := Kd.R_slice HO188.out;(first | subst eo75 | (injection eo75 with f1_ f2_ f3_; have f4_ := f1_.symm; have f5_ := f3_.symm; clear f1_ f2_ f3_; subst f4_; subst f5_))
        refine hK.out _ _ ⟨(blk_cell BK164.out 0).trans rfl, (blk_cell BK164.out 1).trans rfl, (blk_cell BK164.out 2).trans rfl, (blk_cell BK164.out 3).trans rfl⟩ (fun hHeld => ?_);clear hK K;refine norm_ (a' := ?_) ?_ ?_;rotate_left
        ·show Act.put _ (some 57) _ = _
         simp only [Act.put, List.setIfInBounds_toArray, List.set_cons_zero, List.set_cons_succ, i64_w, i32_w]
         rfl
        refine pureZ 6 (some 60) #[true, true, true, true, true, true, true, false, false] ?_;refine one_ (i := 7) (N := some 15) #[true, true, true, true, true, true, true, true, false] rfl rfl (one_of HT_.out (by kernel_rfl)) (by decide) (fun K hK => ?_);refine box_step ?hg (N := 15) ?hd (cs := #[.string (⟨#[]⟩ : ByteArray), .slice none 0 0, .bool false, .string (⟨#[]⟩ : ByteArray)]) (t := 27) ?hr ?_; (case hd => rfl); (case hg => rfl); (case hr => exact zz8);intro gb189 hg w76 hbox hb;have n0_ := Aside0.mk (Kd.R_below (zz9 HO_8) hb);have n1_ := Aside0.mk (Kd.R_below (zz9 HO_9) hb);have n2_ := Aside0.mk (Kd.R_below (zz9 HO188) hb);have n3_ := Aside0.mk (blk_below (zz27 BK164) hb);have n4_ := Aside0.mk (blk_below (zz27 BK165) hb);have n5_ := Aside0.mk (below_step (zz38 HB GE164 GE165) hb);have n6_ := Aside0.mk (hbox);have n7_ := Aside0.mk ((by rw [hg]; exact (below_size (zz38 HB GE164 GE165)) : w.heap.size ≤ gb189));have n8_ := Aside0.mk ((by rw [hg]; exact (below_size (zz38 HB GE164 GE165)) : w.heap.size ≤ gb189));have n9_ := Aside0.mk ((by rw [hg]; exact Nat.ne_of_lt (blk_lt (zz27 BK164)) : gb164 ≠ gb189));have n10_ := Aside0.mk ((by rw [hg]; exact Nat.ne_of_gt (blk_lt (zz27 BK164)) : gb189 ≠ gb164));have n11_ := Aside0.mk ((by rw [hg]; exact Nat.ne_of_lt (blk_lt (zz27 BK165)) : gb165 ≠ gb189));have n12_ := Aside0.mk ((by rw [hg]; exact Nat.ne_of_gt (blk_lt (zz27 BK165)) : gb189 ≠ gb165));clear HO_8;clear HO_9;clear HO188;clear BK164;clear BK165;clear HB;have HO_8 := n0_;have HO_9 := n1_;have HO188 := n2_;have BK164 := n3_;have BK165 := n4_;have HB := n5_;have BK189 := n6_;have GW189 := n7_;have GE189 := n8_;have NB164_189 := n9_;have NB189_164 := n10_;have NB165_189 := n11_;have NB189_165 := n12_;clear n0_ n1_ n2_ n3_ n4_ n5_ n6_ n7_ n8_ n9_ n10_ n11_ n12_;clear hb hbox hg;refine hK.out _ _ ⟨(blk_cell BK164.out 0).trans rfl, (blk_cell BK164.out 1).trans rfl, (blk_cell BK164.out 2).trans rfl, (blk_cell BK164.out 3).trans rfl⟩ (fun hHeld => ?_);clear hK K;refine norm_ (a' := ?_) ?_ ?_;rotate_left
        ·show Act.put _ (some 15) _ = _
         simp only [Act.put, List.setIfInBounds_toArray, List.set_cons_zero, List.set_cons_succ, i64_w, i32_w]
         rfl
        exact norm_ viaP (hCont (.slice Ao75 t186.length co75, gb189) _ ⟨hHeld, (zz45 HO188), (zz46 HO_8), (zz46 HO_9), (zz27 BK164), (zz27 BK165), (zz27 BK189), GW189.out, GE189.out, NB164_189.out, NB189_164.out, NB165_189.out, NB189_165.out, (zz47 HB GE164 GE165 GE189)⟩)
       ·skip
        refine box_step ?hg (N := 15) ?hd (cs := #[.string (⟨#[]⟩ : ByteArray), .slice none 0 0, .bool false, .string (⟨#[]⟩ : ByteArray)]) (t := 27) ?hr ?_; (case hd => rfl); (case hg => rfl); (case hr => exact zz8);intro gb189 hg w74 hbox hb;have n0_ := Aside0.mk (Kd.R_below (zz9 HO_8) hb);have n1_ := Aside0.mk (Kd.R_below (zz9 HO_9) hb);have n2_ := Aside0.mk (blk_below (zz27 BK164) hb);have n3_ := Aside0.mk (blk_below (zz27 BK165) hb);have n4_ := Aside0.mk (below_step (zz38 HB GE164 GE165) hb);have n5_ := Aside0.mk (hbox);have n6_ := Aside0.mk ((by rw [hg]; exact (below_size (zz38 HB GE164 GE165)) : w.heap.size ≤ gb189));have n7_ := Aside0.mk ((by rw [hg]; exact (below_size (zz38 HB GE164 GE165)) : w.heap.size ≤ gb189));have n8_ := Aside0.mk ((by rw [hg]; exact Nat.ne_of_lt (blk_lt (zz27 BK164)) : gb164 ≠ gb189));have n9_ := Aside0.mk ((by rw [hg]; exact Nat.ne_of_gt (blk_lt (zz27 BK164)) : gb189 ≠ gb164));have n10_ := Aside0.mk ((by rw [hg]; exact Nat.ne_of_lt (blk_lt (zz27 BK165)) : gb165 ≠ gb189));have n11_ := Aside0.mk ((by rw [hg]; exact Nat.ne_of_gt (blk_lt (zz27 BK165)) : gb189 ≠ gb165));clear HO_8;clear HO_9;clear BK164;clear BK165;clear HB;have HO_8 := n0_;have HO_9 := n1_;have BK164 := n2_;have BK165 := n3_;have HB := n4_;have BK189 := n5_;have GW189 := n6_;have GE189 := n7_;have NB164_189 := n8_;have NB189_164 := n9_;have NB165_189 := n10_;have NB189_165 := n11_;clear n0_ n1_ n2_ n3_ n4_ n5_ n6_ n7_ n8_ n9_ n10_ n11_;clear hb hbox hg;refine hK.out _ _ ⟨(blk_cell BK164.out 0).trans rfl, (blk_cell BK164.out 1).trans rfl, (blk_cell BK164.out 2).trans rfl, (blk_cell BK164.out 3).trans rfl⟩ (fun hHeld => ?_);clear hK K;refine norm_ (a' := ?_) ?_ ?_;rotate_left
        ·show Act.put _ (some 15) _ = _
         simp only [Act.put, List.setIfInBounds_toArray, List.set_cons_zero, List.set_cons_succ, i64_w, i32_w]
         rfl
        refine one_ (i := 3) (N := some 57) #[true, true, true, true, true, true, false, true, false] rfl rfl (one_of HT_.out (by kernel_rfl)) (by decide) (fun K hK => ?_);refine goes_ Tryz.func83 (by kernel_rfl) rfl #[.slice Ao72 x8_1.length co72] (by rfl) rfl rfl zz29 ?_;with_reducible refine (spec_PathClean.calls k1 _ _ x8_1 t186 _ ?side1 ?side2 A27.out).mono ?_
        (case side1 => exact (zz44 HO_8))
        (case side2 => exact (Kd.R_reads' HO_8.out).2.1)
        rintro e w75 ⟨v187, rfl, ho0, hb⟩;refine ⟨_, rfl, ?_⟩;have n0_ := Aside0.mk (Kd.R_elder' (zz9 HO_8) (Kd.R_base ho0) hb);have n1_ := Aside0.mk (Kd.R_elder' (zz9 HO_9) (Kd.R_base ho0) hb);have n2_ := Aside0.mk (Kd.R_lower (Kd.R_new' (Kd.R_new' ho0 (Kd.R_lt (zz9 HO_8))) (Kd.R_lt (zz9 HO_9))) (below_size (zz47 HB GE164 GE165 GE189)));have n3_ := Aside0.mk (blk_below (zz27 BK164) hb);have n4_ := Aside0.mk (blk_below (zz27 BK165) hb);have n5_ := Aside0.mk (blk_below (zz27 BK189) hb);have n6_ := Aside0.mk (below_step (zz47 HB GE164 GE165 GE189) hb);clear HO_8;clear HO_9;clear BK164;clear BK165;clear BK189;clear HB;have HO_8 := n0_;have HO_9 := n1_;have HO188 := n2_;have BK164 := n3_;have BK165 := n4_;have BK189 := n5_;have HB := n6_;clear n0_ n1_ n2_ n3_ n4_ n5_ n6_;(try clear hb)
        (try clear hb2)
        (try clear hk)
        (try clear hi)
        (try clear ho0)
        obtain ⟨Ao76, co76, eo76⟩ := Kd.R_slice HO188.out;(first | subst eo76 | (injection eo76 with f1_ f2_ f3_; have f4_ := f1_.symm; have f5_ := f3_.symm; clear f1_ f2_ f3_; subst f4_; subst f5_))
        refine hK.out _ _ ⟨(blk_cell BK164.out 0).trans rfl, (blk_cell BK164.out 1).trans rfl, (blk_cell BK164.out 2).trans rfl, (blk_cell BK164.out 3).trans rfl⟩ (fun hHeld => ?_);clear hK K;refine norm_ (a' := ?_) ?_ ?_;rotate_left
        ·show Act.put _ (some 57) _ = _
         simp only [Act.put, List.setIfInBounds_toArray, List.set_cons_zero, List.set_cons_succ, i64_w, i32_w]
         rfl
        refine pureZ 6 (some 60) #[true, true, true, true, true, true, true, true, false] ?_;exact norm_ viaP (hCont (.slice Ao76 t186.length co76, gb189) _ ⟨hHeld, (zz45 HO188), (zz46 HO_8), (zz46 HO_9), (zz27 BK164), (zz27 BK165), (zz27 BK189), GW189.out, GE189.out, NB164_189.out, NB189_164.out, NB165_189.out, NB189_165.out, (zz47 HB GE164 GE165 GE189)⟩)
      rintro ⟨v187, gb189⟩ w77 ⟨hS_, h0_, h1_, h2_, h3_, h4_, h5_, h6_, h7_, h8_, h9_, h10_, h11_, h12_⟩;have n0_ : Aside0 (Kd.R Kd.string 9 w77 w.heap.size (fun k_ => some k_ ≠ (.slice Ao72 x8_1.length co72 : Value).ownBlock ∧ some k_ ≠ (.slice Ao70 t175.length co70 : Value).ownBlock) v187 t186) := ⟨h0_⟩;have n1_ : Aside0 (Kd.R Kd.string 9 w77 w.heap.size (fun k_ => some k_ ≠ (v187 : Value).ownBlock ∧ some k_ ≠ (.slice Ao70 t175.length co70 : Value).ownBlock) (.slice Ao72 x8_1.length co72) x8_1) := ⟨h1_⟩;have n2_ : Aside0 (Kd.R Kd.string 9 w77 w.heap.size (fun k_ => some k_ ≠ (v187 : Value).ownBlock ∧ some k_ ≠ (.slice Ao72 x8_1.length co72 : Value).ownBlock) (.slice Ao70 t175.length co70) t175) := ⟨h2_⟩;have n3_ : Aside0 (w77.heap[gb164]? = some (.cells #[.string a0_0, .slice A0_1 l0_1.length c0_1, .bool a0_2, .string a0_3] 27 (0, 0))) := ⟨h3_⟩;have n4_ : Aside0 (w77.heap[gb165]? = some (.cells #[.string x166000_1, .slice none 0 0, .bool x166002_1, .string x166003_1] 27 (0, 0))) := ⟨h4_⟩;have n5_ : Aside0 (w77.heap[gb189]? = some (.cells #[.string (⟨#[]⟩ : ByteArray), .slice none 0 0, .bool false, .string (⟨#[]⟩ : ByteArray)] 27 (0, 0))) := ⟨h5_⟩;have n6_ : Aside0 (w.heap.size ≤ gb189) := ⟨h6_⟩;have n7_ : Aside0 (w.heap.size ≤ gb189) := ⟨h7_⟩;have n8_ : Aside0 (gb164 ≠ gb189) := ⟨h8_⟩;have n9_ : Aside0 (gb189 ≠ gb164) := ⟨h9_⟩;have n10_ : Aside0 (gb165 ≠ gb189) := ⟨h10_⟩;have n11_ : Aside0 (gb189 ≠ gb165) := ⟨h11_⟩;have n12_ : Aside0 (Below w.heap.size w w77) := ⟨h12_⟩;clear HO_8;clear HO_9;clear BK164;clear BK165;clear HB;clear h0_ h1_ h2_ h3_ h4_ h5_ h6_ h7_ h8_ h9_ h10_ h11_ h12_;have HO188 := n0_;have HO_8 := n1_;have HO_9 := n2_;have BK164 := n3_;have BK165 := n4_;have BK189 := n5_;have GW189 := n6_;have GE189 := n7_;have NB164_189 := n8_;have NB189_164 := n9_;have NB165_189 := n10_;have NB189_165 := n11_;have HB := n12_;clear n0_ n1_ n2_ n3_ n4_ n5_ n6_ n7_ n8_ n9_ n10_ n11_ n12_;have hHeld : w77.cell? ⟨gb164, 0, none⟩ = some (.string a0_0) ∧ w77.cell? ⟨gb164, 1, none⟩ = some (.slice A0_1 l0_1.length c0_1) ∧ w77.cell? ⟨gb164, 2, none⟩ = some (.bool a0_2) ∧ w77.cell? ⟨gb164, 3, none⟩ = some (.string a0_3) := hS_;obtain ⟨Ao78, co78, eo78⟩ := Kd.R_slice HO188.out;(first | subst eo78 | (injection eo78 with f1_ f2_ f3_; have f4_ := f1_.symm; have f5_ := f3_.symm; clear f1_ f2_ f3_; subst f4_; subst f5_))
      refine norm_ (a' := ?_) ?_ ?_;rotate_left
      ·simp only [putAll, Act.put, List.setIfInBounds_toArray, List.set_cons_zero, List.set_cons_succ]
       rfl
      refine one_ (i := 8) (N := none) #[true, true, true, true, true, true, true, true, true] rfl rfl (one_of HT_.out (by kernel_rfl)) (by decide) (fun K hK => ?_);have hs79 : w77.cell? ⟨gb189, 0, none⟩ = some (.string (⟨#[]⟩ : ByteArray)) := (blk_cell BK189.out 0).trans rfl;have hfs79 := blk_frozen BK189.out 0;have hns79_0 := NB164_189.out;have hns79_1 := NB165_189.out;have hms79_0 := NB189_164.out;have hms79_1 := NB189_165.out;have hs80 : w77.cell? ⟨gb189, 1, none⟩ = some (.slice none 0 0) := (blk_cell BK189.out 1).trans rfl;have hfs80 := blk_frozen BK189.out 1;have hns80_0 := NB164_189.out;have hns80_1 := NB165_189.out;have hms80_0 := NB189_164.out;have hms80_1 := NB189_165.out;have hs81 : w77.cell? ⟨gb189, 2, none⟩ = some (.bool false) := (blk_cell BK189.out 2).trans rfl;have hfs81 := blk_frozen BK189.out 2;have hns81_0 := NB164_189.out;have hns81_1 := NB165_189.out;have hms81_0 := NB189_164.out;have hms81_1 := NB189_165.out;have hs82 : w77.cell? ⟨gb189, 3, none⟩ = some (.string (⟨#[]⟩ : ByteArray)) := (blk_cell BK189.out 3).trans rfl;have hfs82 := blk_frozen BK189.out 3;have hns82_0 := NB164_189.out;have hns82_1 := NB165_189.out;have hms82_0 := NB189_164.out;have hms82_1 := NB189_165.out;refine skip_ (w1 := ?_) (by rfl) rfl ?_ ?_;rotate_left
      ·go_simp
       rfl
      refine hK.out _ _ ⟨((cell_far (p := ⟨gb189, _, none⟩) NB164_189.out _).trans (((cell_far (p := ⟨gb189, _, none⟩) NB164_189.out _).trans (((cell_far (p := ⟨gb189, _, none⟩) NB164_189.out _).trans (((cell_far (p := ⟨gb189, _, none⟩) NB164_189.out _).trans (hHeld.1)))))))), ((cell_far (p := ⟨gb189, _, none⟩) NB164_189.out _).trans (((cell_far (p := ⟨gb189, _, none⟩) NB164_189.out _).trans (((cell_far (p := ⟨gb189, _, none⟩) NB164_189.out _).trans (((cell_far (p := ⟨gb189, _, none⟩) NB164_189.out _).trans (hHeld.2.1)))))))), ((cell_far (p := ⟨gb189, _, none⟩) NB164_189.out _).trans (((cell_far (p := ⟨gb189, _, none⟩) NB164_189.out _).trans (((cell_far (p := ⟨gb189, _, none⟩) NB164_189.out _).trans (((cell_far (p := ⟨gb189, _, none⟩) NB164_189.out _).trans (hHeld.2.2.1)))))))), ((cell_far (p := ⟨gb189, _, none⟩) NB164_189.out _).trans (((cell_far (p := ⟨gb189, _, none⟩) NB164_189.out _).trans (((cell_far (p := ⟨gb189, _, none⟩) NB164_189.out _).trans (((cell_far (p := ⟨gb189, _, none⟩) NB164_189.out _).trans (hHeld.2.2.2))))))))⟩ (fun hHeld => ?_);clear hK K;refine done_ (done_of HT_.out (by kernel_rfl)) ?_;have hnb83 := NB165_164.out;have hnc83 := NB164_165.out;have hnb84 := NB165_189.out;have hnc84 := NB189_165.out;obtain ⟨_, _, _, _, _, _, _, _⟩ := cf4 BK165;try go_wp2
      refine bodyPost_ret (results_ct rfl _ _ gb165 27 #[.string (⟨#[]⟩ : ByteArray), .slice none 0 0, .bool false, .string (⟨#[]⟩ : ByteArray)] (0, 0) _ rfl (zz50 BK165 NB165_189) Tryz.underlying27 rfl (by kernel_rfl)) rfl ?_;exact ⟨_, zz5, zz43, (zz47 HB GE164 GE165 GE189)⟩
 ·rw [if_neg c4] at H
  exact absurd H (by simp)
end Go.Proofs.YtgjfegfopjfdpaaGreatDoor.P
end
section
namespace Go.Proofs.YtgjfegfopjfdpaaGreatDoor.P
open Go.RowKit Go.Proofs.YtgjfegfopjfdpaaGreatDoorW.PrintWords Go.Proofs.YtgjfegfopjfdpaaGreatDoorW.PrintLast Go.Proofs.YtgjfegfopjfdpaaGreatDoorW.PrintMore
set_option linter.unusedVariables false
section
variable {P : Program} {ops : Array Oper} {Q : Exit → Act → World → Prop}
theorem callv_ {oi : Oper} {N : Option Tmp} {a : Act} {w : World} {K : Act → World → Prop} {f : FuncId} {fn : Func} {as1 : Array Operand} {ts : Array TypeId} {cap : Array Value} (hf : P.funcs[f]? = some fn) (hname : (fn.name == "runtime.NumGoroutine") = false) (hb : fn.body.isSome = true) (args : Array Value)
  (hw : Region.wanted oi (yielded ops a.tmps) = true) (hN : oi.dst = N) (t : Operand) (hop : oi.op = .call { callee := .value t, args := as1, argTypes := ts }) (hv : a.eval t = .func (.func f) #[] cap) (hargs : as1.map a.eval ++ cap = args)
  (h : Calls P f args w fun e w' => ∃ v, e = .returned v ∧ K (a.put N v) w') : if Region.wanted oi (yielded ops a.tmps) = true then Oper.wp P oi a w K Q else K (a.put N undef) w := by
 refine call_ f args hw hN ?_ h
 have he := enters_ hf hname hb args w
 unfold execOp
 simp [hop, resolve, hv, Deferred.ofValue, invoke, hargs, he]
end
theorem heap_set_ne (w : World) (p : Addr) (u : Value) (k : Nat) (h : k ≠ p.block) : (w.setCell p u).heap[k]? = w.heap[k]? := Below.heap_setCell w p u k h
theorem size_set (w : World) (p : Addr) (u : Value) : (w.setCell p u).heap.size = w.heap.size := by simp
end Go.Proofs.YtgjfegfopjfdpaaGreatDoor.P
end
section
namespace Go.Proofs.YtgjfegfopjfdpaaGreatDoor.B
open Go.RowKit Go.Proofs.YtgjfegfopjfdpaaGreatDoorW.PrintWords Go.Proofs.YtgjfegfopjfdpaaGreatDoorW.PrintLast Go.Proofs.YtgjfegfopjfdpaaGreatDoorW.PrintMore
set_option linter.unusedVariables false
set_option linter.unusedSimpArgs false
theorem w64 {n : Int} (h0 : -9223372036854775808 ≤ n) (h1 : n < 9223372036854775808) : wrap64 n = n := by
 unfold wrap64; omega
abbrev L (s : ByteArray) : List UInt8 := s.data.toList
theorem L_size (s : ByteArray) : (L s).length = s.size := (Lib.size_eq s).symm
theorem L_app (a b : ByteArray) : L (a ++ b) = L a ++ L b := by simp [L]
theorem L_ext (s : ByteArray) (a b : Nat) : L (s.extract a b) = ((L s).drop a).take (b - a) := Lib.extract_data s a b
theorem L_inj {a b : ByteArray} (h : L a = L b) : a = b := by
 cases a; cases b; congr 1; exact Array.toList_inj.1 h
theorem toList_inj {a b : ByteArray} : a.toList = b.toList ↔ a = b := by
 rw [Lib.toList_data, Lib.toList_data]; exact ⟨fun h => L_inj h, fun h => by rw [h]⟩
theorem toList_nil {a : ByteArray} : a.toList = ([] : List UInt8) ↔ a.size = 0 := by
 rw [Lib.toList_data, Lib.size_eq]; exact List.length_eq_zero_iff.symm
theorem bt_L (s : ByteArray) (i : Nat) : bt s i = (((L s).getD i 0).toNat : Int) := by
 unfold bt
 simp only [Int.toNat_natCast]
 split
 ·rename_i h
  rw [List.getD_eq_getElem?_getD, List.getElem?_eq_getElem (by rw [L_size]; exact h)]
  simp [L]
  rfl
 ·rename_i h
  rw [List.getD_eq_getElem?_getD, List.getElem?_eq_none (by rw [L_size]; omega)]
  rfl
theorem Ev_succ {α : Type} {g : Nat → Option α} {r : α} (h : Ev (fun k => g (k + 1)) r) : Ev g r := Ev.step (f := fun k => g (k + 1)) (fun _ => rfl) h
end Go.Proofs.YtgjfegfopjfdpaaGreatDoor.B
end
