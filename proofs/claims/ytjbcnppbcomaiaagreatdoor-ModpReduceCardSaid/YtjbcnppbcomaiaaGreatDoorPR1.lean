/-
  ModpReduce: what is made of polynomials with whole coefficients, and then taken modulo a prime, is made alike of what they are modulo it (the row, the walk and the plain words), part 1 of 13 (packed by pack.py from texts of this session).
-/
import Derived.Test.YtjbcnppbcomaiaaGreatDoorProg
import Derived.Below
import Derived.Deep.Draws
import Derived.Deep.AppendLies
import Derived.Maps.AppendAt
import Derived.OwnWalk
import Derived.Laws.BytesArg
import Derived.Laws.MakeOwn
import Derived.Laws.OwnMore
import Derived.Deep.OwnRows
import Derived.Tactics
import Derived.Lib.ConvBytes
import Derived.Laws.Slices
import Derived.WalkKit
import Derived.KernelRfl
import Derived.RowKit3
import Derived.Deep.LoopGhost
import Derived.Deep.QuietTactic
import Derived.BigQuiet
import Derived.WideLaws
import Derived.Deep.DeepCutAuto
import Derived.Deep.CutBlock
import Derived.Deep.RegionHeld3
import Derived.Laws.Rows
import Derived.Lib.AppendStr
import Derived.ArgAppend
import Derived.Laws.IdiomCopy
import Derived.OrdersHeld
import Derived.Laws.BitsLemmas
import Derived.RowKit
import Derived.Test.YtjbcnppbcomaiaaGreatDoorVApart
import Derived.Test.YtjbcnppbcomaiaaGreatDoorVArr
import Derived.Test.YtjbcnppbcomaiaaGreatDoorVAt
import Derived.Test.YtjbcnppbcomaiaaGreatDoorVFoot
import Derived.Test.YtjbcnppbcomaiaaGreatDoorVFootNe
import Derived.Test.YtjbcnppbcomaiaaGreatDoorVGuard
import Derived.Test.YtjbcnppbcomaiaaGreatDoorVKept
import Derived.Test.YtjbcnppbcomaiaaGreatDoorVLast
import Derived.Test.YtjbcnppbcomaiaaGreatDoorVMore
import Derived.Test.YtjbcnppbcomaiaaGreatDoorVN
import Derived.Test.YtjbcnppbcomaiaaGreatDoorVNEv
import Derived.Test.YtjbcnppbcomaiaaGreatDoorVQPut
import Derived.Test.YtjbcnppbcomaiaaGreatDoorVRepsOne
import Derived.Test.YtjbcnppbcomaiaaGreatDoorVShare
import Derived.Test.YtjbcnppbcomaiaaGreatDoorVTab
import Derived.Test.YtjbcnppbcomaiaaGreatDoorVWords
import Derived.Test.YtjbcnppbcomaiaaGreatDoorVZeros
set_option maxRecDepth 100000
set_option maxHeartbeats 8000000
set_option linter.unusedVariables false
namespace Go.Proofs.YtjbcnppbcomaiaaGreatDoor.Q
open Go.RowKit Go.Proofs.YtjbcnppbcomaiaaGreatDoorW.PrintWords Go.Proofs.YtjbcnppbcomaiaaGreatDoorW.PrintLast Go.Proofs.YtjbcnppbcomaiaaGreatDoorW.PrintMore
set_option linter.unusedVariables false
abbrev lenT : ByteArray := ⟨#[0, 1, 2, 2, 3, 3, 3, 3, 4, 4, 4, 4, 4, 4, 4, 4, 5, 5, 5, 5, 5, 5, 5, 5, 5, 5, 5, 5, 5, 5, 5, 5, 6, 6, 6, 6, 6, 6, 6, 6, 6, 6, 6, 6, 6, 6, 6, 6, 6, 6, 6, 6, 6, 6, 6, 6, 6, 6, 6, 6, 6, 6, 6, 6, 7, 7, 7, 7, 7, 7, 7, 7, 7, 7, 7, 7, 7, 7, 7, 7, 7, 7, 7, 7, 7, 7, 7, 7, 7, 7, 7, 7, 7, 7, 7, 7, 7, 7, 7, 7, 7, 7, 7, 7, 7, 7, 7, 7, 7, 7, 7, 7, 7, 7, 7, 7, 7, 7, 7, 7, 7, 7, 7, 7, 7, 7, 7, 7, 8, 8, 8, 8, 8, 8, 8, 8, 8, 8, 8, 8, 8, 8, 8, 8, 8, 8, 8, 8, 8, 8, 8, 8, 8, 8, 8, 8, 8, 8, 8, 8, 8, 8, 8, 8, 8, 8, 8, 8, 8, 8, 8, 8, 8, 8, 8, 8, 8, 8, 8, 8, 8, 8, 8, 8, 8, 8, 8, 8, 8, 8, 8, 8, 8, 8, 8, 8, 8, 8, 8, 8, 8, 8, 8, 8, 8, 8, 8, 8, 8, 8, 8, 8, 8, 8, 8, 8, 8, 8, 8, 8, 8, 8, 8, 8, 8, 8, 8, 8, 8, 8, 8, 8, 8, 8, 8, 8, 8, 8, 8, 8, 8, 8, 8, 8, 8, 8, 8, 8, 8, 8, 8, 8, 8, 8, 8, 8]⟩
def bm (n m : Nat) : Array Bool := ((List.range n).map fun i => m.testBit i).toArray
theorem am {p : Prop} (h : p) : Aside0 p := ⟨h⟩
theorem nn {α : Type} {r : α} {c : Prop} [Decidable c] {x : Option α} {q : Prop} (h : ¬ c) (H : ite c x none = some r) : q := by rw [if_neg h] at H; cases H
theorem bB {p : Prop} (h : p := by repeat (first | (with_reducible first | exact HB.out | apply below_alloc | apply pw_below_drewN | apply below_drew1 | (refine below_set ?_ (Aside0.out (by assumption)))) | exact HB.out)) : p := h
theorem as_ {p : Prop} (h : p := by first | (with_reducible assumption) | assumption) : p := h
theorem aM {p : Prop} (h : p := by (try simp only [List.map_toArray, List.map_cons, List.map_nil]); first | done | rfl | (simp only [List.length_drop, List.length_take]; rfl)) : p := h
theorem bk {p q : Prop} (h : p) (f : p → q := by intro h; (with_reducible repeat (first | refine blk_drewN ?_ _ | refine blk_drew ?_ | refine blk_alloc ?_ _)); exact h) : q := f h
theorem rR {p q : Prop} (h : p) (f : p → q := by intro h; (with_reducible repeat (first | apply Kd.R_alloc | apply Kd.R_drewN | apply Kd.R_drew)); exact h) : q := f h
theorem rV {p q : Prop} (h : p) (f : p → q := by intro h; (with_reducible repeat (first | apply Kd.V_alloc | apply Kd.V_drewN | apply Kd.V_drew)); exact h) : q := f h
theorem rN {p q : Prop} (h : p) (f : p → q := by intro h; (with_reducible repeat (first | apply Kd.N_alloc | apply Kd.N_drewN | apply Kd.N_drew)); exact h) : q := f h
theorem rS {p q : Prop} (h : p) (f : p → q := by intro h; (with_reducible repeat (first | apply Kd.S_alloc | apply Kd.S_drewN | apply Kd.S_drew)); exact h) : q := f h
theorem rC {p q : Prop} (h : p) (f : p → q := by intro h; first | (with_reducible exact h) | (with_reducible exact CV_drewN h _) | (with_reducible exact CV_drew h) | (with_reducible exact CV_alloc h _) | repeat (first | (with_reducible exact h) | (with_reducible refine CV_alloc ?_ _) | (with_reducible refine CV_drewN ?_ _) | (with_reducible refine CV_drew ?_) | exact h)) : q := f h
theorem kC {p q : Prop} (h : p) (f : p → q := by intro h; repeat (first | (with_reducible exact h) | (with_reducible refine Kd.C_alloc ?_ _) | (with_reducible refine Kd.C_drewN ?_ _) | (with_reducible refine Kd.C_drew ?_) | exact h)) : q := f h
theorem kC2 {p q : Prop} (h : p) (f : p → q := by intro h; repeat (first | exact h | (with_reducible refine Kd.C_alloc ?_ _) | (with_reducible refine Kd.C_drewN ?_ _) | (with_reducible refine Kd.C_drew ?_))) : q := f h
theorem eqS {p : Prop} (h : p := by first | rfl | (simp; done) | (simp [*]; done)) : p := h
theorem eqR {p : Prop} (h : p := by first | rfl | (simp [errW_none, errW_some] <;> rfl) | (simp [*, errW_none, errW_some] <;> rfl)) : p := h
theorem dR {p : Prop} (h : p := by repeat (first | exact Drawn0.refl _ | apply Drawn0.step)) : p := h
section
variable {P : Program} {ops : Array Oper} {rest : List Oper} {o : Oper} {a : Act} {Q : Exit → Act → World → Prop}
theorem boxE {W : World} {N : Tmp} {cs : Array Value} {t : TypeId} (h : ∀ g, g = W.heap.size → ∀ w1, w1.heap[g]? = some (.cells cs t (0, 0)) → Below W.heap.size W w1 → wpList P ops Q rest (a.put o.dst (.pointer (some ⟨g, 0, none⟩))) w1)
    (hgd : o.guard = none := by rfl) (hd : o.dst = some N := by rfl) (hrun : (execOp a.eval o).run P W = .ok (.value (.pointer (some ⟨W.heap.size, 0, none⟩))) (W.alloc (.cells cs t (0, 0))) := by first | (go_simp; done) | (go_simp; rfl)) : wpList P ops Q (o :: rest) a W := box_event hgd hd hrun h
theorem goesA {w : World} (N : Option Tmp) {f : FuncId} {fn : Func} {ar : Array Operand} {ts : Array TypeId} (hf : P.funcs[f]? = some fn) (args : Array Value)
    (h : Calls P f args w fun e w' => ∃ v, e = .returned v ∧ wpList P ops Q rest (a.put N v) w')
    (hd : o.dst = N := by rfl) (hg : o.guard = none := by rfl) (hname : (fn.name == "runtime.NumGoroutine") = false := by kernel_rfl) (hb : fn.body.isSome = true := by rfl)
    (hop : o.op = .call { callee := .value (.func f), args := ar, argTypes := ts } := by rfl) (hargs : ar.map a.eval = args := by (try simp only [List.map_toArray, List.map_cons, List.map_nil]); first | done | rfl | (simp only [List.length_drop, List.length_take]; rfl)) : wpList P ops Q (o :: rest) a w := goesL_ N hd hg hf hname hb args hop hargs h
end
section
variable {P : Program} {ops : Array Oper} {Q : Exit → Act → World → Prop} {S : World → Prop} {ds : List Nat} {md : Region.Mode}
theorem pureA {i : Nat} {N : Option Tmp} {oi : Oper} {v : Value} {fuel : Nat} {l : Array Bool} {a : Act} {w : World} (l' : Array Bool) (hi : ops[i]? = some oi) (hN : oi.dst = N)
    (hy : Region.wanted oi (yielded ops a.tmps) = true ∧ ∀ w, (execOp a.eval oi).run P w = .ok (.value v) w) {a' : Act} (ha : a.put N v = a') (h : wpAnyLast P md ops Q S ds fuel l' a' w)
    (hc : anyB md ops l l' i = true := by exact any_of HT_.out (by kernel_rfl)) (hQ : ∀ c a w, Q (.panic c) (a.put oi.dst v) w → Q (.panic c) a w := by exact fun _ _ _ h => h) : wpAnyLast P md ops Q S ds (fuel + 1) l a w := pure_ l' hi hN hc hQ (Or.inl hy) ha h
end
section
variable {P : Program} {ops : Array Oper} {Q : Exit → Act → World → Prop} {S : World → Prop} {ds : List Nat} {md : Region.Mode}
theorem pureB {N : Option Tmp} {oi : Oper} {v : Value} {fuel : Nat} {l : Array Bool} {a : Act} {w : World} (i : Nat) (l' : Array Bool) {a' : Act} (h : wpAnyLast P md ops Q S ds fuel l' a' w)
    (hi : ops[i]? = some oi := by rfl) (hN : oi.dst = N := by rfl) (hy : Region.wanted oi (yielded ops a.tmps) = true := by rfl) (hz : ∀ w, (execOp a.eval oi).run P w = .ok (.value v) w := by intro w'; go_simp; with_reducible rfl)
    (ha : a.put N v = a' := by simp only [Act.put, List.setIfInBounds_toArray, List.set_cons_zero, List.set_cons_succ, i64_w, i32_w]; rfl)
    (hc : anyB md ops l l' i = true := by exact any_of HT_.out (by kernel_rfl)) (hQ : ∀ c a w, Q (.panic c) (a.put oi.dst v) w → Q (.panic c) a w := by exact fun _ _ _ h => h) : wpAnyLast P md ops Q S ds (fuel + 1) l a w := pure_ l' hi hN hc hQ (Or.inl ⟨hy, hz⟩) ha h
theorem takeB2 {N : Option Tmp} {oi : Oper} {v : Value} {fuel : Nat} {l : Array Bool} {a : Act} {w : World} (i : Nat) (l' : Array Bool) (hS : S w) {a' : Act} (h : wpAnyLast P md ops Q S ds fuel l' a' w)
    (hi : ops[i]? = some oi := by rfl) (hN : oi.dst = N := by rfl) (hy : Region.wanted oi (yielded ops a.tmps) = true := by rfl) (hz : ∀ w, S w → (execOp a.eval oi).run P w = .ok (.value v) w := by rintro w' ⟨s0, s1⟩; go_simp; with_reducible rfl)
    (ha : a.put N v = a' := by simp only [Act.put, List.setIfInBounds_toArray, List.set_cons_zero, List.set_cons_succ, i64_w, i32_w]; rfl)
    (hc : takeB md ops ds l l' i = true := by exact take_ofW HT_.out HW_.out (by kernel_rfl)) (hQ : ∀ c a w, Q (.panic c) (a.put oi.dst v) w → Q (.panic c) a w := by exact fun _ _ _ h => h) : wpAnyLast P md ops Q S ds (fuel + 1) l a w := take_ l' hi hN hc hQ (Or.inl ⟨hy, hz⟩) hS ha h
theorem takeB3 {N : Option Tmp} {oi : Oper} {v : Value} {fuel : Nat} {l : Array Bool} {a : Act} {w : World} (i : Nat) (l' : Array Bool) (hS : S w) {a' : Act} (h : wpAnyLast P md ops Q S ds fuel l' a' w)
    (hi : ops[i]? = some oi := by rfl) (hN : oi.dst = N := by rfl) (hy : Region.wanted oi (yielded ops a.tmps) = true := by rfl) (hz : ∀ w, S w → (execOp a.eval oi).run P w = .ok (.value v) w := by rintro w' ⟨s0, s1, s2⟩; go_simp; with_reducible rfl)
    (ha : a.put N v = a' := by simp only [Act.put, List.setIfInBounds_toArray, List.set_cons_zero, List.set_cons_succ, i64_w, i32_w]; rfl)
    (hc : takeB md ops ds l l' i = true := by exact take_ofW HT_.out HW_.out (by kernel_rfl)) (hQ : ∀ c a w, Q (.panic c) (a.put oi.dst v) w → Q (.panic c) a w := by exact fun _ _ _ h => h) : wpAnyLast P md ops Q S ds (fuel + 1) l a w := take_ l' hi hN hc hQ (Or.inl ⟨hy, hz⟩) hS ha h
theorem takeB4 {N : Option Tmp} {oi : Oper} {v : Value} {fuel : Nat} {l : Array Bool} {a : Act} {w : World} (i : Nat) (l' : Array Bool) (hS : S w) {a' : Act} (h : wpAnyLast P md ops Q S ds fuel l' a' w)
    (hi : ops[i]? = some oi := by rfl) (hN : oi.dst = N := by rfl) (hy : Region.wanted oi (yielded ops a.tmps) = true := by rfl) (hz : ∀ w, S w → (execOp a.eval oi).run P w = .ok (.value v) w := by rintro w' ⟨s0, s1, s2, s3⟩; go_simp; with_reducible rfl)
    (ha : a.put N v = a' := by simp only [Act.put, List.setIfInBounds_toArray, List.set_cons_zero, List.set_cons_succ, i64_w, i32_w]; rfl)
    (hc : takeB md ops ds l l' i = true := by exact take_ofW HT_.out HW_.out (by kernel_rfl)) (hQ : ∀ c a w, Q (.panic c) (a.put oi.dst v) w → Q (.panic c) a w := by exact fun _ _ _ h => h) : wpAnyLast P md ops Q S ds (fuel + 1) l a w := take_ l' hi hN hc hQ (Or.inl ⟨hy, hz⟩) hS ha h
theorem takeB5 {N : Option Tmp} {oi : Oper} {v : Value} {fuel : Nat} {l : Array Bool} {a : Act} {w : World} (i : Nat) (l' : Array Bool) (hS : S w) {a' : Act} (h : wpAnyLast P md ops Q S ds fuel l' a' w)
    (hi : ops[i]? = some oi := by rfl) (hN : oi.dst = N := by rfl) (hy : Region.wanted oi (yielded ops a.tmps) = true := by rfl) (hz : ∀ w, S w → (execOp a.eval oi).run P w = .ok (.value v) w := by rintro w' ⟨s0, s1, s2, s3, s4⟩; go_simp; with_reducible rfl)
    (ha : a.put N v = a' := by simp only [Act.put, List.setIfInBounds_toArray, List.set_cons_zero, List.set_cons_succ, i64_w, i32_w]; rfl)
    (hc : takeB md ops ds l l' i = true := by exact take_ofW HT_.out HW_.out (by kernel_rfl)) (hQ : ∀ c a w, Q (.panic c) (a.put oi.dst v) w → Q (.panic c) a w := by exact fun _ _ _ h => h) : wpAnyLast P md ops Q S ds (fuel + 1) l a w := take_ l' hi hN hc hQ (Or.inl ⟨hy, hz⟩) hS ha h
end
theorem rF {p : Prop} (h : p := by rfl) : p := h
theorem gF {p : Prop} (h : p := by first | (go_simp; done) | (go_simp; rfl)) : p := h
theorem actp {p : Prop} (h : p := by simp only [Act.put, List.setIfInBounds_toArray, List.set_cons_zero, List.set_cons_succ, i64_w, i32_w]; rfl) : p := h
end Go.Proofs.YtjbcnppbcomaiaaGreatDoor.Q
namespace Go.Proofs.YtjbcnppbcomaiaaGreatDoor.Q
open Go.RowKit Go.Proofs.YtjbcnppbcomaiaaGreatDoorW.PrintWords Go.Proofs.YtjbcnppbcomaiaaGreatDoorW.PrintLast Go.Proofs.YtjbcnppbcomaiaaGreatDoorW.PrintMore
attribute [local go_sem] max2_int min2_int max_two min_two max_three min_three max_four min_four   -- for this text's walks alone
set_option linter.unusedVariables false
set_option linter.unusedSimpArgs false
def errW : Option Int → Value
 | none => .nilIface
 | some c => .iface 0 (.int .i64 c)
theorem errW_none : errW none = .nilIface := rfl
theorem errW_some (c : Int) : errW (some c) = .iface 0 (.int .i64 c) := rfl
theorem info23 : (Tryz.prog.info? 23).map (fun i => (i.zero, i.size, i.bytes)) = some (some (.int .u32 0), 1, 4) := by kernel_rfl
theorem info55 : (Tryz.prog.info? 55).map (fun i => (i.zero, i.size, i.bytes)) = some (some (.int .u64 0), 1, 8) := by kernel_rfl
def rd_L2 (xs : List (List Int)) (i : Int) : (List Int) := xs.getD i.toNat ([] : List Int)
theorem at_L2 {w : World} {A : Option Addr} {n : Nat} {xs : List (List Int)} (h : Kd.C (Kd.slice 23 (Kd.int .u32)) w A n xs) (i : Int) (h0 : 0 ≤ i) (h1 : i < n) : ∃ ad A0 c0, A = some ad ∧ w.cell? (ad.add i.toNat) = some (.slice A0 (rd_L2 xs i).length c0) ∧ (rd_L2 xs i).length ≤ c0 ∧ (Kd.int .u32).C w A0 (rd_L2 xs i).length (rd_L2 xs i) := by
 obtain ⟨ad, c, e, _, hK, hc0⟩ := Kd.C_get h ([] : List Int) i h0 h1
 have hc : ∀ j u, c[j]? = some u → w.cell? (ad.add (i.toNat * 1 + j)) = some u := hc0
 obtain ⟨A0, c0, rfl, l0, g0⟩ := hK
 exact ⟨ad, A0, c0, e, by have hq := hc 0 _ rfl; rwa [Nat.mul_one, Nat.add_zero] at hq, l0, g0⟩
structure S52 where
 f0 : (List Int)
 f1 : Int
def z52 : S52 := ⟨([] : List Int), (0 : Int)⟩
def k52 : Kd S52 := Kd.iso (Kd.pair (Kd.slice 23 (Kd.int .u32)) (Kd.int .i64)) (fun x : S52 => (x.f0, x.f1))
theorem k52_open {w : World} {x : S52} {cs : List Value} (h : k52.K w x cs) : ∃ A0 c0, cs = [.slice A0 x.f0.length c0, .int .i64 x.f1] ∧ x.f0.length ≤ c0 ∧ (Kd.int .u32).C w A0 x.f0.length x.f0 := by
 obtain ⟨_, _, rfl, ⟨A0, c0, rfl, l0, g0⟩, rfl⟩ := h
 exact ⟨A0, c0, rfl, l0, g0⟩
theorem k52_mk (w : World) (x : S52) {A0 : Option Addr} {c0 : Nat} (l0 : x.f0.length ≤ c0) (g0 : (Kd.int .u32).C w A0 x.f0.length x.f0) : k52.K w x [.slice A0 x.f0.length c0, .int .i64 x.f1] := ⟨[.slice A0 x.f0.length c0], [.int .i64 x.f1], rfl, ⟨A0, c0, rfl, l0, g0⟩, rfl⟩
theorem k52_openF {W : World} {ok : Nat → Prop} {x : S52} {cs : List Value} (h : Kd.FK k52 W ok x cs) : ∃ A0 c0, cs = [.slice A0 x.f0.length c0, .int .i64 x.f1] ∧ x.f0.length ≤ c0 ∧ Kd.F (Kd.int .u32) W ok A0 x.f0.length x.f0 := by
 obtain ⟨A0, c0, rfl, l0, _⟩ := k52_open (Kd.FK_now h)
 exact ⟨A0, c0, rfl, l0, (fun W' hW => by obtain ⟨A0_, c0_, he, l0_, g0_⟩ := k52_open (h W' hW); injection (Option.some.inj (show some (Value.slice A0 x.f0.length c0) = some (Value.slice A0_ x.f0.length c0_) from congrArg (fun l => l[0]?) he)) with ha_ _ _; rw [ha_]; exact g0_)⟩
theorem k52_mkF (W : World) (ok : Nat → Prop) (x : S52) {A0 : Option Addr} {c0 : Nat} (l0 : x.f0.length ≤ c0) (g0 : Kd.F (Kd.int .u32) W ok A0 x.f0.length x.f0) : Kd.FK k52 W ok x [.slice A0 x.f0.length c0, .int .i64 x.f1] := fun W2 hW => k52_mk W2 x l0 (g0 W2 hW)
def rd_T52 (xs : List S52) (i : Int) : S52 := xs.getD i.toNat z52
theorem at_T52 {w : World} {A : Option Addr} {n : Nat} {xs : List S52} (h : Kd.C k52 w A n xs) (i : Int) (h0 : 0 ≤ i) (h1 : i < n) : ∃ ad A0 c0, A = some ad ∧ w.cell? (ad.add (i.toNat * 2)) = some (.slice A0 (rd_T52 xs i).f0.length c0) ∧ w.cell? ⟨(ad.add (i.toNat * 2)).block, (ad.add (i.toNat * 2)).off + 1, none⟩ = some (.int .i64 (rd_T52 xs i).f1) ∧ (rd_T52 xs i).f0.length ≤ c0 ∧ (Kd.int .u32).C w A0 (rd_T52 xs i).f0.length (rd_T52 xs i).f0 := by
 obtain ⟨ad, c, e, _, hK, hc0⟩ := Kd.C_get h z52 i h0 h1
 have hc : ∀ j u, c[j]? = some u → w.cell? (ad.add (i.toNat * 2 + j)) = some u := hc0
 obtain ⟨A0, c0, rfl, l0, g0⟩ := k52_open hK
 exact ⟨ad, A0, c0, e, hc 0 _ rfl, by rw [← add_field _ _ 1 (by omega)]; exact hc 1 _ rfl, l0, g0⟩
structure S56 where
 f0 : Bool
 f1 : (List Int)
def z56 : S56 := ⟨false, ([] : List Int)⟩
def k56 : Kd S56 := Kd.iso (Kd.pair Kd.bool (Kd.slice 23 (Kd.int .u32))) (fun x : S56 => (x.f0, x.f1))
theorem k56_open {w : World} {x : S56} {cs : List Value} (h : k56.K w x cs) : ∃ A1 c1, cs = [.bool x.f0, .slice A1 x.f1.length c1] ∧ x.f1.length ≤ c1 ∧ (Kd.int .u32).C w A1 x.f1.length x.f1 := by
 obtain ⟨_, _, rfl, rfl, ⟨A1, c1, rfl, l1, g1⟩⟩ := h
 exact ⟨A1, c1, rfl, l1, g1⟩
theorem k56_mk (w : World) (x : S56) {A1 : Option Addr} {c1 : Nat} (l1 : x.f1.length ≤ c1) (g1 : (Kd.int .u32).C w A1 x.f1.length x.f1) : k56.K w x [.bool x.f0, .slice A1 x.f1.length c1] := ⟨[.bool x.f0], [.slice A1 x.f1.length c1], rfl, rfl, ⟨A1, c1, rfl, l1, g1⟩⟩
theorem k56_openF {W : World} {ok : Nat → Prop} {x : S56} {cs : List Value} (h : Kd.FK k56 W ok x cs) : ∃ A1 c1, cs = [.bool x.f0, .slice A1 x.f1.length c1] ∧ x.f1.length ≤ c1 ∧ Kd.F (Kd.int .u32) W ok A1 x.f1.length x.f1 := by
 obtain ⟨A1, c1, rfl, l1, _⟩ := k56_open (Kd.FK_now h)
 exact ⟨A1, c1, rfl, l1, (fun W' hW => by obtain ⟨A1_, c1_, he, l1_, g1_⟩ := k56_open (h W' hW); injection (Option.some.inj (show some (Value.slice A1 x.f1.length c1) = some (Value.slice A1_ x.f1.length c1_) from congrArg (fun l => l[1]?) he)) with ha_ _ _; rw [ha_]; exact g1_)⟩
theorem k56_mkF (W : World) (ok : Nat → Prop) (x : S56) {A1 : Option Addr} {c1 : Nat} (l1 : x.f1.length ≤ c1) (g1 : Kd.F (Kd.int .u32) W ok A1 x.f1.length x.f1) : Kd.FK k56 W ok x [.bool x.f0, .slice A1 x.f1.length c1] := fun W2 hW => k56_mk W2 x l1 (g1 W2 hW)
def rd_T56 (xs : List S56) (i : Int) : S56 := xs.getD i.toNat z56
theorem at_T56 {w : World} {A : Option Addr} {n : Nat} {xs : List S56} (h : Kd.C k56 w A n xs) (i : Int) (h0 : 0 ≤ i) (h1 : i < n) : ∃ ad A1 c1, A = some ad ∧ w.cell? (ad.add (i.toNat * 2)) = some (.bool (rd_T56 xs i).f0) ∧ w.cell? ⟨(ad.add (i.toNat * 2)).block, (ad.add (i.toNat * 2)).off + 1, none⟩ = some (.slice A1 (rd_T56 xs i).f1.length c1) ∧ (rd_T56 xs i).f1.length ≤ c1 ∧ (Kd.int .u32).C w A1 (rd_T56 xs i).f1.length (rd_T56 xs i).f1 := by
 obtain ⟨ad, c, e, _, hK, hc0⟩ := Kd.C_get h z56 i h0 h1
 have hc : ∀ j u, c[j]? = some u → w.cell? (ad.add (i.toNat * 2 + j)) = some u := hc0
 obtain ⟨A1, c1, rfl, l1, g1⟩ := k56_open hK
 exact ⟨ad, A1, c1, e, hc 0 _ rfl, by rw [← add_field _ _ 1 (by omega)]; exact hc 1 _ rfl, l1, g1⟩
theorem C_len_ {α : Type} {d : Kd α} {w : World} {A : Option Addr} {n m : Nat} {xs : List α} (h : n = m) (hc : Kd.C d w A n xs) : Kd.C d w A m xs := h ▸ hc
section
variable {P : Program} {ops : Array Oper} {rest : List Oper} {o : Oper} {a : Act} {Q : Exit → Act → World → Prop} {α : Type}
end
def modp_trim.l0 : Nat → List Int → Option (List Int)
 | 0, _ => none
 | k + 1, x0 => if (x0.length : Int) > 0 then (if 0 ≤ (wrap64 ((x0.length : Int) - 1)) then (if (wrap64 ((x0.length : Int) - 1)) < (x0.length : Int) then (if (rd x0 (wrap64 ((x0.length : Int) - 1))) = 0 then (if (wrap64 ((x0.length : Int) - 1)) ≤ (x0.length : Int) then (modp_trim.l0 k (x0.take ((wrap64 ((x0.length : Int) - 1)) : Int).toNat)) else (none)) else (some x0)) else (none)) else (none)) else (some x0)
def modp_trim.f (k : Nat) (l0 : List Int) : Option (List Int) := modp_trim.l0 k l0
theorem modp_trim.calls (k : Nat) (P0_ : Nat → Prop) (A0 : Option Addr) (c0 : Nat) (l0 : List Int) (r : List Int) (w : World) (hs0 : Kd.V (Kd.int .u32) 23 w w.heap.size (fun k_ => P0_ k_) (.slice A0 l0.length c0) l0) (h : modp_trim.f k l0 = some r) :
   Calls Tryz.prog 29 #[.slice A0 l0.length c0] w fun e w' => ∃ v0_ : Value, e = .returned (v0_) ∧ Kd.V (Kd.int .u32) 23 w' w.heap.size (fun k_ => (P0_ k_ ∨ w.heap.size ≤ k_)) v0_ r ∧ Below w.heap.size w w' := by
 have HO0 := am (show Kd.V (Kd.int .u32) 23 w w.heap.size (fun k_ => (P0_ k_ ∨ w.heap.size ≤ k_)) (.slice A0 l0.length c0) l0 from Kd.V_mono hs0 (fun k_ hk => .inl hk))
 have HB := am (Below.refl w.heap.size w)
 have H := h; unfold modp_trim.f at H
 clear h
 have H' := am H
 clear H
 go_enter Tryz.func29, Tryz.ntmps29
 go_wp2
 go_loopg [0] k (fun kq v0 w' => ∃ (x0_1 : List Int), Aside0 (modp_trim.l0 kq x0_1 = some r) ∧ Aside0 (kq ≤ k) ∧ Aside0 (Kd.V (Kd.int .u32) 23 w' w.heap.size (fun k_ => (P0_ k_ ∨ w.heap.size ≤ k_)) v0 x0_1) ∧ Aside0 (Below w.heap.size w w'))
 case atStart => exact ⟨(l0), H', ⟨Nat.le_refl _⟩, ⟨rV (HO0.out)⟩, ⟨bB⟩⟩
 clear H'
 obtain ⟨x0_1, HA, HK1, HO_0, HB⟩ := hrel
 rcases gk with _ | k1
 · exact absurd HA.out (by simp [modp_trim.l0])
 have H := HA.out
 clear HA
 simp only [modp_trim.l0] at H
 by_cases c2 : (x0_1.length : Int) > 0
 case neg =>
   rw [if_neg c2] at H
   have c2b0 : decide (0 < (x0_1.length : Int)) = false := decide_eq_false c2
   have c2b1 : decide (0 < x0_1.length) = false := decide_eq_false (by omega)
   clear c2
   obtain rfl := Option.some.inj H
   obtain ⟨Ao12, co12, eo12⟩ := Kd.V_slice HO_0.out
   subst eo12
   go_wp2
   go_ret
   exact ⟨_, eqR, rV (HO_0.out), bB⟩
 rw [if_pos c2] at H
 have c2b0 : decide (0 < (x0_1.length : Int)) = true := decide_eq_true c2
 have c2b1 : decide (0 < x0_1.length) = true := decide_eq_true (by omega)
 clear c2
 obtain ⟨ji3, hji3⟩ : ∃ j_ : Int, (wrap64 ((x0_1.length : Int) - 1)) = j_ := ⟨_, rfl⟩
 replace H : (if 0 ≤ (ji3) then (if (ji3) < (x0_1.length : Int) then (if (rd x0_1 (ji3)) = 0 then (if (ji3) ≤ (x0_1.length : Int) then (modp_trim.l0 k1 (x0_1.take ((ji3) : Int).toNat)) else (none)) else (some x0_1)) else (none)) else (none)) = some r := by first | (rw [hji3] at H; exact H) | (simp only [hji3] at H ⊢; exact H)
 have hji3w : (IntKind.i64.wrap ((x0_1.length : Int) - 1)) = ji3 := (i64_w _).trans hji3
 by_cases c4 : 0 ≤ (ji3)
 case neg => exact nn c4 H
 rw [if_pos c4] at H
 have c4b0 : decide (0 ≤ (ji3)) = true := decide_eq_true c4
 clear c4
 by_cases c5 : (ji3) < (x0_1.length : Int)
 case neg => exact nn c5 H
 rw [if_pos c5] at H
 have c5b0 : decide ((ji3) < (x0_1.length : Int)) = true := decide_eq_true c5
 clear c5
 by_cases c6 : (rd x0_1 (ji3)) = 0
 case neg =>
   rw [if_neg c6] at H
   have c6b0 : ((rd x0_1 (ji3)) == 0) = false := beq_eq_false_iff_ne.mpr c6
   have c6b1 : ((rd x0_1 (ji3)) != 0) = true := bne_iff_ne.mpr c6
   obtain rfl := Option.some.inj H
   obtain ⟨Ao11, co11, eo11⟩ := Kd.V_slice HO_0.out
   subst eo11
   have p101 : 0 ≤ ((ji3) : Int) := of_decide_eq_true as_
   have q101 : (ji3) < (x0_1.length : Int) := of_decide_eq_true as_
   obtain ⟨ad101, e101, hx101_0⟩ := Kd.at_int (Kd.V_reads' HO_0.out).2.2 (ji3) p101 q101
   cases e101
   replace p101 := eq_true p101
   replace q101 := eq_true q101
   go_wp2
   go_ret
   exact ⟨_, by first | rfl | (simp [errW_none, errW_some] <;> rfl) | (simp only [← hji3]; first | rfl | (simp [errW_none, errW_some] <;> rfl)) | (simp [*, errW_none, errW_some] <;> rfl), rV (HO_0.out), bB⟩
 rw [if_pos c6] at H
 have c6b0 : ((rd x0_1 (ji3)) == 0) = true := beq_iff_eq.mpr c6
 have c6b1 : ((rd x0_1 (ji3)) != 0) = false := bne_eq_false_iff_eq.mpr c6
 clear c6
 have c7b0 := eq_true (of_decide_eq_true as_ : 0 ≤ (ji3))
 by_cases c8 : (ji3) ≤ (x0_1.length : Int)
 case neg => exact nn c8 H
 rw [if_pos c8] at H
 have c8b0 := eq_true c8
 have c8b1 : decide ((ji3) ≤ (x0_1.length : Int)) = true := decide_eq_true c8
 clear c8
 obtain ⟨y102, hy102⟩ : ∃ y_ : List Int, y_ = (x0_1.take ((ji3) : Int).toNat) := ⟨_, rfl⟩
 replace H : (modp_trim.l0 k1 y102) = some r := by first | (rw [hy102]; exact H) | exact H
 have Ny102 := am hy102
 clear hy102
 have H' := am H
 clear H
 obtain ⟨Ao9, co9, eo9⟩ := Kd.V_slice HO_0.out
 subst eo9
 have p101 : 0 ≤ ((ji3) : Int) := of_decide_eq_true as_
 have q101 : (ji3) < (x0_1.length : Int) := of_decide_eq_true as_
 obtain ⟨ad101, e101, hx101_0⟩ := Kd.at_int (Kd.V_reads' HO_0.out).2.2 (ji3) p101 q101
 cases e101
 replace p101 := eq_true p101
 replace q101 := eq_true q101
 have q10 : ((ji3) : Int) ≤ ((x0_1.length : Int) : Int) := of_decide_eq_true as_
 obtain ⟨i010, hi010, _, hsz10, _⟩ := info_parts info23
 have hroom10 : x0_1.length ≤ co9 := (Kd.V_reads' HO_0.out).2.1
 have hC10 : Kd.F (Kd.int .u32) _ _ (some ad101) x0_1.length x0_1 := (Kd.V_at (base := w.heap.size) HO_0.out).2.2
 have hcut10 := cut_to (P := Tryz.prog) 27 23 .i64 Tryz.underlying27 hi010 (some ad101) x0_1.length co9 (ji3) (of_decide_eq_true as_) q10 hroom10
 have hr10 := Kd.F_take (m := ((ji3) : Int).toNat) hC10 (by omega)
 have hy10 : y102.length = ((ji3) : Int).toNat := (by rw [Ny102.out, List.length_take]; omega)
 rw [← Ny102.out] at hr10
 rw [← hy10] at hcut10
 have HO106 := am (show Kd.V (Kd.int .u32) 23 _ w.heap.size _ (.slice (some ad101) y102.length co9) y102 from Kd.V_mk (by omega) hr10)
 have HC106 := am (show y102.length ≤ co9 from by omega)
 clear hr10 hC10 hroom10 hi010 hsz10
 have KY10 := am hy10
 clear hy10
 replace q10 := eq_true q10
 go_wp2
 first | go_roundg k1 | (subst hji3; go_roundg k1)
 case measure => have := HK1.out; omega
 case rel => exact ⟨(y102), (by first | exact H' | (subst_vars; exact H')), ⟨by have := HK1.out; omega⟩, ⟨rV (HO106.out)⟩, ⟨bB⟩⟩
def modp_inverse.l0 : Nat → Int → Int → Int → Int → Int → Option (Int)
 | 0, _, _, _, _, _ => none
 | k + 1, x1, x5, x6, x7, x8 => if x6 = 0 then (if (wrap64 (x1)) = 0 then (none) else (some (IntKind.u64.wrap (Int.tmod (wrap64 ((Int.tmod x7 (wrap64 (x1))) + (wrap64 (x1)))) (wrap64 (x1)))))) else (modp_inverse.l0 k x1 x6 (wrap64 (x5 - (wrap64 ((wrap64 (Int.tdiv x5 x6)) * x6)))) x8 (wrap64 (x7 - (wrap64 ((wrap64 (Int.tdiv x5 x6)) * x8)))))
def modp_inverse.f (k : Nat) (a0 : Int) (a1 : Int) : Option (Int) := if (IntKind.u64.wrap (a1)) = 0 then (none) else (modp_inverse.l0 k a1 (wrap64 (Int.tmod a0 (IntKind.u64.wrap (a1)))) (wrap64 (a1)) 1 0)
theorem modp_inverse.calls (k : Nat) (a0 : Int) (a1 : Int) (r : Int) (w : World) (h : modp_inverse.f k a0 a1 = some r) :
   Calls Tryz.prog 44 #[.int .u64 a0, .int .u32 a1] w fun e w' => e = .returned (.int .u64 r) ∧ Drawn0 w w' := by
 have H := h; unfold modp_inverse.f at H
 clear h
 by_cases c3 : (IntKind.u64.wrap (a1)) = 0
 · rw [if_pos c3] at H
   exact absurd H (by simp)
 rw [if_neg c3] at H
 have c3b0 : ((IntKind.u64.wrap (a1)) == 0) = false := beq_eq_false_iff_ne.mpr c3
 have c3b1 : ((IntKind.u64.wrap (a1)) != 0) = true := bne_iff_ne.mpr c3
 have H' := am H
 clear H
 go_enter Tryz.func44, Tryz.ntmps44
 go_wp2
 go_loopg [5, 6, 7, 8] k (fun kq v5 v6 v7 v8 w' => ∃ (x5_1 : Int) (x6_1 : Int) (x7_1 : Int) (x8_1 : Int), v5 = .int .i64 x5_1 ∧ v6 = .int .i64 x6_1 ∧ v7 = .int .i64 x7_1 ∧ v8 = .int .i64 x8_1 ∧ Aside0 (modp_inverse.l0 kq a1 x5_1 x6_1 x7_1 x8_1 = some r) ∧ Aside0 (kq ≤ k) ∧ Drawn0 w w')
 case atStart => exact ⟨(wrap64 (Int.tmod a0 (IntKind.u64.wrap (a1)))), (wrap64 (a1)), (1), (0), eqS, eqS, eqS, eqS, H', ⟨Nat.le_refl _⟩, by repeat (first | exact Drawn0.refl _ | apply Drawn0.step)⟩
 clear H'
 (try clear p2); (try clear c3); (try clear c3b0); (try clear c3b1)
 obtain ⟨x5_1, x6_1, x7_1, x8_1, rfl, rfl, rfl, rfl, HA, HK1, ⟨m1, rfl⟩⟩ := hrel
 rcases gk with _ | k1
 · exact absurd HA.out (by simp [modp_inverse.l0])
 have H := HA.out
 clear HA
 simp only [modp_inverse.l0] at H
 by_cases c4 : x6_1 = 0
 case neg =>
   rw [if_neg c4] at H
   have c4b0 : (x6_1 == 0) = false := beq_eq_false_iff_ne.mpr c4
   have c4b1 : (x6_1 != 0) = true := bne_iff_ne.mpr c4
   have H' := am H
   clear H
   go_wp2
   go_roundg k1
   case measure => have := HK1.out; omega
   case rel => exact ⟨(x6_1), (wrap64 (x5_1 - (wrap64 ((wrap64 (Int.tdiv x5_1 x6_1)) * x6_1)))), (x8_1), (wrap64 (x7_1 - (wrap64 ((wrap64 (Int.tdiv x5_1 x6_1)) * x8_1)))), eqS, eqS, eqS, eqS, (by first | exact H' | (subst_vars; exact H')), ⟨by have := HK1.out; omega⟩, by repeat (first | exact Drawn0.refl _ | apply Drawn0.step)⟩
 rw [if_pos c4] at H
 have c4b0 : (x6_1 == 0) = true := beq_iff_eq.mpr c4
 have c4b1 : (x6_1 != 0) = false := bne_eq_false_iff_eq.mpr c4
 clear c4
 by_cases c5 : (wrap64 (a1)) = 0
 · rw [if_pos c5] at H
   exact absurd H (by simp)
 rw [if_neg c5] at H
 have c5b0 : ((wrap64 (a1)) == 0) = false := beq_eq_false_iff_ne.mpr c5
 have c5b1 : ((wrap64 (a1)) != 0) = true := bne_iff_ne.mpr c5
 obtain rfl := Option.some.inj H
 go_wp2
 go_ret
 exact ⟨eqS, dR⟩
mutual
def modp_Mul.j0 : Nat → List Int → List Int → Int → Bool → Option (List Int)
 | 0, _, _, _, _ => none
 | k + 1, x0, x1, x2, x22 => if x22 = true then (some ([] : List Int)) else (if 0 ≤ (wrap64 ((wrap64 ((x0.length : Int) + (x1.length : Int))) - 1)) then (if (wrap64 ((wrap64 ((x0.length : Int) + (x1.length : Int))) - 1) : Int).toNat ≤ 35184372088832 then (modp_Mul.l0 k x1 x2 (List.replicate (wrap64 ((wrap64 ((x0.length : Int) + (x1.length : Int))) - 1) : Int).toNat 0) x0 (x0.length : Int) 0) else (none)) else (none))
def modp_Mul.l0 : Nat → List Int → Int → List Int → List Int → Int → Int → Option (List Int)
 | 0, _, _, _, _, _, _ => none
 | k + 1, x1, x2, x7, x30, x31, x32 => if x32 < x31 then (if 0 ≤ x32 then (if x32 < (x30.length : Int) then (modp_Mul.l1 k x1 x2 x7 x32 (rd x30 x32) x30 x31 x32 x1 (x1.length : Int) 0) else (none)) else (none)) else (if 0 ≤ (x7.length : Int) then (if ((x7.length : Int) : Int).toNat ≤ 70368744177664 then (modp_Mul.l2 k x2 (List.replicate ((x7.length : Int) : Int).toNat 0) x7 (x7.length : Int) 0) else (none)) else (none))
def modp_Mul.l1 : Nat → List Int → Int → List Int → Int → Int → List Int → Int → Int → List Int → Int → Int → Option (List Int)
 | 0, _, _, _, _, _, _, _, _, _, _, _ => none
 | k + 1, x1, x2, x7, x8, x9, x30, x31, x32, x37, x38, x39 => if x39 < x38 then (if 0 ≤ x39 then (if x39 < (x37.length : Int) then (if 0 ≤ (wrap64 (x8 + x39)) then (if (wrap64 (x8 + x39)) < (x7.length : Int) then (if (IntKind.u64.wrap (x2)) = 0 then (none) else (modp_Mul.l1 k x1 x2 (x7.set ((wrap64 (x8 + x39)) : Int).toNat (IntKind.u64.wrap ((rd x7 (wrap64 (x8 + x39))) + (Int.tmod (IntKind.u64.wrap ((IntKind.u64.wrap (x9)) * (IntKind.u64.wrap (rd x37 x39)))) (IntKind.u64.wrap (x2)))))) x8 x9 x30 x31 x32 x37 x38 (wrap64 (x39 + 1)))) else (none)) else (none)) else (none)) else (none)) else (modp_Mul.l0 k x1 x2 x7 x30 x31 (wrap64 (x32 + 1)))
def modp_Mul.l2 : Nat → Int → List Int → List Int → Int → Int → Option (List Int)
 | 0, _, _, _, _, _ => none
 | k + 1, x2, x12, x65, x66, x67 => if x67 < x66 then (if 0 ≤ x67 then (if x67 < (x65.length : Int) then (if (IntKind.u64.wrap (x2)) = 0 then (none) else (if x67 < (x12.length : Int) then (modp_Mul.l2 k x2 (x12.set (x67 : Int).toNat ((Int.tmod (rd x65 x67) (IntKind.u64.wrap (x2))) % 4294967296)) x65 x66 (wrap64 (x67 + 1))) else (none))) else (none)) else (none)) else ((modp_trim.f k x12).bind fun t171 => (some t171))
end
def modp_Mul.f (k : Nat) (l0 : List Int) (l1 : List Int) (a2 : Int) : Option (List Int) := if (l0.length : Int) = 0 then (modp_Mul.j0 k l0 l1 a2 true) else (modp_Mul.j0 k l0 l1 a2 ((l1.length : Int) == 0))
def modp_Mul.T10 : Bool × List (List Nat × List Nat) := (true, [([], []), ([], []), ([], []), ([1, 2], [1, 2]), ([0, 3], [0, 3]), ([4], [4]), ([], []), ([6], [6]), ([], []), ([8], [8]), ([7, 9], [7, 9]), ([], []), ([11], [11]), ([10, 12], [10, 12]), ([5, 13], [5, 13]), ([0, 3, 0, 1, 2, 3, 4, 5, 6, 7, 8, 9, 10, 11, 12, 13, 14], [0, 3]), ([15, 14, 0, 1, 2, 3, 4, 5, 6, 7, 8, 9, 10, 11, 12, 13, 14], [14, 15])])
def modp_Mul.B10 : List Nat := [0, 0, 0, 6, 15, 31, 0, 64, 0, 256, 960, 0, 2048, 8128, 16383, 32767, 65535]
theorem modp_Mul.tab10 : rtab .any (opsOf Tryz.f13 10) = modp_Mul.T10 := by kernel_rfl
theorem modp_Mul.bits10 : waitsOk modp_Mul.T10.2 modp_Mul.B10 = true := by kernel_rfl
theorem modp_Mul.calls (k : Nat) (A0 : Option Addr) (c0 : Nat) (l0 : List Int) (A1 : Option Addr) (c1 : Nat) (l1 : List Int) (a2 : Int) (r : List Int) (w : World) (hr0 : Kd.C (Kd.int .u32) w A0 l0.length l0) (hc0 : l0.length ≤ c0) (hr1 : Kd.C (Kd.int .u32) w A1 l1.length l1) (hc1 : l1.length ≤ c1) (h : modp_Mul.f k l0 l1 a2 = some r) :
   Calls Tryz.prog 13 #[.slice A0 l0.length c0, .slice A1 l1.length c1, .int .u32 a2] w fun e w' => ∃ v0_ : Value, e = .returned (v0_) ∧ Kd.V (Kd.int .u32) 23 w' w.heap.size (fun k_ => (w.heap.size ≤ k_)) v0_ r ∧ Below w.heap.size w w' := by
 have HR0 := am hr0
 have HC0 := am hc0
 clear hr0 hc0
 have HR1 := am hr1
 have HC1 := am hc1
 clear hr1 hc1
 have HB := am (Below.refl w.heap.size w)
 have H := h; unfold modp_Mul.f at H
 clear h
 have HC4 := am H
 clear H
 go_enter Tryz.func13, Tryz.ntmps13
 go_upto_region 1 with (fail)
 go_cut [22] (fun v22 wc => ∃ (kq : Nat) (x22_3 : Bool), v22 = .bool x22_3 ∧ Aside0 (modp_Mul.j0 kq l0 l1 a2 x22_3 = some r) ∧ Aside0 (kq ≤ k) ∧ Aside0 (Below w.heap.size w wc))
 case first =>
   have H := HC4.out
   clear HC4
   by_cases c5 : (l0.length : Int) = 0
   case neg =>
     rw [if_neg c5] at H
     have c5b0 : ((l0.length : Int) == 0) = false := beq_eq_false_iff_ne.mpr c5
     have c5b1 : ((l0.length : Int) != 0) = true := bne_iff_ne.mpr c5
     have c5b2 : ¬ (l0 = []) := fun h_ => c5 (by rw [h_]; rfl)
     (first | rw [c5b0] | (simp only [i64_w, i32_w]; rw [c5b0]) | skip)
     have H' := am H
     clear H
     go_wp2
     go_meet
     case rel => exact ⟨_, (((l1.length : Int) == 0)), eqS, (by first | exact H' | (subst_vars; exact H')), ⟨by first | omega | exact Nat.le_refl _⟩, ⟨bB⟩⟩
   rw [if_pos c5] at H
   have c5b0 : ((l0.length : Int) == 0) = true := beq_iff_eq.mpr c5
   have c5b1 : ((l0.length : Int) != 0) = false := bne_eq_false_iff_eq.mpr c5
   clear c5
   (first | rw [c5b0] | (simp only [i64_w, i32_w]; rw [c5b0]) | skip)
   have H' := am H
   clear H
   go_wp2
   go_meet
   case rel => exact ⟨_, (true), eqS, (by first | exact H' | (subst_vars; exact H')), ⟨by first | omega | exact Nat.le_refl _⟩, ⟨bB⟩⟩
 case rest =>
   clear HC4
   obtain ⟨kq, x22_3, rfl, HA, HJ3, HB⟩ := hcut
   rcases kq with _ | kj3
   · exact absurd HA.out (by simp [modp_Mul.j0])
   have H := HA.out
   clear HA
   simp only [modp_Mul.j0] at H
   by_cases c6 : x22_3 = true
   · subst c6
     have H1 : (some ([] : List Int)) = some r := by rw [if_pos rfl] at H; exact H
     clear H
     have H := H1
     clear H1
     obtain rfl := Option.some.inj H
     go_wp2
     go_ret
     exact ⟨(.slice none 0 0), eqR, Kd.R_V (base := w.heap.size) (by first | exact Kd.R_nil _ _ _ _ _ | exact Kd.N_nil _ _ _ _ _ | exact Kd.V_nil _ _ _ _ _ | exact Kd.Q_nil _ _ _ _ _ | exact Kd.S_nil _ _ _ _ _), bB⟩
   replace c6 := Bool.eq_false_iff.mpr c6
   subst c6
   have H1 : (if 0 ≤ (wrap64 ((wrap64 ((l0.length : Int) + (l1.length : Int))) - 1)) then (if (wrap64 ((wrap64 ((l0.length : Int) + (l1.length : Int))) - 1) : Int).toNat ≤ 35184372088832 then (modp_Mul.l0 kj3 l1 a2 (List.replicate (wrap64 ((wrap64 ((l0.length : Int) + (l1.length : Int))) - 1) : Int).toNat 0) l0 (l0.length : Int) 0) else (none)) else (none)) = some r := by rw [if_neg (show ¬ (false = true) by decide)] at H; exact H
   clear H
   have H := H1
   clear H1
   obtain ⟨ji7, hji7⟩ : ∃ j_ : Int, (wrap64 ((wrap64 ((l0.length : Int) + (l1.length : Int))) - 1)) = j_ := ⟨_, rfl⟩
   replace H : (if 0 ≤ (ji7) then (if (ji7 : Int).toNat ≤ 35184372088832 then (modp_Mul.l0 kj3 l1 a2 (List.replicate (ji7 : Int).toNat 0) l0 (l0.length : Int) 0) else (none)) else (none)) = some r := by first | (rw [hji7] at H; exact H) | (simp only [hji7] at H ⊢; exact H)
   have hji7w : (IntKind.i64.wrap ((wrap64 ((l0.length : Int) + (l1.length : Int))) - 1)) = ji7 := (i64_w _).trans hji7
   by_cases c8 : 0 ≤ (ji7)
   case neg => exact nn c8 H
   rw [if_pos c8] at H
   have c8b0 := eq_true c8
   have c8b1 : decide (0 ≤ (ji7)) = true := decide_eq_true c8
   clear c8
   by_cases c9 : (ji7 : Int).toNat ≤ 35184372088832
   case neg => exact nn c9 H
   rw [if_pos c9] at H
   have c9b0 := eq_true c9
   have c9b1 : decide ((ji7 : Int).toNat ≤ 35184372088832) = true := decide_eq_true c9
   clear c9
   obtain ⟨y159, hy159⟩ : ∃ y_ : List Int, y_ = (List.replicate (ji7 : Int).toNat 0) := ⟨_, rfl⟩
   replace H : (modp_Mul.l0 kj3 l1 a2 y159 l0 (l0.length : Int) 0) = some r := by first | (rw [hy159]; exact H) | exact H
   have Ny159 := am hy159
   clear hy159
   have H' := am H
   clear H
   go_wp2_with (first | ((with_reducible refine gate_dst (N := 29) rfl ?_); (try (refine gate_guard (by rfl) ?_; dsimp only)); refine Kd.R_make (Kd.int .u64) _ 55 rfl (N := 29) rfl 62 _ _ rfl ji7 rfl rfl Tryz.underlying62 (.int .u64 0) 8 info55 rfl (by decide) (by omega) 0 (ok := fun _ => True) (okp := fun _ => True) rfl (fun _ hk => hk) trivial (of_decide_eq_true as_) (Nat.le_trans (Nat.mul_le_mul_right _ (of_decide_eq_true as_ : ji7.toNat ≤ 35184372088832)) (by omega)) (Below.refl _ _) (Nat.le_refl _) ?_; intro v160 w10 ho11 hb hg_ hnew_; clear hg_ hnew_; (first | rw [← Ny159.out] at ho11 | (simp only [Int.reduceToNat] at ho11; rw [← Ny159.out] at ho11)); have n0_ := am (Kd.R_lower (Kd.R_newM (M := fun k_ => (w.heap.size ≤ k_)) ho11 (below_size bB) (fun k_ h_ => h_)) (below_size bB)); have n1_ := am (below_step bB hb); clear HB; have HO161 := n0_; have HB := n1_; clear n0_ n1_; clear hb ho11))
   go_loopg [32] kj3 (fun kq v32 w' => ∃ (x7_2 : List Int) (x32_2 : Int), v32 = .int .i64 x32_2 ∧ Aside0 (modp_Mul.l0 kq l1 a2 x7_2 l0 (l0.length : Int) x32_2 = some r) ∧ Aside0 (kq ≤ kj3) ∧ Aside0 (Kd.R (Kd.int .u64) 55 w' w.heap.size (fun k_ => (w.heap.size ≤ k_)) v160 x7_2) ∧ Aside0 (Below w.heap.size w w'))
   case atStart => exact ⟨(y159), (0), eqS, H', ⟨Nat.le_refl _⟩, ⟨by (with_reducible repeat (first | apply Kd.R_alloc | apply Kd.R_drewN | apply Kd.R_drew)); exact Kd.R_mono HO161.out (fun _ hk => hk.1)⟩, ⟨bB⟩⟩
   clear H'
   clear c8b0 c8b1 c9b0 c9b1
   obtain ⟨x7_2, x32_2, rfl, HA, HK2, HO_7, HB⟩ := hrel
   rcases gk with _ | k2
   · exact absurd HA.out (by simp [modp_Mul.l0])
   have H := HA.out
   clear HA
   simp only [modp_Mul.l0] at H
   by_cases c12 : x32_2 < (l0.length : Int)
   case neg =>
     rw [if_neg c12] at H
     have c12b0 : decide (x32_2 < (l0.length : Int)) = false := decide_eq_false c12
     clear c12
     by_cases c26 : 0 ≤ (x7_2.length : Int)
     case neg => exact nn c26 H
     rw [if_pos c26] at H
     have c26b0 := eq_true c26
     have c26b1 : decide (0 ≤ (x7_2.length : Int)) = true := decide_eq_true c26
     clear c26
     by_cases c27 : ((x7_2.length : Int) : Int).toNat ≤ 70368744177664
     case neg => exact nn c27 H
     rw [if_pos c27] at H
     have c27b0 := eq_true c27
     have c27b1 : decide (((x7_2.length : Int) : Int).toNat ≤ 70368744177664) = true := decide_eq_true c27
     clear c27
     obtain ⟨y166, hy166⟩ : ∃ y_ : List Int, y_ = (List.replicate ((x7_2.length : Int) : Int).toNat 0) := ⟨_, rfl⟩
     replace H : (modp_Mul.l2 k2 a2 y166 x7_2 (x7_2.length : Int) 0) = some r := by first | (rw [hy166]; exact H) | exact H
     have Ny166 := am hy166
     clear hy166
     have H' := am H
     clear H
     obtain ⟨Ao28, co28, eo28⟩ := Kd.R_slice HO_7.out
     subst eo28
     go_wp2_with (first | ((with_reducible refine gate_dst (N := 64) rfl ?_); (try (refine gate_guard (by rfl) ?_; dsimp only)); refine Kd.R_make (Kd.int .u32) _ 23 rfl (N := 64) rfl 27 _ _ rfl (x7_2.length : Int) rfl rfl Tryz.underlying27 (.int .u32 0) 4 info23 rfl (by decide) (by omega) 0 (ok := fun _ => True) (okp := fun _ => True) rfl (fun _ hk => hk) trivial (of_decide_eq_true as_) (Nat.le_trans (Nat.mul_le_mul_right _ (of_decide_eq_true as_ : (x7_2.length : Int).toNat ≤ 70368744177664)) (by omega)) (Below.refl _ _) (Nat.le_refl _) ?_; intro v167 w29 ho30 hb hg_ hnew_; clear hg_ hnew_; (first | rw [← Ny166.out] at ho30 | (simp only [Int.reduceToNat] at ho30; rw [← Ny166.out] at ho30)); have n0_ := am (Kd.R_below (rR HO_7.out) hb); have n1_ := am (Kd.R_lower (Kd.R_newM (M := fun k_ => (w.heap.size ≤ k_)) ho30 (below_size bB) (fun k_ h_ => h_)) (below_size bB)); have n2_ := am (below_step bB hb); clear HO_7; clear HB; have HO_7 := n0_; have HO168 := n1_; have HB := n2_; clear n0_ n1_ n2_; clear hb ho30))
     go_loopg [67] k2 (fun kq v67 w' => ∃ (x12_3 : List Int) (x67_3 : Int), v67 = .int .i64 x67_3 ∧ Aside0 (modp_Mul.l2 kq a2 x12_3 x7_2 (x7_2.length : Int) x67_3 = some r) ∧ Aside0 (kq ≤ k2) ∧ Aside0 (Kd.R (Kd.int .u32) 23 w' w.heap.size (fun k_ => (w.heap.size ≤ k_)) v167 x12_3) ∧ Aside0 (Kd.R (Kd.int .u64) 55 w' w.heap.size (fun k_ => (w.heap.size ≤ k_)) (.slice Ao28 x7_2.length co28) x7_2) ∧ Aside0 (Below w.heap.size w w'))
     case atStart => exact ⟨(y166), (0), eqS, H', ⟨Nat.le_refl _⟩, ⟨by (with_reducible repeat (first | apply Kd.R_alloc | apply Kd.R_drewN | apply Kd.R_drew)); exact Kd.R_mono HO168.out (fun _ hk => hk.1)⟩, ⟨rR (HO_7.out)⟩, ⟨bB⟩⟩
     clear H'
     clear c12b0 c26b0 c26b1 c27b0 c27b1
     obtain ⟨x12_3, x67_3, rfl, HA, HK3, HO_12, HO_65, HB⟩ := hrel
     rcases gk with _ | k3
     · exact absurd HA.out (by simp [modp_Mul.l2])
     have H := HA.out
     clear HA
     simp only [modp_Mul.l2] at H
     by_cases c31 : x67_3 < (x7_2.length : Int)
     case neg =>
       rw [if_neg c31] at H
       have c31b0 : decide (x67_3 < (x7_2.length : Int)) = false := decide_eq_false c31
       clear c31
       obtain ⟨t171, A390, H⟩ := Option.bind_eq_some_iff.mp H
       replace H : (some t171) = some r := H
       have A39 := am A390
       clear A390
       obtain rfl := Option.some.inj H
       obtain ⟨Ao40, co40, eo40⟩ := Kd.R_slice HO_12.out
       subst eo40
       go_wp2_with (first | ((with_reducible refine gate_callee (f := 29) rfl ?_); refine goesA (some 82) Tryz.func29 #[.slice Ao40 x12_3.length co40] ?_; (with_reducible refine (modp_trim.calls k3 (fun k_ => some k_ = (.slice Ao40 x12_3.length co40 : Value).ownBlock) _ _ x12_3 t171 _ ?side1 A39.out).mono ?_); (case side1 => exact Kd.R_V (Kd.R_tight rfl (Kd.R_apart' (HO_12.out) (Kd.R_typed HO_65.out) (by decide)))); rintro e w41 ⟨v172, rfl, ho0, hb⟩; refine ⟨_, rfl, ?_⟩; have n0_ := am (Kd.R_below (rR HO_12.out) hb); have n1_ := am (Kd.R_below (rR HO_65.out) hb); have n2_ := am (Kd.V_lower (Kd.V_mono (ok' := fun k_ => (w.heap.size ≤ k_) ∧ some k_ ≠ (.slice Ao28 x7_2.length co28 : Value).ownBlock) ho0 (fun k_ hk_ => ⟨Or.elim hk_ (fun hs_ => ((Kd.R_apart' (HO_12.out) (Kd.R_typed HO_65.out) (by decide)).1 k_ hs_.symm).1) (fun hn_ => (Nat.le_trans (below_size bB) hn_)), Or.elim hk_ (fun hs_ => ((Kd.R_apart' (HO_12.out) (Kd.R_typed HO_65.out) (by decide)).1 k_ hs_.symm).2) (fun hn_ => (Kd.fresh' (Kd.R_lt (rR HO_65.out)) k_ hn_))⟩)) (below_size bB)); have n3_ := am (below_step bB hb); clear HO_12; clear HO_65; clear HB; have HO_12 := n0_; have HO_65 := n1_; have HO173 := n2_; have HB := n3_; clear n0_ n1_ n2_ n3_; (try clear hb); (try clear hb2); (try clear hk); (try clear hi); (try clear ho0)))
       go_ret
       exact ⟨_, by first | rfl | (simp [errW_none, errW_some] <;> rfl) | (simp only [← hji7]; first | rfl | (simp [errW_none, errW_some] <;> rfl)) | (simp [*, errW_none, errW_some] <;> rfl), by (with_reducible repeat (first | apply Kd.V_alloc | apply Kd.V_drewN | apply Kd.V_drew)); exact Kd.V_mono HO173.out (fun _ hk => hk.1), bB⟩
     rw [if_pos c31] at H
     have c31b0 : decide (x67_3 < (x7_2.length : Int)) = true := decide_eq_true c31
     clear c31
     by_cases c32 : 0 ≤ x67_3
     case neg => exact nn c32 H
     rw [if_pos c32] at H
     have c32b0 : decide (0 ≤ x67_3) = true := decide_eq_true c32
     clear c32
     by_cases c33 : x67_3 < (x7_2.length : Int)
     case neg => exact nn c33 H
     rw [if_pos c33] at H
     have c33b0 : decide (x67_3 < (x7_2.length : Int)) = true := decide_eq_true c33
     clear c33
     by_cases c34 : (IntKind.u64.wrap (a2)) = 0
     · rw [if_pos c34] at H
       exact absurd H (by simp)
     rw [if_neg c34] at H
     have c34b0 : ((IntKind.u64.wrap (a2)) == 0) = false := beq_eq_false_iff_ne.mpr c34
     have c34b1 : ((IntKind.u64.wrap (a2)) != 0) = true := bne_iff_ne.mpr c34
     by_cases c35 : x67_3 < (x12_3.length : Int)
     case neg => exact nn c35 H
     rw [if_pos c35] at H
     have c35b0 : decide (x67_3 < (x12_3.length : Int)) = true := decide_eq_true c35
     clear c35
     obtain ⟨y170, hy170⟩ : ∃ y_ : List Int, y_ = (x12_3.set (x67_3 : Int).toNat ((Int.tmod (rd x7_2 x67_3) (IntKind.u64.wrap (a2))) % 4294967296)) := ⟨_, rfl⟩
     replace H : (modp_Mul.l2 k3 a2 y170 x7_2 (x7_2.length : Int) (wrap64 (x67_3 + 1))) = some r := by first | (rw [hy170]; exact H) | exact H
     have Ny170 := am hy170
     clear hy170
     have H' := am H
     clear H
     have p169 : 0 ≤ (x67_3 : Int) := of_decide_eq_true as_
     have q169 : x67_3 < (x7_2.length : Int) := of_decide_eq_true as_
     obtain ⟨ad169, e169, hx169_0⟩ := Kd.at_int (Kd.R_reads' HO_65.out).2.2 x67_3 p169 q169
     cases e169
     replace p169 := eq_true p169
     replace q169 := eq_true q169
     have p36 : 0 ≤ (x67_3 : Int) := of_decide_eq_true as_
     have q36 : (x67_3 : Int) < ((x12_3.length : Int) : Int) := of_decide_eq_true as_
     obtain ⟨go36, co36, eo36, gb36, gl36, cl36, HG36⟩ := Kd.R_form HO_12.out (by omega)
     (first | cases eo36 | (injection eo36 with ea_ en_ ec_; (first | subst ea_ | (injection ea_ with ea_; subst ea_)); subst ec_; clear en_))
     have GB36 := am gb36
     have GG36 := am HG36
     clear gb36 gl36 HG36
     obtain ⟨hx36_0, hf36_0⟩ := Kd.R_celln 0 HO_12.out (x67_3 : Int) p36 q36
     replace p36 := eq_true p36
     replace q36 := eq_true q36
     have HP37 := Kd.R_putg HO_12.out (x67_3 : Int) ((Int.tmod (rd x7_2 x67_3) (IntKind.u64.wrap (a2))) % 4294967296)
     go_wp2_with (first | ((with_reducible refine gate_store (t := 23) (p := 79) rfl ?_); refine store_event (t := 23) (p := 79) (v := ?vo_w38) (w1 := (wr.setCell ⟨go36, (x67_3 : Int).toNat, none⟩ (.int .u32 ((Int.tmod (rd x7_2 x67_3) (IntKind.u64.wrap (a2))) % 4294967296)))) ?hg ?ho ?hn ?hr ?_; (case ho => rfl); (case hg => rfl); (case hn => rfl); (case hr => first | (go_simp; done) | (go_simp; rfl)); intro w38 hw; have hg : wr.grownBy w38 (some go36) := (by rw [hw]; exact HP37.2); have hp_ : Kd.R (Kd.int .u32) 23 w38 w.heap.size (fun k_ => (w.heap.size ≤ k_)) (.slice (some ⟨go36, 0, none⟩) x12_3.length co36) y170 := (by rw [hw, Ny170.out]; exact HP37.1); clear HP37; have n0_ := am (hp_); have n1_ := am (Kd.R_over' (v := (.slice (some ⟨go36, 0, none⟩) x12_3.length co36)) (rR HO_65.out) (Kd.R_typed HO_12.out) (by decide) hg); have n2_ := am ((by rw [hw]; exact below_set (HB.out) GB36.out : Below w.heap.size w w38)); clear HO_12; clear HO_65; clear HB; have HO_12 := n0_; have HO_65 := n1_; have HB := n2_; clear n0_ n1_ n2_; clear hg hw hp_))
     first | go_roundg k3 | (subst hji7; go_roundg k3)
     case measure => have := HJ3.out; have := HK2.out; have := HK3.out; omega
     case rel => exact ⟨(y170), (wrap64 (x67_3 + 1)), eqS, (by first | exact H' | (subst_vars; exact H')), ⟨by have := HJ3.out; have := HK2.out; have := HK3.out; omega⟩, ⟨rR (HO_12.out)⟩, ⟨rR (HO_65.out)⟩, ⟨bB⟩⟩
   rw [if_pos c12] at H
   have c12b0 : decide (x32_2 < (l0.length : Int)) = true := decide_eq_true c12
   clear c12
   by_cases c13 : 0 ≤ x32_2
   case neg => exact nn c13 H
   rw [if_pos c13] at H
   have c13b0 : decide (0 ≤ x32_2) = true := decide_eq_true c13
   clear c13
   by_cases c14 : x32_2 < (l0.length : Int)
   case neg => exact nn c14 H
   rw [if_pos c14] at H
   have c14b0 : decide (x32_2 < (l0.length : Int)) = true := decide_eq_true c14
   clear c14
   have H' := am H
   clear H
   have p162 : 0 ≤ (x32_2 : Int) := of_decide_eq_true as_
   have q162 : x32_2 < (l0.length : Int) := of_decide_eq_true as_
   obtain ⟨ad162, e162, hx162_0⟩ := Kd.at_int HR0.out x32_2 p162 q162
   cases e162
   replace hx162_0 := (HB.out.cell (World.block_lt_of_cell? w _ hx162_0)).trans hx162_0
   replace p162 := eq_true p162
   replace q162 := eq_true q162
   go_wp2
   go_loopg [39] k2 (fun kq v39 w' => ∃ (x7_3 : List Int) (x39_3 : Int), v39 = .int .i64 x39_3 ∧ Aside0 (modp_Mul.l1 kq l1 a2 x7_3 x32_2 (rd l0 x32_2) l0 (l0.length : Int) x32_2 l1 (l1.length : Int) x39_3 = some r) ∧ Aside0 (kq ≤ k2) ∧ Aside0 (Kd.R (Kd.int .u64) 55 w' w.heap.size (fun k_ => (w.heap.size ≤ k_)) v160 x7_3) ∧ Aside0 (Below w.heap.size w w'))
   case atStart => exact ⟨(x7_2), (0), eqS, H', ⟨Nat.le_refl _⟩, ⟨rR (HO_7.out)⟩, ⟨bB⟩⟩
   clear H'
   clear c12b0 c13b0 c14b0 hx162_0 p162 q162
   obtain ⟨x7_3, x39_3, rfl, HA, HK3, HO_7, HB⟩ := hrel
   rcases gk with _ | k3
   · exact absurd HA.out (by simp [modp_Mul.l1])
   have H := HA.out
   clear HA
   simp only [modp_Mul.l1] at H
   by_cases c15 : x39_3 < (l1.length : Int)
   case neg =>
     rw [if_neg c15] at H
     have c15b0 : decide (x39_3 < (l1.length : Int)) = false := decide_eq_false c15
     clear c15
     have H' := am H
     clear H
     go_wp2
     first | go_roundg k3 | (subst hji7; go_roundg k3)
     case measure => have := HJ3.out; have := HK2.out; have := HK3.out; omega
     case rel => exact ⟨(x7_3), (wrap64 (x32_2 + 1)), eqS, (by first | exact H' | (subst_vars; exact H')), ⟨by have := HJ3.out; have := HK2.out; have := HK3.out; omega⟩, ⟨rR (HO_7.out)⟩, ⟨bB⟩⟩
   rw [if_pos c15] at H
   have c15b0 : decide (x39_3 < (l1.length : Int)) = true := decide_eq_true c15
   clear c15
   by_cases c16 : 0 ≤ x39_3
   case neg => exact nn c16 H
   rw [if_pos c16] at H
   have c16b0 : decide (0 ≤ x39_3) = true := decide_eq_true c16
   clear c16
   by_cases c17 : x39_3 < (l1.length : Int)
   case neg => exact nn c17 H
   rw [if_pos c17] at H
   have c17b0 : decide (x39_3 < (l1.length : Int)) = true := decide_eq_true c17
   clear c17
   obtain ⟨ji18, hji18⟩ : ∃ j_ : Int, (wrap64 (x32_2 + x39_3)) = j_ := ⟨_, rfl⟩
   replace H : (if 0 ≤ (ji18) then (if (ji18) < (x7_3.length : Int) then (if (IntKind.u64.wrap (a2)) = 0 then (none) else (modp_Mul.l1 k3 l1 a2 (x7_3.set ((ji18) : Int).toNat (IntKind.u64.wrap ((rd x7_3 (ji18)) + (Int.tmod (IntKind.u64.wrap ((IntKind.u64.wrap ((rd l0 x32_2))) * (IntKind.u64.wrap (rd l1 x39_3)))) (IntKind.u64.wrap (a2)))))) x32_2 (rd l0 x32_2) l0 (l0.length : Int) x32_2 l1 (l1.length : Int) (wrap64 (x39_3 + 1)))) else (none)) else (none)) = some r := by first | (rw [hji18] at H; exact H) | (simp only [hji18] at H ⊢; exact H)
   have hji18w : (IntKind.i64.wrap (x32_2 + x39_3)) = ji18 := (i64_w _).trans hji18
   by_cases c19 : 0 ≤ (ji18)
   case neg => exact nn c19 H
   rw [if_pos c19] at H
   have c19b0 : decide (0 ≤ (ji18)) = true := decide_eq_true c19
   clear c19
   by_cases c20 : (ji18) < (x7_3.length : Int)
   case neg => exact nn c20 H
   rw [if_pos c20] at H
   have c20b0 : decide ((ji18) < (x7_3.length : Int)) = true := decide_eq_true c20
   clear c20
   by_cases c21 : (IntKind.u64.wrap (a2)) = 0
   · rw [if_pos c21] at H
     exact absurd H (by simp)
   rw [if_neg c21] at H
   have c21b0 : ((IntKind.u64.wrap (a2)) == 0) = false := beq_eq_false_iff_ne.mpr c21
   have c21b1 : ((IntKind.u64.wrap (a2)) != 0) = true := bne_iff_ne.mpr c21
   obtain ⟨y165, hy165⟩ : ∃ y_ : List Int, y_ = (x7_3.set ((ji18) : Int).toNat (IntKind.u64.wrap ((rd x7_3 (ji18)) + (Int.tmod (IntKind.u64.wrap ((IntKind.u64.wrap ((rd l0 x32_2))) * (IntKind.u64.wrap (rd l1 x39_3)))) (IntKind.u64.wrap (a2)))))) := ⟨_, rfl⟩
   replace H : (modp_Mul.l1 k3 l1 a2 y165 x32_2 (rd l0 x32_2) l0 (l0.length : Int) x32_2 l1 (l1.length : Int) (wrap64 (x39_3 + 1))) = some r := by first | (rw [hy165]; exact H) | exact H
   have Ny165 := am hy165
   clear hy165
   have H' := am H
   clear H
   have p163 : 0 ≤ (x39_3 : Int) := of_decide_eq_true as_
   have q163 : x39_3 < (l1.length : Int) := of_decide_eq_true as_
   obtain ⟨ad163, e163, hx163_0⟩ := Kd.at_int HR1.out x39_3 p163 q163
   cases e163
   replace hx163_0 := (HB.out.cell (World.block_lt_of_cell? w _ hx163_0)).trans hx163_0
   replace p163 := eq_true p163
   replace q163 := eq_true q163
   try go_wp2
   have n0_ := am (Kd.R_drew HO_7.out)
   have n1_ := am (below_drew1 HB.out)
   clear HO_7
   clear HB
   have HO_7 := n0_
   have HB := n1_
   clear n0_ n1_
   obtain ⟨Ao24, co24, eo24⟩ := Kd.R_slice HO_7.out
   (first | subst eo24 | (injection eo24 with f1_ f2_ f3_; have f4_ := f1_.symm; have f5_ := f3_.symm; clear f1_ f2_ f3_; subst f4_; subst f5_))
   have p164 : 0 ≤ ((ji18) : Int) := of_decide_eq_true as_
   have q164 : (ji18) < (x7_3.length : Int) := of_decide_eq_true as_
   obtain ⟨ad164, e164, hx164_0⟩ := Kd.at_int (Kd.R_reads' HO_7.out).2.2 (ji18) p164 q164
   cases e164
   replace p164 := eq_true p164
   replace q164 := eq_true q164
   have p22 : 0 ≤ ((ji18) : Int) := of_decide_eq_true as_
   have q22 : ((ji18) : Int) < ((x7_3.length : Int) : Int) := of_decide_eq_true as_
   obtain ⟨go22, co22, eo22, gb22, gl22, cl22, HG22⟩ := Kd.R_form HO_7.out (by omega)
   (first | cases eo22 | (injection eo22 with ea_ en_ ec_; (first | subst ea_ | (injection ea_ with ea_; subst ea_)); subst ec_; clear en_))
   have GB22 := am gb22
   have GG22 := am HG22
   clear gb22 gl22 HG22
   (first | simp only [add_plain] at hx164_0 | skip)
   obtain ⟨hx22_0, hf22_0⟩ := Kd.R_celln 0 HO_7.out ((ji18) : Int) p22 q22
   replace p22 := eq_true p22
   replace q22 := eq_true q22
   have HP25 := Kd.R_putn HO_7.out ((ji18) : Int) (IntKind.u64.wrap ((rd x7_3 (ji18)) + (Int.tmod (IntKind.u64.wrap ((IntKind.u64.wrap ((rd l0 x32_2))) * (IntKind.u64.wrap (rd l1 x39_3)))) (IntKind.u64.wrap (a2)))))
   rw [← Ny165.out] at HP25
   have HQ25 := am HP25
   clear HP25
   refine start_ (n := 17) (S := fun w' => w'.cell? ⟨go22, ((ji18)).toNat, none⟩ = some (.int .u64 (rd x7_3 (ji18)))) (ds := [16]) (bm 17 0) (by kernel_rfl) rfl rfl (hx164_0) (fun hHeld => ?_); refine with_tabW modp_Mul.tab10 modp_Mul.bits10 (fun HT_ HW_ => ?_)
   generalize wr.drew = w23 at HO_7 HB GG22 HQ25 hf22_0 hx164_0 hx22_0 hHeld ⊢
   refine pureB (N := some 44) 0 (bm 17 1) ?_
   refine pureB (N := some 45) 1 (bm 17 3) ?_
   refine pureB (N := some 46) 2 (bm 17 7) ?_
   refine pureB (N := some 47) 3 (bm 17 15) ?_
   refine pureB (N := some 48) 4 (bm 17 31) ?_
   refine pureB (N := some 50) 6 (bm 17 95) ?_
   refine pureB (N := some 51) 7 (bm 17 223) ?_
   refine pureB (N := some 52) 8 (bm 17 479) ?_
   refine pureB (N := some 53) 9 (bm 17 991) ?_
   refine pureB (N := some 54) 10 (bm 17 2015) ?_
   refine pureB (N := some 55) 11 (bm 17 4063) ?_
   refine pureB (N := some 56) 12 (bm 17 8159) ?_
   refine pureB (N := some 57) 13 (bm 17 16351) ?_
   refine take_ (i := 5) (N := some 49) (v := ?_) (a' := ?_) (bm 17 16383) rfl rfl (take_ofW HT_.out HW_.out (by kernel_rfl)) (fun _ _ _ h => h) (Or.inl ⟨by rfl, ?_⟩) hHeld ?_ ?_
   rotate_left
   · intro w' s0
     go_simp
     with_reducible rfl
   rotate_left
   · exact actp
   refine pureB (N := some 58) 14 (bm 17 32767) ?_
   refine pureB (N := some 59) 15 (bm 17 65535) ?_
   refine last_ (i := 16) (N := none) (bm 17 131071) rfl rfl (one_of HT_.out (by kernel_rfl)) (by decide) (fun K hK => ?_)
   refine skip_ (w1 := ?_) (by rfl) rfl ?_ ?_
   rotate_left
   · go_simp
     rfl
   refine hK.out _ _ ?_
   clear hK K
   refine done_ (done_of HT_.out (by kernel_rfl)) ?_
   try go_wp2
   first | go_roundg k3 | (subst hji7; go_roundg k3) | (subst hji18; go_roundg k3)
   case measure => have := HJ3.out; have := HK2.out; have := HK3.out; omega
   case rel => exact ⟨(y165), (wrap64 (x39_3 + 1)), eqS, (by first | exact H' | (subst_vars; exact H')), ⟨by have := HJ3.out; have := HK2.out; have := HK3.out; omega⟩, ⟨rR (HQ25.out)⟩, ⟨by repeat (first | (with_reducible first | exact HB.out | apply below_alloc | apply pw_below_drewN | apply below_drew1 | refine below_set ?_ GB22.out) | exact HB.out)⟩⟩
def bits_Len32.f (a0 : Int) : Option (Int) := if a0 ≥ 65536 then (if (a0 / 65536) ≥ 256 then (if 0 ≤ (((a0 / 65536) / 256) % 256) then (if (((a0 / 65536) / 256) % 256) < 256 then (some (wrap64 ((16 + 8) + (wrap64 (bt lenT (((a0 / 65536) / 256) % 256)))))) else (none)) else (none)) else (if 0 ≤ ((a0 / 65536) % 256) then (if ((a0 / 65536) % 256) < 256 then (some (wrap64 (16 + (wrap64 (bt lenT ((a0 / 65536) % 256)))))) else (none)) else (none))) else (if a0 ≥ 256 then (if 0 ≤ ((a0 / 256) % 256) then (if ((a0 / 256) % 256) < 256 then (some (wrap64 ((0 + 8) + (wrap64 (bt lenT ((a0 / 256) % 256)))))) else (none)) else (none)) else (if 0 ≤ ((a0) % 256) then (if ((a0) % 256) < 256 then (some (wrap64 (0 + (wrap64 (bt lenT ((a0) % 256)))))) else (none)) else (none)))
theorem bits_Len32.calls (a0 : Int) (r : Int) (w : World) (h : bits_Len32.f a0 = some r) :
   Calls Tryz.prog 68 #[.int .u32 a0] w fun e w' => e = .returned (.int .i64 r) ∧ Drawn0 w w' := by
 have H := h; unfold bits_Len32.f at H
 clear h
 by_cases c2 : a0 ≥ 65536
 case neg =>
   rw [if_neg c2] at H
   have c2b0 : decide (65536 ≤ a0) = false := decide_eq_false c2
   clear c2
   by_cases c12 : a0 ≥ 256
   case neg =>
     rw [if_neg c12] at H
     have c12b0 : decide (256 ≤ a0) = false := decide_eq_false c12
     clear c12
     obtain ⟨ji17, hji17⟩ : ∃ j_ : Int, ((a0) % 256) = j_ := ⟨_, rfl⟩
     replace H : (if 0 ≤ (ji17) then (if (ji17) < 256 then (some (wrap64 (0 + (wrap64 (bt lenT (ji17)))))) else (none)) else (none)) = some r := by first | (rw [hji17] at H; exact H) | (simp only [hji17] at H ⊢; exact H)
     by_cases c18 : 0 ≤ (ji17)
     case neg => exact nn c18 H
     rw [if_pos c18] at H
     have c18b0 : decide (0 ≤ (ji17)) = true := decide_eq_true c18
     clear c18
     by_cases c19 : (ji17) < 256
     case neg => exact nn c19 H
     rw [if_pos c19] at H
     have c19b0 : decide ((ji17) < 256) = true := decide_eq_true c19
     clear c19
     obtain rfl := Option.some.inj H
     have p20 : 0 ≤ ((ji17) : Int) := of_decide_eq_true as_
     have q20 : (ji17) < (256 : Int) := of_decide_eq_true as_
     have hx20 := bt_at lenT (ji17)
     replace p20 := eq_true p20
     replace q20 := eq_true q20
     go_enter Tryz.func68, Tryz.ntmps68
     go_wp2
     go_ret
     exact ⟨by first | rfl | (simp; done) | (simp only [← hji17] <;> (first | rfl | simp)) | (simp [*]; done), by repeat (first | exact Drawn0.refl _ | apply Drawn0.step)⟩
   rw [if_pos c12] at H
   have c12b0 : decide (256 ≤ a0) = true := decide_eq_true c12
   clear c12
   obtain ⟨ji13, hji13⟩ : ∃ j_ : Int, ((a0 / 256) % 256) = j_ := ⟨_, rfl⟩
   replace H : (if 0 ≤ (ji13) then (if (ji13) < 256 then (some (wrap64 ((0 + 8) + (wrap64 (bt lenT (ji13)))))) else (none)) else (none)) = some r := by first | (rw [hji13] at H; exact H) | (simp only [hji13] at H ⊢; exact H)
   by_cases c14 : 0 ≤ (ji13)
   case neg => exact nn c14 H
   rw [if_pos c14] at H
   have c14b0 : decide (0 ≤ (ji13)) = true := decide_eq_true c14
   clear c14
   by_cases c15 : (ji13) < 256
   case neg => exact nn c15 H
   rw [if_pos c15] at H
   have c15b0 : decide ((ji13) < 256) = true := decide_eq_true c15
   clear c15
   obtain rfl := Option.some.inj H
   have p16 : 0 ≤ ((ji13) : Int) := of_decide_eq_true as_
   have q16 : (ji13) < (256 : Int) := of_decide_eq_true as_
   have hx16 := bt_at lenT (ji13)
   replace p16 := eq_true p16
   replace q16 := eq_true q16
   go_enter Tryz.func68, Tryz.ntmps68
   go_wp2
   go_ret
   exact ⟨by first | rfl | (simp; done) | (simp only [← hji13] <;> (first | rfl | simp)) | (simp [*]; done), by repeat (first | exact Drawn0.refl _ | apply Drawn0.step)⟩
 rw [if_pos c2] at H
 have c2b0 : decide (65536 ≤ a0) = true := decide_eq_true c2
 clear c2
 by_cases c3 : (a0 / 65536) ≥ 256
 case neg =>
   rw [if_neg c3] at H
   have c3b0 : decide (256 ≤ (a0 / 65536)) = false := decide_eq_false c3
   clear c3
   obtain ⟨ji8, hji8⟩ : ∃ j_ : Int, ((a0 / 65536) % 256) = j_ := ⟨_, rfl⟩
   replace H : (if 0 ≤ (ji8) then (if (ji8) < 256 then (some (wrap64 (16 + (wrap64 (bt lenT (ji8)))))) else (none)) else (none)) = some r := by first | (rw [hji8] at H; exact H) | (simp only [hji8] at H ⊢; exact H)
   by_cases c9 : 0 ≤ (ji8)
   case neg => exact nn c9 H
   rw [if_pos c9] at H
   have c9b0 : decide (0 ≤ (ji8)) = true := decide_eq_true c9
   clear c9
   by_cases c10 : (ji8) < 256
   case neg => exact nn c10 H
   rw [if_pos c10] at H
   have c10b0 : decide ((ji8) < 256) = true := decide_eq_true c10
   clear c10
   obtain rfl := Option.some.inj H
   have p11 : 0 ≤ ((ji8) : Int) := of_decide_eq_true as_
   have q11 : (ji8) < (256 : Int) := of_decide_eq_true as_
   have hx11 := bt_at lenT (ji8)
   replace p11 := eq_true p11
   replace q11 := eq_true q11
   go_enter Tryz.func68, Tryz.ntmps68
   go_wp2
   go_ret
   exact ⟨by first | rfl | (simp; done) | (simp only [← hji8] <;> (first | rfl | simp)) | (simp [*]; done), by repeat (first | exact Drawn0.refl _ | apply Drawn0.step)⟩
 rw [if_pos c3] at H
 have c3b0 : decide (256 ≤ (a0 / 65536)) = true := decide_eq_true c3
 clear c3
 obtain ⟨ji4, hji4⟩ : ∃ j_ : Int, (((a0 / 65536) / 256) % 256) = j_ := ⟨_, rfl⟩
 replace H : (if 0 ≤ (ji4) then (if (ji4) < 256 then (some (wrap64 ((16 + 8) + (wrap64 (bt lenT (ji4)))))) else (none)) else (none)) = some r := by first | (rw [hji4] at H; exact H) | (simp only [hji4] at H ⊢; exact H)
 by_cases c5 : 0 ≤ (ji4)
 case neg => exact nn c5 H
 rw [if_pos c5] at H
 have c5b0 : decide (0 ≤ (ji4)) = true := decide_eq_true c5
 clear c5
 by_cases c6 : (ji4) < 256
 case neg => exact nn c6 H
 rw [if_pos c6] at H
 have c6b0 : decide ((ji4) < 256) = true := decide_eq_true c6
 clear c6
 obtain rfl := Option.some.inj H
 have p7 : 0 ≤ ((ji4) : Int) := of_decide_eq_true as_
 have q7 : (ji4) < (256 : Int) := of_decide_eq_true as_
 have hx7 := bt_at lenT (ji4)
 replace p7 := eq_true p7
 replace q7 := eq_true q7
 go_enter Tryz.func68, Tryz.ntmps68
 go_wp2
 go_ret
 exact ⟨by first | rfl | (simp; done) | (simp only [← hji4] <;> (first | rfl | simp)) | (simp [*]; done), by repeat (first | exact Drawn0.refl _ | apply Drawn0.step)⟩
def zigguratref01_Make.l0 : Nat → List Int → Int → Option (List Int)
 | 0, _, _ => none
 | k + 1, x0, x3 => if x3 > 0 then (if 0 ≤ (wrap64 (x3 - 1)) then (if (wrap64 (x3 - 1)) < (x0.length : Int) then (if (rd x0 (wrap64 (x3 - 1))) = 0 then (zigguratref01_Make.l0 k x0 (wrap64 (x3 - 1))) else ((some (([] : List Int) : List Int)).bind fun y333 => (if 0 ≤ x3 then (if x3 ≤ (x0.length : Int) then (if y333.length + (x0.take (x3 : Int).toNat).length < 35184372088832 then (some (y333 ++ (x0.take (x3 : Int).toNat))) else (none)) else (none)) else (none)))) else (none)) else (none)) else ((some (([] : List Int) : List Int)).bind fun y340 => (if 0 ≤ x3 then (if x3 ≤ (x0.length : Int) then (if y340.length + (x0.take (x3 : Int).toNat).length < 35184372088832 then (some (y340 ++ (x0.take (x3 : Int).toNat))) else (none)) else (none)) else (none)))
def zigguratref01_Make.f (k : Nat) (l0 : List Int) : Option (List Int) := zigguratref01_Make.l0 k l0 (l0.length : Int)
theorem zigguratref01_Make.calls (k : Nat) (A0 : Option Addr) (c0 : Nat) (l0 : List Int) (r : List Int) (w : World) (hr0 : Kd.C (Kd.int .u32) w A0 l0.length l0) (hc0 : l0.length ≤ c0) (h : zigguratref01_Make.f k l0 = some r) :
   Calls Tryz.prog 70 #[.slice A0 l0.length c0] w fun e w' => ∃ v0_ : Value, e = .returned (v0_) ∧ Kd.R (Kd.int .u32) 23 w' w.heap.size (fun _ => True) v0_ r ∧ Below w.heap.size w w' := by
 have HR0 := am hr0
 have HC0 := am hc0
 clear hr0 hc0
 have HB := am (Below.refl w.heap.size w)
 have H := h; unfold zigguratref01_Make.f at H
 clear h
 have H' := am H
 clear H
 go_enter Tryz.func70, Tryz.ntmps70
 go_wp2
 go_loopg [3] k (fun kq v3 w' => ∃ (x3_1 : Int), v3 = .int .i64 x3_1 ∧ Aside0 (zigguratref01_Make.l0 kq l0 x3_1 = some r) ∧ Aside0 (kq ≤ k) ∧ Aside0 (Below w.heap.size w w'))
 case atStart => exact ⟨((l0.length : Int)), eqS, H', ⟨Nat.le_refl _⟩, ⟨bB⟩⟩
 clear H'
 obtain ⟨x3_1, rfl, HA, HK1, HB⟩ := hrel
 rcases gk with _ | k1
 · exact absurd HA.out (by simp [zigguratref01_Make.l0])
 have H := HA.out
 clear HA
 simp only [zigguratref01_Make.l0] at H
 by_cases c2 : x3_1 > 0
 case neg =>
   rw [if_neg c2] at H
   have c2b0 : decide (0 < x3_1) = false := decide_eq_false c2
   clear c2
   obtain ⟨y340, hy340⟩ : ∃ y_ : List Int, y_ = (([] : List Int)) := ⟨_, rfl⟩
   replace H : (if 0 ≤ x3_1 then (if x3_1 ≤ (l0.length : Int) then (if y340.length + (l0.take (x3_1 : Int).toNat).length < 35184372088832 then (some (y340 ++ (l0.take (x3_1 : Int).toNat))) else (none)) else (none)) else (none)) = some r := by first | (rw [hy340]; exact H) | exact H
   have Ny340 := am hy340
   clear hy340
   by_cases c14 : 0 ≤ x3_1
   case neg => exact nn c14 H
   rw [if_pos c14] at H
   have c14b0 := eq_true c14
   have c14b1 : decide (0 ≤ x3_1) = true := decide_eq_true c14
   clear c14
   by_cases c15 : x3_1 ≤ (l0.length : Int)
   case neg => exact nn c15 H
   rw [if_pos c15] at H
   have c15b0 := eq_true c15
   have c15b1 : decide (x3_1 ≤ (l0.length : Int)) = true := decide_eq_true c15
   clear c15
   by_cases c16 : y340.length + (l0.take (x3_1 : Int).toNat).length < 35184372088832
   case neg => exact nn c16 H
   rw [if_pos c16] at H
   have LMc16 := am c16
   clear c16
   obtain ⟨y344, hy344⟩ : ∃ y_ : List Int, y_ = (y340 ++ (l0.take (x3_1 : Int).toNat)) := ⟨_, rfl⟩
   replace H : (some y344) = some r := by first | (rw [hy344]; exact H) | exact H
   have Ny344 := am hy344
   clear hy344
   obtain rfl := Option.some.inj H
   go_wp2_with (first | ((with_reducible refine gate_dst (N := 18) rfl ?_); refine Kd.R_lit (Kd.int .u32) _ 23 rF (N := 18) rF (xs := ([] : List Int)) (inner := []) (ok := fun _ => True) (okp := fun _ => True) gF ?hp (fun _ hk => hk) trivial (Below.refl _ _) (Nat.le_refl _) (by simp) ?_; (case hp => exact (Reps.none _ _)); intro v341 w17 ho18 hb hg_ hnew_; clear hg_ hnew_; (first | rw [← Ny340.out] at ho18 | (simp only [Int.reduceToNat] at ho18; rw [← Ny340.out] at ho18)); have n0_ := am (Kd.R_lower ho18 (below_size bB)); have n1_ := am (below_step bB hb); clear HB; have HO342 := n0_; have HB := n1_; clear n0_ n1_; clear hb ho18; obtain ⟨i019, hi019, _, hsz19, _⟩ := info_parts info23; obtain ⟨hcut19, hA19, hC19⟩ := print_take_of (P := Tryz.prog) (Value.int .u32) 0 27 23 .i64 Tryz.underlying27 hi019 hsz19 A0 c0 l0 x3_1 (of_decide_eq_true as_) (of_decide_eq_true as_) HC0.out; have HR343 := am (Kd.C_of_reads (h1 := fun _ => rfl) (hA19 _ (Kd.reads_of_C HR0.out))); have HC343 := am hC19; clear hA19 hC19 hi019 hsz19) | ((with_reducible refine gate_builtin (b := .append) (xs := #[.tmp 18, .tmp 21]) rfl ?_); at_builtin; refine Kd.R_append_rows (Kd.int .u32) (w0 := w) w.heap.size rfl (.tmp 18) (.tmp 21) 27 23 (.int .u32 0) 4 rfl Tryz.underlying27 info23 rfl (by decide) (by omega) v341 y340 (l0.take (x3_1 : Int).toNat) _ _ _ (fun _ => True) (fun _ => False) rfl rfl ?aO ?aR (fun _ _ h => h) (fun _ h => h.elim) ?aF ?aB ?aS ?aL ?_; (case aR => first | (refine C_len_ (show (l0.take (x3_1 : Int).toNat).length = x3_1.toNat from (by rw [List.length_take]; have h_ : (x3_1 : Int) ≤ (l0.length : Int) := of_decide_eq_true as_; omega)) ?_; exact kC2 ((Kd.C_below HR343.out HB.out))) | (exact kC2 ((Kd.C_below HR343.out HB.out)))); (case aB => exact bB); (case aF => exact (fun _ _ => trivial)); (case aO => exact (rR HO342.out)); (case aS => exact (below_size bB)); (case aL => have := LMc16.out; have hlx_ := (show (l0.take (x3_1 : Int).toNat).length = x3_1.toNat from (by rw [List.length_take]; have h_ : (x3_1 : Int) ≤ (l0.length : Int) := of_decide_eq_true as_; omega)); omega); intro v345 w20 ho hb hg hat; rw [← Ny344.out] at ho; have n0_ := am (hb); have n1_ := am (ho); clear HB; clear HO342; have HB := n0_; have HO346 := n1_; clear n0_ n1_; clear ho hb hg hat))
   go_ret
   exact ⟨_, eqR, rR (HO346.out), bB⟩
 rw [if_pos c2] at H
 have c2b0 : decide (0 < x3_1) = true := decide_eq_true c2
 clear c2
 obtain ⟨ji3, hji3⟩ : ∃ j_ : Int, (wrap64 (x3_1 - 1)) = j_ := ⟨_, rfl⟩
 replace H : (if 0 ≤ (ji3) then (if (ji3) < (l0.length : Int) then (if (rd l0 (ji3)) = 0 then (zigguratref01_Make.l0 k1 l0 ji3) else ((some (([] : List Int) : List Int)).bind fun y333 => (if 0 ≤ x3_1 then (if x3_1 ≤ (l0.length : Int) then (if y333.length + (l0.take (x3_1 : Int).toNat).length < 35184372088832 then (some (y333 ++ (l0.take (x3_1 : Int).toNat))) else (none)) else (none)) else (none)))) else (none)) else (none)) = some r := by first | (rw [hji3] at H; exact H) | (simp only [hji3] at H ⊢; exact H)
 have hji3w : (IntKind.i64.wrap (x3_1 - 1)) = ji3 := (i64_w _).trans hji3
 by_cases c4 : 0 ≤ (ji3)
 case neg => exact nn c4 H
 rw [if_pos c4] at H
 have c4b0 : decide (0 ≤ (ji3)) = true := decide_eq_true c4
 clear c4
 by_cases c5 : (ji3) < (l0.length : Int)
 case neg => exact nn c5 H
 rw [if_pos c5] at H
 have c5b0 : decide ((ji3) < (l0.length : Int)) = true := decide_eq_true c5
 clear c5
 by_cases c6 : (rd l0 (ji3)) = 0
 · rw [if_pos c6] at H
   have c6b0 : ((rd l0 (ji3)) == 0) = true := beq_iff_eq.mpr c6
   have c6b1 : ((rd l0 (ji3)) != 0) = false := bne_eq_false_iff_eq.mpr c6
   clear c6
   have H' := am H
   clear H
   have p332 : 0 ≤ ((ji3) : Int) := of_decide_eq_true as_
   have q332 : (ji3) < (l0.length : Int) := of_decide_eq_true as_
   obtain ⟨ad332, e332, hx332_0⟩ := Kd.at_int HR0.out (ji3) p332 q332
   cases e332
   replace hx332_0 := (HB.out.cell (World.block_lt_of_cell? w _ hx332_0)).trans hx332_0
   replace p332 := eq_true p332
   replace q332 := eq_true q332
   go_wp2
   first | go_roundg k1 | (subst hji3; go_roundg k1)
   case measure => have := HK1.out; omega
   case rel => exact ⟨(ji3), (by first | rfl | (simp; done) | (simp only [← hji3] <;> (first | rfl | simp)) | (simp [*]; done)), (by first | exact H' | (subst_vars; exact H')), ⟨by have := HK1.out; omega⟩, ⟨bB⟩⟩
 rw [if_neg c6] at H
 have c6b0 : ((rd l0 (ji3)) == 0) = false := beq_eq_false_iff_ne.mpr c6
 have c6b1 : ((rd l0 (ji3)) != 0) = true := bne_iff_ne.mpr c6
 obtain ⟨y333, hy333⟩ : ∃ y_ : List Int, y_ = (([] : List Int)) := ⟨_, rfl⟩
 replace H : (if 0 ≤ x3_1 then (if x3_1 ≤ (l0.length : Int) then (if y333.length + (l0.take (x3_1 : Int).toNat).length < 35184372088832 then (some (y333 ++ (l0.take (x3_1 : Int).toNat))) else (none)) else (none)) else (none)) = some r := by first | (rw [hy333]; exact H) | exact H
 have Ny333 := am hy333
 clear hy333
 by_cases c7 : 0 ≤ x3_1
 case neg => exact nn c7 H
 rw [if_pos c7] at H
 have c7b0 := eq_true c7
 have c7b1 : decide (0 ≤ x3_1) = true := decide_eq_true c7
 clear c7
 by_cases c8 : x3_1 ≤ (l0.length : Int)
 case neg => exact nn c8 H
 rw [if_pos c8] at H
 have c8b0 := eq_true c8
 have c8b1 : decide (x3_1 ≤ (l0.length : Int)) = true := decide_eq_true c8
 clear c8
 by_cases c9 : y333.length + (l0.take (x3_1 : Int).toNat).length < 35184372088832
 case neg => exact nn c9 H
 rw [if_pos c9] at H
 have LMc9 := am c9
 clear c9
 obtain ⟨y337, hy337⟩ : ∃ y_ : List Int, y_ = (y333 ++ (l0.take (x3_1 : Int).toNat)) := ⟨_, rfl⟩
 replace H : (some y337) = some r := by first | (rw [hy337]; exact H) | exact H
 have Ny337 := am hy337
 clear hy337
 obtain rfl := Option.some.inj H
 have p332 : 0 ≤ ((ji3) : Int) := of_decide_eq_true as_
 have q332 : (ji3) < (l0.length : Int) := of_decide_eq_true as_
 obtain ⟨ad332, e332, hx332_0⟩ := Kd.at_int HR0.out (ji3) p332 q332
 cases e332
 replace hx332_0 := (HB.out.cell (World.block_lt_of_cell? w _ hx332_0)).trans hx332_0
 replace p332 := eq_true p332
 replace q332 := eq_true q332
 go_wp2_with (first | ((with_reducible refine gate_dst (N := 18) rfl ?_); refine Kd.R_lit (Kd.int .u32) _ 23 rF (N := 18) rF (xs := ([] : List Int)) (inner := []) (ok := fun _ => True) (okp := fun _ => True) gF ?hp (fun _ hk => hk) trivial (Below.refl _ _) (Nat.le_refl _) (by simp) ?_; (case hp => exact (Reps.none _ _)); intro v334 w10 ho11 hb hg_ hnew_; clear hg_ hnew_; (first | rw [← Ny333.out] at ho11 | (simp only [Int.reduceToNat] at ho11; rw [← Ny333.out] at ho11)); have n0_ := am (Kd.R_lower ho11 (below_size bB)); have n1_ := am (below_step bB hb); clear HB; have HO335 := n0_; have HB := n1_; clear n0_ n1_; clear hb ho11; obtain ⟨i012, hi012, _, hsz12, _⟩ := info_parts info23; obtain ⟨hcut12, hA12, hC12⟩ := print_take_of (P := Tryz.prog) (Value.int .u32) 0 27 23 .i64 Tryz.underlying27 hi012 hsz12 (some ad332) c0 l0 x3_1 (of_decide_eq_true as_) (of_decide_eq_true as_) HC0.out; have HR336 := am (Kd.C_of_reads (h1 := fun _ => rfl) (hA12 _ (Kd.reads_of_C HR0.out))); have HC336 := am hC12; clear hA12 hC12 hi012 hsz12) | ((with_reducible refine gate_builtin (b := .append) (xs := #[.tmp 18, .tmp 21]) rfl ?_); at_builtin; refine Kd.R_append_rows (Kd.int .u32) (w0 := w) w.heap.size rfl (.tmp 18) (.tmp 21) 27 23 (.int .u32 0) 4 rfl Tryz.underlying27 info23 rfl (by decide) (by omega) v334 y333 (l0.take (x3_1 : Int).toNat) _ _ _ (fun _ => True) (fun _ => False) rfl rfl ?aO ?aR (fun _ _ h => h) (fun _ h => h.elim) ?aF ?aB ?aS ?aL ?_; (case aR => first | (refine C_len_ (show (l0.take (x3_1 : Int).toNat).length = x3_1.toNat from (by rw [List.length_take]; have h_ : (x3_1 : Int) ≤ (l0.length : Int) := of_decide_eq_true as_; omega)) ?_; exact kC2 ((Kd.C_below HR336.out HB.out))) | (exact kC2 ((Kd.C_below HR336.out HB.out)))); (case aB => exact bB); (case aF => exact (fun _ _ => trivial)); (case aO => exact (rR HO335.out)); (case aS => exact (below_size bB)); (case aL => have := LMc9.out; have hlx_ := (show (l0.take (x3_1 : Int).toNat).length = x3_1.toNat from (by rw [List.length_take]; have h_ : (x3_1 : Int) ≤ (l0.length : Int) := of_decide_eq_true as_; omega)); omega); intro v338 w13 ho hb hg hat; rw [← Ny337.out] at ho; have n0_ := am (hb); have n1_ := am (ho); clear HB; clear HO335; have HB := n0_; have HO339 := n1_; clear n0_ n1_; clear ho hb hg hat))
 go_ret
 exact ⟨_, by first | rfl | (simp [errW_none, errW_some] <;> rfl) | (simp only [← hji3]; first | rfl | (simp [errW_none, errW_some] <;> rfl)) | (simp [*, errW_none, errW_some] <;> rfl), rR (HO339.out), bB⟩
def zigguratref06_Make.f (k : Nat) (a0 : Bool) (l1 : List Int) : Option (Bool × List Int) := (zigguratref01_Make.f k l1).bind fun t348 => (if a0 = true then (some (decide ((t348.length : Int) > 0), t348)) else (some (false, t348)))
theorem zigguratref06_Make.calls (k : Nat) (a0 : Bool) (A1 : Option Addr) (c1 : Nat) (l1 : List Int) (r1 : Bool) (r2 : List Int) (w : World) (hr1 : Kd.C (Kd.int .u32) w A1 l1.length l1) (hc1 : l1.length ≤ c1) (h : zigguratref06_Make.f k a0 l1 = some (r1, r2)) :
   Calls Tryz.prog 48 #[.bool a0, .slice A1 l1.length c1] w fun e w' => ∃ v1_ : Value, e = .returned (.agg #[.bool r1, v1_]) ∧ Kd.R (Kd.int .u32) 23 w' w.heap.size (fun _ => True) v1_ r2 ∧ Below w.heap.size w w' := by
 have hu56 := Tryz.underlying49
 have HR1 := am hr1
 have HC1 := am hc1
 clear hr1 hc1
 have HB := am (Below.refl w.heap.size w)
 have H := h; unfold zigguratref06_Make.f at H
 clear h
 obtain ⟨t348, A30, H⟩ := Option.bind_eq_some_iff.mp H
 try dsimp only at H
 have A3 := am A30
 clear A30
 by_cases c4 : a0 = true
 · subst c4
   have H1 : (some (decide ((t348.length : Int) > 0), t348)) = some (r1, r2) := by rw [if_pos rfl] at H; exact H
   clear H
   have H := H1
   clear H1
   simp only [Option.some.injEq, Prod.mk.injEq] at H
   obtain ⟨rfl, rfl⟩ := H
   go_enter Tryz.func48, Tryz.ntmps48
   go_wp2_with (first | ((with_reducible refine gate_dst (N := 4) rfl ?_); (try (refine gate_guard (by rfl) ?_; dsimp only)); refine boxE (N := 4) (cs := #[.bool false, .slice none 0 0]) (t := 49) ?_; intro gb347 hg w5 hbox hb; have n0_ := am (below_step bB hb); have n1_ := am (hbox); have n2_ := am ((by rw [hg]; exact (below_size bB) : w.heap.size ≤ gb347)); have n3_ := am ((by rw [hg]; exact (below_size bB) : w.heap.size ≤ gb347)); clear HB; have HB := n0_; have BK347 := n1_; have GW347 := n2_; have GE347 := n3_; clear n0_ n1_ n2_ n3_; clear hb hbox hg) | ((with_reducible refine gate_callee (f := 70) rfl ?_); refine goesA (some 7) Tryz.func70 #[.slice A1 l1.length c1] ?_; (with_reducible refine (zigguratref01_Make.calls k _ _ l1 t348 _ ?side1 ?side2 A3.out).mono ?_); (case side1 => exact kC2 ((Kd.C_below HR1.out HB.out))); (case side2 => exact HC1.out); rintro e w6 ⟨v349, rfl, ho0, hb⟩; refine ⟨_, rfl, ?_⟩; have n0_ := am (Kd.R_lower ho0 (below_size bB)); have n1_ := am (blk_below (g := gb347) (o := .cells #[.bool false, .slice none 0 0] 49 (0, 0)) (bk BK347.out) hb); have n2_ := am (below_step bB hb); clear BK347; clear HB; have HO350 := n0_; have BK347 := n1_; have HB := n2_; clear n0_ n1_ n2_; (try clear hb); (try clear hb2); (try clear hk); (try clear hi); (try clear ho0); obtain ⟨Ao7, co7, eo7⟩ := Kd.R_slice HO350.out; subst eo7; have hcz8_0 : w6.cell? ⟨gb347, 0, none⟩ = some (.bool false) := (blk_cell BK347.out 0).trans rfl; have hcz8_1 : w6.cell? ⟨gb347, 1, none⟩ = some (.slice none 0 0) := (blk_cell BK347.out 1).trans rfl; have hfz8_0 := blk_frozen BK347.out 0; have hfz8_1 := blk_frozen BK347.out 1))
   refine bodyPost_ret (results_cell_row rfl _ _ gb347 49 #[.bool (decide (0 < t348.length)), .slice Ao7 t348.length co7] (0, 0) _ rfl (by (with_reducible repeat (first | refine blk_drewN ?_ _ | refine blk_drew ?_ | refine blk_alloc ?_ _)); refine blk_put (cs := #[.bool (decide (0 < t348.length)), .slice none 0 0]) ?_ 1 _ rfl; (with_reducible repeat (first | refine blk_drewN ?_ _ | refine blk_drew ?_ | refine blk_alloc ?_ _)); refine blk_put (cs := #[.bool false, .slice none 0 0]) ?_ 0 _ rfl; (with_reducible repeat (first | refine blk_drewN ?_ _ | refine blk_drew ?_ | refine blk_alloc ?_ _)); exact BK347.out) Tryz.underlying49 rfl (by kernel_rfl)) rfl ?_
   exact ⟨_, eqR, by (with_reducible repeat (first | apply Kd.R_alloc | apply Kd.R_drewN | apply Kd.R_drew)); exact Kd.R_mono (Kd.R_far (p := ⟨gb347, 1, none⟩) (Kd.R_far (p := ⟨gb347, 0, none⟩) (Kd.R_types HO350.out BK347.out (by decide)) (fun _ hk => hk.2) (.bool (decide (0 < t348.length)))) (fun _ hk => hk.2) (.slice Ao7 t348.length co7)) (fun _ hk => trivial), bB⟩
 replace c4 := Bool.eq_false_iff.mpr c4
 subst c4
 have H1 : (some (false, t348)) = some (r1, r2) := by rw [if_neg (show ¬ (false = true) by decide)] at H; exact H
 clear H
 have H := H1
 clear H1
 simp only [Option.some.injEq, Prod.mk.injEq] at H
 obtain ⟨rfl, rfl⟩ := H
 go_enter Tryz.func48, Tryz.ntmps48
 go_wp2_with (first | ((with_reducible refine gate_dst (N := 4) rfl ?_); (try (refine gate_guard (by rfl) ?_; dsimp only)); refine boxE (N := 4) (cs := #[.bool false, .slice none 0 0]) (t := 49) ?_; intro gb347 hg w9 hbox hb; have n0_ := am (below_step bB hb); have n1_ := am (hbox); have n2_ := am ((by rw [hg]; exact (below_size bB) : w.heap.size ≤ gb347)); have n3_ := am ((by rw [hg]; exact (below_size bB) : w.heap.size ≤ gb347)); clear HB; have HB := n0_; have BK347 := n1_; have GW347 := n2_; have GE347 := n3_; clear n0_ n1_ n2_ n3_; clear hb hbox hg) | ((with_reducible refine gate_callee (f := 70) rfl ?_); refine goesA (some 7) Tryz.func70 #[.slice A1 l1.length c1] ?_; (with_reducible refine (zigguratref01_Make.calls k _ _ l1 t348 _ ?side1 ?side2 A3.out).mono ?_); (case side1 => exact kC2 ((Kd.C_below HR1.out HB.out))); (case side2 => exact HC1.out); rintro e w10 ⟨v349, rfl, ho0, hb⟩; refine ⟨_, rfl, ?_⟩; have n0_ := am (Kd.R_lower ho0 (below_size bB)); have n1_ := am (blk_below (g := gb347) (o := .cells #[.bool false, .slice none 0 0] 49 (0, 0)) (bk BK347.out) hb); have n2_ := am (below_step bB hb); clear BK347; clear HB; have HO350 := n0_; have BK347 := n1_; have HB := n2_; clear n0_ n1_ n2_; (try clear hb); (try clear hb2); (try clear hk); (try clear hi); (try clear ho0); obtain ⟨Ao11, co11, eo11⟩ := Kd.R_slice HO350.out; subst eo11; have hcz12_0 : w10.cell? ⟨gb347, 0, none⟩ = some (.bool false) := (blk_cell BK347.out 0).trans rfl; have hcz12_1 : w10.cell? ⟨gb347, 1, none⟩ = some (.slice none 0 0) := (blk_cell BK347.out 1).trans rfl; have hfz12_0 := blk_frozen BK347.out 0; have hfz12_1 := blk_frozen BK347.out 1))
 refine bodyPost_ret (results_cell_row rfl _ _ gb347 49 #[.bool false, .slice Ao11 t348.length co11] (0, 0) _ rfl (by (with_reducible repeat (first | refine blk_drewN ?_ _ | refine blk_drew ?_ | refine blk_alloc ?_ _)); refine blk_put (cs := #[.bool false, .slice none 0 0]) ?_ 1 _ rfl; (with_reducible repeat (first | refine blk_drewN ?_ _ | refine blk_drew ?_ | refine blk_alloc ?_ _)); refine blk_put (cs := #[.bool false, .slice none 0 0]) ?_ 0 _ rfl; (with_reducible repeat (first | refine blk_drewN ?_ _ | refine blk_drew ?_ | refine blk_alloc ?_ _)); exact BK347.out) Tryz.underlying49 rfl (by kernel_rfl)) rfl ?_
 exact ⟨_, eqR, by (with_reducible repeat (first | apply Kd.R_alloc | apply Kd.R_drewN | apply Kd.R_drew)); exact Kd.R_mono (Kd.R_far (p := ⟨gb347, 1, none⟩) (Kd.R_far (p := ⟨gb347, 0, none⟩) (Kd.R_types HO350.out BK347.out (by decide)) (fun _ hk => hk.2) (.bool false)) (fun _ hk => hk.2) (.slice Ao11 t348.length co11)) (fun _ hk => trivial), bB⟩
def zigguratref01_Of.f (k : Nat) (a0 : Int) : Option (List Int) := (zigguratref01_Make.f k (([(Int.tmod a0 4294967296) % 4294967296, (IntKind.u64.wrap (Int.tdiv a0 4294967296)) % 4294967296] : List Int))).bind fun t354 => (some t354)
theorem zigguratref01_Of.calls (k : Nat) (a0 : Int) (r : List Int) (w : World) (h : zigguratref01_Of.f k a0 = some r) :
   Calls Tryz.prog 49 #[.int .u64 a0] w fun e w' => ∃ v0_ : Value, e = .returned (v0_) ∧ Kd.R (Kd.int .u32) 23 w' w.heap.size (fun _ => True) v0_ r ∧ Below w.heap.size w w' := by
 have HB := am (Below.refl w.heap.size w)
 have H := h; unfold zigguratref01_Of.f at H
 clear h
 obtain ⟨y351, hy351⟩ : ∃ y_ : List Int, y_ = (([(Int.tmod a0 4294967296) % 4294967296, (IntKind.u64.wrap (Int.tdiv a0 4294967296)) % 4294967296] : List Int)) := ⟨_, rfl⟩
 replace H : ((zigguratref01_Make.f k y351).bind fun t354 => (some t354)) = some r := by first | (rw [hy351]; exact H) | exact H
 have Ny351 := am hy351
 clear hy351
 obtain ⟨t354, A20, H⟩ := Option.bind_eq_some_iff.mp H
 replace H : (some t354) = some r := H
 have A2 := am A20
 clear A20
 obtain rfl := Option.some.inj H
 go_enter Tryz.func49, Tryz.ntmps49
 go_wp2_with (first | ((with_reducible refine gate_dst (N := 9) rfl ?_); refine Kd.R_lit (Kd.int .u32) _ 23 rF (N := 9) rF (xs := ([(Int.tmod a0 4294967296) % 4294967296, (IntKind.u64.wrap (Int.tdiv a0 4294967296)) % 4294967296] : List Int)) (inner := [.int .u32 ((Int.tmod a0 4294967296) % 4294967296), .int .u32 ((IntKind.u64.wrap (Int.tdiv a0 4294967296)) % 4294967296)]) (ok := fun _ => True) (okp := fun _ => True) gF ?hp (fun _ hk => hk) trivial (Below.refl _ _) (Nat.le_refl _) (by simp) ?_; (case hp => exact (Reps.one (show Kd.M (Kd.int .u32) _ _ _ ((Int.tmod a0 4294967296) % 4294967296) [.int .u32 ((Int.tmod a0 4294967296) % 4294967296)] from rfl) (Reps.one (show Kd.M (Kd.int .u32) _ _ _ ((IntKind.u64.wrap (Int.tdiv a0 4294967296)) % 4294967296) [.int .u32 ((IntKind.u64.wrap (Int.tdiv a0 4294967296)) % 4294967296)] from rfl) (Reps.none _ _)))); intro v352 w3 ho4 hb hg_ hnew_; clear hg_ hnew_; (first | rw [← Ny351.out] at ho4 | (simp only [Int.reduceToNat] at ho4; rw [← Ny351.out] at ho4)); have n0_ := am (Kd.R_lower ho4 (below_size bB)); have n1_ := am (below_step bB hb); clear HB; have HO353 := n0_; have HB := n1_; clear n0_ n1_; clear hb ho4; obtain ⟨Ao5, co5, eo5⟩ := Kd.R_slice HO353.out; subst eo5) | ((with_reducible refine gate_callee (f := 70) rfl ?_); refine goesA (some 10) Tryz.func70 #[.slice Ao5 y351.length co5] ?_; (with_reducible refine (zigguratref01_Make.calls k _ _ y351 t354 _ ?side1 ?side2 A2.out).mono ?_); (case side1 => exact kC2 ((Kd.R_reads' HO353.out).2.2)); (case side2 => exact (Kd.R_reads' HO353.out).2.1); rintro e w6 ⟨v355, rfl, ho0, hb⟩; refine ⟨_, rfl, ?_⟩; have n0_ := am (Kd.R_elder' (rR HO353.out) (Kd.R_base ho0) hb); have n1_ := am (Kd.R_lower (Kd.R_new' ho0 (Kd.R_lt (rR HO353.out))) (below_size bB)); have n2_ := am (below_step bB hb); clear HO353; clear HB; have HO353 := n0_; have HO356 := n1_; have HB := n2_; clear n0_ n1_ n2_; (try clear hb); (try clear hb2); (try clear hk); (try clear hi); (try clear ho0)))
 go_ret
 exact ⟨_, eqR, by (with_reducible repeat (first | apply Kd.R_alloc | apply Kd.R_drewN | apply Kd.R_drew)); exact Kd.R_mono HO356.out (fun _ hk => trivial), bB⟩
def zigguratref06_Of.f (k : Nat) (a0 : Int) : Option (Bool × List Int) := if a0 < 0 then ((zigguratref01_Of.f k (IntKind.u64.wrap (-(IntKind.u64.wrap (a0))))).bind fun t358 => ((zigguratref06_Make.f k true t358).bind fun bt361 => (some (bt361.1, bt361.2)))) else ((zigguratref01_Of.f k (IntKind.u64.wrap (a0))).bind fun t365 => ((zigguratref06_Make.f k false t365).bind fun bt368 => (some (bt368.1, bt368.2))))
theorem zigguratref06_Of.calls (k : Nat) (a0 : Int) (r1 : Bool) (r2 : List Int) (w : World) (h : zigguratref06_Of.f k a0 = some (r1, r2)) :
   Calls Tryz.prog 22 #[.int .i64 a0] w fun e w' => ∃ v1_ : Value, e = .returned (.agg #[.bool r1, v1_]) ∧ Kd.R (Kd.int .u32) 23 w' w.heap.size (fun _ => True) v1_ r2 ∧ Below w.heap.size w w' := by
 have hu56 := Tryz.underlying49
 have HB := am (Below.refl w.heap.size w)
 have H := h; unfold zigguratref06_Of.f at H
 clear h
 by_cases c2 : a0 < 0
 case neg =>
   rw [if_neg c2] at H
   have c2b0 : decide (a0 < 0) = false := decide_eq_false c2
   clear c2
   obtain ⟨t365, A110, H⟩ := Option.bind_eq_some_iff.mp H
   try dsimp only at H
   have A11 := am A110
   clear A110
   obtain ⟨⟨t368, t369⟩, A120, H⟩ := Option.bind_eq_some_iff.mp H
   replace H : (some (t368, t369)) = some (r1, r2) := H
   have A12 := am A120
   clear A120
   simp only [Option.some.injEq, Prod.mk.injEq] at H
   obtain ⟨rfl, rfl⟩ := H
   go_enter Tryz.func22, Tryz.ntmps22
   go_wp2_with (first | ((with_reducible refine gate_dst (N := 2) rfl ?_); refine boxE (N := 2) (cs := #[.bool false, .slice none 0 0]) (t := 49) ?_; intro gb357 hg w13 hbox hb; have n0_ := am (below_step bB hb); have n1_ := am (hbox); have n2_ := am ((by rw [hg]; exact (below_size bB) : w.heap.size ≤ gb357)); have n3_ := am ((by rw [hg]; exact (below_size bB) : w.heap.size ≤ gb357)); clear HB; have HB := n0_; have BK357 := n1_; have GW357 := n2_; have GE357 := n3_; clear n0_ n1_ n2_ n3_; clear hb hbox hg) | ((with_reducible refine gate_callee (f := 49) rfl ?_); refine goesA (some 12) Tryz.func49 #[.int .u64 (IntKind.u64.wrap (a0))] ?_; (with_reducible refine (zigguratref01_Of.calls k (IntKind.u64.wrap (a0)) t365 _ A11.out).mono ?_); rintro e w14 ⟨v366, rfl, ho0, hb⟩; refine ⟨_, rfl, ?_⟩; have n0_ := am (Kd.R_lower ho0 (below_size bB)); have n1_ := am (blk_below (g := gb357) (o := .cells #[.bool false, .slice none 0 0] 49 (0, 0)) (bk BK357.out) hb); have n2_ := am (below_step bB hb); clear BK357; clear HB; have HO367 := n0_; have BK357 := n1_; have HB := n2_; clear n0_ n1_ n2_; (try clear hb); (try clear hb2); (try clear hk); (try clear hi); (try clear ho0); obtain ⟨Ao15, co15, eo15⟩ := Kd.R_slice HO367.out; subst eo15) | ((with_reducible refine gate_callee (f := 48) rfl ?_); refine goesA (some 13) Tryz.func48 #[.bool false, .slice Ao15 t365.length co15] ?_; (with_reducible refine (zigguratref06_Make.calls k false _ _ t365 t368 t369 _ ?side1 ?side2 A12.out).mono ?_); (case side1 => exact kC2 ((Kd.R_reads' HO367.out).2.2)); (case side2 => exact (Kd.R_reads' HO367.out).2.1); rintro e w16 ⟨v370, rfl, ho0, hb⟩; refine ⟨_, rfl, ?_⟩; have n0_ := am (Kd.R_elder' (rR HO367.out) (Kd.R_base ho0) hb); have n1_ := am (Kd.R_lower (Kd.R_new' ho0 (Kd.R_lt (rR HO367.out))) (below_size bB)); have n2_ := am (blk_below (g := gb357) (o := .cells #[.bool false, .slice none 0 0] 49 (0, 0)) (bk BK357.out) hb); have n3_ := am (below_step bB hb); clear HO367; clear BK357; clear HB; have HO367 := n0_; have HO371 := n1_; have BK357 := n2_; have HB := n3_; clear n0_ n1_ n2_ n3_; (try clear hb); (try clear hb2); (try clear hk); (try clear hi); (try clear ho0); have hcz17_0 : w16.cell? ⟨gb357, 0, none⟩ = some (.bool false) := (blk_cell BK357.out 0).trans rfl; have hcz17_1 : w16.cell? ⟨gb357, 1, none⟩ = some (.slice none 0 0) := (blk_cell BK357.out 1).trans rfl; have hfz17_0 := blk_frozen BK357.out 0; have hfz17_1 := blk_frozen BK357.out 1; obtain ⟨Ao18, co18, eo18⟩ := Kd.R_slice HO371.out; subst eo18))
   refine bodyPost_ret (results_cell_row rfl _ _ gb357 49 #[.bool t368, .slice Ao18 t369.length co18] (0, 0) _ rfl (by (with_reducible repeat (first | refine blk_drewN ?_ _ | refine blk_drew ?_ | refine blk_alloc ?_ _)); refine blk_put (cs := #[.bool t368, .slice none 0 0]) ?_ 1 _ rfl; (with_reducible repeat (first | refine blk_drewN ?_ _ | refine blk_drew ?_ | refine blk_alloc ?_ _)); refine blk_put (cs := #[.bool false, .slice none 0 0]) ?_ 0 _ rfl; (with_reducible repeat (first | refine blk_drewN ?_ _ | refine blk_drew ?_ | refine blk_alloc ?_ _)); exact BK357.out) Tryz.underlying49 rfl (by kernel_rfl)) rfl ?_
   exact ⟨_, eqR, by (with_reducible repeat (first | apply Kd.R_alloc | apply Kd.R_drewN | apply Kd.R_drew)); exact Kd.R_mono (Kd.R_far (p := ⟨gb357, 1, none⟩) (Kd.R_far (p := ⟨gb357, 0, none⟩) (Kd.R_types HO371.out BK357.out (by decide)) (fun _ hk => hk.2) (.bool t368)) (fun _ hk => hk.2) (.slice Ao18 t369.length co18)) (fun _ hk => trivial), bB⟩
 rw [if_pos c2] at H
 have c2b0 : decide (a0 < 0) = true := decide_eq_true c2
 clear c2
 obtain ⟨t358, A30, H⟩ := Option.bind_eq_some_iff.mp H
 try dsimp only at H
 have A3 := am A30
 clear A30
 obtain ⟨⟨t361, t362⟩, A40, H⟩ := Option.bind_eq_some_iff.mp H
 replace H : (some (t361, t362)) = some (r1, r2) := H
 have A4 := am A40
 clear A40
 simp only [Option.some.injEq, Prod.mk.injEq] at H
 obtain ⟨rfl, rfl⟩ := H
 go_enter Tryz.func22, Tryz.ntmps22
 go_wp2_with (first | ((with_reducible refine gate_dst (N := 2) rfl ?_); refine boxE (N := 2) (cs := #[.bool false, .slice none 0 0]) (t := 49) ?_; intro gb357 hg w5 hbox hb; have n0_ := am (below_step bB hb); have n1_ := am (hbox); have n2_ := am ((by rw [hg]; exact (below_size bB) : w.heap.size ≤ gb357)); have n3_ := am ((by rw [hg]; exact (below_size bB) : w.heap.size ≤ gb357)); clear HB; have HB := n0_; have BK357 := n1_; have GW357 := n2_; have GE357 := n3_; clear n0_ n1_ n2_ n3_; clear hb hbox hg) | ((with_reducible refine gate_callee (f := 49) rfl ?_); refine goesA (some 8) Tryz.func49 #[.int .u64 (IntKind.u64.wrap (-(IntKind.u64.wrap (a0))))] ?_; (with_reducible refine (zigguratref01_Of.calls k (IntKind.u64.wrap (-(IntKind.u64.wrap (a0)))) t358 _ A3.out).mono ?_); rintro e w6 ⟨v359, rfl, ho0, hb⟩; refine ⟨_, rfl, ?_⟩; have n0_ := am (Kd.R_lower ho0 (below_size bB)); have n1_ := am (blk_below (g := gb357) (o := .cells #[.bool false, .slice none 0 0] 49 (0, 0)) (bk BK357.out) hb); have n2_ := am (below_step bB hb); clear BK357; clear HB; have HO360 := n0_; have BK357 := n1_; have HB := n2_; clear n0_ n1_ n2_; (try clear hb); (try clear hb2); (try clear hk); (try clear hi); (try clear ho0); obtain ⟨Ao7, co7, eo7⟩ := Kd.R_slice HO360.out; subst eo7) | ((with_reducible refine gate_callee (f := 48) rfl ?_); refine goesA (some 9) Tryz.func48 #[.bool true, .slice Ao7 t358.length co7] ?_; (with_reducible refine (zigguratref06_Make.calls k true _ _ t358 t361 t362 _ ?side1 ?side2 A4.out).mono ?_); (case side1 => exact kC2 ((Kd.R_reads' HO360.out).2.2)); (case side2 => exact (Kd.R_reads' HO360.out).2.1); rintro e w8 ⟨v363, rfl, ho0, hb⟩; refine ⟨_, rfl, ?_⟩; have n0_ := am (Kd.R_elder' (rR HO360.out) (Kd.R_base ho0) hb); have n1_ := am (Kd.R_lower (Kd.R_new' ho0 (Kd.R_lt (rR HO360.out))) (below_size bB)); have n2_ := am (blk_below (g := gb357) (o := .cells #[.bool false, .slice none 0 0] 49 (0, 0)) (bk BK357.out) hb); have n3_ := am (below_step bB hb); clear HO360; clear BK357; clear HB; have HO360 := n0_; have HO364 := n1_; have BK357 := n2_; have HB := n3_; clear n0_ n1_ n2_ n3_; (try clear hb); (try clear hb2); (try clear hk); (try clear hi); (try clear ho0); have hcz9_0 : w8.cell? ⟨gb357, 0, none⟩ = some (.bool false) := (blk_cell BK357.out 0).trans rfl; have hcz9_1 : w8.cell? ⟨gb357, 1, none⟩ = some (.slice none 0 0) := (blk_cell BK357.out 1).trans rfl; have hfz9_0 := blk_frozen BK357.out 0; have hfz9_1 := blk_frozen BK357.out 1; obtain ⟨Ao10, co10, eo10⟩ := Kd.R_slice HO364.out; subst eo10))
 refine bodyPost_ret (results_cell_row rfl _ _ gb357 49 #[.bool t361, .slice Ao10 t362.length co10] (0, 0) _ rfl (by (with_reducible repeat (first | refine blk_drewN ?_ _ | refine blk_drew ?_ | refine blk_alloc ?_ _)); refine blk_put (cs := #[.bool t361, .slice none 0 0]) ?_ 1 _ rfl; (with_reducible repeat (first | refine blk_drewN ?_ _ | refine blk_drew ?_ | refine blk_alloc ?_ _)); refine blk_put (cs := #[.bool false, .slice none 0 0]) ?_ 0 _ rfl; (with_reducible repeat (first | refine blk_drewN ?_ _ | refine blk_drew ?_ | refine blk_alloc ?_ _)); exact BK357.out) Tryz.underlying49 rfl (by kernel_rfl)) rfl ?_
 exact ⟨_, eqR, by (with_reducible repeat (first | apply Kd.R_alloc | apply Kd.R_drewN | apply Kd.R_drew)); exact Kd.R_mono (Kd.R_far (p := ⟨gb357, 1, none⟩) (Kd.R_far (p := ⟨gb357, 0, none⟩) (Kd.R_types HO364.out BK357.out (by decide)) (fun _ hk => hk.2) (.bool t361)) (fun _ hk => hk.2) (.slice Ao10 t362.length co10)) (fun _ hk => trivial), bB⟩
mutual
def zigguratref14_Prime.j0 : Nat → Int → Bool → Option (Bool)
 | 0, _, _ => none
 | k + 1, x0, x9 => if x9 = true then (some false) else (zigguratref14_Prime.l0 k x0 2)
def zigguratref14_Prime.l0 : Nat → Int → Int → Option (Bool)
 | 0, _, _ => none
 | k + 1, x0, x3 => if ((x3 * x3) % 4294967296) ≤ x0 then (if x3 = 0 then (none) else (if (Int.tmod x0 x3) = 0 then (some false) else (zigguratref14_Prime.l0 k x0 ((x3 + 1) % 4294967296)))) else (some true)
end
def zigguratref14_Prime.f (k : Nat) (a0 : Int) : Option (Bool) := if a0 < 2 then (zigguratref14_Prime.j0 k a0 true) else (zigguratref14_Prime.j0 k a0 (decide (a0 > 65521)))
theorem zigguratref14_Prime.calls (k : Nat) (a0 : Int) (r : Bool) (w : World) (h : zigguratref14_Prime.f k a0 = some r) :
   Calls Tryz.prog 23 #[.int .u32 a0] w fun e w' => e = .returned (.bool r) ∧ Drawn0 w w' := by
 have H := h; unfold zigguratref14_Prime.f at H
 clear h
 have HC2 := am H
 clear H
 go_enter Tryz.func23, Tryz.ntmps23
 go_upto_region 1 with (fail)
 go_cut [9] (fun v9 wc => ∃ (kq : Nat) (x9_1 : Bool), v9 = .bool x9_1 ∧ Aside0 (zigguratref14_Prime.j0 kq a0 x9_1 = some r) ∧ Aside0 (kq ≤ k) ∧ Drawn0 w wc)
 case first =>
   have H := HC2.out
   clear HC2
   by_cases c3 : a0 < 2
   case neg =>
     rw [if_neg c3] at H
     have c3b0 : decide (a0 < 2) = false := decide_eq_false c3
     clear c3
     (first | rw [c3b0] | (simp only [i64_w, i32_w]; rw [c3b0]) | skip)
     have H' := am H
     clear H
     go_wp2
     go_meet
     case rel => exact ⟨_, (decide (a0 > 65521)), eqS, (by first | exact H' | (subst_vars; exact H')), ⟨by first | omega | exact Nat.le_refl _⟩, by repeat (first | exact Drawn0.refl _ | apply Drawn0.step)⟩
   rw [if_pos c3] at H
   have c3b0 : decide (a0 < 2) = true := decide_eq_true c3
   clear c3
   (first | rw [c3b0] | (simp only [i64_w, i32_w]; rw [c3b0]) | skip)
   have H' := am H
   clear H
   go_wp2
   go_meet
   case rel => exact ⟨_, (true), eqS, (by first | exact H' | (subst_vars; exact H')), ⟨by first | omega | exact Nat.le_refl _⟩, by repeat (first | exact Drawn0.refl _ | apply Drawn0.step)⟩
 case rest =>
   clear HC2
   obtain ⟨kq, x9_1, rfl, HA, HJ1, ⟨mc1, rfl⟩⟩ := hcut
   rcases kq with _ | kj1
   · exact absurd HA.out (by simp [zigguratref14_Prime.j0])
   have H := HA.out
   clear HA
   simp only [zigguratref14_Prime.j0] at H
   by_cases c4 : x9_1 = true
   · subst c4
     have H1 : (some false) = some r := by rw [if_pos rfl] at H; exact H
     clear H
     have H := H1
     clear H1
     obtain rfl := Option.some.inj H
     go_wp2
     go_ret
     exact ⟨eqS, dR⟩
   replace c4 := Bool.eq_false_iff.mpr c4
   subst c4
   have H1 : (zigguratref14_Prime.l0 kj1 a0 2) = some r := by rw [if_neg (show ¬ (false = true) by decide)] at H; exact H
   clear H
   have H := H1
   clear H1
   have H' := am H
   clear H
   go_wp2
   go_loopg [3] kj1 (fun kq v3 w' => ∃ (x3_2 : Int), v3 = .int .u32 x3_2 ∧ Aside0 (zigguratref14_Prime.l0 kq a0 x3_2 = some r) ∧ Aside0 (kq ≤ kj1) ∧ Drawn0 w w')
   case atStart => exact ⟨(2), eqS, H', ⟨Nat.le_refl _⟩, by repeat (first | exact Drawn0.refl _ | apply Drawn0.step)⟩
   clear H'
   obtain ⟨x3_2, rfl, HA, HK2, ⟨m2, rfl⟩⟩ := hrel
   rcases gk with _ | k2
   · exact absurd HA.out (by simp [zigguratref14_Prime.l0])
   have H := HA.out
   clear HA
   simp only [zigguratref14_Prime.l0] at H
   by_cases c5 : ((x3_2 * x3_2) % 4294967296) ≤ a0
   case neg =>
     rw [if_neg c5] at H
     have c5b0 : decide (((x3_2 * x3_2) % 4294967296) ≤ a0) = false := decide_eq_false c5
     clear c5
     obtain rfl := Option.some.inj H
     go_wp2
     go_ret
     exact ⟨eqS, dR⟩
   rw [if_pos c5] at H
   have c5b0 : decide (((x3_2 * x3_2) % 4294967296) ≤ a0) = true := decide_eq_true c5
   clear c5
   by_cases c6 : x3_2 = 0
   · rw [if_pos c6] at H
     exact absurd H (by simp)
   rw [if_neg c6] at H
   have c6b0 : (x3_2 == 0) = false := beq_eq_false_iff_ne.mpr c6
   have c6b1 : (x3_2 != 0) = true := bne_iff_ne.mpr c6
   by_cases c7 : (Int.tmod a0 x3_2) = 0
   · rw [if_pos c7] at H
     have c7b0 : ((Int.tmod a0 x3_2) == 0) = true := beq_iff_eq.mpr c7
     have c7b1 : ((Int.tmod a0 x3_2) != 0) = false := bne_eq_false_iff_eq.mpr c7
     clear c7
     obtain rfl := Option.some.inj H
     go_wp2
     go_ret
     exact ⟨eqS, dR⟩
   rw [if_neg c7] at H
   have c7b0 : ((Int.tmod a0 x3_2) == 0) = false := beq_eq_false_iff_ne.mpr c7
   have c7b1 : ((Int.tmod a0 x3_2) != 0) = true := bne_iff_ne.mpr c7
   have H' := am H
   clear H
   go_wp2
   go_roundg k2
   case measure => have := HJ1.out; have := HK2.out; omega
   case rel => exact ⟨((x3_2 + 1) % 4294967296), eqS, (by first | exact H' | (subst_vars; exact H')), ⟨by have := HJ1.out; have := HK2.out; omega⟩, by repeat (first | exact Drawn0.refl _ | apply Drawn0.step)⟩
def zigguratref14_Of.l0 : Nat → Int → Option (Int)
 | 0, _ => none
 | k + 1, x3 => if x3 > 2 then ((zigguratref14_Prime.f k x3).bind fun t375 => (if t375 = true then (some x3) else (zigguratref14_Of.l0 k ((x3 - 1) % 4294967296)))) else (some 2)
def zigguratref14_Of.f (k : Nat) (a0 : Int) : Option (Int) := zigguratref14_Of.l0 k (Int.tmod a0 65522)
theorem zigguratref14_Of.calls (k : Nat) (a0 : Int) (r : Int) (w : World) (h : zigguratref14_Of.f k a0 = some r) :
   Calls Tryz.prog 5 #[.int .u32 a0] w fun e w' => e = .returned (.int .u32 r) ∧ Drawn0 w w' := by
 have H := h; unfold zigguratref14_Of.f at H
 clear h
 have H' := am H
 clear H
 go_enter Tryz.func5, Tryz.ntmps5
 go_wp2
 go_loopg [3] k (fun kq v3 w' => ∃ (x3_1 : Int), v3 = .int .u32 x3_1 ∧ Aside0 (zigguratref14_Of.l0 kq x3_1 = some r) ∧ Aside0 (kq ≤ k) ∧ Drawn0 w w')
 case atStart => exact ⟨(Int.tmod a0 65522), eqS, H', ⟨Nat.le_refl _⟩, by repeat (first | exact Drawn0.refl _ | apply Drawn0.step)⟩
 clear H'
 obtain ⟨x3_1, rfl, HA, HK1, ⟨m1, rfl⟩⟩ := hrel
 rcases gk with _ | k1
 · exact absurd HA.out (by simp [zigguratref14_Of.l0])
 have H := HA.out
 clear HA
 simp only [zigguratref14_Of.l0] at H
 by_cases c2 : x3_1 > 2
 case neg =>
   rw [if_neg c2] at H
   have c2b0 : decide (2 < x3_1) = false := decide_eq_false c2
   clear c2
   obtain rfl := Option.some.inj H
   go_wp2
   go_ret
   exact ⟨eqS, dR⟩
 rw [if_pos c2] at H
 have c2b0 : decide (2 < x3_1) = true := decide_eq_true c2
 clear c2
 obtain ⟨t375, A30, H⟩ := Option.bind_eq_some_iff.mp H
 try dsimp only at H
 have A3 := am A30
 clear A30
 by_cases c4 : t375 = true
 · subst c4
   have H1 : (some x3_1) = some r := by rw [if_pos rfl] at H; exact H
   clear H
   have H := H1
   clear H1
   obtain rfl := Option.some.inj H
   go_wp2_with (first | ((with_reducible refine gate_callee (f := 23) rfl ?_); refine goesA (some 11) Tryz.func23 #[.int .u32 x3_1] ?_; (with_reducible refine (zigguratref14_Prime.calls k1 x3_1 true _ A3.out).mono ?_); rintro e w' ⟨rfl, ⟨nd, rfl⟩⟩; refine ⟨_, rfl, ?_⟩))
   go_ret
   exact ⟨eqS, dR⟩
 replace c4 := Bool.eq_false_iff.mpr c4
 subst c4
 have H1 : (zigguratref14_Of.l0 k1 ((x3_1 - 1) % 4294967296)) = some r := by rw [if_neg (show ¬ (false = true) by decide)] at H; exact H
 clear H
 have H := H1
 clear H1
 have H' := am H
 clear H
 go_wp2_with (first | ((with_reducible refine gate_callee (f := 23) rfl ?_); refine goesA (some 11) Tryz.func23 #[.int .u32 x3_1] ?_; (with_reducible refine (zigguratref14_Prime.calls k1 x3_1 false _ A3.out).mono ?_); rintro e w' ⟨rfl, ⟨nd, rfl⟩⟩; refine ⟨_, rfl, ?_⟩))
 go_roundg k1
 case measure => have := HK1.out; omega
 case rel => exact ⟨((x3_1 - 1) % 4294967296), eqS, (by first | exact H' | (subst_vars; exact H')), ⟨by have := HK1.out; omega⟩, by repeat (first | exact Drawn0.refl _ | apply Drawn0.step)⟩
def zigguratref14_Right.l0 : Nat → List Int → Int → Int → Option (Bool)
 | 0, _, _, _ => none
 | k + 1, x0, x1, x5 => if x5 < (x0.length : Int) then (if 0 ≤ x5 then (if (rd x0 x5) ≥ x1 then (some false) else (zigguratref14_Right.l0 k x0 x1 (wrap64 (x5 + 1)))) else (none)) else (if (x0.length : Int) = 0 then (some true) else (if 0 ≤ (wrap64 ((x0.length : Int) - 1)) then (if (wrap64 ((x0.length : Int) - 1)) < (x0.length : Int) then (some ((rd x0 (wrap64 ((x0.length : Int) - 1))) != 0)) else (none)) else (none)))
def zigguratref14_Right.f (k : Nat) (l0 : List Int) (a1 : Int) : Option (Bool) := zigguratref14_Right.l0 k l0 a1 0
theorem zigguratref14_Right.calls (k : Nat) (A0 : Option Addr) (c0 : Nat) (l0 : List Int) (a1 : Int) (r : Bool) (w : World) (hr0 : Kd.C (Kd.int .u32) w A0 l0.length l0) (hc0 : l0.length ≤ c0) (h : zigguratref14_Right.f k l0 a1 = some r) :
   Calls Tryz.prog 8 #[.slice A0 l0.length c0, .int .u32 a1] w fun e w' => e = .returned (.bool r) ∧ Drawn0 w w' := by
 have HR0 := am hr0
 have HC0 := am hc0
 clear hr0 hc0
 have H := h; unfold zigguratref14_Right.f at H
 clear h
 have H' := am H
 clear H
 go_enter Tryz.func8, Tryz.ntmps8
 go_wp2
 go_loopg [5] k (fun kq v5 w' => ∃ (x5_1 : Int), v5 = .int .i64 x5_1 ∧ Aside0 (zigguratref14_Right.l0 kq l0 a1 x5_1 = some r) ∧ Aside0 (kq ≤ k) ∧ Drawn0 w w')
 case atStart => exact ⟨(0), eqS, H', ⟨Nat.le_refl _⟩, by repeat (first | exact Drawn0.refl _ | apply Drawn0.step)⟩
 clear H'
 (try clear c1); (try clear p2)
 obtain ⟨x5_1, rfl, HA, HK1, ⟨m1, rfl⟩⟩ := hrel
 rcases gk with _ | k1
 · exact absurd HA.out (by simp [zigguratref14_Right.l0])
 have H := HA.out
 clear HA
 simp only [zigguratref14_Right.l0] at H
 by_cases c3 : x5_1 < (l0.length : Int)
 · rw [if_pos c3] at H
   have c3b0 : decide (x5_1 < (l0.length : Int)) = true := decide_eq_true c3
   clear c3
   by_cases c4 : 0 ≤ x5_1
   case neg => exact nn c4 H
   rw [if_pos c4] at H
   have c4b0 : decide (0 ≤ x5_1) = true := decide_eq_true c4
   clear c4
   by_cases c5 : (rd l0 x5_1) ≥ a1
   · rw [if_pos c5] at H
     have c5b0 : decide (a1 ≤ (rd l0 x5_1)) = true := decide_eq_true c5
     clear c5
     obtain rfl := Option.some.inj H
     have p397 : 0 ≤ (x5_1 : Int) := of_decide_eq_true as_
     have q397 : x5_1 < (l0.length : Int) := of_decide_eq_true as_
     obtain ⟨ad397, e397, hx397_0⟩ := Kd.at_int HR0.out x5_1 p397 q397
     cases e397
     replace p397 := eq_true p397
     replace q397 := eq_true q397
     go_wp2
     go_ret
     exact ⟨eqS, dR⟩
   rw [if_neg c5] at H
   have c5b0 : decide (a1 ≤ (rd l0 x5_1)) = false := decide_eq_false c5
   clear c5
   have H' := am H
   clear H
   have p397 : 0 ≤ (x5_1 : Int) := of_decide_eq_true as_
   have q397 : x5_1 < (l0.length : Int) := of_decide_eq_true as_
   obtain ⟨ad397, e397, hx397_0⟩ := Kd.at_int HR0.out x5_1 p397 q397
   cases e397
   replace p397 := eq_true p397
   replace q397 := eq_true q397
   go_wp2
   go_roundg k1
   case measure => have := HK1.out; omega
   case rel => exact ⟨(wrap64 (x5_1 + 1)), eqS, (by first | exact H' | (subst_vars; exact H')), ⟨by have := HK1.out; omega⟩, by repeat (first | exact Drawn0.refl _ | apply Drawn0.step)⟩
 rw [if_neg c3] at H
 have c3b0 : decide (x5_1 < (l0.length : Int)) = false := decide_eq_false c3
 clear c3
 by_cases c6 : (l0.length : Int) = 0
 · rw [if_pos c6] at H
   have c6b0 : ((l0.length : Int) == 0) = true := beq_iff_eq.mpr c6
   have c6b1 : ((l0.length : Int) != 0) = false := bne_eq_false_iff_eq.mpr c6
   clear c6
   obtain rfl := Option.some.inj H
   go_wp2
   go_ret
   exact ⟨eqS, dR⟩
 rw [if_neg c6] at H
 have c6b0 : ((l0.length : Int) == 0) = false := beq_eq_false_iff_ne.mpr c6
 have c6b1 : ((l0.length : Int) != 0) = true := bne_iff_ne.mpr c6
 have c6b2 : ¬ (l0 = []) := fun h_ => c6 (by rw [h_]; rfl)
 obtain ⟨ji7, hji7⟩ : ∃ j_ : Int, (wrap64 ((l0.length : Int) - 1)) = j_ := ⟨_, rfl⟩
 replace H : (if 0 ≤ (ji7) then (if (ji7) < (l0.length : Int) then (some ((rd l0 (ji7)) != 0)) else (none)) else (none)) = some r := by first | (rw [hji7] at H; exact H) | (simp only [hji7] at H ⊢; exact H)
 have hji7w : (IntKind.i64.wrap ((l0.length : Int) - 1)) = ji7 := (i64_w _).trans hji7
 by_cases c8 : 0 ≤ (ji7)
 case neg => exact nn c8 H
 rw [if_pos c8] at H
 have c8b0 : decide (0 ≤ (ji7)) = true := decide_eq_true c8
 clear c8
 by_cases c9 : (ji7) < (l0.length : Int)
 case neg => exact nn c9 H
 rw [if_pos c9] at H
 have c9b0 : decide ((ji7) < (l0.length : Int)) = true := decide_eq_true c9
 clear c9
 obtain rfl := Option.some.inj H
 have p398 : 0 ≤ ((ji7) : Int) := of_decide_eq_true as_
 have q398 : (ji7) < (l0.length : Int) := of_decide_eq_true as_
 obtain ⟨ad398, e398, hx398_0⟩ := Kd.at_int HR0.out (ji7) p398 q398
 cases e398
 replace p398 := eq_true p398
 replace q398 := eq_true q398
 go_wp2
 go_ret
 exact ⟨by first | rfl | (simp; done) | (simp only [← hji7] <;> (first | rfl | simp)) | (simp [*]; done), by repeat (first | exact Drawn0.refl _ | apply Drawn0.step)⟩
def zigguratref01_Made.f (k : Nat) (l0 : List Int) (a1 : Int) : Option (List Int) := if 0 ≤ (mn (l0.length : Int) a1) then (if (mn (l0.length : Int) a1) ≤ (l0.length : Int) then ((zigguratref01_Make.f k (l0.take ((mn (l0.length : Int) a1) : Int).toNat)).bind fun t266 => (some t266)) else (none)) else (none)
theorem zigguratref01_Made.calls (k : Nat) (A0 : Option Addr) (c0 : Nat) (l0 : List Int) (a1 : Int) (r : List Int) (w : World) (hr0 : Kd.C (Kd.int .u32) w A0 l0.length l0) (hc0 : l0.length ≤ c0) (h : zigguratref01_Made.f k l0 a1 = some r) :
   Calls Tryz.prog 50 #[.slice A0 l0.length c0, .int .i64 a1] w fun e w' => ∃ v0_ : Value, e = .returned (v0_) ∧ Kd.R (Kd.int .u32) 23 w' w.heap.size (fun _ => True) v0_ r ∧ Below w.heap.size w w' := by
 have HR0 := am hr0
 have HC0 := am hc0
 clear hr0 hc0
 have HB := am (Below.refl w.heap.size w)
 have H := h; unfold zigguratref01_Made.f at H
 clear h
 obtain ⟨ji3, hji3⟩ : ∃ j_ : Int, (mn (l0.length : Int) a1) = j_ := ⟨_, rfl⟩
 replace H : (if 0 ≤ (ji3) then (if (ji3) ≤ (l0.length : Int) then ((zigguratref01_Make.f k (l0.take ((ji3) : Int).toNat)).bind fun t266 => (some t266)) else (none)) else (none)) = some r := by first | (rw [hji3] at H; exact H) | (simp only [hji3] at H ⊢; exact H)
 have hji3_ : (if a1 < (l0.length : Int) then a1 else (l0.length : Int)) = ji3 := hji3
 have hji3n_ := hji3_
 (try simp only [Int.ofNat_lt] at hji3n_)
 by_cases c4 : 0 ≤ (ji3)
 case neg => exact nn c4 H
 rw [if_pos c4] at H
 have c4b0 := eq_true c4
 have c4b1 : decide (0 ≤ (ji3)) = true := decide_eq_true c4
 clear c4
 by_cases c5 : (ji3) ≤ (l0.length : Int)
 case neg => exact nn c5 H
 rw [if_pos c5] at H
 have c5b0 := eq_true c5
 have c5b1 : decide ((ji3) ≤ (l0.length : Int)) = true := decide_eq_true c5
 clear c5
 obtain ⟨t266, A60, H⟩ := Option.bind_eq_some_iff.mp H
 replace H : (some t266) = some r := H
 have A6 := am A60
 clear A60
 obtain rfl := Option.some.inj H
 obtain ⟨i07, hi07, _, hsz7, _⟩ := info_parts info23
 obtain ⟨hcut7, hA7, hC7⟩ := print_take_of (P := Tryz.prog) (Value.int .u32) 0 27 23 .i64 Tryz.underlying27 hi07 hsz7 A0 c0 l0 (ji3) (of_decide_eq_true as_) (of_decide_eq_true as_) HC0.out
 have HR265 := am (Kd.C_of_reads (h1 := fun _ => rfl) (hA7 _ (Kd.reads_of_C HR0.out)))
 have HC265 := am hC7
 clear hA7 hC7 hi07 hsz7
 go_enter Tryz.func50, Tryz.ntmps50
 go_wp2_with (first | ((with_reducible refine gate_callee (f := 70) rfl ?_); refine goesL_ (some 11) rfl rfl Tryz.func70 (by kernel_rfl) rfl #[.slice A0 (l0.take ((ji3) : Int).toNat).length c0] rfl (by (try simp only [List.map_toArray, List.map_cons, List.map_nil]); first | done | (rw [show (l0.take ((ji3) : Int).toNat).length = (ji3).toNat from (by rw [List.length_take]; have h_ : ((ji3) : Int) ≤ (l0.length : Int) := of_decide_eq_true as_; omega)] <;> rfl) | (simp only [hji3]; rfl) | rfl | (simp only [List.length_drop, List.length_take]; rfl)) ?_; (with_reducible refine (zigguratref01_Make.calls k _ _ (l0.take ((ji3) : Int).toNat) t266 _ ?side1 ?side2 A6.out).mono ?_); (case side1 => exact kC2 (HR265.out)); (case side2 => exact HC265.out); rintro e w8 ⟨v267, rfl, ho0, hb⟩; refine ⟨_, rfl, ?_⟩; have n0_ := am (Kd.R_lower ho0 (below_size bB)); have n1_ := am (below_step bB hb); clear HB; have HO268 := n0_; have HB := n1_; clear n0_ n1_; (try clear hb); (try clear hb2); (try clear hk); (try clear hi); (try clear ho0)))
 go_ret
 exact ⟨_, by first | rfl | (simp [errW_none, errW_some] <;> rfl) | (simp only [← hji3]; first | rfl | (simp [errW_none, errW_some] <;> rfl)) | (simp [*, errW_none, errW_some] <;> rfl), rR (HO268.out), bB⟩
def zigguratref06_Made.f (k : Nat) (a0_0 : Bool) (l0_1 : List Int) (a1 : Int) : Option (Bool × List Int) := (zigguratref01_Made.f k l0_1 a1).bind fun t271 => ((zigguratref06_Make.f k a0_0 t271).bind fun bt274 => (some (bt274.1, bt274.2)))
def zigguratref06_Made.T1 : Bool × List (List Nat × List Nat) := (true, [([], []), ([0], [0]), ([], []), ([2], [2]), ([], []), ([3, 4], [3, 4]), ([1, 5, 5], [1, 5]), ([6, 6, 0, 1, 2, 3, 4, 5, 6], [6])])
def zigguratref06_Made.B1 : List Nat := [0, 1, 0, 4, 0, 28, 63, 127]
theorem zigguratref06_Made.tab1 : rtab .any (opsOf Tryz.f24 1) = zigguratref06_Made.T1 := by kernel_rfl
theorem zigguratref06_Made.bits1 : waitsOk zigguratref06_Made.T1.2 zigguratref06_Made.B1 = true := by kernel_rfl
theorem zigguratref06_Made.calls (k : Nat) (a0_0 : Bool) (A0_1 : Option Addr) (c0_1 : Nat) (l0_1 : List Int) (a1 : Int) (r1 : Bool) (r2 : List Int) (w : World) (hr0_1 : Kd.C (Kd.int .u32) w A0_1 l0_1.length l0_1) (hc0_1 : l0_1.length ≤ c0_1) (h : zigguratref06_Made.f k a0_0 l0_1 a1 = some (r1, r2)) :
   Calls Tryz.prog 24 #[.agg #[.bool a0_0, .slice A0_1 l0_1.length c0_1], .int .i64 a1] w fun e w' => ∃ v1_ : Value, e = .returned (.agg #[.bool r1, v1_]) ∧ Kd.R (Kd.int .u32) 23 w' w.heap.size (fun _ => True) v1_ r2 ∧ Below w.heap.size w w' := by
 have hu49 := Tryz.underlying49
 have HR0_1 := am hr0_1
 have HC0_1 := am hc0_1
 clear hr0_1 hc0_1
 have HB := am (Below.refl w.heap.size w)
 have H := h; unfold zigguratref06_Made.f at H
 clear h
 obtain ⟨t271, A30, H⟩ := Option.bind_eq_some_iff.mp H
 try dsimp only at H
 have A3 := am A30
 clear A30
 obtain ⟨⟨t274, t275⟩, A40, H⟩ := Option.bind_eq_some_iff.mp H
 replace H : (some (t274, t275)) = some (r1, r2) := H
 have A4 := am A40
 clear A40
 simp only [Option.some.injEq, Prod.mk.injEq] at H
 obtain ⟨rfl, rfl⟩ := H
 go_enter Tryz.func24, Tryz.ntmps24
 try go_wp2_with (first | ((with_reducible refine gate_dst (N := 2) rfl ?_); refine boxE (N := 2) (cs := #[.bool a0_0, .slice A0_1 l0_1.length c0_1]) (t := 49) ?_; intro gb269 hg w5 hbox hb; have n0_ := am (below_step bB hb); have n1_ := am (hbox); have n2_ := am ((by rw [hg]; exact (below_size bB) : w.heap.size ≤ gb269)); have n3_ := am ((by rw [hg]; exact (below_size bB) : w.heap.size ≤ gb269)); clear HB; have HB := n0_; have BK269 := n1_; have GW269 := n2_; have GE269 := n3_; clear n0_ n1_ n2_ n3_; clear hb hbox hg) | ((with_reducible refine gate_dst (N := 4) rfl ?_); refine boxE (N := 4) (cs := #[.bool false, .slice none 0 0]) (t := 49) ?_; intro gb270 hg w6 hbox hb; have n0_ := am (blk_below (g := gb269) (o := .cells #[.bool a0_0, .slice A0_1 l0_1.length c0_1] 49 (0, 0)) (bk BK269.out) hb); have n1_ := am (below_step bB hb); have n2_ := am (hbox); have n3_ := am ((by rw [hg]; exact (below_size bB) : w.heap.size ≤ gb270)); have n4_ := am ((by rw [hg]; exact (below_size bB) : w.heap.size ≤ gb270)); have n5_ := am ((by rw [hg]; exact Nat.ne_of_lt (blk_lt (g := gb269) (o := .cells #[.bool a0_0, .slice A0_1 l0_1.length c0_1] 49 (0, 0)) (bk BK269.out)) : gb269 ≠ gb270)); have n6_ := am ((by rw [hg]; exact Nat.ne_of_gt (blk_lt (g := gb269) (o := .cells #[.bool a0_0, .slice A0_1 l0_1.length c0_1] 49 (0, 0)) (bk BK269.out)) : gb270 ≠ gb269)); clear BK269; clear HB; have BK269 := n0_; have HB := n1_; have BK270 := n2_; have GW270 := n3_; have GE270 := n4_; have NB269_270 := n5_; have NB270_269 := n6_; clear n0_ n1_ n2_ n3_ n4_ n5_ n6_; clear hb hbox hg))
 have n0_ := am (blk_drew BK269.out)
 have n1_ := am (blk_drew BK270.out)
 have n2_ := am (below_drew1 HB.out)
 clear BK269
 clear BK270
 clear HB
 have BK269 := n0_
 have BK270 := n1_
 have HB := n2_
 clear n0_ n1_ n2_
 refine start_ (n := 8) (S := fun w' => w'.cell? ⟨gb269, 0, none⟩ = some (.bool a0_0) ∧ w'.cell? ⟨gb269, 1, none⟩ = some (.slice A0_1 l0_1.length c0_1)) (ds := []) (bm 8 0) (by kernel_rfl) rfl rfl ⟨(blk_cell BK269.out 0).trans rfl, (blk_cell BK269.out 1).trans rfl⟩ (fun hHeld => ?_); refine with_tabW zigguratref06_Made.tab1 zigguratref06_Made.bits1 (fun HT_ HW_ => ?_)
 generalize w6.drew = w7 at BK269 BK270 HB hHeld ⊢
 refine pureB (N := some 5) 0 (bm 8 1) ?_
 refine pureB (N := some 7) 2 (bm 8 5) ?_
 refine pureB (N := some 9) 4 (bm 8 21) ?_
 refine takeB2 (N := some 6) 1 (bm 8 23) hHeld ?_
 refine takeB2 (N := some 8) 3 (bm 8 31) hHeld ?_
 refine one_ (i := 5) (N := some 10) (bm 8 63) rfl rfl (one_of HT_.out (by kernel_rfl)) (by decide) (fun K hK => ?_)
 refine goes_ Tryz.func50 (by kernel_rfl) rfl #[.slice A0_1 l0_1.length c0_1, .int .i64 a1] (by rfl) rfl rfl aM ?_
 with_reducible refine (zigguratref01_Made.calls k _ _ l0_1 a1 t271 _ ?side1 ?side2 A3.out).mono ?_
 (case side1 => exact kC2 ((Kd.C_below HR0_1.out HB.out)))
 (case side2 => exact HC0_1.out)
 rintro e w8 ⟨v272, rfl, ho0, hb⟩
 refine ⟨_, rfl, ?_⟩
 have n0_ := am (Kd.R_lower ho0 (below_size bB))
 have n1_ := am (blk_below (g := gb269) (o := .cells #[.bool a0_0, .slice A0_1 l0_1.length c0_1] 49 (0, 0)) (bk BK269.out) hb)
 have n2_ := am (blk_below (g := gb270) (o := .cells #[.bool false, .slice none 0 0] 49 (0, 0)) (bk BK270.out) hb)
 have n3_ := am (below_step bB hb)
 clear BK269
 clear BK270
 clear HB
 have HO273 := n0_
 have BK269 := n1_
 have BK270 := n2_
 have HB := n3_
 clear n0_ n1_ n2_ n3_
 (try clear hb)
 (try clear hb2)
 (try clear hk)
 (try clear hi)
 (try clear ho0)
 obtain ⟨Ao9, co9, eo9⟩ := Kd.R_slice HO273.out
 (first | subst eo9 | (injection eo9 with f1_ f2_ f3_; have f4_ := f1_.symm; have f5_ := f3_.symm; clear f1_ f2_ f3_; subst f4_; subst f5_))
 refine hK.out _ _ ⟨(blk_cell BK269.out 0).trans rfl, (blk_cell BK269.out 1).trans rfl⟩ (fun hHeld => ?_)
 clear hK K
 refine norm_ (a' := ?_) ?_ ?_
 rotate_left
 · show Act.put _ (some 10) _ = _; exact actp
 refine one_ (i := 6) (N := some 11) (bm 8 127) rfl rfl (one_of HT_.out (by kernel_rfl)) (by decide) (fun K hK => ?_)
 refine goes_ Tryz.func48 (by kernel_rfl) rfl #[.bool a0_0, .slice Ao9 t271.length co9] (by rfl) rfl rfl aM ?_
 with_reducible refine (zigguratref06_Make.calls k a0_0 _ _ t271 t274 t275 _ ?side1 ?side2 A4.out).mono ?_
 (case side1 => exact kC2 ((Kd.R_reads' HO273.out).2.2))
 (case side2 => exact (Kd.R_reads' HO273.out).2.1)
 rintro e w10 ⟨v276, rfl, ho0, hb⟩
 refine ⟨_, rfl, ?_⟩
 have n0_ := am (Kd.R_elder' (rR HO273.out) (Kd.R_base ho0) hb)
 have n1_ := am (Kd.R_lower (Kd.R_new' ho0 (Kd.R_lt (rR HO273.out))) (below_size bB))
 have n2_ := am (blk_below (g := gb269) (o := .cells #[.bool a0_0, .slice A0_1 l0_1.length c0_1] 49 (0, 0)) (bk BK269.out) hb)
 have n3_ := am (blk_below (g := gb270) (o := .cells #[.bool false, .slice none 0 0] 49 (0, 0)) (bk BK270.out) hb)
 have n4_ := am (below_step bB hb)
 clear HO273
 clear BK269
 clear BK270
 clear HB
 have HO273 := n0_
 have HO277 := n1_
 have BK269 := n2_
 have BK270 := n3_
 have HB := n4_
 clear n0_ n1_ n2_ n3_ n4_
 (try clear hb)
 (try clear hb2)
 (try clear hk)
 (try clear hi)
 (try clear ho0)
 obtain ⟨Ao12, co12, eo12⟩ := Kd.R_slice HO277.out
 (first | subst eo12 | (injection eo12 with f1_ f2_ f3_; have f4_ := f1_.symm; have f5_ := f3_.symm; clear f1_ f2_ f3_; subst f4_; subst f5_))
 refine hK.out _ _ ⟨(blk_cell BK269.out 0).trans rfl, (blk_cell BK269.out 1).trans rfl⟩ (fun hHeld => ?_)
 clear hK K
 refine norm_ (a' := ?_) ?_ ?_
 rotate_left
 · show Act.put _ (some 11) _ = _; exact actp
 refine one_ (i := 7) (N := none) (bm 8 255) rfl rfl (one_of HT_.out (by kernel_rfl)) (by decide) (fun K hK => ?_)
 have hs11 : w10.cell? ⟨gb270, 0, none⟩ = some (.bool false) := (blk_cell BK270.out 0).trans rfl
 have hfs11 := blk_frozen BK270.out 0
 have hns11_0 := NB269_270.out
 have hms11_0 := NB270_269.out
 have hs13 : w10.cell? ⟨gb270, 1, none⟩ = some (.slice none 0 0) := (blk_cell BK270.out 1).trans rfl
 have hfs13 := blk_frozen BK270.out 1
 have hns13_0 := NB269_270.out
 have hms13_0 := NB270_269.out
 refine skip_ (w1 := ?_) (by rfl) rfl ?_ ?_
 rotate_left
 · go_simp
   rfl
 refine hK.out _ _ ⟨((cell_far (p := ⟨gb270, _, none⟩) NB269_270.out _).trans (((cell_far (p := ⟨gb270, _, none⟩) NB269_270.out _).trans (hHeld.1)))), ((cell_far (p := ⟨gb270, _, none⟩) NB269_270.out _).trans (((cell_far (p := ⟨gb270, _, none⟩) NB269_270.out _).trans (hHeld.2))))⟩ (fun hHeld => ?_)
 clear hK K
 refine done_ (done_of HT_.out (by kernel_rfl)) ?_
 try go_wp2
 refine bodyPost_ret (results_cell_row rfl _ _ gb270 49 #[.bool t274, .slice Ao12 t275.length co12] (0, 0) _ rfl (by (with_reducible repeat (first | refine blk_drewN ?_ _ | refine blk_drew ?_ | refine blk_alloc ?_ _)); refine blk_put (cs := #[.bool t274, .slice none 0 0]) ?_ 1 _ rfl; (with_reducible repeat (first | refine blk_drewN ?_ _ | refine blk_drew ?_ | refine blk_alloc ?_ _)); refine blk_put (cs := #[.bool false, .slice none 0 0]) ?_ 0 _ rfl; (with_reducible repeat (first | refine blk_drewN ?_ _ | refine blk_drew ?_ | refine blk_alloc ?_ _)); exact BK270.out) Tryz.underlying49 rfl (by kernel_rfl)) rfl ?_
 exact ⟨_, eqR, by (with_reducible repeat (first | apply Kd.R_alloc | apply Kd.R_drewN | apply Kd.R_drew)); exact Kd.R_mono (Kd.R_far (p := ⟨gb270, 1, none⟩) (Kd.R_far (p := ⟨gb270, 0, none⟩) (Kd.R_types HO277.out BK270.out (by decide)) (fun _ hk => hk.2) (.bool t274)) (fun _ hk => hk.2) (.slice Ao12 t275.length co12)) (fun _ hk => trivial), bB⟩
def zigguratref01_limb.f (l0 : List Int) (a1 : Int) : Option (Int) := if a1 < 0 then (some 0) else (if a1 ≥ (l0.length : Int) then (some 0) else (if 0 ≤ a1 then (if a1 < (l0.length : Int) then (some (IntKind.u64.wrap (rd l0 a1))) else (none)) else (none)))
theorem zigguratref01_limb.calls (A0 : Option Addr) (c0 : Nat) (l0 : List Int) (a1 : Int) (r : Int) (w : World) (hr0 : Kd.C (Kd.int .u32) w A0 l0.length l0) (hc0 : l0.length ≤ c0) (h : zigguratref01_limb.f l0 a1 = some r) :
   Calls Tryz.prog 84 #[.slice A0 l0.length c0, .int .i64 a1] w fun e w' => e = .returned (.int .u64 r) ∧ Drawn0 w w' := by
 have HR0 := am hr0
 have HC0 := am hc0
 clear hr0 hc0
 have H := h; unfold zigguratref01_limb.f at H
 clear h
 by_cases c3 : a1 < 0
 · rw [if_pos c3] at H
   have c3b0 : decide (a1 < 0) = true := decide_eq_true c3
   clear c3
   obtain rfl := Option.some.inj H
   go_enter Tryz.func84, Tryz.ntmps84
   go_wp2
   go_ret
   exact ⟨eqS, dR⟩
 rw [if_neg c3] at H
 have c3b0 : decide (a1 < 0) = false := decide_eq_false c3
 clear c3
 by_cases c4 : a1 ≥ (l0.length : Int)
 · rw [if_pos c4] at H
   have c4b0 : decide ((l0.length : Int) ≤ a1) = true := decide_eq_true c4
   clear c4
   obtain rfl := Option.some.inj H
   go_enter Tryz.func84, Tryz.ntmps84
   go_wp2
   go_ret
   exact ⟨eqS, dR⟩
 rw [if_neg c4] at H
 have c4b0 : decide ((l0.length : Int) ≤ a1) = false := decide_eq_false c4
 clear c4
 by_cases c5 : 0 ≤ a1
 case neg => exact nn c5 H
 rw [if_pos c5] at H
 have c5b0 : decide (0 ≤ a1) = true := decide_eq_true c5
 clear c5
 by_cases c6 : a1 < (l0.length : Int)
 case neg => exact nn c6 H
 rw [if_pos c6] at H
 have c6b0 : decide (a1 < (l0.length : Int)) = true := decide_eq_true c6
 clear c6
 obtain rfl := Option.some.inj H
 have p278 : 0 ≤ (a1 : Int) := of_decide_eq_true as_
 have q278 : a1 < (l0.length : Int) := of_decide_eq_true as_
 obtain ⟨ad278, e278, hx278_0⟩ := Kd.at_int HR0.out a1 p278 q278
 cases e278
 replace p278 := eq_true p278
 replace q278 := eq_true q278
 go_enter Tryz.func84, Tryz.ntmps84
 go_wp2
 go_ret
 exact ⟨eqS, dR⟩
def zigguratref01_Cmp.l0 : Nat → List Int → List Int → Int → Option (Int)
 | 0, _, _, _ => none
 | k + 1, x0, x1, x5 => if x5 ≥ 0 then ((zigguratref01_limb.f x0 x5).bind fun t279 => ((zigguratref01_limb.f x1 x5).bind fun t280 => (if t279 < t280 then (some (-1)) else ((zigguratref01_limb.f x0 x5).bind fun t281 => ((zigguratref01_limb.f x1 x5).bind fun t282 => (if t281 > t282 then (some 1) else (zigguratref01_Cmp.l0 k x0 x1 (wrap64 (x5 - 1))))))))) else (some 0)
def zigguratref01_Cmp.f (k : Nat) (l0 : List Int) (l1 : List Int) : Option (Int) := zigguratref01_Cmp.l0 k l0 l1 (wrap64 ((mx (l0.length : Int) (l1.length : Int)) - 1))
theorem zigguratref01_Cmp.calls (k : Nat) (A0 : Option Addr) (c0 : Nat) (l0 : List Int) (A1 : Option Addr) (c1 : Nat) (l1 : List Int) (r : Int) (w : World) (hr0 : Kd.C (Kd.int .u32) w A0 l0.length l0) (hc0 : l0.length ≤ c0) (hr1 : Kd.C (Kd.int .u32) w A1 l1.length l1) (hc1 : l1.length ≤ c1) (h : zigguratref01_Cmp.f k l0 l1 = some r) :
   Calls Tryz.prog 85 #[.slice A0 l0.length c0, .slice A1 l1.length c1] w fun e w' => e = .returned (.int .i64 r) ∧ Below w.heap.size w w' := by
 have HR0 := am hr0
 have HC0 := am hc0
 clear hr0 hc0
 have HR1 := am hr1
 have HC1 := am hc1
 clear hr1 hc1
 have HB := am (Below.refl w.heap.size w)
 have H := h; unfold zigguratref01_Cmp.f at H
 clear h
 obtain ⟨ji3, hji3⟩ : ∃ j_ : Int, (mx (l0.length : Int) (l1.length : Int)) = j_ := ⟨_, rfl⟩
 replace H : (zigguratref01_Cmp.l0 k l0 l1 (wrap64 ((ji3) - 1))) = some r := by first | (rw [hji3] at H; exact H) | (simp only [hji3] at H ⊢; exact H)
 (try (have hji3l : 0 ≤ ji3 := by (rw [← hji3]; unfold mx; (repeat' split) <;> omega)))
 (try (have hji3m : 0 ≤ ji3 := by omega))
 have hji3_ : (if (l0.length : Int) < (l1.length : Int) then (l1.length : Int) else (l0.length : Int)) = ji3 := hji3
 have hji3n_ := hji3_
 (try simp only [Int.ofNat_lt] at hji3n_)
 have H' := am H
 clear H
 go_enter Tryz.func85, Tryz.ntmps85
 go_wp2
 go_loopg [5] k (fun kq v5 w' => ∃ (x5_1 : Int), v5 = .int .i64 x5_1 ∧ Aside0 (zigguratref01_Cmp.l0 kq l0 l1 x5_1 = some r) ∧ Aside0 (kq ≤ k) ∧ Aside0 (Below w.heap.size w w'))
 case atStart => exact ⟨(wrap64 ((ji3) - 1)), (by first | rfl | (simp; done) | (simp only [← hji3] <;> (first | rfl | simp)) | (simp [*]; done)), H', ⟨Nat.le_refl _⟩, ⟨bB⟩⟩
 clear H'
 (try clear c1); (try clear p2)
 obtain ⟨x5_1, rfl, HA, HK1, HB⟩ := hrel
 rcases gk with _ | k1
 · exact absurd HA.out (by simp [zigguratref01_Cmp.l0])
 have H := HA.out
 clear HA
 simp only [zigguratref01_Cmp.l0] at H
 by_cases c4 : x5_1 ≥ 0
 case neg =>
   rw [if_neg c4] at H
   have c4b0 : decide (0 ≤ x5_1) = false := decide_eq_false c4
   clear c4
   obtain rfl := Option.some.inj H
   go_wp2
   go_ret
   exact ⟨by first | rfl | (simp [errW_none, errW_some] <;> rfl) | (simp only [← hji3]; first | rfl | (simp [errW_none, errW_some] <;> rfl)) | (simp [*, errW_none, errW_some] <;> rfl), bB⟩
 rw [if_pos c4] at H
 have c4b0 : decide (0 ≤ x5_1) = true := decide_eq_true c4
 clear c4
 obtain ⟨t279, A50, H⟩ := Option.bind_eq_some_iff.mp H
 try dsimp only at H
 have A5 := am A50
 clear A50
 obtain ⟨t280, A60, H⟩ := Option.bind_eq_some_iff.mp H
 try dsimp only at H
 have A6 := am A60
 clear A60
 by_cases c7 : t279 < t280
 · rw [if_pos c7] at H
   have c7b0 : decide (t279 < t280) = true := decide_eq_true c7
   clear c7
   obtain rfl := Option.some.inj H
   go_wp2_with (first | ((with_reducible refine gate_callee (f := 84) rfl ?_); refine goesA (some 18) Tryz.func84 #[.slice A0 l0.length c0, .int .i64 x5_1] ?_; (with_reducible refine (zigguratref01_limb.calls _ _ l0 x5_1 t279 _ ?side1 ?side2 A5.out).mono ?_); (case side1 => exact kC2 ((Kd.C_below HR0.out HB.out))); (case side2 => exact HC0.out); rintro e w' ⟨rfl, ⟨nd, rfl⟩⟩; refine ⟨_, rfl, ?_⟩) | ((with_reducible refine gate_callee (f := 84) rfl ?_); refine goesA (some 21) Tryz.func84 #[.slice A1 l1.length c1, .int .i64 x5_1] ?_; (with_reducible refine (zigguratref01_limb.calls _ _ l1 x5_1 t280 _ ?side1 ?side2 A6.out).mono ?_); (case side1 => exact kC2 ((Kd.C_below HR1.out bB))); (case side2 => exact HC1.out); rintro e w' ⟨rfl, ⟨nd, rfl⟩⟩; refine ⟨_, rfl, ?_⟩))
   go_ret
   exact ⟨by first | rfl | (simp [errW_none, errW_some] <;> rfl) | (simp only [← hji3]; first | rfl | (simp [errW_none, errW_some] <;> rfl)) | (simp [*, errW_none, errW_some] <;> rfl), bB⟩
 rw [if_neg c7] at H
 have c7b0 : decide (t279 < t280) = false := decide_eq_false c7
 clear c7
 obtain ⟨t281, A80, H⟩ := Option.bind_eq_some_iff.mp H
 try dsimp only at H
 have A8 := am A80
 clear A80
 obtain ⟨t282, A90, H⟩ := Option.bind_eq_some_iff.mp H
 try dsimp only at H
 have A9 := am A90
 clear A90
 by_cases c10 : t281 > t282
 · rw [if_pos c10] at H
   have c10b0 : decide (t282 < t281) = true := decide_eq_true c10
   clear c10
   obtain rfl := Option.some.inj H
   go_wp2_with (first | ((with_reducible refine gate_callee (f := 84) rfl ?_); refine goesA (some 18) Tryz.func84 #[.slice A0 l0.length c0, .int .i64 x5_1] ?_; (with_reducible refine (zigguratref01_limb.calls _ _ l0 x5_1 t279 _ ?side1 ?side2 A5.out).mono ?_); (case side1 => exact kC2 ((Kd.C_below HR0.out HB.out))); (case side2 => exact HC0.out); rintro e w' ⟨rfl, ⟨nd, rfl⟩⟩; refine ⟨_, rfl, ?_⟩) | ((with_reducible refine gate_callee (f := 84) rfl ?_); refine goesA (some 21) Tryz.func84 #[.slice A1 l1.length c1, .int .i64 x5_1] ?_; (with_reducible refine (zigguratref01_limb.calls _ _ l1 x5_1 t280 _ ?side1 ?side2 A6.out).mono ?_); (case side1 => exact kC2 ((Kd.C_below HR1.out bB))); (case side2 => exact HC1.out); rintro e w' ⟨rfl, ⟨nd, rfl⟩⟩; refine ⟨_, rfl, ?_⟩) | ((with_reducible refine gate_callee (f := 84) rfl ?_); refine goesA (some 25) Tryz.func84 #[.slice A0 l0.length c0, .int .i64 x5_1] ?_; (with_reducible refine (zigguratref01_limb.calls _ _ l0 x5_1 t281 _ ?side1 ?side2 A8.out).mono ?_); (case side1 => exact kC2 ((Kd.C_below HR0.out bB))); (case side2 => exact HC0.out); rintro e w' ⟨rfl, ⟨nd, rfl⟩⟩; refine ⟨_, rfl, ?_⟩) | ((with_reducible refine gate_callee (f := 84) rfl ?_); refine goesA (some 28) Tryz.func84 #[.slice A1 l1.length c1, .int .i64 x5_1] ?_; (with_reducible refine (zigguratref01_limb.calls _ _ l1 x5_1 t282 _ ?side1 ?side2 A9.out).mono ?_); (case side1 => exact kC2 ((Kd.C_below HR1.out bB))); (case side2 => exact HC1.out); rintro e w' ⟨rfl, ⟨nd, rfl⟩⟩; refine ⟨_, rfl, ?_⟩))
   go_ret
   exact ⟨by first | rfl | (simp [errW_none, errW_some] <;> rfl) | (simp only [← hji3]; first | rfl | (simp [errW_none, errW_some] <;> rfl)) | (simp [*, errW_none, errW_some] <;> rfl), bB⟩
 rw [if_neg c10] at H
 have c10b0 : decide (t282 < t281) = false := decide_eq_false c10
 clear c10
 have H' := am H
 clear H
 go_wp2_with (first | ((with_reducible refine gate_callee (f := 84) rfl ?_); refine goesA (some 18) Tryz.func84 #[.slice A0 l0.length c0, .int .i64 x5_1] ?_; (with_reducible refine (zigguratref01_limb.calls _ _ l0 x5_1 t279 _ ?side1 ?side2 A5.out).mono ?_); (case side1 => exact kC2 ((Kd.C_below HR0.out HB.out))); (case side2 => exact HC0.out); rintro e w' ⟨rfl, ⟨nd, rfl⟩⟩; refine ⟨_, rfl, ?_⟩) | ((with_reducible refine gate_callee (f := 84) rfl ?_); refine goesA (some 21) Tryz.func84 #[.slice A1 l1.length c1, .int .i64 x5_1] ?_; (with_reducible refine (zigguratref01_limb.calls _ _ l1 x5_1 t280 _ ?side1 ?side2 A6.out).mono ?_); (case side1 => exact kC2 ((Kd.C_below HR1.out bB))); (case side2 => exact HC1.out); rintro e w' ⟨rfl, ⟨nd, rfl⟩⟩; refine ⟨_, rfl, ?_⟩) | ((with_reducible refine gate_callee (f := 84) rfl ?_); refine goesA (some 25) Tryz.func84 #[.slice A0 l0.length c0, .int .i64 x5_1] ?_; (with_reducible refine (zigguratref01_limb.calls _ _ l0 x5_1 t281 _ ?side1 ?side2 A8.out).mono ?_); (case side1 => exact kC2 ((Kd.C_below HR0.out bB))); (case side2 => exact HC0.out); rintro e w' ⟨rfl, ⟨nd, rfl⟩⟩; refine ⟨_, rfl, ?_⟩) | ((with_reducible refine gate_callee (f := 84) rfl ?_); refine goesA (some 28) Tryz.func84 #[.slice A1 l1.length c1, .int .i64 x5_1] ?_; (with_reducible refine (zigguratref01_limb.calls _ _ l1 x5_1 t282 _ ?side1 ?side2 A9.out).mono ?_); (case side1 => exact kC2 ((Kd.C_below HR1.out bB))); (case side2 => exact HC1.out); rintro e w' ⟨rfl, ⟨nd, rfl⟩⟩; refine ⟨_, rfl, ?_⟩))
 first | go_roundg k1 | (subst hji3; go_roundg k1)
 case measure => have := HK1.out; omega
 case rel => exact ⟨(wrap64 (x5_1 - 1)), eqS, (by first | exact H' | (subst_vars; exact H')), ⟨by have := HK1.out; omega⟩, ⟨bB⟩⟩
def zigguratref06_Cmp.f (k : Nat) (a0_0 : Bool) (l0_1 : List Int) (a1_0 : Bool) (l1_1 : List Int) : Option (Int) := if (a0_0 != a1_0) = true then (if a0_0 = true then (some (-1)) else (some 1)) else (if a0_0 = true then ((zigguratref01_Cmp.f k l1_1 l0_1).bind fun t285 => (some t285)) else ((zigguratref01_Cmp.f k l0_1 l1_1).bind fun t286 => (some t286)))
theorem zigguratref06_Cmp.calls (k : Nat) (a0_0 : Bool) (A0_1 : Option Addr) (c0_1 : Nat) (l0_1 : List Int) (a1_0 : Bool) (A1_1 : Option Addr) (c1_1 : Nat) (l1_1 : List Int) (r : Int) (w : World) (hr0_1 : Kd.C (Kd.int .u32) w A0_1 l0_1.length l0_1) (hc0_1 : l0_1.length ≤ c0_1) (hr1_1 : Kd.C (Kd.int .u32) w A1_1 l1_1.length l1_1) (hc1_1 : l1_1.length ≤ c1_1) (h : zigguratref06_Cmp.f k a0_0 l0_1 a1_0 l1_1 = some r) :
   Calls Tryz.prog 71 #[.agg #[.bool a0_0, .slice A0_1 l0_1.length c0_1], .agg #[.bool a1_0, .slice A1_1 l1_1.length c1_1]] w fun e w' => e = .returned (.int .i64 r) ∧ Below w.heap.size w w' := by
 have hu49 := Tryz.underlying49
 have HR0_1 := am hr0_1
 have HC0_1 := am hc0_1
 clear hr0_1 hc0_1
 have HR1_1 := am hr1_1
 have HC1_1 := am hc1_1
 clear hr1_1 hc1_1
 have HB := am (Below.refl w.heap.size w)
 have H := h; unfold zigguratref06_Cmp.f at H
 clear h
 by_cases c3 : (a0_0 != a1_0) = true
 · rw [if_pos c3] at H
   have c3b0 : (a0_0 != a1_0) = true := c3
   (try (have c3b1 : decide (a0_0 = a1_0) = false := by simpa using c3))
   (try (have c3b2 : (a0_0 == a1_0) = false := by simpa using c3))
   (try (have c3b3 : ¬ (a0_0 = a1_0) := by simpa using c3))
   clear c3
   by_cases c4 : a0_0 = true
   · subst c4
     have H1 : (some (-1)) = some r := by rw [if_pos rfl] at H; exact H
     clear H
     have H := H1
     clear H1
     obtain rfl := Option.some.inj H
     go_enter Tryz.func71, Tryz.ntmps71
     go_wp2_with (first | ((with_reducible refine gate_dst (N := 2) rfl ?_); refine boxE (N := 2) (cs := #[.bool true, .slice A0_1 l0_1.length c0_1]) (t := 49) ?_; intro gb283 hg w5 hbox hb; have n0_ := am (below_step bB hb); have n1_ := am (hbox); have n2_ := am ((by rw [hg]; exact (below_size bB) : w.heap.size ≤ gb283)); have n3_ := am ((by rw [hg]; exact (below_size bB) : w.heap.size ≤ gb283)); clear HB; have HB := n0_; have BK283 := n1_; have GW283 := n2_; have GE283 := n3_; clear n0_ n1_ n2_ n3_; clear hb hbox hg) | ((with_reducible refine gate_dst (N := 3) rfl ?_); refine boxE (N := 3) (cs := #[.bool a1_0, .slice A1_1 l1_1.length c1_1]) (t := 49) ?_; intro gb284 hg w6 hbox hb; have n0_ := am (blk_below (g := gb283) (o := .cells #[.bool true, .slice A0_1 l0_1.length c0_1] 49 (0, 0)) (bk BK283.out) hb); have n1_ := am (below_step bB hb); have n2_ := am (hbox); have n3_ := am ((by rw [hg]; exact (below_size bB) : w.heap.size ≤ gb284)); have n4_ := am ((by rw [hg]; exact (below_size bB) : w.heap.size ≤ gb284)); have n5_ := am ((by rw [hg]; exact Nat.ne_of_lt (blk_lt (g := gb283) (o := .cells #[.bool true, .slice A0_1 l0_1.length c0_1] 49 (0, 0)) (bk BK283.out)) : gb283 ≠ gb284)); have n6_ := am ((by rw [hg]; exact Nat.ne_of_gt (blk_lt (g := gb283) (o := .cells #[.bool true, .slice A0_1 l0_1.length c0_1] 49 (0, 0)) (bk BK283.out)) : gb284 ≠ gb283)); clear BK283; clear HB; have BK283 := n0_; have HB := n1_; have BK284 := n2_; have GW284 := n3_; have GE284 := n4_; have NB283_284 := n5_; have NB284_283 := n6_; clear n0_ n1_ n2_ n3_ n4_ n5_ n6_; clear hb hbox hg; have hnb7 := NB283_284.out; have hnc7 := NB284_283.out; have hcz8_0 : w6.cell? ⟨gb283, 0, none⟩ = some (.bool true) := (blk_cell BK283.out 0).trans rfl; have hcz8_1 : w6.cell? ⟨gb283, 1, none⟩ = some (.slice A0_1 l0_1.length c0_1) := (blk_cell BK283.out 1).trans rfl; have hfz8_0 := blk_frozen BK283.out 0; have hfz8_1 := blk_frozen BK283.out 1; have hcz9_0 : w6.cell? ⟨gb284, 0, none⟩ = some (.bool a1_0) := (blk_cell BK284.out 0).trans rfl; have hcz9_1 : w6.cell? ⟨gb284, 1, none⟩ = some (.slice A1_1 l1_1.length c1_1) := (blk_cell BK284.out 1).trans rfl; have hfz9_0 := blk_frozen BK284.out 0; have hfz9_1 := blk_frozen BK284.out 1))
     go_ret
     exact ⟨eqR, bB⟩
   replace c4 := Bool.eq_false_iff.mpr c4
   subst c4
   have H1 : (some 1) = some r := by rw [if_neg (show ¬ (false = true) by decide)] at H; exact H
   clear H
   have H := H1
   clear H1
   obtain rfl := Option.some.inj H
   go_enter Tryz.func71, Tryz.ntmps71
   go_wp2_with (first | ((with_reducible refine gate_dst (N := 2) rfl ?_); refine boxE (N := 2) (cs := #[.bool false, .slice A0_1 l0_1.length c0_1]) (t := 49) ?_; intro gb283 hg w10 hbox hb; have n0_ := am (below_step bB hb); have n1_ := am (hbox); have n2_ := am ((by rw [hg]; exact (below_size bB) : w.heap.size ≤ gb283)); have n3_ := am ((by rw [hg]; exact (below_size bB) : w.heap.size ≤ gb283)); clear HB; have HB := n0_; have BK283 := n1_; have GW283 := n2_; have GE283 := n3_; clear n0_ n1_ n2_ n3_; clear hb hbox hg) | ((with_reducible refine gate_dst (N := 3) rfl ?_); refine boxE (N := 3) (cs := #[.bool a1_0, .slice A1_1 l1_1.length c1_1]) (t := 49) ?_; intro gb284 hg w11 hbox hb; have n0_ := am (blk_below (g := gb283) (o := .cells #[.bool false, .slice A0_1 l0_1.length c0_1] 49 (0, 0)) (bk BK283.out) hb); have n1_ := am (below_step bB hb); have n2_ := am (hbox); have n3_ := am ((by rw [hg]; exact (below_size bB) : w.heap.size ≤ gb284)); have n4_ := am ((by rw [hg]; exact (below_size bB) : w.heap.size ≤ gb284)); have n5_ := am ((by rw [hg]; exact Nat.ne_of_lt (blk_lt (g := gb283) (o := .cells #[.bool false, .slice A0_1 l0_1.length c0_1] 49 (0, 0)) (bk BK283.out)) : gb283 ≠ gb284)); have n6_ := am ((by rw [hg]; exact Nat.ne_of_gt (blk_lt (g := gb283) (o := .cells #[.bool false, .slice A0_1 l0_1.length c0_1] 49 (0, 0)) (bk BK283.out)) : gb284 ≠ gb283)); clear BK283; clear HB; have BK283 := n0_; have HB := n1_; have BK284 := n2_; have GW284 := n3_; have GE284 := n4_; have NB283_284 := n5_; have NB284_283 := n6_; clear n0_ n1_ n2_ n3_ n4_ n5_ n6_; clear hb hbox hg; have hnb12 := NB283_284.out; have hnc12 := NB284_283.out; have hcz13_0 : w11.cell? ⟨gb283, 0, none⟩ = some (.bool false) := (blk_cell BK283.out 0).trans rfl; have hcz13_1 : w11.cell? ⟨gb283, 1, none⟩ = some (.slice A0_1 l0_1.length c0_1) := (blk_cell BK283.out 1).trans rfl; have hfz13_0 := blk_frozen BK283.out 0; have hfz13_1 := blk_frozen BK283.out 1; have hcz14_0 : w11.cell? ⟨gb284, 0, none⟩ = some (.bool a1_0) := (blk_cell BK284.out 0).trans rfl; have hcz14_1 : w11.cell? ⟨gb284, 1, none⟩ = some (.slice A1_1 l1_1.length c1_1) := (blk_cell BK284.out 1).trans rfl; have hfz14_0 := blk_frozen BK284.out 0; have hfz14_1 := blk_frozen BK284.out 1))
   go_ret
   exact ⟨eqR, bB⟩
 rw [if_neg c3] at H
 have c3b0 : (a0_0 != a1_0) = false := by simpa using c3
 (try (have c3b1 : decide (a0_0 = a1_0) = true := by simpa using c3))
 (try (have c3b2 : (a0_0 == a1_0) = true := by simpa using c3))
 clear c3
 by_cases c15 : a0_0 = true
 · subst c15
   have H1 : ((zigguratref01_Cmp.f k l1_1 l0_1).bind fun t285 => (some t285)) = some r := by rw [if_pos rfl] at H; exact H
   clear H
   have H := H1
   clear H1
   obtain ⟨t285, A160, H⟩ := Option.bind_eq_some_iff.mp H
   replace H : (some t285) = some r := H
   have A16 := am A160
   clear A160
   obtain rfl := Option.some.inj H
   go_enter Tryz.func71, Tryz.ntmps71
   go_wp2_with (first | ((with_reducible refine gate_dst (N := 2) rfl ?_); refine boxE (N := 2) (cs := #[.bool true, .slice A0_1 l0_1.length c0_1]) (t := 49) ?_; intro gb283 hg w17 hbox hb; have n0_ := am (below_step bB hb); have n1_ := am (hbox); have n2_ := am ((by rw [hg]; exact (below_size bB) : w.heap.size ≤ gb283)); have n3_ := am ((by rw [hg]; exact (below_size bB) : w.heap.size ≤ gb283)); clear HB; have HB := n0_; have BK283 := n1_; have GW283 := n2_; have GE283 := n3_; clear n0_ n1_ n2_ n3_; clear hb hbox hg) | ((with_reducible refine gate_dst (N := 3) rfl ?_); refine boxE (N := 3) (cs := #[.bool a1_0, .slice A1_1 l1_1.length c1_1]) (t := 49) ?_; intro gb284 hg w18 hbox hb; have n0_ := am (blk_below (g := gb283) (o := .cells #[.bool true, .slice A0_1 l0_1.length c0_1] 49 (0, 0)) (bk BK283.out) hb); have n1_ := am (below_step bB hb); have n2_ := am (hbox); have n3_ := am ((by rw [hg]; exact (below_size bB) : w.heap.size ≤ gb284)); have n4_ := am ((by rw [hg]; exact (below_size bB) : w.heap.size ≤ gb284)); have n5_ := am ((by rw [hg]; exact Nat.ne_of_lt (blk_lt (g := gb283) (o := .cells #[.bool true, .slice A0_1 l0_1.length c0_1] 49 (0, 0)) (bk BK283.out)) : gb283 ≠ gb284)); have n6_ := am ((by rw [hg]; exact Nat.ne_of_gt (blk_lt (g := gb283) (o := .cells #[.bool true, .slice A0_1 l0_1.length c0_1] 49 (0, 0)) (bk BK283.out)) : gb284 ≠ gb283)); clear BK283; clear HB; have BK283 := n0_; have HB := n1_; have BK284 := n2_; have GW284 := n3_; have GE284 := n4_; have NB283_284 := n5_; have NB284_283 := n6_; clear n0_ n1_ n2_ n3_ n4_ n5_ n6_; clear hb hbox hg; have hnb19 := NB283_284.out; have hnc19 := NB284_283.out; have hcz20_0 : w18.cell? ⟨gb283, 0, none⟩ = some (.bool true) := (blk_cell BK283.out 0).trans rfl; have hcz20_1 : w18.cell? ⟨gb283, 1, none⟩ = some (.slice A0_1 l0_1.length c0_1) := (blk_cell BK283.out 1).trans rfl; have hfz20_0 := blk_frozen BK283.out 0; have hfz20_1 := blk_frozen BK283.out 1; have hcz21_0 : w18.cell? ⟨gb284, 0, none⟩ = some (.bool a1_0) := (blk_cell BK284.out 0).trans rfl; have hcz21_1 : w18.cell? ⟨gb284, 1, none⟩ = some (.slice A1_1 l1_1.length c1_1) := (blk_cell BK284.out 1).trans rfl; have hfz21_0 := blk_frozen BK284.out 0; have hfz21_1 := blk_frozen BK284.out 1) | ((with_reducible refine gate_callee (f := 85) rfl ?_); refine goesA (some 18) Tryz.func85 #[.slice A1_1 l1_1.length c1_1, .slice A0_1 l0_1.length c0_1] ?_; (with_reducible refine (zigguratref01_Cmp.calls k _ _ l1_1 _ _ l0_1 t285 _ ?side1 ?side2 ?side3 ?side4 A16.out).mono ?_); (case side1 => exact kC2 ((Kd.C_below HR1_1.out HB.out))); (case side2 => exact HC1_1.out); (case side3 => exact kC2 ((Kd.C_below HR0_1.out HB.out))); (case side4 => exact HC0_1.out); rintro e w22 ⟨rfl, hb⟩; refine ⟨_, rfl, ?_⟩; have n0_ := am (blk_below (g := gb283) (o := .cells #[.bool true, .slice A0_1 l0_1.length c0_1] 49 (0, 0)) (bk BK283.out) hb); have n1_ := am (blk_below (g := gb284) (o := .cells #[.bool a1_0, .slice A1_1 l1_1.length c1_1] 49 (0, 0)) (bk BK284.out) hb); have n2_ := am (below_step bB hb); clear BK283; clear BK284; clear HB; have BK283 := n0_; have BK284 := n1_; have HB := n2_; clear n0_ n1_ n2_; (try clear hb); (try clear hb2); (try clear hk); (try clear hi)))
   go_ret
   exact ⟨eqR, bB⟩
 replace c15 := Bool.eq_false_iff.mpr c15
 subst c15
 have H1 : ((zigguratref01_Cmp.f k l0_1 l1_1).bind fun t286 => (some t286)) = some r := by rw [if_neg (show ¬ (false = true) by decide)] at H; exact H
 clear H
 have H := H1
 clear H1
 obtain ⟨t286, A230, H⟩ := Option.bind_eq_some_iff.mp H
 replace H : (some t286) = some r := H
 have A23 := am A230
 clear A230
 obtain rfl := Option.some.inj H
 go_enter Tryz.func71, Tryz.ntmps71
 go_wp2_with (first | ((with_reducible refine gate_dst (N := 2) rfl ?_); refine boxE (N := 2) (cs := #[.bool false, .slice A0_1 l0_1.length c0_1]) (t := 49) ?_; intro gb283 hg w24 hbox hb; have n0_ := am (below_step bB hb); have n1_ := am (hbox); have n2_ := am ((by rw [hg]; exact (below_size bB) : w.heap.size ≤ gb283)); have n3_ := am ((by rw [hg]; exact (below_size bB) : w.heap.size ≤ gb283)); clear HB; have HB := n0_; have BK283 := n1_; have GW283 := n2_; have GE283 := n3_; clear n0_ n1_ n2_ n3_; clear hb hbox hg) | ((with_reducible refine gate_dst (N := 3) rfl ?_); refine boxE (N := 3) (cs := #[.bool a1_0, .slice A1_1 l1_1.length c1_1]) (t := 49) ?_; intro gb284 hg w25 hbox hb; have n0_ := am (blk_below (g := gb283) (o := .cells #[.bool false, .slice A0_1 l0_1.length c0_1] 49 (0, 0)) (bk BK283.out) hb); have n1_ := am (below_step bB hb); have n2_ := am (hbox); have n3_ := am ((by rw [hg]; exact (below_size bB) : w.heap.size ≤ gb284)); have n4_ := am ((by rw [hg]; exact (below_size bB) : w.heap.size ≤ gb284)); have n5_ := am ((by rw [hg]; exact Nat.ne_of_lt (blk_lt (g := gb283) (o := .cells #[.bool false, .slice A0_1 l0_1.length c0_1] 49 (0, 0)) (bk BK283.out)) : gb283 ≠ gb284)); have n6_ := am ((by rw [hg]; exact Nat.ne_of_gt (blk_lt (g := gb283) (o := .cells #[.bool false, .slice A0_1 l0_1.length c0_1] 49 (0, 0)) (bk BK283.out)) : gb284 ≠ gb283)); clear BK283; clear HB; have BK283 := n0_; have HB := n1_; have BK284 := n2_; have GW284 := n3_; have GE284 := n4_; have NB283_284 := n5_; have NB284_283 := n6_; clear n0_ n1_ n2_ n3_ n4_ n5_ n6_; clear hb hbox hg; have hnb26 := NB283_284.out; have hnc26 := NB284_283.out; have hcz27_0 : w25.cell? ⟨gb283, 0, none⟩ = some (.bool false) := (blk_cell BK283.out 0).trans rfl; have hcz27_1 : w25.cell? ⟨gb283, 1, none⟩ = some (.slice A0_1 l0_1.length c0_1) := (blk_cell BK283.out 1).trans rfl; have hfz27_0 := blk_frozen BK283.out 0; have hfz27_1 := blk_frozen BK283.out 1; have hcz28_0 : w25.cell? ⟨gb284, 0, none⟩ = some (.bool a1_0) := (blk_cell BK284.out 0).trans rfl; have hcz28_1 : w25.cell? ⟨gb284, 1, none⟩ = some (.slice A1_1 l1_1.length c1_1) := (blk_cell BK284.out 1).trans rfl; have hfz28_0 := blk_frozen BK284.out 0; have hfz28_1 := blk_frozen BK284.out 1) | ((with_reducible refine gate_callee (f := 85) rfl ?_); refine goesA (some 23) Tryz.func85 #[.slice A0_1 l0_1.length c0_1, .slice A1_1 l1_1.length c1_1] ?_; (with_reducible refine (zigguratref01_Cmp.calls k _ _ l0_1 _ _ l1_1 t286 _ ?side1 ?side2 ?side3 ?side4 A23.out).mono ?_); (case side1 => exact kC2 ((Kd.C_below HR0_1.out HB.out))); (case side2 => exact HC0_1.out); (case side3 => exact kC2 ((Kd.C_below HR1_1.out HB.out))); (case side4 => exact HC1_1.out); rintro e w29 ⟨rfl, hb⟩; refine ⟨_, rfl, ?_⟩; have n0_ := am (blk_below (g := gb283) (o := .cells #[.bool false, .slice A0_1 l0_1.length c0_1] 49 (0, 0)) (bk BK283.out) hb); have n1_ := am (blk_below (g := gb284) (o := .cells #[.bool a1_0, .slice A1_1 l1_1.length c1_1] 49 (0, 0)) (bk BK284.out) hb); have n2_ := am (below_step bB hb); clear BK283; clear BK284; clear HB; have BK283 := n0_; have BK284 := n1_; have HB := n2_; clear n0_ n1_ n2_; (try clear hb); (try clear hb2); (try clear hk); (try clear hi)))
 go_ret
 exact ⟨eqR, bB⟩
def zigguratref06_Sign.f (k : Nat) (a0_0 : Bool) (l0_1 : List Int) : Option (Int) := (zigguratref06_Cmp.f k a0_0 l0_1 false ([] : List Int)).bind fun t288 => (some t288)
theorem zigguratref06_Sign.calls (k : Nat) (a0_0 : Bool) (A0_1 : Option Addr) (c0_1 : Nat) (l0_1 : List Int) (r : Int) (w : World) (hr0_1 : Kd.C (Kd.int .u32) w A0_1 l0_1.length l0_1) (hc0_1 : l0_1.length ≤ c0_1) (h : zigguratref06_Sign.f k a0_0 l0_1 = some r) :
   Calls Tryz.prog 51 #[.agg #[.bool a0_0, .slice A0_1 l0_1.length c0_1]] w fun e w' => e = .returned (.int .i64 r) ∧ Below w.heap.size w w' := by
 have hu49 := Tryz.underlying49
 have HR0_1 := am hr0_1
 have HC0_1 := am hc0_1
 clear hr0_1 hc0_1
 have HB := am (Below.refl w.heap.size w)
 have H := h; unfold zigguratref06_Sign.f at H
 clear h
 obtain ⟨t288, A20, H⟩ := Option.bind_eq_some_iff.mp H
 replace H : (some t288) = some r := H
 have A2 := am A20
 clear A20
 obtain rfl := Option.some.inj H
 go_enter Tryz.func51, Tryz.ntmps51
 go_wp2_with (first | ((with_reducible refine gate_dst (N := 1) rfl ?_); refine boxE (N := 1) (cs := #[.bool a0_0, .slice A0_1 l0_1.length c0_1]) (t := 49) ?_; intro gb287 hg w3 hbox hb; have n0_ := am (below_step bB hb); have n1_ := am (hbox); have n2_ := am ((by rw [hg]; exact (below_size bB) : w.heap.size ≤ gb287)); have n3_ := am ((by rw [hg]; exact (below_size bB) : w.heap.size ≤ gb287)); clear HB; have HB := n0_; have BK287 := n1_; have GW287 := n2_; have GE287 := n3_; clear n0_ n1_ n2_ n3_; clear hb hbox hg; have hcz4_0 : w3.cell? ⟨gb287, 0, none⟩ = some (.bool a0_0) := (blk_cell BK287.out 0).trans rfl; have hcz4_1 : w3.cell? ⟨gb287, 1, none⟩ = some (.slice A0_1 l0_1.length c0_1) := (blk_cell BK287.out 1).trans rfl; have hfz4_0 := blk_frozen BK287.out 0; have hfz4_1 := blk_frozen BK287.out 1) | ((with_reducible refine gate_callee (f := 71) rfl ?_); refine goesA (some 5) Tryz.func71 #[.agg #[.bool a0_0, .slice A0_1 l0_1.length c0_1], .agg #[.bool false, .slice none 0 0]] ?_; (refine (zigguratref06_Cmp.calls k a0_0 _ _ l0_1 false none 0 ([] : List Int) t288 _ ?side1 ?side2 ?side3 ?side4 A2.out).mono ?_); (case side1 => exact kC2 ((Kd.C_below HR0_1.out HB.out))); (case side2 => exact HC0_1.out); (case side3 => exact Kd.C_nil _ _); (case side4 => exact Nat.le_refl _); rintro e w5 ⟨rfl, hb⟩; refine ⟨_, rfl, ?_⟩; have n0_ := am (blk_below (g := gb287) (o := .cells #[.bool a0_0, .slice A0_1 l0_1.length c0_1] 49 (0, 0)) (bk BK287.out) hb); have n1_ := am (below_step bB hb); clear BK287; clear HB; have BK287 := n0_; have HB := n1_; clear n0_ n1_; (try clear hb); (try clear hb2); (try clear hk); (try clear hi)))
 go_ret
 exact ⟨eqR, bB⟩
mutual
def zigguratref01_Add.l0 : Nat → List Int → List Int → List Int → Int → Int → Option (List Int)
 | 0, _, _, _, _, _ => none
 | k + 1, x0, x1, x5, x6, x7 => if x7 ≤ (x0.length : Int) then (zigguratref01_Add.j1 k x0 x1 x5 x6 x7 true) else (zigguratref01_Add.j1 k x0 x1 x5 x6 x7 (decide (x7 ≤ (x1.length : Int))))
def zigguratref01_Add.j1 : Nat → List Int → List Int → List Int → Int → Int → Bool → Option (List Int)
 | 0, _, _, _, _, _, _ => none
 | k + 1, x0, x1, x5, x6, x7, x19 => if x19 = true then ((zigguratref01_limb.f x0 x7).bind fun t335 => ((zigguratref01_limb.f x1 x7).bind fun t336 => (if x5.length < 35184372088832 then (zigguratref01_Add.l0 k x0 x1 (x5 ++ [(Int.tmod (IntKind.u64.wrap ((IntKind.u64.wrap (t335 + t336)) + x6)) 4294967296) % 4294967296]) (IntKind.u64.wrap (Int.tdiv (IntKind.u64.wrap ((IntKind.u64.wrap (t335 + t336)) + x6)) 4294967296)) (wrap64 (x7 + 1))) else (none)))) else ((zigguratref01_Make.f k x5).bind fun t340 => (some t340))
end
def zigguratref01_Add.f (k : Nat) (l0 : List Int) (l1 : List Int) : Option (List Int) := zigguratref01_Add.l0 k l0 l1 (([] : List Int)) 0 0
theorem zigguratref01_Add.calls (k : Nat) (A0 : Option Addr) (c0 : Nat) (l0 : List Int) (A1 : Option Addr) (c1 : Nat) (l1 : List Int) (r : List Int) (w : World) (hr0 : Kd.C (Kd.int .u32) w A0 l0.length l0) (hc0 : l0.length ≤ c0) (hr1 : Kd.C (Kd.int .u32) w A1 l1.length l1) (hc1 : l1.length ≤ c1) (h : zigguratref01_Add.f k l0 l1 = some r) :
   Calls Tryz.prog 58 #[.slice A0 l0.length c0, .slice A1 l1.length c1] w fun e w' => ∃ v0_ : Value, e = .returned (v0_) ∧ Kd.R (Kd.int .u32) 23 w' w.heap.size (fun _ => True) v0_ r ∧ Below w.heap.size w w' := by
 have HR0 := am hr0
 have HC0 := am hc0
 clear hr0 hc0
 have HR1 := am hr1
 have HC1 := am hc1
 clear hr1 hc1
 have HB := am (Below.refl w.heap.size w)
 have H := h; unfold zigguratref01_Add.f at H
 clear h
 obtain ⟨y332, hy332⟩ : ∃ y_ : List Int, y_ = (([] : List Int)) := ⟨_, rfl⟩
 replace H : (zigguratref01_Add.l0 k l0 l1 y332 0 0) = some r := by first | (rw [hy332]; exact H) | exact H
 have Ny332 := am hy332
 clear hy332
 have H' := am H
 clear H
 go_enter Tryz.func58, Tryz.ntmps58
 go_wp2_with (first | ((with_reducible refine gate_dst (N := 9) rfl ?_); (try (refine gate_guard (by rfl) ?_; dsimp only)); refine Kd.R_lit (Kd.int .u32) _ 23 rF (N := 9) rF (xs := ([] : List Int)) (inner := []) (ok := fun _ => True) (okp := fun _ => True) gF ?hp (fun _ hk => hk) trivial (Below.refl _ _) (Nat.le_refl _) (by simp) ?_; (case hp => exact (Reps.none _ _)); intro v333 w3 ho4 hb hg_ hnew_; clear hg_ hnew_; (first | rw [← Ny332.out] at ho4 | (simp only [Int.reduceToNat] at ho4; rw [← Ny332.out] at ho4)); have n0_ := am (Kd.R_lower ho4 (below_size bB)); have n1_ := am (below_step bB hb); clear HB; have HO334 := n0_; have HB := n1_; clear n0_ n1_; clear hb ho4))
 go_loopg [5, 6, 7] k (fun kq v5 v6 v7 w' => ∃ (x5_1 : List Int) (x6_1 : Int) (x7_1 : Int), v6 = .int .u64 x6_1 ∧ v7 = .int .i64 x7_1 ∧ Aside0 (zigguratref01_Add.l0 kq l0 l1 x5_1 x6_1 x7_1 = some r) ∧ Aside0 (kq ≤ k) ∧ Aside0 (Kd.R (Kd.int .u32) 23 w' w.heap.size (fun _ => True) v5 x5_1) ∧ Aside0 (Below w.heap.size w w'))
 case atStart => exact ⟨(y332), (0), (0), eqS, eqS, H', ⟨Nat.le_refl _⟩, ⟨rR (HO334.out)⟩, ⟨bB⟩⟩
 clear H'
 (try clear c1); (try clear p2)
 obtain ⟨x5_1, x6_1, x7_1, rfl, rfl, HA, HK1, HO_5, HB⟩ := hrel
 rcases gk with _ | k1
 · exact absurd HA.out (by simp [zigguratref01_Add.l0])
 have H := HA.out
 clear HA
 simp only [zigguratref01_Add.l0] at H
 have HC5 := am H
 clear H
 go_upto_region 3 with (fail)
 go_cut [19] (fun v19 wc => ∃ (kq : Nat) (x19_4 : Bool), v19 = .bool x19_4 ∧ Aside0 (zigguratref01_Add.j1 kq l0 l1 x5_1 x6_1 x7_1 x19_4 = some r) ∧ Aside0 (kq ≤ k1) ∧ Aside0 (Kd.R (Kd.int .u32) 23 wc w.heap.size (fun _ => True) u5 x5_1) ∧ Aside0 (Below w.heap.size w wc))
 case first =>
   have H := HC5.out
   clear HC5
   by_cases c6 : x7_1 ≤ (l0.length : Int)
   case neg =>
     rw [if_neg c6] at H
     have c6b0 : decide (x7_1 ≤ (l0.length : Int)) = false := decide_eq_false c6
     clear c6
     (first | rw [c6b0] | (simp only [i64_w, i32_w]; rw [c6b0]) | skip)
     have H' := am H
     clear H
     go_wp2
     go_meet
     case rel => exact ⟨_, (decide (x7_1 ≤ (l1.length : Int))), eqS, (by first | exact H' | (subst_vars; exact H')), ⟨by have := HK1.out; first | omega | exact Nat.le_refl _⟩, ⟨rR (HO_5.out)⟩, ⟨bB⟩⟩
   rw [if_pos c6] at H
   have c6b0 : decide (x7_1 ≤ (l0.length : Int)) = true := decide_eq_true c6
   clear c6
   (first | rw [c6b0] | (simp only [i64_w, i32_w]; rw [c6b0]) | skip)
   have H' := am H
   clear H
   go_wp2
   go_meet
   case rel => exact ⟨_, (true), eqS, (by first | exact H' | (subst_vars; exact H')), ⟨by have := HK1.out; first | omega | exact Nat.le_refl _⟩, ⟨rR (HO_5.out)⟩, ⟨bB⟩⟩
 case rest =>
   clear HC5
   (try clear c1); (try clear p2); (try clear c5); (try clear c6); (try clear c6b0); (try clear p2)
   obtain ⟨kq, x19_4, rfl, HA, HJ4, HO_5, HB⟩ := hcut
   rcases kq with _ | kj4
   · exact absurd HA.out (by simp [zigguratref01_Add.j1])
   have H := HA.out
   clear HA
   simp only [zigguratref01_Add.j1] at H
   by_cases c7 : x19_4 = true
   case neg =>
     replace c7 := Bool.eq_false_iff.mpr c7
     subst c7
     have H1 : ((zigguratref01_Make.f kj4 x5_1).bind fun t340 => (some t340)) = some r := by rw [if_neg (show ¬ (false = true) by decide)] at H; exact H
     clear H
     have H := H1
     clear H1
     obtain ⟨t340, A120, H⟩ := Option.bind_eq_some_iff.mp H
     replace H : (some t340) = some r := H
     have A12 := am A120
     clear A120
     obtain rfl := Option.some.inj H
     obtain ⟨Ao13, co13, eo13⟩ := Kd.R_slice HO_5.out
     subst eo13
     go_wp2_with (first | ((with_reducible refine gate_callee (f := 70) rfl ?_); refine goesA (some 40) Tryz.func70 #[.slice Ao13 x5_1.length co13] ?_; (with_reducible refine (zigguratref01_Make.calls kj4 _ _ x5_1 t340 _ ?side1 ?side2 A12.out).mono ?_); (case side1 => exact kC2 ((Kd.R_reads' HO_5.out).2.2)); (case side2 => exact (Kd.R_reads' HO_5.out).2.1); rintro e w14 ⟨v341, rfl, ho0, hb⟩; refine ⟨_, rfl, ?_⟩; have n0_ := am (Kd.R_elder' (rR HO_5.out) (Kd.R_base ho0) hb); have n1_ := am (Kd.R_lower (Kd.R_new' ho0 (Kd.R_lt (rR HO_5.out))) (below_size bB)); have n2_ := am (below_step bB hb); clear HO_5; clear HB; have HO_5 := n0_; have HO342 := n1_; have HB := n2_; clear n0_ n1_ n2_; (try clear hb); (try clear hb2); (try clear hk); (try clear hi); (try clear ho0)))
     go_ret
     exact ⟨_, eqR, by (with_reducible repeat (first | apply Kd.R_alloc | apply Kd.R_drewN | apply Kd.R_drew)); exact Kd.R_mono HO342.out (fun _ hk => trivial), bB⟩
   subst c7
   have H1 : ((zigguratref01_limb.f l0 x7_1).bind fun t335 => ((zigguratref01_limb.f l1 x7_1).bind fun t336 => (if x5_1.length < 35184372088832 then (zigguratref01_Add.l0 kj4 l0 l1 (x5_1 ++ [(Int.tmod (IntKind.u64.wrap ((IntKind.u64.wrap (t335 + t336)) + x6_1)) 4294967296) % 4294967296]) (IntKind.u64.wrap (Int.tdiv (IntKind.u64.wrap ((IntKind.u64.wrap (t335 + t336)) + x6_1)) 4294967296)) (wrap64 (x7_1 + 1))) else (none)))) = some r := by rw [if_pos rfl] at H; exact H
   clear H
   have H := H1
   clear H1
   obtain ⟨t335, A80, H⟩ := Option.bind_eq_some_iff.mp H
   try dsimp only at H
   have A8 := am A80
   clear A80
   obtain ⟨t336, A90, H⟩ := Option.bind_eq_some_iff.mp H
   try dsimp only at H
   have A9 := am A90
   clear A90
   by_cases c10 : x5_1.length < 35184372088832
   case neg => exact nn c10 H
   rw [if_pos c10] at H
   have LMc10 := am c10
   clear c10
   obtain ⟨y337, hy337⟩ : ∃ y_ : List Int, y_ = (x5_1 ++ [(Int.tmod (IntKind.u64.wrap ((IntKind.u64.wrap (t335 + t336)) + x6_1)) 4294967296) % 4294967296]) := ⟨_, rfl⟩
   replace H : (zigguratref01_Add.l0 kj4 l0 l1 y337 (IntKind.u64.wrap (Int.tdiv (IntKind.u64.wrap ((IntKind.u64.wrap (t335 + t336)) + x6_1)) 4294967296)) (wrap64 (x7_1 + 1))) = some r := by first | (rw [hy337]; exact H) | exact H
   have Ny337 := am hy337
   clear hy337
   have H' := am H
   clear H
   go_wp2_with (first | ((with_reducible refine gate_callee (f := 84) rfl ?_); refine goesA (some 24) Tryz.func84 #[.slice A0 l0.length c0, .int .i64 x7_1] ?_; (with_reducible refine (zigguratref01_limb.calls _ _ l0 x7_1 t335 _ ?side1 ?side2 A8.out).mono ?_); (case side1 => exact kC2 ((Kd.C_below HR0.out HB.out))); (case side2 => exact HC0.out); rintro e w' ⟨rfl, ⟨nd, rfl⟩⟩; refine ⟨_, rfl, ?_⟩) | ((with_reducible refine gate_callee (f := 84) rfl ?_); refine goesA (some 27) Tryz.func84 #[.slice A1 l1.length c1, .int .i64 x7_1] ?_; (with_reducible refine (zigguratref01_limb.calls _ _ l1 x7_1 t336 _ ?side1 ?side2 A9.out).mono ?_); (case side1 => exact kC2 ((Kd.C_below HR1.out bB))); (case side2 => exact HC1.out); rintro e w' ⟨rfl, ⟨nd, rfl⟩⟩; refine ⟨_, rfl, ?_⟩) | ((with_reducible refine gate_builtin (b := .append) (xs := #[.tmp 31, .tmp 35]) rfl ?_); (try (refine gate_guard (by rfl) ?_; dsimp only)); at_builtin; refine Kd.R_append (Kd.int .u32) (w0 := w) w.heap.size rfl (.tmp 31) (.tmp 35) 27 23 (.int .u32 0) 4 rfl Tryz.underlying27 info23 rfl (by decide) (by omega) u5 x5_1 ((Int.tmod (IntKind.u64.wrap ((IntKind.u64.wrap (t335 + t336)) + x6_1)) 4294967296) % 4294967296) [.int .u32 ((Int.tmod (IntKind.u64.wrap ((IntKind.u64.wrap (t335 + t336)) + x6_1)) 4294967296) % 4294967296)] (fun _ => True) (fun _ => False) rfl rfl ?aP (fun _ hk => hk.elim) ?aF ?aO ?aB ?aS ?aL ?_; (case aP => exact rfl); (case aB => exact bB); (case aF => exact (fun _ _ => trivial)); (case aO => exact (rR HO_5.out)); (case aS => exact (below_size bB)); (case aL => have := LMc10.out; omega); intro v338 w11 ho hb hg hat; rw [← Ny337.out] at ho; have n0_ := am (hb); have n1_ := am (ho); clear HB; clear HO_5; have HB := n0_; have HO339 := n1_; clear n0_ n1_; clear ho hb hg hat))
   go_roundg kj4
   case measure => have := HK1.out; have := HJ4.out; omega
   case rel => exact ⟨(y337), (IntKind.u64.wrap (Int.tdiv (IntKind.u64.wrap ((IntKind.u64.wrap (t335 + t336)) + x6_1)) 4294967296)), (wrap64 (x7_1 + 1)), eqS, eqS, (by first | exact H' | (subst_vars; exact H')), ⟨by have := HK1.out; have := HJ4.out; omega⟩, ⟨rR (HO339.out)⟩, ⟨bB⟩⟩
def zigguratref01_Sub.l0 : Nat → List Int → List Int → List Int → Int → Int → Option (List Int × Bool)
 | 0, _, _, _, _, _ => none
 | k + 1, x0, x1, x6, x7, x8 => if x8 < (x0.length : Int) then ((zigguratref01_limb.f x0 x8).bind fun t347 => ((zigguratref01_limb.f x1 x8).bind fun t348 => (if x6.length < 35184372088832 then (zigguratref01_Sub.l0 k x0 x1 (x6 ++ [(Int.tmod (IntKind.u64.wrap ((IntKind.u64.wrap ((IntKind.u64.wrap (4294967296 + t347)) - t348)) - x7)) 4294967296) % 4294967296]) (IntKind.u64.wrap (1 - (IntKind.u64.wrap (Int.tdiv (IntKind.u64.wrap ((IntKind.u64.wrap ((IntKind.u64.wrap (4294967296 + t347)) - t348)) - x7)) 4294967296)))) (wrap64 (x8 + 1))) else (none)))) else ((zigguratref01_Make.f k x6).bind fun t352 => (some (t352, true)))
def zigguratref01_Sub.f (k : Nat) (l0 : List Int) (l1 : List Int) : Option (List Int × Bool) := (zigguratref01_Cmp.f k l0 l1).bind fun t343 => (if t343 < 0 then (some (([] : List Int), false)) else (zigguratref01_Sub.l0 k l0 l1 (([] : List Int)) 0 0))
theorem zigguratref01_Sub.calls (k : Nat) (A0 : Option Addr) (c0 : Nat) (l0 : List Int) (A1 : Option Addr) (c1 : Nat) (l1 : List Int) (r1 : List Int) (r2 : Bool) (w : World) (hr0 : Kd.C (Kd.int .u32) w A0 l0.length l0) (hc0 : l0.length ≤ c0) (hr1 : Kd.C (Kd.int .u32) w A1 l1.length l1) (hc1 : l1.length ≤ c1) (h : zigguratref01_Sub.f k l0 l1 = some (r1, r2)) :
   Calls Tryz.prog 59 #[.slice A0 l0.length c0, .slice A1 l1.length c1] w fun e w' => ∃ v0_ : Value, e = .returned (.tuple #[v0_, .bool r2]) ∧ Kd.R (Kd.int .u32) 23 w' w.heap.size (fun _ => True) v0_ r1 ∧ Below w.heap.size w w' := by
 have HR0 := am hr0
 have HC0 := am hc0
 clear hr0 hc0
 have HR1 := am hr1
 have HC1 := am hc1
 clear hr1 hc1
 have HB := am (Below.refl w.heap.size w)
 have H := h; unfold zigguratref01_Sub.f at H
 clear h
 obtain ⟨t343, A30, H⟩ := Option.bind_eq_some_iff.mp H
 try dsimp only at H
 have A3 := am A30
 clear A30
 by_cases c4 : t343 < 0
 · rw [if_pos c4] at H
   have c4b0 : decide (t343 < 0) = true := decide_eq_true c4
   clear c4
   simp only [Option.some.injEq, Prod.mk.injEq] at H
   obtain ⟨rfl, rfl⟩ := H
   go_enter Tryz.func59, Tryz.ntmps59
   go_wp2_with (first | ((with_reducible refine gate_callee (f := 85) rfl ?_); refine goesA (some 12) Tryz.func85 #[.slice A0 l0.length c0, .slice A1 l1.length c1] ?_; (with_reducible refine (zigguratref01_Cmp.calls k _ _ l0 _ _ l1 t343 _ ?side1 ?side2 ?side3 ?side4 A3.out).mono ?_); (case side1 => exact kC2 (HR0.out)); (case side2 => exact HC0.out); (case side3 => exact kC2 (HR1.out)); (case side4 => exact HC1.out); rintro e w5 ⟨rfl, hb⟩; refine ⟨_, rfl, ?_⟩; have n0_ := am (below_step bB hb); clear HB; have HB := n0_; clear n0_; (try clear hb); (try clear hb2); (try clear hk); (try clear hi)))
   go_ret2
   exact ⟨_, eqR, by first | exact Kd.R_nil _ _ _ _ _ | exact Kd.N_nil _ _ _ _ _ | exact Kd.V_nil _ _ _ _ _ | exact Kd.Q_nil _ _ _ _ _ | exact Kd.S_nil _ _ _ _ _, bB⟩
 rw [if_neg c4] at H
 have c4b0 : decide (t343 < 0) = false := decide_eq_false c4
 clear c4
 obtain ⟨y344, hy344⟩ : ∃ y_ : List Int, y_ = (([] : List Int)) := ⟨_, rfl⟩
 replace H : (zigguratref01_Sub.l0 k l0 l1 y344 0 0) = some (r1, r2) := by first | (rw [hy344]; exact H) | exact H
 have Ny344 := am hy344
 clear hy344
 have H' := am H
 clear H
 go_enter Tryz.func59, Tryz.ntmps59
 go_wp2_with (first | ((with_reducible refine gate_callee (f := 85) rfl ?_); refine goesA (some 12) Tryz.func85 #[.slice A0 l0.length c0, .slice A1 l1.length c1] ?_; (with_reducible refine (zigguratref01_Cmp.calls k _ _ l0 _ _ l1 t343 _ ?side1 ?side2 ?side3 ?side4 A3.out).mono ?_); (case side1 => exact kC2 (HR0.out)); (case side2 => exact HC0.out); (case side3 => exact kC2 (HR1.out)); (case side4 => exact HC1.out); rintro e w6 ⟨rfl, hb⟩; refine ⟨_, rfl, ?_⟩; have n0_ := am (below_step bB hb); clear HB; have HB := n0_; clear n0_; (try clear hb); (try clear hb2); (try clear hk); (try clear hi)) | ((with_reducible refine gate_dst (N := 14) rfl ?_); refine Kd.R_lit (Kd.int .u32) _ 23 rF (N := 14) rF (xs := ([] : List Int)) (inner := []) (ok := fun _ => True) (okp := fun _ => True) gF ?hp (fun _ hk => hk) trivial (Below.refl _ _) (Nat.le_refl _) (by simp) ?_; (case hp => exact (Reps.none _ _)); intro v345 w7 ho8 hb hg_ hnew_; clear hg_ hnew_; (first | rw [← Ny344.out] at ho8 | (simp only [Int.reduceToNat] at ho8; rw [← Ny344.out] at ho8)); have n0_ := am (Kd.R_lower ho8 (below_size bB)); have n1_ := am (below_step bB hb); clear HB; have HO346 := n0_; have HB := n1_; clear n0_ n1_; clear hb ho8))
 go_loopg [6, 7, 8] k (fun kq v6 v7 v8 w' => ∃ (x6_1 : List Int) (x7_1 : Int) (x8_1 : Int), v7 = .int .u64 x7_1 ∧ v8 = .int .i64 x8_1 ∧ Aside0 (zigguratref01_Sub.l0 kq l0 l1 x6_1 x7_1 x8_1 = some (r1, r2)) ∧ Aside0 (kq ≤ k) ∧ Aside0 (Kd.R (Kd.int .u32) 23 w' w.heap.size (fun _ => True) v6 x6_1) ∧ Aside0 (Below w.heap.size w w'))
 case atStart => exact ⟨(y344), (0), (0), eqS, eqS, H', ⟨Nat.le_refl _⟩, ⟨rR (HO346.out)⟩, ⟨bB⟩⟩
 clear H'
 (try clear c1); (try clear p2); (try clear c4); (try clear c4b0); (try clear c5); (try clear c8)
 obtain ⟨x6_1, x7_1, x8_1, rfl, rfl, HA, HK1, HO_6, HB⟩ := hrel
 rcases gk with _ | k1
 · exact absurd HA.out (by simp [zigguratref01_Sub.l0])
 have H := HA.out
 clear HA
 simp only [zigguratref01_Sub.l0] at H
 by_cases c9 : x8_1 < (l0.length : Int)
 case neg =>
   rw [if_neg c9] at H
   have c9b0 : decide (x8_1 < (l0.length : Int)) = false := decide_eq_false c9
   clear c9
   obtain ⟨t352, A140, H⟩ := Option.bind_eq_some_iff.mp H
   replace H : (some (t352, true)) = some (r1, r2) := H
   have A14 := am A140
   clear A140
   simp only [Option.some.injEq, Prod.mk.injEq] at H
   obtain ⟨rfl, rfl⟩ := H
   obtain ⟨Ao15, co15, eo15⟩ := Kd.R_slice HO_6.out
   subst eo15
   go_wp2_with (first | ((with_reducible refine gate_callee (f := 70) rfl ?_); refine goesA (some 41) Tryz.func70 #[.slice Ao15 x6_1.length co15] ?_; (with_reducible refine (zigguratref01_Make.calls k1 _ _ x6_1 t352 _ ?side1 ?side2 A14.out).mono ?_); (case side1 => exact kC2 ((Kd.R_reads' HO_6.out).2.2)); (case side2 => exact (Kd.R_reads' HO_6.out).2.1); rintro e w16 ⟨v353, rfl, ho0, hb⟩; refine ⟨_, rfl, ?_⟩; have n0_ := am (Kd.R_elder' (rR HO_6.out) (Kd.R_base ho0) hb); have n1_ := am (Kd.R_lower (Kd.R_new' ho0 (Kd.R_lt (rR HO_6.out))) (below_size bB)); have n2_ := am (below_step bB hb); clear HO_6; clear HB; have HO_6 := n0_; have HO354 := n1_; have HB := n2_; clear n0_ n1_ n2_; (try clear hb); (try clear hb2); (try clear hk); (try clear hi); (try clear ho0)))
   go_ret2
   exact ⟨_, eqR, by (with_reducible repeat (first | apply Kd.R_alloc | apply Kd.R_drewN | apply Kd.R_drew)); exact Kd.R_mono HO354.out (fun _ hk => trivial), bB⟩
 rw [if_pos c9] at H
 have c9b0 : decide (x8_1 < (l0.length : Int)) = true := decide_eq_true c9
 clear c9
 obtain ⟨t347, A100, H⟩ := Option.bind_eq_some_iff.mp H
 try dsimp only at H
 have A10 := am A100
 clear A100
 obtain ⟨t348, A110, H⟩ := Option.bind_eq_some_iff.mp H
 try dsimp only at H
 have A11 := am A110
 clear A110
 by_cases c12 : x6_1.length < 35184372088832
 case neg => exact nn c12 H
 rw [if_pos c12] at H
 have LMc12 := am c12
 clear c12
 obtain ⟨y349, hy349⟩ : ∃ y_ : List Int, y_ = (x6_1 ++ [(Int.tmod (IntKind.u64.wrap ((IntKind.u64.wrap ((IntKind.u64.wrap (4294967296 + t347)) - t348)) - x7_1)) 4294967296) % 4294967296]) := ⟨_, rfl⟩
 replace H : (zigguratref01_Sub.l0 k1 l0 l1 y349 (IntKind.u64.wrap (1 - (IntKind.u64.wrap (Int.tdiv (IntKind.u64.wrap ((IntKind.u64.wrap ((IntKind.u64.wrap (4294967296 + t347)) - t348)) - x7_1)) 4294967296)))) (wrap64 (x8_1 + 1))) = some (r1, r2) := by first | (rw [hy349]; exact H) | exact H
 have Ny349 := am hy349
 clear hy349
 have H' := am H
 clear H
 go_wp2_with (first | ((with_reducible refine gate_callee (f := 84) rfl ?_); refine goesA (some 23) Tryz.func84 #[.slice A0 l0.length c0, .int .i64 x8_1] ?_; (with_reducible refine (zigguratref01_limb.calls _ _ l0 x8_1 t347 _ ?side1 ?side2 A10.out).mono ?_); (case side1 => exact kC2 ((Kd.C_below HR0.out HB.out))); (case side2 => exact HC0.out); rintro e w' ⟨rfl, ⟨nd, rfl⟩⟩; refine ⟨_, rfl, ?_⟩) | ((with_reducible refine gate_callee (f := 84) rfl ?_); refine goesA (some 27) Tryz.func84 #[.slice A1 l1.length c1, .int .i64 x8_1] ?_; (with_reducible refine (zigguratref01_limb.calls _ _ l1 x8_1 t348 _ ?side1 ?side2 A11.out).mono ?_); (case side1 => exact kC2 ((Kd.C_below HR1.out bB))); (case side2 => exact HC1.out); rintro e w' ⟨rfl, ⟨nd, rfl⟩⟩; refine ⟨_, rfl, ?_⟩) | ((with_reducible refine gate_builtin (b := .append) (xs := #[.tmp 31, .tmp 35]) rfl ?_); at_builtin; refine Kd.R_append (Kd.int .u32) (w0 := w) w.heap.size rfl (.tmp 31) (.tmp 35) 27 23 (.int .u32 0) 4 rfl Tryz.underlying27 info23 rfl (by decide) (by omega) u6 x6_1 ((Int.tmod (IntKind.u64.wrap ((IntKind.u64.wrap ((IntKind.u64.wrap (4294967296 + t347)) - t348)) - x7_1)) 4294967296) % 4294967296) [.int .u32 ((Int.tmod (IntKind.u64.wrap ((IntKind.u64.wrap ((IntKind.u64.wrap (4294967296 + t347)) - t348)) - x7_1)) 4294967296) % 4294967296)] (fun _ => True) (fun _ => False) rfl rfl ?aP (fun _ hk => hk.elim) ?aF ?aO ?aB ?aS ?aL ?_; (case aP => exact rfl); (case aB => exact bB); (case aF => exact (fun _ _ => trivial)); (case aO => exact (rR HO_6.out)); (case aS => exact (below_size bB)); (case aL => have := LMc12.out; omega); intro v350 w13 ho hb hg hat; rw [← Ny349.out] at ho; have n0_ := am (hb); have n1_ := am (ho); clear HB; clear HO_6; have HB := n0_; have HO351 := n1_; clear n0_ n1_; clear ho hb hg hat))
 go_roundg k1
 case measure => have := HK1.out; omega
 case rel => exact ⟨(y349), (IntKind.u64.wrap (1 - (IntKind.u64.wrap (Int.tdiv (IntKind.u64.wrap ((IntKind.u64.wrap ((IntKind.u64.wrap (4294967296 + t347)) - t348)) - x7_1)) 4294967296)))), (wrap64 (x8_1 + 1)), eqS, eqS, (by first | exact H' | (subst_vars; exact H')), ⟨by have := HK1.out; omega⟩, ⟨rR (HO351.out)⟩, ⟨bB⟩⟩
def zigguratref06_Add.f (k : Nat) (a0_0 : Bool) (l0_1 : List Int) (a1_0 : Bool) (l1_1 : List Int) : Option (Bool × List Int) := if (a0_0 == a1_0) = true then ((zigguratref01_Add.f k l0_1 l1_1).bind fun t358 => ((zigguratref06_Make.f k a0_0 t358).bind fun bt361 => (some (bt361.1, bt361.2)))) else ((zigguratref01_Sub.f k l0_1 l1_1).bind fun bt365 => (if bt365.2 = true then ((zigguratref06_Make.f k a0_0 bt365.1).bind fun bt369 => (some (bt369.1, bt369.2))) else ((zigguratref01_Sub.f k l1_1 l0_1).bind fun bt373 => ((zigguratref06_Make.f k a1_0 bt373.1).bind fun bt377 => (some (bt377.1, bt377.2))))))
def zigguratref06_Add.T2 : Bool × List (List Nat × List Nat) := (true, [([], []), ([0], [0]), ([], []), ([2], [2]), ([], []), ([4], [4]), ([3, 5], [3, 5]), ([1, 6, 6], [1, 6]), ([7, 7, 0, 1, 2, 3, 4, 5, 6, 7], [7])])
def zigguratref06_Add.B2 : List Nat := [0, 1, 0, 4, 0, 16, 60, 127, 255]
theorem zigguratref06_Add.tab2 : rtab .any (opsOf Tryz.f31 2) = zigguratref06_Add.T2 := by kernel_rfl
theorem zigguratref06_Add.bits2 : waitsOk zigguratref06_Add.T2.2 zigguratref06_Add.B2 = true := by kernel_rfl
theorem zigguratref06_Add.calls (k : Nat) (a0_0 : Bool) (A0_1 : Option Addr) (c0_1 : Nat) (l0_1 : List Int) (a1_0 : Bool) (A1_1 : Option Addr) (c1_1 : Nat) (l1_1 : List Int) (r1 : Bool) (r2 : List Int) (w : World) (hr0_1 : Kd.C (Kd.int .u32) w A0_1 l0_1.length l0_1) (hc0_1 : l0_1.length ≤ c0_1) (hr1_1 : Kd.C (Kd.int .u32) w A1_1 l1_1.length l1_1) (hc1_1 : l1_1.length ≤ c1_1) (h : zigguratref06_Add.f k a0_0 l0_1 a1_0 l1_1 = some (r1, r2)) :
   Calls Tryz.prog 31 #[.agg #[.bool a0_0, .slice A0_1 l0_1.length c0_1], .agg #[.bool a1_0, .slice A1_1 l1_1.length c1_1]] w fun e w' => ∃ v1_ : Value, e = .returned (.agg #[.bool r1, v1_]) ∧ Kd.R (Kd.int .u32) 23 w' w.heap.size (fun _ => True) v1_ r2 ∧ Below w.heap.size w w' := by
 have hu49 := Tryz.underlying49
 have HR0_1 := am hr0_1
 have HC0_1 := am hc0_1
 clear hr0_1 hc0_1
 have HR1_1 := am hr1_1
 have HC1_1 := am hc1_1
 clear hr1_1 hc1_1
 have HB := am (Below.refl w.heap.size w)
 have H := h; unfold zigguratref06_Add.f at H
 clear h
 by_cases c3 : (a0_0 == a1_0) = true
 case neg =>
   rw [if_neg c3] at H
   have c3b0 : (a0_0 == a1_0) = false := by simpa using c3
   (try (have c3b1 : decide (a0_0 = a1_0) = false := by simpa using c3))
   (try (have c3b2 : (a0_0 == a1_0) = false := by simpa using c3))
   (try (have c3b3 : ¬ (a0_0 = a1_0) := by simpa using c3))
   clear c3
   obtain ⟨⟨t365, t366⟩, A210, H⟩ := Option.bind_eq_some_iff.mp H
   try dsimp only at H
   have A21 := am A210
   clear A210
   by_cases c22 : t366 = true
   · subst c22
     have H1 : ((zigguratref06_Make.f k a0_0 t365).bind fun bt369 => (some (bt369.1, bt369.2))) = some (r1, r2) := by rw [if_pos rfl] at H; exact H
     clear H
     have H := H1
     clear H1
     obtain ⟨⟨t369, t370⟩, A230, H⟩ := Option.bind_eq_some_iff.mp H
     replace H : (some (t369, t370)) = some (r1, r2) := H
     have A23 := am A230
     clear A230
     simp only [Option.some.injEq, Prod.mk.injEq] at H
     obtain ⟨rfl, rfl⟩ := H
     go_enter Tryz.func31, Tryz.ntmps31
     go_wp2_with (first | ((with_reducible refine gate_dst (N := 2) rfl ?_); refine boxE (N := 2) (cs := #[.bool a0_0, .slice A0_1 l0_1.length c0_1]) (t := 49) ?_; intro gb355 hg w24 hbox hb; have n0_ := am (below_step bB hb); have n1_ := am (hbox); have n2_ := am ((by rw [hg]; exact (below_size bB) : w.heap.size ≤ gb355)); have n3_ := am ((by rw [hg]; exact (below_size bB) : w.heap.size ≤ gb355)); clear HB; have HB := n0_; have BK355 := n1_; have GW355 := n2_; have GE355 := n3_; clear n0_ n1_ n2_ n3_; clear hb hbox hg) | ((with_reducible refine gate_dst (N := 3) rfl ?_); refine boxE (N := 3) (cs := #[.bool a1_0, .slice A1_1 l1_1.length c1_1]) (t := 49) ?_; intro gb356 hg w25 hbox hb; have n0_ := am (blk_below (g := gb355) (o := .cells #[.bool a0_0, .slice A0_1 l0_1.length c0_1] 49 (0, 0)) (bk BK355.out) hb); have n1_ := am (below_step bB hb); have n2_ := am (hbox); have n3_ := am ((by rw [hg]; exact (below_size bB) : w.heap.size ≤ gb356)); have n4_ := am ((by rw [hg]; exact (below_size bB) : w.heap.size ≤ gb356)); have n5_ := am ((by rw [hg]; exact Nat.ne_of_lt (blk_lt (g := gb355) (o := .cells #[.bool a0_0, .slice A0_1 l0_1.length c0_1] 49 (0, 0)) (bk BK355.out)) : gb355 ≠ gb356)); have n6_ := am ((by rw [hg]; exact Nat.ne_of_gt (blk_lt (g := gb355) (o := .cells #[.bool a0_0, .slice A0_1 l0_1.length c0_1] 49 (0, 0)) (bk BK355.out)) : gb356 ≠ gb355)); clear BK355; clear HB; have BK355 := n0_; have HB := n1_; have BK356 := n2_; have GW356 := n3_; have GE356 := n4_; have NB355_356 := n5_; have NB356_355 := n6_; clear n0_ n1_ n2_ n3_ n4_ n5_ n6_; clear hb hbox hg) | ((with_reducible refine gate_dst (N := 4) rfl ?_); refine boxE (N := 4) (cs := #[.bool false, .slice none 0 0]) (t := 49) ?_; intro gb357 hg w26 hbox hb; have n0_ := am (blk_below (g := gb355) (o := .cells #[.bool a0_0, .slice A0_1 l0_1.length c0_1] 49 (0, 0)) (bk BK355.out) hb); have n1_ := am (blk_below (g := gb356) (o := .cells #[.bool a1_0, .slice A1_1 l1_1.length c1_1] 49 (0, 0)) (bk BK356.out) hb); have n2_ := am (below_step bB hb); have n3_ := am (hbox); have n4_ := am ((by rw [hg]; exact (below_size bB) : w.heap.size ≤ gb357)); have n5_ := am ((by rw [hg]; exact (below_size bB) : w.heap.size ≤ gb357)); have n6_ := am ((by rw [hg]; exact Nat.ne_of_lt (blk_lt (g := gb355) (o := .cells #[.bool a0_0, .slice A0_1 l0_1.length c0_1] 49 (0, 0)) (bk BK355.out)) : gb355 ≠ gb357)); have n7_ := am ((by rw [hg]; exact Nat.ne_of_gt (blk_lt (g := gb355) (o := .cells #[.bool a0_0, .slice A0_1 l0_1.length c0_1] 49 (0, 0)) (bk BK355.out)) : gb357 ≠ gb355)); have n8_ := am ((by rw [hg]; exact Nat.ne_of_lt (blk_lt (g := gb356) (o := .cells #[.bool a1_0, .slice A1_1 l1_1.length c1_1] 49 (0, 0)) (bk BK356.out)) : gb356 ≠ gb357)); have n9_ := am ((by rw [hg]; exact Nat.ne_of_gt (blk_lt (g := gb356) (o := .cells #[.bool a1_0, .slice A1_1 l1_1.length c1_1] 49 (0, 0)) (bk BK356.out)) : gb357 ≠ gb356)); clear BK355; clear BK356; clear HB; have BK355 := n0_; have BK356 := n1_; have HB := n2_; have BK357 := n3_; have GW357 := n4_; have GE357 := n5_; have NB355_357 := n6_; have NB357_355 := n7_; have NB356_357 := n8_; have NB357_356 := n9_; clear n0_ n1_ n2_ n3_ n4_ n5_ n6_ n7_ n8_ n9_; clear hb hbox hg; have hnb27 := NB355_356.out; have hnc27 := NB356_355.out; have hnb28 := NB355_357.out; have hnc28 := NB357_355.out; have hcz29_0 : w26.cell? ⟨gb355, 0, none⟩ = some (.bool a0_0) := (blk_cell BK355.out 0).trans rfl; have hcz29_1 : w26.cell? ⟨gb355, 1, none⟩ = some (.slice A0_1 l0_1.length c0_1) := (blk_cell BK355.out 1).trans rfl; have hfz29_0 := blk_frozen BK355.out 0; have hfz29_1 := blk_frozen BK355.out 1; have hnb30 := NB356_357.out; have hnc30 := NB357_356.out; have hcz31_0 : w26.cell? ⟨gb356, 0, none⟩ = some (.bool a1_0) := (blk_cell BK356.out 0).trans rfl; have hcz31_1 : w26.cell? ⟨gb356, 1, none⟩ = some (.slice A1_1 l1_1.length c1_1) := (blk_cell BK356.out 1).trans rfl; have hfz31_0 := blk_frozen BK356.out 0; have hfz31_1 := blk_frozen BK356.out 1) | ((with_reducible refine gate_callee (f := 59) rfl ?_); refine goesA (some 27) Tryz.func59 #[.slice A0_1 l0_1.length c0_1, .slice A1_1 l1_1.length c1_1] ?_; (with_reducible refine (zigguratref01_Sub.calls k _ _ l0_1 _ _ l1_1 t365 true _ ?side1 ?side2 ?side3 ?side4 A21.out).mono ?_); (case side1 => exact kC2 ((Kd.C_below HR0_1.out HB.out))); (case side2 => exact HC0_1.out); (case side3 => exact kC2 ((Kd.C_below HR1_1.out HB.out))); (case side4 => exact HC1_1.out); rintro e w32 ⟨v367, rfl, ho0, hb⟩; refine ⟨_, rfl, ?_⟩; have n0_ := am (Kd.R_lower ho0 (below_size bB)); have n1_ := am (blk_below (g := gb355) (o := .cells #[.bool a0_0, .slice A0_1 l0_1.length c0_1] 49 (0, 0)) (bk BK355.out) hb); have n2_ := am (blk_below (g := gb356) (o := .cells #[.bool a1_0, .slice A1_1 l1_1.length c1_1] 49 (0, 0)) (bk BK356.out) hb); have n3_ := am (blk_below (g := gb357) (o := .cells #[.bool false, .slice none 0 0] 49 (0, 0)) (bk BK357.out) hb); have n4_ := am (below_step bB hb); clear BK355; clear BK356; clear BK357; clear HB; have HO368 := n0_; have BK355 := n1_; have BK356 := n2_; have BK357 := n3_; have HB := n4_; clear n0_ n1_ n2_ n3_ n4_; (try clear hb); (try clear hb2); (try clear hk); (try clear hi); (try clear ho0); have hcz33_0 : w32.cell? ⟨gb355, 0, none⟩ = some (.bool a0_0) := (blk_cell BK355.out 0).trans rfl; have hcz33_1 : w32.cell? ⟨gb355, 1, none⟩ = some (.slice A0_1 l0_1.length c0_1) := (blk_cell BK355.out 1).trans rfl; have hfz33_0 := blk_frozen BK355.out 0; have hfz33_1 := blk_frozen BK355.out 1; obtain ⟨Ao34, co34, eo34⟩ := Kd.R_slice HO368.out; subst eo34) | ((with_reducible refine gate_callee (f := 48) rfl ?_); refine goesA (some 34) Tryz.func48 #[.bool a0_0, .slice Ao34 t365.length co34] ?_; (with_reducible refine (zigguratref06_Make.calls k a0_0 _ _ t365 t369 t370 _ ?side1 ?side2 A23.out).mono ?_); (case side1 => exact kC2 ((Kd.R_reads' HO368.out).2.2)); (case side2 => exact (Kd.R_reads' HO368.out).2.1); rintro e w35 ⟨v371, rfl, ho0, hb⟩; refine ⟨_, rfl, ?_⟩; have n0_ := am (Kd.R_elder' (rR HO368.out) (Kd.R_base ho0) hb); have n1_ := am (Kd.R_lower (Kd.R_new' ho0 (Kd.R_lt (rR HO368.out))) (below_size bB)); have n2_ := am (blk_below (g := gb355) (o := .cells #[.bool a0_0, .slice A0_1 l0_1.length c0_1] 49 (0, 0)) (bk BK355.out) hb); have n3_ := am (blk_below (g := gb356) (o := .cells #[.bool a1_0, .slice A1_1 l1_1.length c1_1] 49 (0, 0)) (bk BK356.out) hb); have n4_ := am (blk_below (g := gb357) (o := .cells #[.bool false, .slice none 0 0] 49 (0, 0)) (bk BK357.out) hb); have n5_ := am (below_step bB hb); clear HO368; clear BK355; clear BK356; clear BK357; clear HB; have HO368 := n0_; have HO372 := n1_; have BK355 := n2_; have BK356 := n3_; have BK357 := n4_; have HB := n5_; clear n0_ n1_ n2_ n3_ n4_ n5_; (try clear hb); (try clear hb2); (try clear hk); (try clear hi); (try clear ho0); have hcz36_0 : w35.cell? ⟨gb357, 0, none⟩ = some (.bool false) := (blk_cell BK357.out 0).trans rfl; have hcz36_1 : w35.cell? ⟨gb357, 1, none⟩ = some (.slice none 0 0) := (blk_cell BK357.out 1).trans rfl; have hfz36_0 := blk_frozen BK357.out 0; have hfz36_1 := blk_frozen BK357.out 1; obtain ⟨Ao37, co37, eo37⟩ := Kd.R_slice HO372.out; subst eo37))
     refine bodyPost_ret (results_cell_row rfl _ _ gb357 49 #[.bool t369, .slice Ao37 t370.length co37] (0, 0) _ rfl (by (with_reducible repeat (first | refine blk_drewN ?_ _ | refine blk_drew ?_ | refine blk_alloc ?_ _)); refine blk_put (cs := #[.bool t369, .slice none 0 0]) ?_ 1 _ rfl; (with_reducible repeat (first | refine blk_drewN ?_ _ | refine blk_drew ?_ | refine blk_alloc ?_ _)); refine blk_put (cs := #[.bool false, .slice none 0 0]) ?_ 0 _ rfl; (with_reducible repeat (first | refine blk_drewN ?_ _ | refine blk_drew ?_ | refine blk_alloc ?_ _)); exact BK357.out) Tryz.underlying49 rfl (by kernel_rfl)) rfl ?_
     exact ⟨_, eqR, by (with_reducible repeat (first | apply Kd.R_alloc | apply Kd.R_drewN | apply Kd.R_drew)); exact Kd.R_mono (Kd.R_far (p := ⟨gb357, 1, none⟩) (Kd.R_far (p := ⟨gb357, 0, none⟩) (Kd.R_types HO372.out BK357.out (by decide)) (fun _ hk => hk.2) (.bool t369)) (fun _ hk => hk.2) (.slice Ao37 t370.length co37)) (fun _ hk => trivial), bB⟩
   replace c22 := Bool.eq_false_iff.mpr c22
   subst c22
   have H1 : ((zigguratref01_Sub.f k l1_1 l0_1).bind fun bt373 => ((zigguratref06_Make.f k a1_0 bt373.1).bind fun bt377 => (some (bt377.1, bt377.2)))) = some (r1, r2) := by rw [if_neg (show ¬ (false = true) by decide)] at H; exact H
   clear H
   have H := H1
   clear H1
   obtain ⟨⟨t373, t374⟩, A380, H⟩ := Option.bind_eq_some_iff.mp H
   try dsimp only at H
   have A38 := am A380
   clear A380
   obtain ⟨⟨t377, t378⟩, A390, H⟩ := Option.bind_eq_some_iff.mp H
   replace H : (some (t377, t378)) = some (r1, r2) := H
   have A39 := am A390
   clear A390
   simp only [Option.some.injEq, Prod.mk.injEq] at H
   obtain ⟨rfl, rfl⟩ := H
   go_enter Tryz.func31, Tryz.ntmps31
   go_wp2_with (first | ((with_reducible refine gate_dst (N := 2) rfl ?_); refine boxE (N := 2) (cs := #[.bool a0_0, .slice A0_1 l0_1.length c0_1]) (t := 49) ?_; intro gb355 hg w40 hbox hb; have n0_ := am (below_step bB hb); have n1_ := am (hbox); have n2_ := am ((by rw [hg]; exact (below_size bB) : w.heap.size ≤ gb355)); have n3_ := am ((by rw [hg]; exact (below_size bB) : w.heap.size ≤ gb355)); clear HB; have HB := n0_; have BK355 := n1_; have GW355 := n2_; have GE355 := n3_; clear n0_ n1_ n2_ n3_; clear hb hbox hg) | ((with_reducible refine gate_dst (N := 3) rfl ?_); refine boxE (N := 3) (cs := #[.bool a1_0, .slice A1_1 l1_1.length c1_1]) (t := 49) ?_; intro gb356 hg w41 hbox hb; have n0_ := am (blk_below (g := gb355) (o := .cells #[.bool a0_0, .slice A0_1 l0_1.length c0_1] 49 (0, 0)) (bk BK355.out) hb); have n1_ := am (below_step bB hb); have n2_ := am (hbox); have n3_ := am ((by rw [hg]; exact (below_size bB) : w.heap.size ≤ gb356)); have n4_ := am ((by rw [hg]; exact (below_size bB) : w.heap.size ≤ gb356)); have n5_ := am ((by rw [hg]; exact Nat.ne_of_lt (blk_lt (g := gb355) (o := .cells #[.bool a0_0, .slice A0_1 l0_1.length c0_1] 49 (0, 0)) (bk BK355.out)) : gb355 ≠ gb356)); have n6_ := am ((by rw [hg]; exact Nat.ne_of_gt (blk_lt (g := gb355) (o := .cells #[.bool a0_0, .slice A0_1 l0_1.length c0_1] 49 (0, 0)) (bk BK355.out)) : gb356 ≠ gb355)); clear BK355; clear HB; have BK355 := n0_; have HB := n1_; have BK356 := n2_; have GW356 := n3_; have GE356 := n4_; have NB355_356 := n5_; have NB356_355 := n6_; clear n0_ n1_ n2_ n3_ n4_ n5_ n6_; clear hb hbox hg) | ((with_reducible refine gate_dst (N := 4) rfl ?_); refine boxE (N := 4) (cs := #[.bool false, .slice none 0 0]) (t := 49) ?_; intro gb357 hg w42 hbox hb; have n0_ := am (blk_below (g := gb355) (o := .cells #[.bool a0_0, .slice A0_1 l0_1.length c0_1] 49 (0, 0)) (bk BK355.out) hb); have n1_ := am (blk_below (g := gb356) (o := .cells #[.bool a1_0, .slice A1_1 l1_1.length c1_1] 49 (0, 0)) (bk BK356.out) hb); have n2_ := am (below_step bB hb); have n3_ := am (hbox); have n4_ := am ((by rw [hg]; exact (below_size bB) : w.heap.size ≤ gb357)); have n5_ := am ((by rw [hg]; exact (below_size bB) : w.heap.size ≤ gb357)); have n6_ := am ((by rw [hg]; exact Nat.ne_of_lt (blk_lt (g := gb355) (o := .cells #[.bool a0_0, .slice A0_1 l0_1.length c0_1] 49 (0, 0)) (bk BK355.out)) : gb355 ≠ gb357)); have n7_ := am ((by rw [hg]; exact Nat.ne_of_gt (blk_lt (g := gb355) (o := .cells #[.bool a0_0, .slice A0_1 l0_1.length c0_1] 49 (0, 0)) (bk BK355.out)) : gb357 ≠ gb355)); have n8_ := am ((by rw [hg]; exact Nat.ne_of_lt (blk_lt (g := gb356) (o := .cells #[.bool a1_0, .slice A1_1 l1_1.length c1_1] 49 (0, 0)) (bk BK356.out)) : gb356 ≠ gb357)); have n9_ := am ((by rw [hg]; exact Nat.ne_of_gt (blk_lt (g := gb356) (o := .cells #[.bool a1_0, .slice A1_1 l1_1.length c1_1] 49 (0, 0)) (bk BK356.out)) : gb357 ≠ gb356)); clear BK355; clear BK356; clear HB; have BK355 := n0_; have BK356 := n1_; have HB := n2_; have BK357 := n3_; have GW357 := n4_; have GE357 := n5_; have NB355_357 := n6_; have NB357_355 := n7_; have NB356_357 := n8_; have NB357_356 := n9_; clear n0_ n1_ n2_ n3_ n4_ n5_ n6_ n7_ n8_ n9_; clear hb hbox hg; have hnb43 := NB355_356.out; have hnc43 := NB356_355.out; have hnb44 := NB355_357.out; have hnc44 := NB357_355.out; have hcz45_0 : w42.cell? ⟨gb355, 0, none⟩ = some (.bool a0_0) := (blk_cell BK355.out 0).trans rfl; have hcz45_1 : w42.cell? ⟨gb355, 1, none⟩ = some (.slice A0_1 l0_1.length c0_1) := (blk_cell BK355.out 1).trans rfl; have hfz45_0 := blk_frozen BK355.out 0; have hfz45_1 := blk_frozen BK355.out 1; have hnb46 := NB356_357.out; have hnc46 := NB357_356.out; have hcz47_0 : w42.cell? ⟨gb356, 0, none⟩ = some (.bool a1_0) := (blk_cell BK356.out 0).trans rfl; have hcz47_1 : w42.cell? ⟨gb356, 1, none⟩ = some (.slice A1_1 l1_1.length c1_1) := (blk_cell BK356.out 1).trans rfl; have hfz47_0 := blk_frozen BK356.out 0; have hfz47_1 := blk_frozen BK356.out 1) | ((with_reducible refine gate_callee (f := 59) rfl ?_); refine goesA (some 27) Tryz.func59 #[.slice A0_1 l0_1.length c0_1, .slice A1_1 l1_1.length c1_1] ?_; (with_reducible refine (zigguratref01_Sub.calls k _ _ l0_1 _ _ l1_1 t365 false _ ?side1 ?side2 ?side3 ?side4 A21.out).mono ?_); (case side1 => exact kC2 ((Kd.C_below HR0_1.out HB.out))); (case side2 => exact HC0_1.out); (case side3 => exact kC2 ((Kd.C_below HR1_1.out HB.out))); (case side4 => exact HC1_1.out); rintro e w48 ⟨v367, rfl, ho0, hb⟩; refine ⟨_, rfl, ?_⟩; have n0_ := am (Kd.R_lower ho0 (below_size bB)); have n1_ := am (blk_below (g := gb355) (o := .cells #[.bool a0_0, .slice A0_1 l0_1.length c0_1] 49 (0, 0)) (bk BK355.out) hb); have n2_ := am (blk_below (g := gb356) (o := .cells #[.bool a1_0, .slice A1_1 l1_1.length c1_1] 49 (0, 0)) (bk BK356.out) hb); have n3_ := am (blk_below (g := gb357) (o := .cells #[.bool false, .slice none 0 0] 49 (0, 0)) (bk BK357.out) hb); have n4_ := am (below_step bB hb); clear BK355; clear BK356; clear BK357; clear HB; have HO368 := n0_; have BK355 := n1_; have BK356 := n2_; have BK357 := n3_; have HB := n4_; clear n0_ n1_ n2_ n3_ n4_; (try clear hb); (try clear hb2); (try clear hk); (try clear hi); (try clear ho0); have hcz56_0 : w48.cell? ⟨gb356, 0, none⟩ = some (.bool a1_0) := (blk_cell BK356.out 0).trans rfl; have hcz56_1 : w48.cell? ⟨gb356, 1, none⟩ = some (.slice A1_1 l1_1.length c1_1) := (blk_cell BK356.out 1).trans rfl; have hfz56_0 := blk_frozen BK356.out 0; have hfz56_1 := blk_frozen BK356.out 1; have hcz50_0 : w48.cell? ⟨gb355, 0, none⟩ = some (.bool a0_0) := (blk_cell BK355.out 0).trans rfl; have hcz50_1 : w48.cell? ⟨gb355, 1, none⟩ = some (.slice A0_1 l0_1.length c0_1) := (blk_cell BK355.out 1).trans rfl; have hfz50_0 := blk_frozen BK355.out 0; have hfz50_1 := blk_frozen BK355.out 1) | ((with_reducible refine gate_callee (f := 59) rfl ?_); refine goesA (some 40) Tryz.func59 #[.slice A1_1 l1_1.length c1_1, .slice A0_1 l0_1.length c0_1] ?_; (with_reducible refine (zigguratref01_Sub.calls k _ _ l1_1 _ _ l0_1 t373 t374 _ ?side1 ?side2 ?side3 ?side4 A38.out).mono ?_); (case side1 => exact kC2 ((Kd.C_below HR1_1.out HB.out))); (case side2 => exact HC1_1.out); (case side3 => exact kC2 ((Kd.C_below HR0_1.out HB.out))); (case side4 => exact HC0_1.out); rintro e w51 ⟨v375, rfl, ho0, hb⟩; refine ⟨_, rfl, ?_⟩; have n0_ := am (Kd.R_elder' (rR HO368.out) (Kd.R_base ho0) hb); have n1_ := am (Kd.R_lower (Kd.R_new' ho0 (Kd.R_lt (rR HO368.out))) (below_size bB)); have n2_ := am (blk_below (g := gb355) (o := .cells #[.bool a0_0, .slice A0_1 l0_1.length c0_1] 49 (0, 0)) (bk BK355.out) hb); have n3_ := am (blk_below (g := gb356) (o := .cells #[.bool a1_0, .slice A1_1 l1_1.length c1_1] 49 (0, 0)) (bk BK356.out) hb); have n4_ := am (blk_below (g := gb357) (o := .cells #[.bool false, .slice none 0 0] 49 (0, 0)) (bk BK357.out) hb); have n5_ := am (below_step bB hb); clear HO368; clear BK355; clear BK356; clear BK357; clear HB; have HO368 := n0_; have HO376 := n1_; have BK355 := n2_; have BK356 := n3_; have BK357 := n4_; have HB := n5_; clear n0_ n1_ n2_ n3_ n4_ n5_; (try clear hb); (try clear hb2); (try clear hk); (try clear hi); (try clear ho0); have hcz52_0 : w51.cell? ⟨gb356, 0, none⟩ = some (.bool a1_0) := (blk_cell BK356.out 0).trans rfl; have hcz52_1 : w51.cell? ⟨gb356, 1, none⟩ = some (.slice A1_1 l1_1.length c1_1) := (blk_cell BK356.out 1).trans rfl; have hfz52_0 := blk_frozen BK356.out 0; have hfz52_1 := blk_frozen BK356.out 1; obtain ⟨Ao53, co53, eo53⟩ := Kd.R_slice HO376.out; subst eo53) | ((with_reducible refine gate_callee (f := 48) rfl ?_); refine goesA (some 46) Tryz.func48 #[.bool a1_0, .slice Ao53 t373.length co53] ?_; (with_reducible refine (zigguratref06_Make.calls k a1_0 _ _ t373 t377 t378 _ ?side1 ?side2 A39.out).mono ?_); (case side1 => exact kC2 ((Kd.R_reads' HO376.out).2.2)); (case side2 => exact (Kd.R_reads' HO376.out).2.1); rintro e w54 ⟨v379, rfl, ho0, hb⟩; refine ⟨_, rfl, ?_⟩; have n0_ := am (Kd.R_elder' (rR HO368.out) (Kd.R_base ho0) hb); have n1_ := am (Kd.R_elder' (rR HO376.out) (Kd.R_base ho0) hb); have n2_ := am (Kd.R_lower (Kd.R_new' (Kd.R_new' ho0 (Kd.R_lt (rR HO368.out))) (Kd.R_lt (rR HO376.out))) (below_size bB)); have n3_ := am (blk_below (g := gb355) (o := .cells #[.bool a0_0, .slice A0_1 l0_1.length c0_1] 49 (0, 0)) (bk BK355.out) hb); have n4_ := am (blk_below (g := gb356) (o := .cells #[.bool a1_0, .slice A1_1 l1_1.length c1_1] 49 (0, 0)) (bk BK356.out) hb); have n5_ := am (blk_below (g := gb357) (o := .cells #[.bool false, .slice none 0 0] 49 (0, 0)) (bk BK357.out) hb); have n6_ := am (below_step bB hb); clear HO368; clear HO376; clear BK355; clear BK356; clear BK357; clear HB; have HO368 := n0_; have HO376 := n1_; have HO380 := n2_; have BK355 := n3_; have BK356 := n4_; have BK357 := n5_; have HB := n6_; clear n0_ n1_ n2_ n3_ n4_ n5_ n6_; (try clear hb); (try clear hb2); (try clear hk); (try clear hi); (try clear ho0); have hcz55_0 : w54.cell? ⟨gb357, 0, none⟩ = some (.bool false) := (blk_cell BK357.out 0).trans rfl; have hcz55_1 : w54.cell? ⟨gb357, 1, none⟩ = some (.slice none 0 0) := (blk_cell BK357.out 1).trans rfl; have hfz55_0 := blk_frozen BK357.out 0; have hfz55_1 := blk_frozen BK357.out 1; obtain ⟨Ao56, co56, eo56⟩ := Kd.R_slice HO380.out; subst eo56))
   refine bodyPost_ret (results_cell_row rfl _ _ gb357 49 #[.bool t377, .slice Ao56 t378.length co56] (0, 0) _ rfl (by (with_reducible repeat (first | refine blk_drewN ?_ _ | refine blk_drew ?_ | refine blk_alloc ?_ _)); refine blk_put (cs := #[.bool t377, .slice none 0 0]) ?_ 1 _ rfl; (with_reducible repeat (first | refine blk_drewN ?_ _ | refine blk_drew ?_ | refine blk_alloc ?_ _)); refine blk_put (cs := #[.bool false, .slice none 0 0]) ?_ 0 _ rfl; (with_reducible repeat (first | refine blk_drewN ?_ _ | refine blk_drew ?_ | refine blk_alloc ?_ _)); exact BK357.out) Tryz.underlying49 rfl (by kernel_rfl)) rfl ?_
   exact ⟨_, eqR, by (with_reducible repeat (first | apply Kd.R_alloc | apply Kd.R_drewN | apply Kd.R_drew)); exact Kd.R_mono (Kd.R_far (p := ⟨gb357, 1, none⟩) (Kd.R_far (p := ⟨gb357, 0, none⟩) (Kd.R_types HO380.out BK357.out (by decide)) (fun _ hk => hk.2) (.bool t377)) (fun _ hk => hk.2) (.slice Ao56 t378.length co56)) (fun _ hk => trivial), bB⟩
 rw [if_pos c3] at H
 have c3b0 : (a0_0 == a1_0) = true := c3
 (try (have c3b1 : decide (a0_0 = a1_0) = true := by simpa using c3))
 (try (have c3b2 : (a0_0 == a1_0) = true := by simpa using c3))
 clear c3
 obtain ⟨t358, A40, H⟩ := Option.bind_eq_some_iff.mp H
 try dsimp only at H
 have A4 := am A40
 clear A40
 obtain ⟨⟨t361, t362⟩, A50, H⟩ := Option.bind_eq_some_iff.mp H
 replace H : (some (t361, t362)) = some (r1, r2) := H
 have A5 := am A50
 clear A50
 simp only [Option.some.injEq, Prod.mk.injEq] at H
 obtain ⟨rfl, rfl⟩ := H
 go_enter Tryz.func31, Tryz.ntmps31
 try go_wp2_with (first | ((with_reducible refine gate_dst (N := 2) rfl ?_); refine boxE (N := 2) (cs := #[.bool a0_0, .slice A0_1 l0_1.length c0_1]) (t := 49) ?_; intro gb355 hg w6 hbox hb; have n0_ := am (below_step bB hb); have n1_ := am (hbox); have n2_ := am ((by rw [hg]; exact (below_size bB) : w.heap.size ≤ gb355)); have n3_ := am ((by rw [hg]; exact (below_size bB) : w.heap.size ≤ gb355)); clear HB; have HB := n0_; have BK355 := n1_; have GW355 := n2_; have GE355 := n3_; clear n0_ n1_ n2_ n3_; clear hb hbox hg) | ((with_reducible refine gate_dst (N := 3) rfl ?_); refine boxE (N := 3) (cs := #[.bool a1_0, .slice A1_1 l1_1.length c1_1]) (t := 49) ?_; intro gb356 hg w7 hbox hb; have n0_ := am (blk_below (g := gb355) (o := .cells #[.bool a0_0, .slice A0_1 l0_1.length c0_1] 49 (0, 0)) (bk BK355.out) hb); have n1_ := am (below_step bB hb); have n2_ := am (hbox); have n3_ := am ((by rw [hg]; exact (below_size bB) : w.heap.size ≤ gb356)); have n4_ := am ((by rw [hg]; exact (below_size bB) : w.heap.size ≤ gb356)); have n5_ := am ((by rw [hg]; exact Nat.ne_of_lt (blk_lt (g := gb355) (o := .cells #[.bool a0_0, .slice A0_1 l0_1.length c0_1] 49 (0, 0)) (bk BK355.out)) : gb355 ≠ gb356)); have n6_ := am ((by rw [hg]; exact Nat.ne_of_gt (blk_lt (g := gb355) (o := .cells #[.bool a0_0, .slice A0_1 l0_1.length c0_1] 49 (0, 0)) (bk BK355.out)) : gb356 ≠ gb355)); clear BK355; clear HB; have BK355 := n0_; have HB := n1_; have BK356 := n2_; have GW356 := n3_; have GE356 := n4_; have NB355_356 := n5_; have NB356_355 := n6_; clear n0_ n1_ n2_ n3_ n4_ n5_ n6_; clear hb hbox hg) | ((with_reducible refine gate_dst (N := 4) rfl ?_); refine boxE (N := 4) (cs := #[.bool false, .slice none 0 0]) (t := 49) ?_; intro gb357 hg w8 hbox hb; have n0_ := am (blk_below (g := gb355) (o := .cells #[.bool a0_0, .slice A0_1 l0_1.length c0_1] 49 (0, 0)) (bk BK355.out) hb); have n1_ := am (blk_below (g := gb356) (o := .cells #[.bool a1_0, .slice A1_1 l1_1.length c1_1] 49 (0, 0)) (bk BK356.out) hb); have n2_ := am (below_step bB hb); have n3_ := am (hbox); have n4_ := am ((by rw [hg]; exact (below_size bB) : w.heap.size ≤ gb357)); have n5_ := am ((by rw [hg]; exact (below_size bB) : w.heap.size ≤ gb357)); have n6_ := am ((by rw [hg]; exact Nat.ne_of_lt (blk_lt (g := gb355) (o := .cells #[.bool a0_0, .slice A0_1 l0_1.length c0_1] 49 (0, 0)) (bk BK355.out)) : gb355 ≠ gb357)); have n7_ := am ((by rw [hg]; exact Nat.ne_of_gt (blk_lt (g := gb355) (o := .cells #[.bool a0_0, .slice A0_1 l0_1.length c0_1] 49 (0, 0)) (bk BK355.out)) : gb357 ≠ gb355)); have n8_ := am ((by rw [hg]; exact Nat.ne_of_lt (blk_lt (g := gb356) (o := .cells #[.bool a1_0, .slice A1_1 l1_1.length c1_1] 49 (0, 0)) (bk BK356.out)) : gb356 ≠ gb357)); have n9_ := am ((by rw [hg]; exact Nat.ne_of_gt (blk_lt (g := gb356) (o := .cells #[.bool a1_0, .slice A1_1 l1_1.length c1_1] 49 (0, 0)) (bk BK356.out)) : gb357 ≠ gb356)); clear BK355; clear BK356; clear HB; have BK355 := n0_; have BK356 := n1_; have HB := n2_; have BK357 := n3_; have GW357 := n4_; have GE357 := n5_; have NB355_357 := n6_; have NB357_355 := n7_; have NB356_357 := n8_; have NB357_356 := n9_; clear n0_ n1_ n2_ n3_ n4_ n5_ n6_ n7_ n8_ n9_; clear hb hbox hg; have hnb9 := NB355_356.out; have hnc9 := NB356_355.out; have hnb10 := NB355_357.out; have hnc10 := NB357_355.out; have hcz11_0 : w8.cell? ⟨gb355, 0, none⟩ = some (.bool a0_0) := (blk_cell BK355.out 0).trans rfl; have hcz11_1 : w8.cell? ⟨gb355, 1, none⟩ = some (.slice A0_1 l0_1.length c0_1) := (blk_cell BK355.out 1).trans rfl; have hfz11_0 := blk_frozen BK355.out 0; have hfz11_1 := blk_frozen BK355.out 1; have hnb12 := NB356_357.out; have hnc12 := NB357_356.out; have hcz13_0 : w8.cell? ⟨gb356, 0, none⟩ = some (.bool a1_0) := (blk_cell BK356.out 0).trans rfl; have hcz13_1 : w8.cell? ⟨gb356, 1, none⟩ = some (.slice A1_1 l1_1.length c1_1) := (blk_cell BK356.out 1).trans rfl; have hfz13_0 := blk_frozen BK356.out 0; have hfz13_1 := blk_frozen BK356.out 1))
 have n0_ := am (blk_drew BK355.out)
 have n1_ := am (blk_drew BK356.out)
 have n2_ := am (blk_drew BK357.out)
 have n3_ := am (below_drew1 HB.out)
 clear BK355
 clear BK356
 clear BK357
 clear HB
 have BK355 := n0_
 have BK356 := n1_
 have BK357 := n2_
 have HB := n3_
 clear n0_ n1_ n2_ n3_
 refine start_ (n := 9) (S := fun w' => w'.cell? ⟨gb355, 0, none⟩ = some (.bool a0_0) ∧ w'.cell? ⟨gb355, 1, none⟩ = some (.slice A0_1 l0_1.length c0_1) ∧ w'.cell? ⟨gb356, 0, none⟩ = some (.bool a1_0) ∧ w'.cell? ⟨gb356, 1, none⟩ = some (.slice A1_1 l1_1.length c1_1)) (ds := []) (bm 9 0) (by kernel_rfl) rfl rfl ⟨(blk_cell BK355.out 0).trans rfl, (blk_cell BK355.out 1).trans rfl, (blk_cell BK356.out 0).trans rfl, (blk_cell BK356.out 1).trans rfl⟩ (fun hHeld => ?_); refine with_tabW zigguratref06_Add.tab2 zigguratref06_Add.bits2 (fun HT_ HW_ => ?_)
 generalize w8.drew = w14 at BK355 BK356 BK357 HB hHeld ⊢
 refine pureB (N := some 14) 0 (bm 9 1) ?_
 refine pureB (N := some 16) 2 (bm 9 5) ?_
 refine pureB (N := some 18) 4 (bm 9 21) ?_
 refine takeB4 (N := some 15) 1 (bm 9 23) hHeld ?_
 refine takeB4 (N := some 17) 3 (bm 9 31) hHeld ?_
 refine takeB4 (N := some 19) 5 (bm 9 63) hHeld ?_
 refine one_ (i := 6) (N := some 20) (bm 9 127) rfl rfl (one_of HT_.out (by kernel_rfl)) (by decide) (fun K hK => ?_)
 refine goes_ Tryz.func58 (by kernel_rfl) rfl #[.slice A0_1 l0_1.length c0_1, .slice A1_1 l1_1.length c1_1] (by rfl) rfl rfl aM ?_
 with_reducible refine (zigguratref01_Add.calls k _ _ l0_1 _ _ l1_1 t358 _ ?side1 ?side2 ?side3 ?side4 A4.out).mono ?_
 (case side1 => exact kC2 ((Kd.C_below HR0_1.out HB.out)))
 (case side2 => exact HC0_1.out)
 (case side3 => exact kC2 ((Kd.C_below HR1_1.out HB.out)))
 (case side4 => exact HC1_1.out)
 rintro e w15 ⟨v359, rfl, ho0, hb⟩
 refine ⟨_, rfl, ?_⟩
 have n0_ := am (Kd.R_lower ho0 (below_size bB))
 have n1_ := am (blk_below (g := gb355) (o := .cells #[.bool a0_0, .slice A0_1 l0_1.length c0_1] 49 (0, 0)) (bk BK355.out) hb)
 have n2_ := am (blk_below (g := gb356) (o := .cells #[.bool a1_0, .slice A1_1 l1_1.length c1_1] 49 (0, 0)) (bk BK356.out) hb)
 have n3_ := am (blk_below (g := gb357) (o := .cells #[.bool false, .slice none 0 0] 49 (0, 0)) (bk BK357.out) hb)
 have n4_ := am (below_step bB hb)
 clear BK355
 clear BK356
 clear BK357
 clear HB
 have HO360 := n0_
 have BK355 := n1_
 have BK356 := n2_
 have BK357 := n3_
 have HB := n4_
 clear n0_ n1_ n2_ n3_ n4_
 (try clear hb)
 (try clear hb2)
 (try clear hk)
 (try clear hi)
 (try clear ho0)
 obtain ⟨Ao16, co16, eo16⟩ := Kd.R_slice HO360.out
 (first | subst eo16 | (injection eo16 with f1_ f2_ f3_; have f4_ := f1_.symm; have f5_ := f3_.symm; clear f1_ f2_ f3_; subst f4_; subst f5_))
 refine hK.out _ _ ⟨(blk_cell BK355.out 0).trans rfl, (blk_cell BK355.out 1).trans rfl, (blk_cell BK356.out 0).trans rfl, (blk_cell BK356.out 1).trans rfl⟩ (fun hHeld => ?_)
 clear hK K
 refine norm_ (a' := ?_) ?_ ?_
 rotate_left
 · show Act.put _ (some 20) _ = _; exact actp
 refine one_ (i := 7) (N := some 21) (bm 9 255) rfl rfl (one_of HT_.out (by kernel_rfl)) (by decide) (fun K hK => ?_)
 refine goes_ Tryz.func48 (by kernel_rfl) rfl #[.bool a0_0, .slice Ao16 t358.length co16] (by rfl) rfl rfl aM ?_
 with_reducible refine (zigguratref06_Make.calls k a0_0 _ _ t358 t361 t362 _ ?side1 ?side2 A5.out).mono ?_
 (case side1 => exact kC2 ((Kd.R_reads' HO360.out).2.2))
 (case side2 => exact (Kd.R_reads' HO360.out).2.1)
 rintro e w17 ⟨v363, rfl, ho0, hb⟩
 refine ⟨_, rfl, ?_⟩
 have n0_ := am (Kd.R_elder' (rR HO360.out) (Kd.R_base ho0) hb)
 have n1_ := am (Kd.R_lower (Kd.R_new' ho0 (Kd.R_lt (rR HO360.out))) (below_size bB))
 have n2_ := am (blk_below (g := gb355) (o := .cells #[.bool a0_0, .slice A0_1 l0_1.length c0_1] 49 (0, 0)) (bk BK355.out) hb)
 have n3_ := am (blk_below (g := gb356) (o := .cells #[.bool a1_0, .slice A1_1 l1_1.length c1_1] 49 (0, 0)) (bk BK356.out) hb)
 have n4_ := am (blk_below (g := gb357) (o := .cells #[.bool false, .slice none 0 0] 49 (0, 0)) (bk BK357.out) hb)
 have n5_ := am (below_step bB hb)
 clear HO360
 clear BK355
 clear BK356
 clear BK357
 clear HB
 have HO360 := n0_
 have HO364 := n1_
 have BK355 := n2_
 have BK356 := n3_
 have BK357 := n4_
 have HB := n5_
 clear n0_ n1_ n2_ n3_ n4_ n5_
 (try clear hb)
 (try clear hb2)
 (try clear hk)
 (try clear hi)
 (try clear ho0)
 obtain ⟨Ao19, co19, eo19⟩ := Kd.R_slice HO364.out
 (first | subst eo19 | (injection eo19 with f1_ f2_ f3_; have f4_ := f1_.symm; have f5_ := f3_.symm; clear f1_ f2_ f3_; subst f4_; subst f5_))
 refine hK.out _ _ ⟨(blk_cell BK355.out 0).trans rfl, (blk_cell BK355.out 1).trans rfl, (blk_cell BK356.out 0).trans rfl, (blk_cell BK356.out 1).trans rfl⟩ (fun hHeld => ?_)
 clear hK K
 refine norm_ (a' := ?_) ?_ ?_
 rotate_left
 · show Act.put _ (some 21) _ = _; exact actp
 refine one_ (i := 8) (N := none) (bm 9 511) rfl rfl (one_of HT_.out (by kernel_rfl)) (by decide) (fun K hK => ?_)
 have hs18 : w17.cell? ⟨gb357, 0, none⟩ = some (.bool false) := (blk_cell BK357.out 0).trans rfl
 have hfs18 := blk_frozen BK357.out 0
 have hns18_0 := NB355_357.out
 have hns18_1 := NB356_357.out
 have hms18_0 := NB357_355.out
 have hms18_1 := NB357_356.out
 have hs20 : w17.cell? ⟨gb357, 1, none⟩ = some (.slice none 0 0) := (blk_cell BK357.out 1).trans rfl
 have hfs20 := blk_frozen BK357.out 1
 have hns20_0 := NB355_357.out
 have hns20_1 := NB356_357.out
 have hms20_0 := NB357_355.out
 have hms20_1 := NB357_356.out
 refine skip_ (w1 := ?_) (by rfl) rfl ?_ ?_
 rotate_left
 · go_simp
   rfl
 refine hK.out _ _ ⟨((cell_far (p := ⟨gb357, _, none⟩) NB355_357.out _).trans (((cell_far (p := ⟨gb357, _, none⟩) NB355_357.out _).trans (hHeld.1)))), ((cell_far (p := ⟨gb357, _, none⟩) NB355_357.out _).trans (((cell_far (p := ⟨gb357, _, none⟩) NB355_357.out _).trans (hHeld.2.1)))), ((cell_far (p := ⟨gb357, _, none⟩) NB356_357.out _).trans (((cell_far (p := ⟨gb357, _, none⟩) NB356_357.out _).trans (hHeld.2.2.1)))), ((cell_far (p := ⟨gb357, _, none⟩) NB356_357.out _).trans (((cell_far (p := ⟨gb357, _, none⟩) NB356_357.out _).trans (hHeld.2.2.2))))⟩ (fun hHeld => ?_)
 clear hK K
 refine done_ (done_of HT_.out (by kernel_rfl)) ?_
 try go_wp2
 refine bodyPost_ret (results_cell_row rfl _ _ gb357 49 #[.bool t361, .slice Ao19 t362.length co19] (0, 0) _ rfl (by (with_reducible repeat (first | refine blk_drewN ?_ _ | refine blk_drew ?_ | refine blk_alloc ?_ _)); refine blk_put (cs := #[.bool t361, .slice none 0 0]) ?_ 1 _ rfl; (with_reducible repeat (first | refine blk_drewN ?_ _ | refine blk_drew ?_ | refine blk_alloc ?_ _)); refine blk_put (cs := #[.bool false, .slice none 0 0]) ?_ 0 _ rfl; (with_reducible repeat (first | refine blk_drewN ?_ _ | refine blk_drew ?_ | refine blk_alloc ?_ _)); exact BK357.out) Tryz.underlying49 rfl (by kernel_rfl)) rfl ?_
 exact ⟨_, eqR, by (with_reducible repeat (first | apply Kd.R_alloc | apply Kd.R_drewN | apply Kd.R_drew)); exact Kd.R_mono (Kd.R_far (p := ⟨gb357, 1, none⟩) (Kd.R_far (p := ⟨gb357, 0, none⟩) (Kd.R_types HO364.out BK357.out (by decide)) (fun _ hk => hk.2) (.bool t361)) (fun _ hk => hk.2) (.slice Ao19 t362.length co19)) (fun _ hk => trivial), bB⟩
mutual
def zigguratref03_School.l0 : Nat → List Int → List Int → List Int → Int → Option (List Int)
 | 0, _, _, _, _ => none
 | k + 1, x0, x1, x5, x6 => if x6 < (x0.length : Int) then (zigguratref03_School.l1 k x0 x1 x5 x6 0 0) else ((zigguratref01_Make.f k x5).bind fun t407 => (some t407))
def zigguratref03_School.l1 : Nat → List Int → List Int → List Int → Int → Int → Int → Option (List Int)
 | 0, _, _, _, _, _, _ => none
 | k + 1, x0, x1, x5, x6, x7, x8 => if x8 < (x1.length : Int) then (if 0 ≤ x6 then (if x6 < (x0.length : Int) then (if 0 ≤ x8 then (if 0 ≤ (wrap64 (x6 + x8)) then (if (wrap64 (x6 + x8)) < (x5.length : Int) then (zigguratref03_School.l1 k x0 x1 (x5.set ((wrap64 (x6 + x8)) : Int).toNat ((IntKind.u64.wrap ((IntKind.u64.wrap ((IntKind.u64.wrap ((IntKind.u64.wrap (rd x0 x6)) * (IntKind.u64.wrap (rd x1 x8)))) + (IntKind.u64.wrap (rd x5 (wrap64 (x6 + x8)))))) + x7)) % 4294967296)) x6 ((IntKind.u64.wrap ((IntKind.u64.wrap ((IntKind.u64.wrap ((IntKind.u64.wrap (rd x0 x6)) * (IntKind.u64.wrap (rd x1 x8)))) + (IntKind.u64.wrap (rd x5 (wrap64 (x6 + x8)))))) + x7)) / 4294967296) (wrap64 (x8 + 1))) else (none)) else (none)) else (none)) else (none)) else (none)) else (if 0 ≤ (wrap64 (x6 + (x1.length : Int))) then (if (wrap64 (x6 + (x1.length : Int))) < (x5.length : Int) then (zigguratref03_School.l0 k x0 x1 (x5.set ((wrap64 (x6 + (x1.length : Int))) : Int).toNat ((x7) % 4294967296)) (wrap64 (x6 + 1))) else (none)) else (none))
end
def zigguratref03_School.f (k : Nat) (l0 : List Int) (l1 : List Int) : Option (List Int) := if 0 ≤ (wrap64 ((l0.length : Int) + (l1.length : Int))) then (if (wrap64 ((l0.length : Int) + (l1.length : Int)) : Int).toNat ≤ 70368744177664 then (zigguratref03_School.l0 k l0 l1 (List.replicate (wrap64 ((l0.length : Int) + (l1.length : Int)) : Int).toNat 0) 0) else (none)) else (none)
theorem zigguratref03_School.calls (k : Nat) (A0 : Option Addr) (c0 : Nat) (l0 : List Int) (A1 : Option Addr) (c1 : Nat) (l1 : List Int) (r : List Int) (w : World) (hr0 : Kd.C (Kd.int .u32) w A0 l0.length l0) (hc0 : l0.length ≤ c0) (hr1 : Kd.C (Kd.int .u32) w A1 l1.length l1) (hc1 : l1.length ≤ c1) (h : zigguratref03_School.f k l0 l1 = some r) :
   Calls Tryz.prog 86 #[.slice A0 l0.length c0, .slice A1 l1.length c1] w fun e w' => ∃ v0_ : Value, e = .returned (v0_) ∧ Kd.R (Kd.int .u32) 23 w' w.heap.size (fun _ => True) v0_ r ∧ Below w.heap.size w w' := by
 have HR0 := am hr0
 have HC0 := am hc0
 clear hr0 hc0
 have HR1 := am hr1
 have HC1 := am hc1
 clear hr1 hc1
 have HB := am (Below.refl w.heap.size w)
 have H := h; unfold zigguratref03_School.f at H
 clear h
 obtain ⟨ji3, hji3⟩ : ∃ j_ : Int, (wrap64 ((l0.length : Int) + (l1.length : Int))) = j_ := ⟨_, rfl⟩
 replace H : (if 0 ≤ (ji3) then (if (ji3 : Int).toNat ≤ 70368744177664 then (zigguratref03_School.l0 k l0 l1 (List.replicate (ji3 : Int).toNat 0) 0) else (none)) else (none)) = some r := by first | (rw [hji3] at H; exact H) | (simp only [hji3] at H ⊢; exact H)
 have hji3w : (IntKind.i64.wrap ((l0.length : Int) + (l1.length : Int))) = ji3 := (i64_w _).trans hji3
 by_cases c4 : 0 ≤ (ji3)
 case neg => exact nn c4 H
 rw [if_pos c4] at H
 have c4b0 := eq_true c4
 have c4b1 : decide (0 ≤ (ji3)) = true := decide_eq_true c4
 clear c4
 by_cases c5 : (ji3 : Int).toNat ≤ 70368744177664
 case neg => exact nn c5 H
 rw [if_pos c5] at H
 have c5b0 := eq_true c5
 have c5b1 : decide ((ji3 : Int).toNat ≤ 70368744177664) = true := decide_eq_true c5
 clear c5
 obtain ⟨y404, hy404⟩ : ∃ y_ : List Int, y_ = (List.replicate (ji3 : Int).toNat 0) := ⟨_, rfl⟩
 replace H : (zigguratref03_School.l0 k l0 l1 y404 0) = some r := by first | (rw [hy404]; exact H) | exact H
 have Ny404 := am hy404
 clear hy404
 have H' := am H
 clear H
 go_enter Tryz.func86, Tryz.ntmps86
 go_wp2_with (first | ((with_reducible refine gate_dst (N := 15) rfl ?_); refine Kd.R_make (Kd.int .u32) _ 23 rfl (N := 15) rfl 27 _ _ rfl ji3 rfl rfl Tryz.underlying27 (.int .u32 0) 4 info23 rfl (by decide) (by omega) 0 (ok := fun _ => True) (okp := fun _ => True) rfl (fun _ hk => hk) trivial (of_decide_eq_true as_) (Nat.le_trans (Nat.mul_le_mul_right _ (of_decide_eq_true as_ : ji3.toNat ≤ 70368744177664)) (by omega)) (Below.refl _ _) (Nat.le_refl _) ?_; intro v405 w6 ho7 hb hg_ hnew_; clear hg_ hnew_; (first | rw [← Ny404.out] at ho7 | (simp only [Int.reduceToNat] at ho7; rw [← Ny404.out] at ho7)); have n0_ := am (Kd.R_lower ho7 (below_size bB)); have n1_ := am (below_step bB hb); clear HB; have HO406 := n0_; have HB := n1_; clear n0_ n1_; clear hb ho7))
 repeat (go_quiet (first | ((with_reducible refine gate_dst (N := 15) rfl ?_); refine Kd.R_make (Kd.int .u32) _ 23 rfl (N := 15) rfl 27 _ _ rfl ji3 rfl rfl Tryz.underlying27 (.int .u32 0) 4 info23 rfl (by decide) (by omega) 0 (ok := fun _ => True) (okp := fun _ => True) rfl (fun _ hk => hk) trivial (of_decide_eq_true as_) (Nat.le_trans (Nat.mul_le_mul_right _ (of_decide_eq_true as_ : ji3.toNat ≤ 70368744177664)) (by omega)) (Below.refl _ _) (Nat.le_refl _) ?_; intro v405 w6 ho7 hb hg_ hnew_; clear hg_ hnew_; (first | rw [← Ny404.out] at ho7 | (simp only [Int.reduceToNat] at ho7; rw [← Ny404.out] at ho7)); have n0_ := am (Kd.R_lower ho7 (below_size bB)); have n1_ := am (below_step bB hb); clear HB; have HO406 := n0_; have HB := n1_; clear n0_ n1_; clear hb ho7)); try go_wp2_with (first | ((with_reducible refine gate_dst (N := 15) rfl ?_); refine Kd.R_make (Kd.int .u32) _ 23 rfl (N := 15) rfl 27 _ _ rfl ji3 rfl rfl Tryz.underlying27 (.int .u32 0) 4 info23 rfl (by decide) (by omega) 0 (ok := fun _ => True) (okp := fun _ => True) rfl (fun _ hk => hk) trivial (of_decide_eq_true as_) (Nat.le_trans (Nat.mul_le_mul_right _ (of_decide_eq_true as_ : ji3.toNat ≤ 70368744177664)) (by omega)) (Below.refl _ _) (Nat.le_refl _) ?_; intro v405 w6 ho7 hb hg_ hnew_; clear hg_ hnew_; (first | rw [← Ny404.out] at ho7 | (simp only [Int.reduceToNat] at ho7; rw [← Ny404.out] at ho7)); have n0_ := am (Kd.R_lower ho7 (below_size bB)); have n1_ := am (below_step bB hb); clear HB; have HO406 := n0_; have HB := n1_; clear n0_ n1_; clear hb ho7)))
 go_loopg [6] k (fun kq v6 w' => ∃ (x5_1 : List Int) (x6_1 : Int), v6 = .int .i64 x6_1 ∧ Aside0 (zigguratref03_School.l0 kq l0 l1 x5_1 x6_1 = some r) ∧ Aside0 (kq ≤ k) ∧ Aside0 (Kd.R (Kd.int .u32) 23 w' w.heap.size (fun _ => True) v405 x5_1) ∧ Aside0 (Below w.heap.size w w'))
 case atStart => exact ⟨(y404), (0), eqS, H', ⟨Nat.le_refl _⟩, ⟨rR (HO406.out)⟩, ⟨bB⟩⟩
 clear H'
 (try clear c1); (try clear p2); (try clear c4); (try clear c4b0); (try clear c4b1); (try clear c5); (try clear c5b0); (try clear c5b1); (try clear p6)
 obtain ⟨x5_1, x6_1, rfl, HA, HK1, HO_5, HB⟩ := hrel
 rcases gk with _ | k1
 · exact absurd HA.out (by simp [zigguratref03_School.l0])
 have H := HA.out
 clear HA
 simp only [zigguratref03_School.l0] at H
 by_cases c8 : x6_1 < (l0.length : Int)
 case neg =>
   rw [if_neg c8] at H
   have c8b0 : decide (x6_1 < (l0.length : Int)) = false := decide_eq_false c8
   clear c8
   obtain ⟨t407, A260, H⟩ := Option.bind_eq_some_iff.mp H
   replace H : (some t407) = some r := H
   have A26 := am A260
   clear A260
   obtain rfl := Option.some.inj H
   obtain ⟨Ao27, co27, eo27⟩ := Kd.R_slice HO_5.out
   subst eo27
   go_wp2_with (first | (go_at_call 70; (with_reducible refine (zigguratref01_Make.calls k1 _ _ x5_1 t407 _ ?side1 ?side2 A26.out).mono ?_); (case side1 => exact kC2 ((Kd.R_reads' HO_5.out).2.2)); (case side2 => exact (Kd.R_reads' HO_5.out).2.1); rintro e w28 ⟨v408, rfl, ho0, hb⟩; have n0_ := am (Kd.R_elder' (rR HO_5.out) (Kd.R_base ho0) hb); have n1_ := am (Kd.R_lower (Kd.R_new' ho0 (Kd.R_lt (rR HO_5.out))) (below_size bB)); have n2_ := am (below_step bB hb); clear HO_5; clear HB; have HO_5 := n0_; have HO409 := n1_; have HB := n2_; clear n0_ n1_ n2_; (try clear hb); (try clear hb2); (try clear hk); (try clear hi); (try clear ho0)))
   repeat (go_quiet (first | (go_at_call 70; (with_reducible refine (zigguratref01_Make.calls k1 _ _ x5_1 t407 _ ?side1 ?side2 A26.out).mono ?_); (case side1 => exact kC2 ((Kd.R_reads' HO_5.out).2.2)); (case side2 => exact (Kd.R_reads' HO_5.out).2.1); rintro e w28 ⟨v408, rfl, ho0, hb⟩; have n0_ := am (Kd.R_elder' (rR HO_5.out) (Kd.R_base ho0) hb); have n1_ := am (Kd.R_lower (Kd.R_new' ho0 (Kd.R_lt (rR HO_5.out))) (below_size bB)); have n2_ := am (below_step bB hb); clear HO_5; clear HB; have HO_5 := n0_; have HO409 := n1_; have HB := n2_; clear n0_ n1_ n2_; (try clear hb); (try clear hb2); (try clear hk); (try clear hi); (try clear ho0))); try go_wp2_with (first | (go_at_call 70; (with_reducible refine (zigguratref01_Make.calls k1 _ _ x5_1 t407 _ ?side1 ?side2 A26.out).mono ?_); (case side1 => exact kC2 ((Kd.R_reads' HO_5.out).2.2)); (case side2 => exact (Kd.R_reads' HO_5.out).2.1); rintro e w28 ⟨v408, rfl, ho0, hb⟩; have n0_ := am (Kd.R_elder' (rR HO_5.out) (Kd.R_base ho0) hb); have n1_ := am (Kd.R_lower (Kd.R_new' ho0 (Kd.R_lt (rR HO_5.out))) (below_size bB)); have n2_ := am (below_step bB hb); clear HO_5; clear HB; have HO_5 := n0_; have HO409 := n1_; have HB := n2_; clear n0_ n1_ n2_; (try clear hb); (try clear hb2); (try clear hk); (try clear hi); (try clear ho0))))
   go_ret
   exact ⟨_, by first | rfl | (simp [errW_none, errW_some] <;> rfl) | (simp only [← hji3]; first | rfl | (simp [errW_none, errW_some] <;> rfl)) | (simp [*, errW_none, errW_some] <;> rfl), by (with_reducible repeat (first | apply Kd.R_alloc | apply Kd.R_drewN | apply Kd.R_drew)); exact Kd.R_mono HO409.out (fun _ hk => trivial), bB⟩
 rw [if_pos c8] at H
 have c8b0 : decide (x6_1 < (l0.length : Int)) = true := decide_eq_true c8
 clear c8
 have H' := am H
 clear H
 go_wp2
 repeat (go_quiet (fail); try go_wp2)
 go_loopg [7, 8] k1 (fun kq v7 v8 w' => ∃ (x5_2 : List Int) (x7_2 : Int) (x8_2 : Int), v7 = .int .u64 x7_2 ∧ v8 = .int .i64 x8_2 ∧ Aside0 (zigguratref03_School.l1 kq l0 l1 x5_2 x6_1 x7_2 x8_2 = some r) ∧ Aside0 (kq ≤ k1) ∧ Aside0 (Kd.R (Kd.int .u32) 23 w' w.heap.size (fun _ => True) v405 x5_2) ∧ Aside0 (Below w.heap.size w w'))
 case atStart => exact ⟨(x5_1), (0), (0), eqS, eqS, H', ⟨Nat.le_refl _⟩, ⟨rR (HO_5.out)⟩, ⟨bB⟩⟩
 clear H'
 (try clear c1); (try clear p2); (try clear c4); (try clear c4b0); (try clear c4b1); (try clear c5); (try clear c5b0); (try clear c5b1); (try clear p6); (try clear c8); (try clear c8b0); (try clear p2); (try clear p6)
 obtain ⟨x5_2, x7_2, x8_2, rfl, rfl, HA, HK2, HO_5, HB⟩ := hrel
 rcases gk with _ | k2
 · exact absurd HA.out (by simp [zigguratref03_School.l1])
 have H := HA.out
 clear HA
 simp only [zigguratref03_School.l1] at H
 by_cases c9 : x8_2 < (l1.length : Int)
 case neg =>
   rw [if_neg c9] at H
   have c9b0 : decide (x8_2 < (l1.length : Int)) = false := decide_eq_false c9
   clear c9
   obtain ⟨ji20, hji20⟩ : ∃ j_ : Int, (wrap64 (x6_1 + (l1.length : Int))) = j_ := ⟨_, rfl⟩
   replace H : (if 0 ≤ (ji20) then (if (ji20) < (x5_2.length : Int) then (zigguratref03_School.l0 k2 l0 l1 (x5_2.set ((ji20) : Int).toNat ((x7_2) % 4294967296)) (wrap64 (x6_1 + 1))) else (none)) else (none)) = some r := by first | (rw [hji20] at H; exact H) | (simp only [hji20] at H ⊢; exact H)
   have hji20w : (IntKind.i64.wrap (x6_1 + (l1.length : Int))) = ji20 := (i64_w _).trans hji20
   by_cases c21 : 0 ≤ (ji20)
   case neg => exact nn c21 H
   rw [if_pos c21] at H
   have c21b0 : decide (0 ≤ (ji20)) = true := decide_eq_true c21
   clear c21
   by_cases c22 : (ji20) < (x5_2.length : Int)
   case neg => exact nn c22 H
   rw [if_pos c22] at H
   have c22b0 : decide ((ji20) < (x5_2.length : Int)) = true := decide_eq_true c22
   clear c22
   obtain ⟨y414, hy414⟩ : ∃ y_ : List Int, y_ = (x5_2.set ((ji20) : Int).toNat ((x7_2) % 4294967296)) := ⟨_, rfl⟩
   replace H : (zigguratref03_School.l0 k2 l0 l1 y414 (wrap64 (x6_1 + 1))) = some r := by first | (rw [hy414]; exact H) | exact H
   have Ny414 := am hy414
   clear hy414
   have H' := am H
   clear H
   have p23 : 0 ≤ ((ji20) : Int) := of_decide_eq_true as_
   have q23 : ((ji20) : Int) < ((x5_2.length : Int) : Int) := of_decide_eq_true as_
   obtain ⟨go23, co23, eo23, gb23, gl23, cl23, HG23⟩ := Kd.R_form HO_5.out (by omega)
   (first | cases eo23 | (injection eo23 with ea_ en_ ec_; (first | subst ea_ | (injection ea_ with ea_; subst ea_)); subst ec_; clear en_))
   have GB23 := am gb23
   have GG23 := am HG23
   clear gb23 gl23 HG23
   obtain ⟨hx23_0, hf23_0⟩ := Kd.R_celln 0 HO_5.out ((ji20) : Int) p23 q23
   replace p23 := eq_true p23
   replace q23 := eq_true q23
   have HP24 := Kd.R_putg HO_5.out ((ji20) : Int) ((x7_2) % 4294967296)
   go_wp2_with (first | ((with_reducible refine gate_store (t := 23) (p := 65) rfl ?_); (try (rw [drewN_self wr]; generalize hq_ : World.drewN wr _ = wr; have n0_ := am (Kd.R_at hq_ HO_5.out); have n1_ := am (below_at hq_ HB.out); clear hq_ HO_5 HB; have HO_5 := n0_; have HB := n1_; clear n0_ n1_; (try (have HP24 := Kd.R_putg HO_5.out ((ji20) : Int) ((x7_2) % 4294967296))))); refine store_event (t := 23) (p := 65) (v := ?vo_w25) (w1 := (wr.setCell ⟨go23, ((ji20) : Int).toNat, none⟩ (.int .u32 ((x7_2) % 4294967296)))) ?hg ?ho ?hn ?hr ?_; (case ho => rfl); (case hg => rfl); (case hn => rfl); (case hr => first | (go_simp; done) | (go_simp; rfl)); intro w25 hw; have hg : wr.grownBy w25 (some go23) := (by rw [hw]; exact HP24.2); have hp_ : Kd.R (Kd.int .u32) 23 w25 w.heap.size (fun _ => True) (.slice (some ⟨go23, 0, none⟩) x5_2.length co23) y414 := (by rw [hw, Ny414.out]; exact HP24.1); clear HP24; have n0_ := am (hp_); have n1_ := am ((by rw [hw]; exact below_set (HB.out) GB23.out : Below w.heap.size w w25)); clear HO_5; clear HB; have HO_5 := n0_; have HB := n1_; clear n0_ n1_; clear hg hw hp_))
   repeat (go_quiet (first | ((with_reducible refine gate_store (t := 23) (p := 65) rfl ?_); (try (rw [drewN_self wr]; generalize hq_ : World.drewN wr _ = wr; have n0_ := am (Kd.R_at hq_ HO_5.out); have n1_ := am (below_at hq_ HB.out); clear hq_ HO_5 HB; have HO_5 := n0_; have HB := n1_; clear n0_ n1_; (try (have HP24 := Kd.R_putg HO_5.out ((ji20) : Int) ((x7_2) % 4294967296))))); refine store_event (t := 23) (p := 65) (v := ?vo_w25) (w1 := (wr.setCell ⟨go23, ((ji20) : Int).toNat, none⟩ (.int .u32 ((x7_2) % 4294967296)))) ?hg ?ho ?hn ?hr ?_; (case ho => rfl); (case hg => rfl); (case hn => rfl); (case hr => first | (go_simp; done) | (go_simp; rfl)); intro w25 hw; have hg : wr.grownBy w25 (some go23) := (by rw [hw]; exact HP24.2); have hp_ : Kd.R (Kd.int .u32) 23 w25 w.heap.size (fun _ => True) (.slice (some ⟨go23, 0, none⟩) x5_2.length co23) y414 := (by rw [hw, Ny414.out]; exact HP24.1); clear HP24; have n0_ := am (hp_); have n1_ := am ((by rw [hw]; exact below_set (HB.out) GB23.out : Below w.heap.size w w25)); clear HO_5; clear HB; have HO_5 := n0_; have HB := n1_; clear n0_ n1_; clear hg hw hp_)); try go_wp2_with (first | ((with_reducible refine gate_store (t := 23) (p := 65) rfl ?_); (try (rw [drewN_self wr]; generalize hq_ : World.drewN wr _ = wr; have n0_ := am (Kd.R_at hq_ HO_5.out); have n1_ := am (below_at hq_ HB.out); clear hq_ HO_5 HB; have HO_5 := n0_; have HB := n1_; clear n0_ n1_; (try (have HP24 := Kd.R_putg HO_5.out ((ji20) : Int) ((x7_2) % 4294967296))))); refine store_event (t := 23) (p := 65) (v := ?vo_w25) (w1 := (wr.setCell ⟨go23, ((ji20) : Int).toNat, none⟩ (.int .u32 ((x7_2) % 4294967296)))) ?hg ?ho ?hn ?hr ?_; (case ho => rfl); (case hg => rfl); (case hn => rfl); (case hr => first | (go_simp; done) | (go_simp; rfl)); intro w25 hw; have hg : wr.grownBy w25 (some go23) := (by rw [hw]; exact HP24.2); have hp_ : Kd.R (Kd.int .u32) 23 w25 w.heap.size (fun _ => True) (.slice (some ⟨go23, 0, none⟩) x5_2.length co23) y414 := (by rw [hw, Ny414.out]; exact HP24.1); clear HP24; have n0_ := am (hp_); have n1_ := am ((by rw [hw]; exact below_set (HB.out) GB23.out : Below w.heap.size w w25)); clear HO_5; clear HB; have HO_5 := n0_; have HB := n1_; clear n0_ n1_; clear hg hw hp_)))
   first | go_roundg k2 | (subst hji3; go_roundg k2) | (subst hji20; go_roundg k2)
   case measure => have := HK1.out; have := HK2.out; omega
   case rel => exact ⟨(y414), (wrap64 (x6_1 + 1)), eqS, (by first | exact H' | (subst_vars; exact H')), ⟨by have := HK1.out; have := HK2.out; omega⟩, ⟨rR (HO_5.out)⟩, ⟨bB⟩⟩
 rw [if_pos c9] at H
 have c9b0 : decide (x8_2 < (l1.length : Int)) = true := decide_eq_true c9
 clear c9
 by_cases c10 : 0 ≤ x6_1
 case neg => exact nn c10 H
 rw [if_pos c10] at H
 have c10b0 : decide (0 ≤ x6_1) = true := decide_eq_true c10
 clear c10
 by_cases c11 : x6_1 < (l0.length : Int)
 case neg => exact nn c11 H
 rw [if_pos c11] at H
 have c11b0 : decide (x6_1 < (l0.length : Int)) = true := decide_eq_true c11
 clear c11
 by_cases c12 : 0 ≤ x8_2
 case neg => exact nn c12 H
 rw [if_pos c12] at H
 have c12b0 : decide (0 ≤ x8_2) = true := decide_eq_true c12
 clear c12
 obtain ⟨ji13, hji13⟩ : ∃ j_ : Int, (wrap64 (x6_1 + x8_2)) = j_ := ⟨_, rfl⟩
 replace H : (if 0 ≤ (ji13) then (if (ji13) < (x5_2.length : Int) then (zigguratref03_School.l1 k2 l0 l1 (x5_2.set ((ji13) : Int).toNat ((IntKind.u64.wrap ((IntKind.u64.wrap ((IntKind.u64.wrap ((IntKind.u64.wrap (rd l0 x6_1)) * (IntKind.u64.wrap (rd l1 x8_2)))) + (IntKind.u64.wrap (rd x5_2 (ji13))))) + x7_2)) % 4294967296)) x6_1 ((IntKind.u64.wrap ((IntKind.u64.wrap ((IntKind.u64.wrap ((IntKind.u64.wrap (rd l0 x6_1)) * (IntKind.u64.wrap (rd l1 x8_2)))) + (IntKind.u64.wrap (rd x5_2 (ji13))))) + x7_2)) / 4294967296) (wrap64 (x8_2 + 1))) else (none)) else (none)) = some r := by first | (rw [hji13] at H; exact H) | (simp only [hji13] at H ⊢; exact H)
 have hji13w : (IntKind.i64.wrap (x6_1 + x8_2)) = ji13 := (i64_w _).trans hji13
 by_cases c14 : 0 ≤ (ji13)
 case neg => exact nn c14 H
 rw [if_pos c14] at H
 have c14b0 : decide (0 ≤ (ji13)) = true := decide_eq_true c14
 clear c14
 by_cases c15 : (ji13) < (x5_2.length : Int)
 case neg => exact nn c15 H
 rw [if_pos c15] at H
 have c15b0 : decide ((ji13) < (x5_2.length : Int)) = true := decide_eq_true c15
 clear c15
 obtain ⟨y413, hy413⟩ : ∃ y_ : List Int, y_ = (x5_2.set ((ji13) : Int).toNat ((IntKind.u64.wrap ((IntKind.u64.wrap ((IntKind.u64.wrap ((IntKind.u64.wrap (rd l0 x6_1)) * (IntKind.u64.wrap (rd l1 x8_2)))) + (IntKind.u64.wrap (rd x5_2 (ji13))))) + x7_2)) % 4294967296)) := ⟨_, rfl⟩
 replace H : (zigguratref03_School.l1 k2 l0 l1 y413 x6_1 ((IntKind.u64.wrap ((IntKind.u64.wrap ((IntKind.u64.wrap ((IntKind.u64.wrap (rd l0 x6_1)) * (IntKind.u64.wrap (rd l1 x8_2)))) + (IntKind.u64.wrap (rd x5_2 (ji13))))) + x7_2)) / 4294967296) (wrap64 (x8_2 + 1))) = some r := by first | (rw [hy413]; exact H) | exact H
 have Ny413 := am hy413
 clear hy413
 have H' := am H
 clear H
 have p410 : 0 ≤ (x6_1 : Int) := of_decide_eq_true as_
 have q410 : x6_1 < (l0.length : Int) := of_decide_eq_true as_
 obtain ⟨ad410, e410, hx410_0⟩ := Kd.at_int HR0.out x6_1 p410 q410
 cases e410
 replace hx410_0 := (HB.out.cell (World.block_lt_of_cell? w _ hx410_0)).trans hx410_0
 replace p410 := eq_true p410
 replace q410 := eq_true q410
 have p411 : 0 ≤ (x8_2 : Int) := of_decide_eq_true as_
 have q411 : x8_2 < (l1.length : Int) := of_decide_eq_true as_
 obtain ⟨ad411, e411, hx411_0⟩ := Kd.at_int HR1.out x8_2 p411 q411
 cases e411
 replace hx411_0 := (HB.out.cell (World.block_lt_of_cell? w _ hx411_0)).trans hx411_0
 replace p411 := eq_true p411
 replace q411 := eq_true q411
 obtain ⟨Ao17, co17, eo17⟩ := Kd.R_slice HO_5.out
 subst eo17
 have p412 : 0 ≤ ((ji13) : Int) := of_decide_eq_true as_
 have q412 : (ji13) < (x5_2.length : Int) := of_decide_eq_true as_
 obtain ⟨ad412, e412, hx412_0⟩ := Kd.at_int (Kd.R_reads' HO_5.out).2.2 (ji13) p412 q412
 cases e412
 replace p412 := eq_true p412
 replace q412 := eq_true q412
 have p16 : 0 ≤ ((ji13) : Int) := of_decide_eq_true as_
 have q16 : ((ji13) : Int) < ((x5_2.length : Int) : Int) := of_decide_eq_true as_
 obtain ⟨go16, co16, eo16, gb16, gl16, cl16, HG16⟩ := Kd.R_form HO_5.out (by omega)
 (first | cases eo16 | (injection eo16 with ea_ en_ ec_; (first | subst ea_ | (injection ea_ with ea_; subst ea_)); subst ec_; clear en_))
 have GB16 := am gb16
 have GG16 := am HG16
 clear gb16 gl16 HG16
 (first | simp only [add_plain] at hx412_0 | skip)
 obtain ⟨hx16_0, hf16_0⟩ := Kd.R_celln 0 HO_5.out ((ji13) : Int) p16 q16
 replace p16 := eq_true p16
 replace q16 := eq_true q16
 have HP18 := Kd.R_putg HO_5.out ((ji13) : Int) ((IntKind.u64.wrap ((IntKind.u64.wrap ((IntKind.u64.wrap ((IntKind.u64.wrap (rd l0 x6_1)) * (IntKind.u64.wrap (rd l1 x8_2)))) + (IntKind.u64.wrap (rd x5_2 (ji13))))) + x7_2)) % 4294967296)
 go_wp2_with (first | ((with_reducible refine gate_store (t := 23) (p := 55) rfl ?_); (try (rw [drewN_self wr]; generalize hq_ : World.drewN wr _ = wr; have n0_ := am (Kd.R_at hq_ HO_5.out); have n1_ := am (below_at hq_ HB.out); clear hq_ HO_5 HB; have HO_5 := n0_; have HB := n1_; clear n0_ n1_; (try (have HP18 := Kd.R_putg HO_5.out ((ji13) : Int) ((IntKind.u64.wrap ((IntKind.u64.wrap ((IntKind.u64.wrap ((IntKind.u64.wrap (rd l0 x6_1)) * (IntKind.u64.wrap (rd l1 x8_2)))) + (IntKind.u64.wrap (rd x5_2 (ji13))))) + x7_2)) % 4294967296))))); refine store_event (t := 23) (p := 55) (v := ?vo_w19) (w1 := (wr.setCell ⟨go16, ((ji13) : Int).toNat, none⟩ (.int .u32 ((IntKind.u64.wrap ((IntKind.u64.wrap ((IntKind.u64.wrap ((IntKind.u64.wrap (rd l0 x6_1)) * (IntKind.u64.wrap (rd l1 x8_2)))) + (IntKind.u64.wrap (rd x5_2 (ji13))))) + x7_2)) % 4294967296)))) ?hg ?ho ?hn ?hr ?_; (case ho => rfl); (case hg => rfl); (case hn => rfl); (case hr => first | (go_simp; done) | (go_simp; rfl)); intro w19 hw; have hg : wr.grownBy w19 (some go16) := (by rw [hw]; exact HP18.2); have hp_ : Kd.R (Kd.int .u32) 23 w19 w.heap.size (fun _ => True) (.slice (some ⟨go16, 0, none⟩) x5_2.length co17) y413 := (by rw [hw, Ny413.out]; exact HP18.1); clear HP18; have n0_ := am (hp_); have n1_ := am ((by rw [hw]; exact below_set (HB.out) GB16.out : Below w.heap.size w w19)); clear HO_5; clear HB; have HO_5 := n0_; have HB := n1_; clear n0_ n1_; clear hg hw hp_))
 repeat (go_quiet (first | ((with_reducible refine gate_store (t := 23) (p := 55) rfl ?_); (try (rw [drewN_self wr]; generalize hq_ : World.drewN wr _ = wr; have n0_ := am (Kd.R_at hq_ HO_5.out); have n1_ := am (below_at hq_ HB.out); clear hq_ HO_5 HB; have HO_5 := n0_; have HB := n1_; clear n0_ n1_; (try (have HP18 := Kd.R_putg HO_5.out ((ji13) : Int) ((IntKind.u64.wrap ((IntKind.u64.wrap ((IntKind.u64.wrap ((IntKind.u64.wrap (rd l0 x6_1)) * (IntKind.u64.wrap (rd l1 x8_2)))) + (IntKind.u64.wrap (rd x5_2 (ji13))))) + x7_2)) % 4294967296))))); refine store_event (t := 23) (p := 55) (v := ?vo_w19) (w1 := (wr.setCell ⟨go16, ((ji13) : Int).toNat, none⟩ (.int .u32 ((IntKind.u64.wrap ((IntKind.u64.wrap ((IntKind.u64.wrap ((IntKind.u64.wrap (rd l0 x6_1)) * (IntKind.u64.wrap (rd l1 x8_2)))) + (IntKind.u64.wrap (rd x5_2 (ji13))))) + x7_2)) % 4294967296)))) ?hg ?ho ?hn ?hr ?_; (case ho => rfl); (case hg => rfl); (case hn => rfl); (case hr => first | (go_simp; done) | (go_simp; rfl)); intro w19 hw; have hg : wr.grownBy w19 (some go16) := (by rw [hw]; exact HP18.2); have hp_ : Kd.R (Kd.int .u32) 23 w19 w.heap.size (fun _ => True) (.slice (some ⟨go16, 0, none⟩) x5_2.length co17) y413 := (by rw [hw, Ny413.out]; exact HP18.1); clear HP18; have n0_ := am (hp_); have n1_ := am ((by rw [hw]; exact below_set (HB.out) GB16.out : Below w.heap.size w w19)); clear HO_5; clear HB; have HO_5 := n0_; have HB := n1_; clear n0_ n1_; clear hg hw hp_)); try go_wp2_with (first | ((with_reducible refine gate_store (t := 23) (p := 55) rfl ?_); (try (rw [drewN_self wr]; generalize hq_ : World.drewN wr _ = wr; have n0_ := am (Kd.R_at hq_ HO_5.out); have n1_ := am (below_at hq_ HB.out); clear hq_ HO_5 HB; have HO_5 := n0_; have HB := n1_; clear n0_ n1_; (try (have HP18 := Kd.R_putg HO_5.out ((ji13) : Int) ((IntKind.u64.wrap ((IntKind.u64.wrap ((IntKind.u64.wrap ((IntKind.u64.wrap (rd l0 x6_1)) * (IntKind.u64.wrap (rd l1 x8_2)))) + (IntKind.u64.wrap (rd x5_2 (ji13))))) + x7_2)) % 4294967296))))); refine store_event (t := 23) (p := 55) (v := ?vo_w19) (w1 := (wr.setCell ⟨go16, ((ji13) : Int).toNat, none⟩ (.int .u32 ((IntKind.u64.wrap ((IntKind.u64.wrap ((IntKind.u64.wrap ((IntKind.u64.wrap (rd l0 x6_1)) * (IntKind.u64.wrap (rd l1 x8_2)))) + (IntKind.u64.wrap (rd x5_2 (ji13))))) + x7_2)) % 4294967296)))) ?hg ?ho ?hn ?hr ?_; (case ho => rfl); (case hg => rfl); (case hn => rfl); (case hr => first | (go_simp; done) | (go_simp; rfl)); intro w19 hw; have hg : wr.grownBy w19 (some go16) := (by rw [hw]; exact HP18.2); have hp_ : Kd.R (Kd.int .u32) 23 w19 w.heap.size (fun _ => True) (.slice (some ⟨go16, 0, none⟩) x5_2.length co17) y413 := (by rw [hw, Ny413.out]; exact HP18.1); clear HP18; have n0_ := am (hp_); have n1_ := am ((by rw [hw]; exact below_set (HB.out) GB16.out : Below w.heap.size w w19)); clear HO_5; clear HB; have HO_5 := n0_; have HB := n1_; clear n0_ n1_; clear hg hw hp_)))
 first | go_roundg k2 | (subst hji3; go_roundg k2) | (subst hji13; go_roundg k2)
 case measure => have := HK1.out; have := HK2.out; omega
 case rel => exact ⟨(y413), ((IntKind.u64.wrap ((IntKind.u64.wrap ((IntKind.u64.wrap ((IntKind.u64.wrap (rd l0 x6_1)) * (IntKind.u64.wrap (rd l1 x8_2)))) + (IntKind.u64.wrap (rd x5_2 (ji13))))) + x7_2)) / 4294967296), (wrap64 (x8_2 + 1)), (by first | rfl | (simp; done) | (simp only [← hji13] <;> (first | rfl | simp)) | (simp [*]; done)), eqS, (by first | exact H' | (subst_vars; exact H')), ⟨by have := HK1.out; have := HK2.out; omega⟩, ⟨by rw [Ny413.out]; exact (Kd.R_putg (Kd.R_drewN HO_5.out _) _ _).1⟩, ⟨below_set (pw_below_drewN HB.out _) GB16.out⟩⟩
def zigguratref03_Mul.f (k : Nat) (l0 : List Int) (l1 : List Int) : Option (List Int) := (zigguratref03_School.f k l0 l1).bind fun t415 => (some t415)
theorem zigguratref03_Mul.calls (k : Nat) (A0 : Option Addr) (c0 : Nat) (l0 : List Int) (A1 : Option Addr) (c1 : Nat) (l1 : List Int) (r : List Int) (w : World) (hr0 : Kd.C (Kd.int .u32) w A0 l0.length l0) (hc0 : l0.length ≤ c0) (hr1 : Kd.C (Kd.int .u32) w A1 l1.length l1) (hc1 : l1.length ≤ c1) (h : zigguratref03_Mul.f k l0 l1 = some r) :
   Calls Tryz.prog 60 #[.slice A0 l0.length c0, .slice A1 l1.length c1] w fun e w' => ∃ v0_ : Value, e = .returned (v0_) ∧ Kd.R (Kd.int .u32) 23 w' w.heap.size (fun _ => True) v0_ r ∧ Below w.heap.size w w' := by
 have HR0 := am hr0
 have HC0 := am hc0
 clear hr0 hc0
 have HR1 := am hr1
 have HC1 := am hc1
 clear hr1 hc1
 have HB := am (Below.refl w.heap.size w)
 have H := h; unfold zigguratref03_Mul.f at H
 clear h
 obtain ⟨t415, A30, H⟩ := Option.bind_eq_some_iff.mp H
 replace H : (some t415) = some r := H
 have A3 := am A30
 clear A30
 obtain rfl := Option.some.inj H
 go_enter Tryz.func60, Tryz.ntmps60
 go_wp2_with (first | ((with_reducible refine gate_callee (f := 86) rfl ?_); refine goesA (some 7) Tryz.func86 #[.slice A0 l0.length c0, .slice A1 l1.length c1] ?_; (with_reducible refine (zigguratref03_School.calls k _ _ l0 _ _ l1 t415 _ ?side1 ?side2 ?side3 ?side4 A3.out).mono ?_); (case side1 => exact kC2 (HR0.out)); (case side2 => exact HC0.out); (case side3 => exact kC2 (HR1.out)); (case side4 => exact HC1.out); rintro e w4 ⟨v416, rfl, ho0, hb⟩; refine ⟨_, rfl, ?_⟩; have n0_ := am (Kd.R_lower ho0 (below_size bB)); have n1_ := am (below_step bB hb); clear HB; have HO417 := n0_; have HB := n1_; clear n0_ n1_; (try clear hb); (try clear hb2); (try clear hk); (try clear hi); (try clear ho0)))
 go_ret
 exact ⟨_, eqR, rR (HO417.out), bB⟩
def zigguratref06_Mul.f (k : Nat) (a0_0 : Bool) (l0_1 : List Int) (a1_0 : Bool) (l1_1 : List Int) : Option (Bool × List Int) := (zigguratref03_Mul.f k l0_1 l1_1).bind fun t421 => ((zigguratref06_Make.f k (a0_0 != a1_0) t421).bind fun bt424 => (some (bt424.1, bt424.2)))
def zigguratref06_Mul.T1 : Bool × List (List Nat × List Nat) := (true, [([], []), ([0], [0]), ([], []), ([2], [2]), ([1, 3], [1, 3]), ([], []), ([5], [5]), ([], []), ([7], [7]), ([6, 8], [6, 8]), ([4, 9, 9], [4, 9]), ([10, 10, 0, 1, 2, 3, 4, 5, 6, 7, 8, 9, 10], [10])])
def zigguratref06_Mul.B1 : List Nat := [0, 1, 0, 4, 15, 0, 32, 0, 128, 480, 1023, 2047]
theorem zigguratref06_Mul.tab1 : rtab .any (opsOf Tryz.f34 1) = zigguratref06_Mul.T1 := by kernel_rfl
theorem zigguratref06_Mul.bits1 : waitsOk zigguratref06_Mul.T1.2 zigguratref06_Mul.B1 = true := by kernel_rfl
theorem zigguratref06_Mul.calls (k : Nat) (a0_0 : Bool) (A0_1 : Option Addr) (c0_1 : Nat) (l0_1 : List Int) (a1_0 : Bool) (A1_1 : Option Addr) (c1_1 : Nat) (l1_1 : List Int) (r1 : Bool) (r2 : List Int) (w : World) (hr0_1 : Kd.C (Kd.int .u32) w A0_1 l0_1.length l0_1) (hc0_1 : l0_1.length ≤ c0_1) (hr1_1 : Kd.C (Kd.int .u32) w A1_1 l1_1.length l1_1) (hc1_1 : l1_1.length ≤ c1_1) (h : zigguratref06_Mul.f k a0_0 l0_1 a1_0 l1_1 = some (r1, r2)) :
   Calls Tryz.prog 34 #[.agg #[.bool a0_0, .slice A0_1 l0_1.length c0_1], .agg #[.bool a1_0, .slice A1_1 l1_1.length c1_1]] w fun e w' => ∃ v1_ : Value, e = .returned (.agg #[.bool r1, v1_]) ∧ Kd.R (Kd.int .u32) 23 w' w.heap.size (fun _ => True) v1_ r2 ∧ Below w.heap.size w w' := by
 have hu49 := Tryz.underlying49
 have HR0_1 := am hr0_1
 have HC0_1 := am hc0_1
 clear hr0_1 hc0_1
 have HR1_1 := am hr1_1
 have HC1_1 := am hc1_1
 clear hr1_1 hc1_1
 have HB := am (Below.refl w.heap.size w)
 have H := h; unfold zigguratref06_Mul.f at H
 clear h
 obtain ⟨t421, A30, H⟩ := Option.bind_eq_some_iff.mp H
 try dsimp only at H
 have A3 := am A30
 clear A30
 obtain ⟨⟨t424, t425⟩, A40, H⟩ := Option.bind_eq_some_iff.mp H
 replace H : (some (t424, t425)) = some (r1, r2) := H
 have A4 := am A40
 clear A40
 simp only [Option.some.injEq, Prod.mk.injEq] at H
 obtain ⟨rfl, rfl⟩ := H
 go_enter Tryz.func34, Tryz.ntmps34
 try go_wp2_with (first | ((with_reducible refine gate_dst (N := 2) rfl ?_); refine boxE (N := 2) (cs := #[.bool a0_0, .slice A0_1 l0_1.length c0_1]) (t := 49) ?_; intro gb418 hg w5 hbox hb; have n0_ := am (below_step bB hb); have n1_ := am (hbox); have n2_ := am ((by rw [hg]; exact (below_size bB) : w.heap.size ≤ gb418)); have n3_ := am ((by rw [hg]; exact (below_size bB) : w.heap.size ≤ gb418)); clear HB; have HB := n0_; have BK418 := n1_; have GW418 := n2_; have GE418 := n3_; clear n0_ n1_ n2_ n3_; clear hb hbox hg) | ((with_reducible refine gate_dst (N := 3) rfl ?_); refine boxE (N := 3) (cs := #[.bool a1_0, .slice A1_1 l1_1.length c1_1]) (t := 49) ?_; intro gb419 hg w6 hbox hb; have n0_ := am (blk_below (g := gb418) (o := .cells #[.bool a0_0, .slice A0_1 l0_1.length c0_1] 49 (0, 0)) (bk BK418.out) hb); have n1_ := am (below_step bB hb); have n2_ := am (hbox); have n3_ := am ((by rw [hg]; exact (below_size bB) : w.heap.size ≤ gb419)); have n4_ := am ((by rw [hg]; exact (below_size bB) : w.heap.size ≤ gb419)); have n5_ := am ((by rw [hg]; exact Nat.ne_of_lt (blk_lt (g := gb418) (o := .cells #[.bool a0_0, .slice A0_1 l0_1.length c0_1] 49 (0, 0)) (bk BK418.out)) : gb418 ≠ gb419)); have n6_ := am ((by rw [hg]; exact Nat.ne_of_gt (blk_lt (g := gb418) (o := .cells #[.bool a0_0, .slice A0_1 l0_1.length c0_1] 49 (0, 0)) (bk BK418.out)) : gb419 ≠ gb418)); clear BK418; clear HB; have BK418 := n0_; have HB := n1_; have BK419 := n2_; have GW419 := n3_; have GE419 := n4_; have NB418_419 := n5_; have NB419_418 := n6_; clear n0_ n1_ n2_ n3_ n4_ n5_ n6_; clear hb hbox hg) | ((with_reducible refine gate_dst (N := 4) rfl ?_); refine boxE (N := 4) (cs := #[.bool false, .slice none 0 0]) (t := 49) ?_; intro gb420 hg w7 hbox hb; have n0_ := am (blk_below (g := gb418) (o := .cells #[.bool a0_0, .slice A0_1 l0_1.length c0_1] 49 (0, 0)) (bk BK418.out) hb); have n1_ := am (blk_below (g := gb419) (o := .cells #[.bool a1_0, .slice A1_1 l1_1.length c1_1] 49 (0, 0)) (bk BK419.out) hb); have n2_ := am (below_step bB hb); have n3_ := am (hbox); have n4_ := am ((by rw [hg]; exact (below_size bB) : w.heap.size ≤ gb420)); have n5_ := am ((by rw [hg]; exact (below_size bB) : w.heap.size ≤ gb420)); have n6_ := am ((by rw [hg]; exact Nat.ne_of_lt (blk_lt (g := gb418) (o := .cells #[.bool a0_0, .slice A0_1 l0_1.length c0_1] 49 (0, 0)) (bk BK418.out)) : gb418 ≠ gb420)); have n7_ := am ((by rw [hg]; exact Nat.ne_of_gt (blk_lt (g := gb418) (o := .cells #[.bool a0_0, .slice A0_1 l0_1.length c0_1] 49 (0, 0)) (bk BK418.out)) : gb420 ≠ gb418)); have n8_ := am ((by rw [hg]; exact Nat.ne_of_lt (blk_lt (g := gb419) (o := .cells #[.bool a1_0, .slice A1_1 l1_1.length c1_1] 49 (0, 0)) (bk BK419.out)) : gb419 ≠ gb420)); have n9_ := am ((by rw [hg]; exact Nat.ne_of_gt (blk_lt (g := gb419) (o := .cells #[.bool a1_0, .slice A1_1 l1_1.length c1_1] 49 (0, 0)) (bk BK419.out)) : gb420 ≠ gb419)); clear BK418; clear BK419; clear HB; have BK418 := n0_; have BK419 := n1_; have HB := n2_; have BK420 := n3_; have GW420 := n4_; have GE420 := n5_; have NB418_420 := n6_; have NB420_418 := n7_; have NB419_420 := n8_; have NB420_419 := n9_; clear n0_ n1_ n2_ n3_ n4_ n5_ n6_ n7_ n8_ n9_; clear hb hbox hg))
 have n0_ := am (blk_drew BK418.out)
 have n1_ := am (blk_drew BK419.out)
 have n2_ := am (blk_drew BK420.out)
 have n3_ := am (below_drew1 HB.out)
 clear BK418
 clear BK419
 clear BK420
 clear HB
 have BK418 := n0_
 have BK419 := n1_
 have BK420 := n2_
 have HB := n3_
 clear n0_ n1_ n2_ n3_
 refine start_ (n := 12) (S := fun w' => w'.cell? ⟨gb418, 0, none⟩ = some (.bool a0_0) ∧ w'.cell? ⟨gb418, 1, none⟩ = some (.slice A0_1 l0_1.length c0_1) ∧ w'.cell? ⟨gb419, 0, none⟩ = some (.bool a1_0) ∧ w'.cell? ⟨gb419, 1, none⟩ = some (.slice A1_1 l1_1.length c1_1)) (ds := []) (bm 12 0) (by kernel_rfl) rfl rfl ⟨(blk_cell BK418.out 0).trans rfl, (blk_cell BK418.out 1).trans rfl, (blk_cell BK419.out 0).trans rfl, (blk_cell BK419.out 1).trans rfl⟩ (fun hHeld => ?_); refine with_tabW zigguratref06_Mul.tab1 zigguratref06_Mul.bits1 (fun HT_ HW_ => ?_)
 generalize w7.drew = w8 at BK418 BK419 BK420 HB hHeld ⊢
 refine pureB (N := some 5) 0 (bm 12 1) ?_
 refine pureB (N := some 7) 2 (bm 12 5) ?_
 refine pureB (N := some 10) 5 (bm 12 37) ?_
 refine pureB (N := some 12) 7 (bm 12 165) ?_
 refine takeB4 (N := some 6) 1 (bm 12 167) hHeld ?_
 refine takeB4 (N := some 8) 3 (bm 12 175) hHeld ?_
 refine pureB (N := some 9) 4 (bm 12 191) ?_
 refine takeB4 (N := some 11) 6 (bm 12 255) hHeld ?_
 refine takeB4 (N := some 13) 8 (bm 12 511) hHeld ?_
 refine one_ (i := 9) (N := some 14) (bm 12 1023) rfl rfl (one_of HT_.out (by kernel_rfl)) (by decide) (fun K hK => ?_)
 refine goes_ Tryz.func60 (by kernel_rfl) rfl #[.slice A0_1 l0_1.length c0_1, .slice A1_1 l1_1.length c1_1] (by rfl) rfl rfl aM ?_
 with_reducible refine (zigguratref03_Mul.calls k _ _ l0_1 _ _ l1_1 t421 _ ?side1 ?side2 ?side3 ?side4 A3.out).mono ?_
 (case side1 => exact kC2 ((Kd.C_below HR0_1.out HB.out)))
 (case side2 => exact HC0_1.out)
 (case side3 => exact kC2 ((Kd.C_below HR1_1.out HB.out)))
 (case side4 => exact HC1_1.out)
 rintro e w9 ⟨v422, rfl, ho0, hb⟩
 refine ⟨_, rfl, ?_⟩
 have n0_ := am (Kd.R_lower ho0 (below_size bB))
 have n1_ := am (blk_below (g := gb418) (o := .cells #[.bool a0_0, .slice A0_1 l0_1.length c0_1] 49 (0, 0)) (bk BK418.out) hb)
 have n2_ := am (blk_below (g := gb419) (o := .cells #[.bool a1_0, .slice A1_1 l1_1.length c1_1] 49 (0, 0)) (bk BK419.out) hb)
 have n3_ := am (blk_below (g := gb420) (o := .cells #[.bool false, .slice none 0 0] 49 (0, 0)) (bk BK420.out) hb)
 have n4_ := am (below_step bB hb)
 clear BK418
 clear BK419
 clear BK420
 clear HB
 have HO423 := n0_
 have BK418 := n1_
 have BK419 := n2_
 have BK420 := n3_
 have HB := n4_
 clear n0_ n1_ n2_ n3_ n4_
 (try clear hb)
 (try clear hb2)
 (try clear hk)
 (try clear hi)
 (try clear ho0)
 obtain ⟨Ao10, co10, eo10⟩ := Kd.R_slice HO423.out
 (first | subst eo10 | (injection eo10 with f1_ f2_ f3_; have f4_ := f1_.symm; have f5_ := f3_.symm; clear f1_ f2_ f3_; subst f4_; subst f5_))
 refine hK.out _ _ ⟨(blk_cell BK418.out 0).trans rfl, (blk_cell BK418.out 1).trans rfl, (blk_cell BK419.out 0).trans rfl, (blk_cell BK419.out 1).trans rfl⟩ (fun hHeld => ?_)
 clear hK K
 refine norm_ (a' := ?_) ?_ ?_
 rotate_left
 · show Act.put _ (some 14) _ = _; exact actp
 refine one_ (i := 10) (N := some 15) (bm 12 2047) rfl rfl (one_of HT_.out (by kernel_rfl)) (by decide) (fun K hK => ?_)
 refine goes_ Tryz.func48 (by kernel_rfl) rfl #[.bool (a0_0 != a1_0), .slice Ao10 t421.length co10] (by rfl) rfl rfl aM ?_
 with_reducible refine (zigguratref06_Make.calls k (a0_0 != a1_0) _ _ t421 t424 t425 _ ?side1 ?side2 A4.out).mono ?_
 (case side1 => exact kC2 ((Kd.R_reads' HO423.out).2.2))
 (case side2 => exact (Kd.R_reads' HO423.out).2.1)
 rintro e w11 ⟨v426, rfl, ho0, hb⟩
 refine ⟨_, rfl, ?_⟩
 have n0_ := am (Kd.R_elder' (rR HO423.out) (Kd.R_base ho0) hb)
 have n1_ := am (Kd.R_lower (Kd.R_new' ho0 (Kd.R_lt (rR HO423.out))) (below_size bB))
 have n2_ := am (blk_below (g := gb418) (o := .cells #[.bool a0_0, .slice A0_1 l0_1.length c0_1] 49 (0, 0)) (bk BK418.out) hb)
 have n3_ := am (blk_below (g := gb419) (o := .cells #[.bool a1_0, .slice A1_1 l1_1.length c1_1] 49 (0, 0)) (bk BK419.out) hb)
 have n4_ := am (blk_below (g := gb420) (o := .cells #[.bool false, .slice none 0 0] 49 (0, 0)) (bk BK420.out) hb)
 have n5_ := am (below_step bB hb)
 clear HO423
 clear BK418
 clear BK419
 clear BK420
 clear HB
 have HO423 := n0_
 have HO427 := n1_
 have BK418 := n2_
 have BK419 := n3_
 have BK420 := n4_
 have HB := n5_
 clear n0_ n1_ n2_ n3_ n4_ n5_
 (try clear hb)
 (try clear hb2)
 (try clear hk)
 (try clear hi)
 (try clear ho0)
 obtain ⟨Ao13, co13, eo13⟩ := Kd.R_slice HO427.out
 (first | subst eo13 | (injection eo13 with f1_ f2_ f3_; have f4_ := f1_.symm; have f5_ := f3_.symm; clear f1_ f2_ f3_; subst f4_; subst f5_))
 refine hK.out _ _ ⟨(blk_cell BK418.out 0).trans rfl, (blk_cell BK418.out 1).trans rfl, (blk_cell BK419.out 0).trans rfl, (blk_cell BK419.out 1).trans rfl⟩ (fun hHeld => ?_)
 clear hK K
 refine norm_ (a' := ?_) ?_ ?_
 rotate_left
 · show Act.put _ (some 15) _ = _; exact actp
 refine one_ (i := 11) (N := none) (bm 12 4095) rfl rfl (one_of HT_.out (by kernel_rfl)) (by decide) (fun K hK => ?_)
 have hs12 : w11.cell? ⟨gb420, 0, none⟩ = some (.bool false) := (blk_cell BK420.out 0).trans rfl
 have hfs12 := blk_frozen BK420.out 0
 have hns12_0 := NB418_420.out
 have hns12_1 := NB419_420.out
 have hms12_0 := NB420_418.out
 have hms12_1 := NB420_419.out
 have hs14 : w11.cell? ⟨gb420, 1, none⟩ = some (.slice none 0 0) := (blk_cell BK420.out 1).trans rfl
 have hfs14 := blk_frozen BK420.out 1
 have hns14_0 := NB418_420.out
 have hns14_1 := NB419_420.out
 have hms14_0 := NB420_418.out
 have hms14_1 := NB420_419.out
 refine skip_ (w1 := ?_) (by rfl) rfl ?_ ?_
 rotate_left
 · go_simp
   rfl
 refine hK.out _ _ ⟨((cell_far (p := ⟨gb420, _, none⟩) NB418_420.out _).trans (((cell_far (p := ⟨gb420, _, none⟩) NB418_420.out _).trans (hHeld.1)))), ((cell_far (p := ⟨gb420, _, none⟩) NB418_420.out _).trans (((cell_far (p := ⟨gb420, _, none⟩) NB418_420.out _).trans (hHeld.2.1)))), ((cell_far (p := ⟨gb420, _, none⟩) NB419_420.out _).trans (((cell_far (p := ⟨gb420, _, none⟩) NB419_420.out _).trans (hHeld.2.2.1)))), ((cell_far (p := ⟨gb420, _, none⟩) NB419_420.out _).trans (((cell_far (p := ⟨gb420, _, none⟩) NB419_420.out _).trans (hHeld.2.2.2))))⟩ (fun hHeld => ?_)
 clear hK K
 refine done_ (done_of HT_.out (by kernel_rfl)) ?_
 try go_wp2
 refine bodyPost_ret (results_cell_row rfl _ _ gb420 49 #[.bool t424, .slice Ao13 t425.length co13] (0, 0) _ rfl (by (with_reducible repeat (first | refine blk_drewN ?_ _ | refine blk_drew ?_ | refine blk_alloc ?_ _)); refine blk_put (cs := #[.bool t424, .slice none 0 0]) ?_ 1 _ rfl; (with_reducible repeat (first | refine blk_drewN ?_ _ | refine blk_drew ?_ | refine blk_alloc ?_ _)); refine blk_put (cs := #[.bool false, .slice none 0 0]) ?_ 0 _ rfl; (with_reducible repeat (first | refine blk_drewN ?_ _ | refine blk_drew ?_ | refine blk_alloc ?_ _)); exact BK420.out) Tryz.underlying49 rfl (by kernel_rfl)) rfl ?_
 exact ⟨_, eqR, by (with_reducible repeat (first | apply Kd.R_alloc | apply Kd.R_drewN | apply Kd.R_drew)); exact Kd.R_mono (Kd.R_far (p := ⟨gb420, 1, none⟩) (Kd.R_far (p := ⟨gb420, 0, none⟩) (Kd.R_types HO427.out BK420.out (by decide)) (fun _ hk => hk.2) (.bool t424)) (fun _ hk => hk.2) (.slice Ao13 t425.length co13)) (fun _ hk => trivial), bB⟩
def zigguratref12_At.f (l0 : List (S56)) (a1 : Int) : Option (Bool × List Int) := if a1 < 0 then (some (false, ([] : List Int))) else (if a1 ≥ (l0.length : Int) then (some (false, ([] : List Int))) else (if 0 ≤ a1 then (if a1 < (l0.length : Int) then (some ((rd_T56 l0 a1).f0, (rd_T56 l0 a1).f1)) else (none)) else (none)))
theorem zigguratref12_At.calls (P0_ : Nat → Prop) (A0 : Option Addr) (c0 : Nat) (l0 : List (S56)) (a1 : Int) (r1 : Bool) (r2 : List Int) (w : World) (hs0 : Kd.V k56 49 w w.heap.size (fun k_ => P0_ k_) (.slice A0 l0.length c0) l0) (h : zigguratref12_At.f l0 a1 = some (r1, r2)) :
   Calls Tryz.prog 32 #[.slice A0 l0.length c0, .int .i64 a1] w fun e w' => ∃ v1_ : Value, e = .returned (.agg #[.bool r1, v1_]) ∧ Kd.V (Kd.int .u32) 23 w' w.heap.size (fun k_ => (P0_ k_ ∨ w.heap.size ≤ k_)) v1_ r2 ∧ Below w.heap.size w w' := by
 have hu49 := Tryz.underlying49
 have HO0 := am (show Kd.V k56 49 w w.heap.size (fun k_ => (P0_ k_ ∨ w.heap.size ≤ k_)) (.slice A0 l0.length c0) l0 from Kd.V_mono hs0 (fun k_ hk => .inl hk))
 have HB := am (Below.refl w.heap.size w)
 have H := h; unfold zigguratref12_At.f at H
 clear h
 by_cases c3 : a1 < 0
 · rw [if_pos c3] at H
   have c3b0 : decide (a1 < 0) = true := decide_eq_true c3
   clear c3
   simp only [Option.some.injEq, Prod.mk.injEq] at H
   obtain ⟨rfl, rfl⟩ := H
   go_enter Tryz.func32, Tryz.ntmps32
   go_wp2_with (first | ((with_reducible refine gate_dst (N := 4) rfl ?_); (try (refine gate_guard (by rfl) ?_; dsimp only)); refine boxE (N := 4) (cs := #[.bool false, .slice none 0 0]) (t := 49) ?_; intro gb381 hg w4 hbox hb; have n0_ := am (Kd.V_below (Kd.V_elderB (rV HO0.out) gb381 (Nat.le_of_eq hg.symm)) hb); have n1_ := am (below_step bB hb); have n2_ := am (hbox); have n3_ := am ((by rw [hg]; exact (below_size bB) : w.heap.size ≤ gb381)); have n4_ := am ((by rw [hg]; exact (below_size bB) : w.heap.size ≤ gb381)); clear HO0; clear HB; have HO0 := n0_; have HB := n1_; have BK381 := n2_; have GW381 := n3_; have GE381 := n4_; clear n0_ n1_ n2_ n3_ n4_; clear hb hbox hg; have hcz5_0 : w4.cell? ⟨gb381, 0, none⟩ = some (.bool false) := (blk_cell BK381.out 0).trans rfl; have hcz5_1 : w4.cell? ⟨gb381, 1, none⟩ = some (.slice none 0 0) := (blk_cell BK381.out 1).trans rfl; have hfz5_0 := blk_frozen BK381.out 0; have hfz5_1 := blk_frozen BK381.out 1))
   refine bodyPost_ret (results_cell_row rfl _ _ gb381 49 #[.bool false, .slice none 0 0] (0, 0) _ rfl (by (with_reducible repeat (first | refine blk_drewN ?_ _ | refine blk_drew ?_ | refine blk_alloc ?_ _)); refine blk_put (cs := #[.bool false, .slice none 0 0]) ?_ 1 _ rfl; (with_reducible repeat (first | refine blk_drewN ?_ _ | refine blk_drew ?_ | refine blk_alloc ?_ _)); refine blk_put (cs := #[.bool false, .slice none 0 0]) ?_ 0 _ rfl; (with_reducible repeat (first | refine blk_drewN ?_ _ | refine blk_drew ?_ | refine blk_alloc ?_ _)); exact BK381.out) Tryz.underlying49 rfl (by kernel_rfl)) rfl ?_
   exact ⟨(.slice none 0 0), rfl, Kd.V_nil _ _ _ _ _, bB⟩
 rw [if_neg c3] at H
 have c3b0 : decide (a1 < 0) = false := decide_eq_false c3
 clear c3
 by_cases c6 : a1 ≥ (l0.length : Int)
 · rw [if_pos c6] at H
   have c6b0 : decide ((l0.length : Int) ≤ a1) = true := decide_eq_true c6
   clear c6
   simp only [Option.some.injEq, Prod.mk.injEq] at H
   obtain ⟨rfl, rfl⟩ := H
   go_enter Tryz.func32, Tryz.ntmps32
   go_wp2_with (first | ((with_reducible refine gate_dst (N := 4) rfl ?_); (try (refine gate_guard (by rfl) ?_; dsimp only)); refine boxE (N := 4) (cs := #[.bool false, .slice none 0 0]) (t := 49) ?_; intro gb381 hg w7 hbox hb; have n0_ := am (Kd.V_below (Kd.V_elderB (rV HO0.out) gb381 (Nat.le_of_eq hg.symm)) hb); have n1_ := am (below_step bB hb); have n2_ := am (hbox); have n3_ := am ((by rw [hg]; exact (below_size bB) : w.heap.size ≤ gb381)); have n4_ := am ((by rw [hg]; exact (below_size bB) : w.heap.size ≤ gb381)); clear HO0; clear HB; have HO0 := n0_; have HB := n1_; have BK381 := n2_; have GW381 := n3_; have GE381 := n4_; clear n0_ n1_ n2_ n3_ n4_; clear hb hbox hg; have hcz8_0 : w7.cell? ⟨gb381, 0, none⟩ = some (.bool false) := (blk_cell BK381.out 0).trans rfl; have hcz8_1 : w7.cell? ⟨gb381, 1, none⟩ = some (.slice none 0 0) := (blk_cell BK381.out 1).trans rfl; have hfz8_0 := blk_frozen BK381.out 0; have hfz8_1 := blk_frozen BK381.out 1))
   refine bodyPost_ret (results_cell_row rfl _ _ gb381 49 #[.bool false, .slice none 0 0] (0, 0) _ rfl (by (with_reducible repeat (first | refine blk_drewN ?_ _ | refine blk_drew ?_ | refine blk_alloc ?_ _)); refine blk_put (cs := #[.bool false, .slice none 0 0]) ?_ 1 _ rfl; (with_reducible repeat (first | refine blk_drewN ?_ _ | refine blk_drew ?_ | refine blk_alloc ?_ _)); refine blk_put (cs := #[.bool false, .slice none 0 0]) ?_ 0 _ rfl; (with_reducible repeat (first | refine blk_drewN ?_ _ | refine blk_drew ?_ | refine blk_alloc ?_ _)); exact BK381.out) Tryz.underlying49 rfl (by kernel_rfl)) rfl ?_
   exact ⟨(.slice none 0 0), rfl, Kd.V_nil _ _ _ _ _, bB⟩
 rw [if_neg c6] at H
 have c6b0 : decide ((l0.length : Int) ≤ a1) = false := decide_eq_false c6
 clear c6
 by_cases c9 : 0 ≤ a1
 case neg => exact nn c9 H
 rw [if_pos c9] at H
 have c9b0 : decide (0 ≤ a1) = true := decide_eq_true c9
 clear c9
 by_cases c10 : a1 < (l0.length : Int)
 case neg => exact nn c10 H
 rw [if_pos c10] at H
 have c10b0 : decide (a1 < (l0.length : Int)) = true := decide_eq_true c10
 clear c10
 simp only [Option.some.injEq, Prod.mk.injEq] at H
 obtain ⟨rfl, rfl⟩ := H
 go_enter Tryz.func32, Tryz.ntmps32
 go_wp2_with (first | ((with_reducible refine gate_dst (N := 4) rfl ?_); (try (refine gate_guard (by rfl) ?_; dsimp only)); refine boxE (N := 4) (cs := #[.bool false, .slice none 0 0]) (t := 49) ?_; intro gb381 hg w11 hbox hb; have n0_ := am (Kd.V_below (Kd.V_elderB (rV HO0.out) gb381 (Nat.le_of_eq hg.symm)) hb); have n1_ := am (below_step bB hb); have n2_ := am (hbox); have n3_ := am ((by rw [hg]; exact (below_size bB) : w.heap.size ≤ gb381)); have n4_ := am ((by rw [hg]; exact (below_size bB) : w.heap.size ≤ gb381)); clear HO0; clear HB; have HO0 := n0_; have HB := n1_; have BK381 := n2_; have GW381 := n3_; have GE381 := n4_; clear n0_ n1_ n2_ n3_ n4_; clear hb hbox hg; have p382 : 0 ≤ (a1 : Int) := of_decide_eq_true as_; have q382 : a1 < (l0.length : Int) := of_decide_eq_true as_; obtain ⟨ad382, A382_1, c382_1, e382, hx382_0, hx382_1, hl382_1, hi382_1⟩ := at_T56 (Kd.V_reads' HO0.out).2.2 a1 p382 q382; cases e382; obtain ⟨ce382, hce382, hMe382, hcc382⟩ := Kd.V_get HO0.out z56 a1 p382 (by first | exact q382 | exact of_decide_eq_true as_ | (have e_ := (Kd.V_reads' HO0.out).1; omega)); obtain ⟨ua382_1, uc382_1, rfl, ul382_1, ge382_1⟩ := k56_openF hMe382; have hv382_1 := hcc382 1 _ rfl; rw [add_field _ _ 1 (by omega)] at hv382_1; replace hv382_1 := Option.some.inj (hv382_1.symm.trans hx382_1); injection hv382_1 with hva_ hvn_ hvc_; rw [hva_] at ge382_1; rw [hvc_] at ul382_1; have HL382_1 := am (show Kd.V (Kd.int .u32) 23 _ w.heap.size _ _ ((rd_T56 l0 a1).f1) from Kd.V_mk ul382_1 ge382_1); clear hva_ hvn_ hvc_ ge382_1 ul382_1; clear hcc382 hce382; have HR382_1 := am hi382_1; have HC382_1 := am hl382_1; clear hi382_1 hl382_1; replace p382 := eq_true p382; replace q382 := eq_true q382; have hcz12_0 : w11.cell? ⟨gb381, 0, none⟩ = some (.bool false) := (blk_cell BK381.out 0).trans rfl; have hcz12_1 : w11.cell? ⟨gb381, 1, none⟩ = some (.slice none 0 0) := (blk_cell BK381.out 1).trans rfl; have hfz12_0 := blk_frozen BK381.out 0; have hfz12_1 := blk_frozen BK381.out 1))
 refine bodyPost_ret (results_cell_row rfl _ _ gb381 49 #[.bool ((rd_T56 l0 a1).f0), .slice A382_1 ((rd_T56 l0 a1).f1).length c382_1] (0, 0) _ rfl (by (with_reducible repeat (first | refine blk_drewN ?_ _ | refine blk_drew ?_ | refine blk_alloc ?_ _)); refine blk_put (cs := #[.bool ((rd_T56 l0 a1).f0), .slice none 0 0]) ?_ 1 _ rfl; (with_reducible repeat (first | refine blk_drewN ?_ _ | refine blk_drew ?_ | refine blk_alloc ?_ _)); refine blk_put (cs := #[.bool false, .slice none 0 0]) ?_ 0 _ rfl; (with_reducible repeat (first | refine blk_drewN ?_ _ | refine blk_drew ?_ | refine blk_alloc ?_ _)); exact BK381.out) Tryz.underlying49 rfl (by kernel_rfl)) rfl ?_
 exact ⟨_, eqR, by (with_reducible repeat (first | apply Kd.V_alloc | apply Kd.V_drewN | apply Kd.V_drew)); exact Kd.V_mono (Kd.V_far (p := ⟨gb381, 1, none⟩) (Kd.V_far (p := ⟨gb381, 0, none⟩) (Kd.V_mono HL382_1.out (fun k_ hk => (⟨hk, hk.2⟩ : _ ∧ k_ ≠ gb381))) (fun _ hk => hk.2) (.bool ((rd_T56 l0 a1).f0))) (fun _ hk => hk.2) (.slice A382_1 ((rd_T56 l0 a1).f1).length c382_1)) (fun _ hk => hk.1.1), bB⟩
def cmp_isNaN_int.f (a0 : Int) : Option (Bool) := some (a0 != a0)
theorem cmp_isNaN_int.calls (a0 : Int) (r : Bool) (w : World) (h : cmp_isNaN_int.f a0 = some r) :
   Calls Tryz.prog 66 #[.int .i64 a0] w fun e w' => e = .returned (.bool r) ∧ Drawn0 w w' := by
 have H := h; unfold cmp_isNaN_int.f at H
 clear h
 obtain rfl := Option.some.inj H
 go_enter Tryz.func66, Tryz.ntmps66
 go_wp2
 go_ret
 exact ⟨eqS, dR⟩
def cmp_Compare_int.f (a0 : Int) (a1 : Int) : Option (Int) := (cmp_isNaN_int.f a0).bind fun t101 => ((cmp_isNaN_int.f a1).bind fun t102 => (if t101 = true then (if t102 = true then (some 0) else (some (-1))) else (if t102 = true then (some 1) else (if a0 < a1 then (some (-1)) else (if a0 > a1 then (some 1) else (some 0))))))
theorem cmp_Compare_int.calls (a0 : Int) (a1 : Int) (r : Int) (w : World) (h : cmp_Compare_int.f a0 a1 = some r) :
   Calls Tryz.prog 42 #[.int .i64 a0, .int .i64 a1] w fun e w' => e = .returned (.int .i64 r) ∧ Drawn0 w w' := by
 have H := h; unfold cmp_Compare_int.f at H
 clear h
 obtain ⟨t101, A30, H⟩ := Option.bind_eq_some_iff.mp H
 try dsimp only at H
 have A3 := am A30
 clear A30
 obtain ⟨t102, A40, H⟩ := Option.bind_eq_some_iff.mp H
 try dsimp only at H
 have A4 := am A40
 clear A40
 by_cases c5 : t101 = true
 · subst c5
   have H1 : (if t102 = true then (some 0) else (some (-1))) = some r := by rw [if_pos rfl] at H; exact H
   clear H
   have H := H1
   clear H1
   by_cases c6 : t102 = true
   · subst c6
     have H1 : (some 0) = some r := by rw [if_pos rfl] at H; exact H
     clear H
     have H := H1
     clear H1
     obtain rfl := Option.some.inj H
     go_enter Tryz.func42, Tryz.ntmps42
     go_wp2_with (first | ((with_reducible refine gate_callee (f := 66) rfl ?_); refine goesA (some 8) Tryz.func66 #[.int .i64 a0] ?_; (with_reducible refine (cmp_isNaN_int.calls a0 true _ A3.out).mono ?_); rintro e w' ⟨rfl, ⟨nd, rfl⟩⟩; refine ⟨_, rfl, ?_⟩) | ((with_reducible refine gate_callee (f := 66) rfl ?_); refine goesA (some 10) Tryz.func66 #[.int .i64 a1] ?_; (with_reducible refine (cmp_isNaN_int.calls a1 true _ A4.out).mono ?_); rintro e w' ⟨rfl, ⟨nd, rfl⟩⟩; refine ⟨_, rfl, ?_⟩))
     go_ret
     exact ⟨eqS, dR⟩
   replace c6 := Bool.eq_false_iff.mpr c6
   subst c6
   have H1 : (some (-1)) = some r := by rw [if_neg (show ¬ (false = true) by decide)] at H; exact H
   clear H
   have H := H1
   clear H1
   obtain rfl := Option.some.inj H
   go_enter Tryz.func42, Tryz.ntmps42
   go_wp2_with (first | ((with_reducible refine gate_callee (f := 66) rfl ?_); refine goesA (some 8) Tryz.func66 #[.int .i64 a0] ?_; (with_reducible refine (cmp_isNaN_int.calls a0 true _ A3.out).mono ?_); rintro e w' ⟨rfl, ⟨nd, rfl⟩⟩; refine ⟨_, rfl, ?_⟩) | ((with_reducible refine gate_callee (f := 66) rfl ?_); refine goesA (some 10) Tryz.func66 #[.int .i64 a1] ?_; (with_reducible refine (cmp_isNaN_int.calls a1 false _ A4.out).mono ?_); rintro e w' ⟨rfl, ⟨nd, rfl⟩⟩; refine ⟨_, rfl, ?_⟩))
   go_ret
   exact ⟨eqS, dR⟩
 replace c5 := Bool.eq_false_iff.mpr c5
 subst c5
 have H1 : (if t102 = true then (some 1) else (if a0 < a1 then (some (-1)) else (if a0 > a1 then (some 1) else (some 0)))) = some r := by rw [if_neg (show ¬ (false = true) by decide)] at H; exact H
 clear H
 have H := H1
 clear H1
 by_cases c7 : t102 = true
 · subst c7
   have H1 : (some 1) = some r := by rw [if_pos rfl] at H; exact H
   clear H
   have H := H1
   clear H1
   obtain rfl := Option.some.inj H
   go_enter Tryz.func42, Tryz.ntmps42
   go_wp2_with (first | ((with_reducible refine gate_callee (f := 66) rfl ?_); refine goesA (some 8) Tryz.func66 #[.int .i64 a0] ?_; (with_reducible refine (cmp_isNaN_int.calls a0 false _ A3.out).mono ?_); rintro e w' ⟨rfl, ⟨nd, rfl⟩⟩; refine ⟨_, rfl, ?_⟩) | ((with_reducible refine gate_callee (f := 66) rfl ?_); refine goesA (some 10) Tryz.func66 #[.int .i64 a1] ?_; (with_reducible refine (cmp_isNaN_int.calls a1 true _ A4.out).mono ?_); rintro e w' ⟨rfl, ⟨nd, rfl⟩⟩; refine ⟨_, rfl, ?_⟩))
   go_ret
   exact ⟨eqS, dR⟩
 replace c7 := Bool.eq_false_iff.mpr c7
 subst c7
 have H1 : (if a0 < a1 then (some (-1)) else (if a0 > a1 then (some 1) else (some 0))) = some r := by rw [if_neg (show ¬ (false = true) by decide)] at H; exact H
 clear H
 have H := H1
 clear H1
 by_cases c8 : a0 < a1
 · rw [if_pos c8] at H
   have c8b0 : decide (a0 < a1) = true := decide_eq_true c8
   clear c8
   obtain rfl := Option.some.inj H
   go_enter Tryz.func42, Tryz.ntmps42
   go_wp2_with (first | ((with_reducible refine gate_callee (f := 66) rfl ?_); refine goesA (some 8) Tryz.func66 #[.int .i64 a0] ?_; (with_reducible refine (cmp_isNaN_int.calls a0 false _ A3.out).mono ?_); rintro e w' ⟨rfl, ⟨nd, rfl⟩⟩; refine ⟨_, rfl, ?_⟩) | ((with_reducible refine gate_callee (f := 66) rfl ?_); refine goesA (some 10) Tryz.func66 #[.int .i64 a1] ?_; (with_reducible refine (cmp_isNaN_int.calls a1 false _ A4.out).mono ?_); rintro e w' ⟨rfl, ⟨nd, rfl⟩⟩; refine ⟨_, rfl, ?_⟩))
   go_ret
   exact ⟨eqS, dR⟩
 rw [if_neg c8] at H
 have c8b0 : decide (a0 < a1) = false := decide_eq_false c8
 clear c8
 by_cases c9 : a0 > a1
 case neg =>
   rw [if_neg c9] at H
   have c9b0 : decide (a1 < a0) = false := decide_eq_false c9
   clear c9
   obtain rfl := Option.some.inj H
   go_enter Tryz.func42, Tryz.ntmps42
   go_wp2_with (first | ((with_reducible refine gate_callee (f := 66) rfl ?_); refine goesA (some 8) Tryz.func66 #[.int .i64 a0] ?_; (with_reducible refine (cmp_isNaN_int.calls a0 false _ A3.out).mono ?_); rintro e w' ⟨rfl, ⟨nd, rfl⟩⟩; refine ⟨_, rfl, ?_⟩) | ((with_reducible refine gate_callee (f := 66) rfl ?_); refine goesA (some 10) Tryz.func66 #[.int .i64 a1] ?_; (with_reducible refine (cmp_isNaN_int.calls a1 false _ A4.out).mono ?_); rintro e w' ⟨rfl, ⟨nd, rfl⟩⟩; refine ⟨_, rfl, ?_⟩))
   go_ret
   exact ⟨eqS, dR⟩
 rw [if_pos c9] at H
 have c9b0 : decide (a1 < a0) = true := decide_eq_true c9
 clear c9
 obtain rfl := Option.some.inj H
 go_enter Tryz.func42, Tryz.ntmps42
 go_wp2_with (first | ((with_reducible refine gate_callee (f := 66) rfl ?_); refine goesA (some 8) Tryz.func66 #[.int .i64 a0] ?_; (with_reducible refine (cmp_isNaN_int.calls a0 false _ A3.out).mono ?_); rintro e w' ⟨rfl, ⟨nd, rfl⟩⟩; refine ⟨_, rfl, ?_⟩) | ((with_reducible refine gate_callee (f := 66) rfl ?_); refine goesA (some 10) Tryz.func66 #[.int .i64 a1] ?_; (with_reducible refine (cmp_isNaN_int.calls a1 false _ A4.out).mono ?_); rintro e w' ⟨rfl, ⟨nd, rfl⟩⟩; refine ⟨_, rfl, ?_⟩))
 go_ret
 exact ⟨eqS, dR⟩
def cmp_isNaN_uint32.f (a0 : Int) : Option (Bool) := some (a0 != a0)
theorem cmp_isNaN_uint32.calls (a0 : Int) (r : Bool) (w : World) (h : cmp_isNaN_uint32.f a0 = some r) :
   Calls Tryz.prog 96 #[.int .u32 a0] w fun e w' => e = .returned (.bool r) ∧ Drawn0 w w' := by
 have H := h; unfold cmp_isNaN_uint32.f at H
 clear h
 obtain rfl := Option.some.inj H
 go_enter Tryz.func96, Tryz.ntmps96
 go_wp2
 go_ret
 exact ⟨eqS, dR⟩
def cmp_Compare_uint32.f (a0 : Int) (a1 : Int) : Option (Int) := (cmp_isNaN_uint32.f a0).bind fun t103 => ((cmp_isNaN_uint32.f a1).bind fun t104 => (if t103 = true then (if t104 = true then (some 0) else (some (-1))) else (if t104 = true then (some 1) else (if a0 < a1 then (some (-1)) else (if a0 > a1 then (some 1) else (some 0))))))
theorem cmp_Compare_uint32.calls (a0 : Int) (a1 : Int) (r : Int) (w : World) (h : cmp_Compare_uint32.f a0 a1 = some r) :
   Calls Tryz.prog 67 #[.int .u32 a0, .int .u32 a1] w fun e w' => e = .returned (.int .i64 r) ∧ Drawn0 w w' := by
 have H := h; unfold cmp_Compare_uint32.f at H
 clear h
 obtain ⟨t103, A30, H⟩ := Option.bind_eq_some_iff.mp H
 try dsimp only at H
 have A3 := am A30
 clear A30
 obtain ⟨t104, A40, H⟩ := Option.bind_eq_some_iff.mp H
 try dsimp only at H
 have A4 := am A40
 clear A40
 by_cases c5 : t103 = true
 · subst c5
   have H1 : (if t104 = true then (some 0) else (some (-1))) = some r := by rw [if_pos rfl] at H; exact H
   clear H
   have H := H1
   clear H1
   by_cases c6 : t104 = true
   · subst c6
     have H1 : (some 0) = some r := by rw [if_pos rfl] at H; exact H
     clear H
     have H := H1
     clear H1
     obtain rfl := Option.some.inj H
     go_enter Tryz.func67, Tryz.ntmps67
     go_wp2_with (first | ((with_reducible refine gate_callee (f := 96) rfl ?_); refine goesA (some 8) Tryz.func96 #[.int .u32 a0] ?_; (with_reducible refine (cmp_isNaN_uint32.calls a0 true _ A3.out).mono ?_); rintro e w' ⟨rfl, ⟨nd, rfl⟩⟩; refine ⟨_, rfl, ?_⟩) | ((with_reducible refine gate_callee (f := 96) rfl ?_); refine goesA (some 10) Tryz.func96 #[.int .u32 a1] ?_; (with_reducible refine (cmp_isNaN_uint32.calls a1 true _ A4.out).mono ?_); rintro e w' ⟨rfl, ⟨nd, rfl⟩⟩; refine ⟨_, rfl, ?_⟩))
     go_ret
     exact ⟨eqS, dR⟩
   replace c6 := Bool.eq_false_iff.mpr c6
   subst c6
   have H1 : (some (-1)) = some r := by rw [if_neg (show ¬ (false = true) by decide)] at H; exact H
   clear H
   have H := H1
   clear H1
   obtain rfl := Option.some.inj H
   go_enter Tryz.func67, Tryz.ntmps67
   go_wp2_with (first | ((with_reducible refine gate_callee (f := 96) rfl ?_); refine goesA (some 8) Tryz.func96 #[.int .u32 a0] ?_; (with_reducible refine (cmp_isNaN_uint32.calls a0 true _ A3.out).mono ?_); rintro e w' ⟨rfl, ⟨nd, rfl⟩⟩; refine ⟨_, rfl, ?_⟩) | ((with_reducible refine gate_callee (f := 96) rfl ?_); refine goesA (some 10) Tryz.func96 #[.int .u32 a1] ?_; (with_reducible refine (cmp_isNaN_uint32.calls a1 false _ A4.out).mono ?_); rintro e w' ⟨rfl, ⟨nd, rfl⟩⟩; refine ⟨_, rfl, ?_⟩))
   go_ret
   exact ⟨eqS, dR⟩
 replace c5 := Bool.eq_false_iff.mpr c5
 subst c5
 have H1 : (if t104 = true then (some 1) else (if a0 < a1 then (some (-1)) else (if a0 > a1 then (some 1) else (some 0)))) = some r := by rw [if_neg (show ¬ (false = true) by decide)] at H; exact H
 clear H
 have H := H1
 clear H1
 by_cases c7 : t104 = true
 · subst c7
   have H1 : (some 1) = some r := by rw [if_pos rfl] at H; exact H
   clear H
   have H := H1
   clear H1
   obtain rfl := Option.some.inj H
   go_enter Tryz.func67, Tryz.ntmps67
   go_wp2_with (first | ((with_reducible refine gate_callee (f := 96) rfl ?_); refine goesA (some 8) Tryz.func96 #[.int .u32 a0] ?_; (with_reducible refine (cmp_isNaN_uint32.calls a0 false _ A3.out).mono ?_); rintro e w' ⟨rfl, ⟨nd, rfl⟩⟩; refine ⟨_, rfl, ?_⟩) | ((with_reducible refine gate_callee (f := 96) rfl ?_); refine goesA (some 10) Tryz.func96 #[.int .u32 a1] ?_; (with_reducible refine (cmp_isNaN_uint32.calls a1 true _ A4.out).mono ?_); rintro e w' ⟨rfl, ⟨nd, rfl⟩⟩; refine ⟨_, rfl, ?_⟩))
   go_ret
   exact ⟨eqS, dR⟩
 replace c7 := Bool.eq_false_iff.mpr c7
 subst c7
 have H1 : (if a0 < a1 then (some (-1)) else (if a0 > a1 then (some 1) else (some 0))) = some r := by rw [if_neg (show ¬ (false = true) by decide)] at H; exact H
 clear H
 have H := H1
 clear H1
 by_cases c8 : a0 < a1
 · rw [if_pos c8] at H
   have c8b0 : decide (a0 < a1) = true := decide_eq_true c8
   clear c8
   obtain rfl := Option.some.inj H
   go_enter Tryz.func67, Tryz.ntmps67
   go_wp2_with (first | ((with_reducible refine gate_callee (f := 96) rfl ?_); refine goesA (some 8) Tryz.func96 #[.int .u32 a0] ?_; (with_reducible refine (cmp_isNaN_uint32.calls a0 false _ A3.out).mono ?_); rintro e w' ⟨rfl, ⟨nd, rfl⟩⟩; refine ⟨_, rfl, ?_⟩) | ((with_reducible refine gate_callee (f := 96) rfl ?_); refine goesA (some 10) Tryz.func96 #[.int .u32 a1] ?_; (with_reducible refine (cmp_isNaN_uint32.calls a1 false _ A4.out).mono ?_); rintro e w' ⟨rfl, ⟨nd, rfl⟩⟩; refine ⟨_, rfl, ?_⟩))
   go_ret
   exact ⟨eqS, dR⟩
 rw [if_neg c8] at H
 have c8b0 : decide (a0 < a1) = false := decide_eq_false c8
 clear c8
 by_cases c9 : a0 > a1
 case neg =>
   rw [if_neg c9] at H
   have c9b0 : decide (a1 < a0) = false := decide_eq_false c9
   clear c9
   obtain rfl := Option.some.inj H
   go_enter Tryz.func67, Tryz.ntmps67
   go_wp2_with (first | ((with_reducible refine gate_callee (f := 96) rfl ?_); refine goesA (some 8) Tryz.func96 #[.int .u32 a0] ?_; (with_reducible refine (cmp_isNaN_uint32.calls a0 false _ A3.out).mono ?_); rintro e w' ⟨rfl, ⟨nd, rfl⟩⟩; refine ⟨_, rfl, ?_⟩) | ((with_reducible refine gate_callee (f := 96) rfl ?_); refine goesA (some 10) Tryz.func96 #[.int .u32 a1] ?_; (with_reducible refine (cmp_isNaN_uint32.calls a1 false _ A4.out).mono ?_); rintro e w' ⟨rfl, ⟨nd, rfl⟩⟩; refine ⟨_, rfl, ?_⟩))
   go_ret
   exact ⟨eqS, dR⟩
 rw [if_pos c9] at H
 have c9b0 : decide (a1 < a0) = true := decide_eq_true c9
 clear c9
 obtain rfl := Option.some.inj H
 go_enter Tryz.func67, Tryz.ntmps67
 go_wp2_with (first | ((with_reducible refine gate_callee (f := 96) rfl ?_); refine goesA (some 8) Tryz.func96 #[.int .u32 a0] ?_; (with_reducible refine (cmp_isNaN_uint32.calls a0 false _ A3.out).mono ?_); rintro e w' ⟨rfl, ⟨nd, rfl⟩⟩; refine ⟨_, rfl, ?_⟩) | ((with_reducible refine gate_callee (f := 96) rfl ?_); refine goesA (some 10) Tryz.func96 #[.int .u32 a1] ?_; (with_reducible refine (cmp_isNaN_uint32.calls a1 false _ A4.out).mono ?_); rintro e w' ⟨rfl, ⟨nd, rfl⟩⟩; refine ⟨_, rfl, ?_⟩))
 go_ret
 exact ⟨eqS, dR⟩
def slices_Compare_uint32_uint32.l0 : Nat → List Int → List Int → List Int → Int → Int → Option (Int)
 | 0, _, _, _, _, _ => none
 | k + 1, x0, x1, x9, x10, x11 => if x11 < x10 then (if 0 ≤ x11 then (if x11 < (x9.length : Int) then (if x11 ≥ (x1.length : Int) then (some 1) else (if x11 < (x1.length : Int) then ((cmp_Compare_uint32.f (rd x9 x11) (rd x1 x11)).bind fun t107 => (if t107 = 0 then (slices_Compare_uint32_uint32.l0 k x0 x1 x9 x10 (wrap64 (x11 + 1))) else (some t107))) else (none))) else (none)) else (none)) else (if (x0.length : Int) < (x1.length : Int) then (some (-1)) else (some 0))
def slices_Compare_uint32_uint32.f (k : Nat) (l0 : List Int) (l1 : List Int) : Option (Int) := slices_Compare_uint32_uint32.l0 k l0 l1 l0 (l0.length : Int) 0
theorem slices_Compare_uint32_uint32.calls (k : Nat) (A0 : Option Addr) (c0 : Nat) (l0 : List Int) (A1 : Option Addr) (c1 : Nat) (l1 : List Int) (r : Int) (w : World) (hr0 : Kd.C (Kd.int .u32) w A0 l0.length l0) (hc0 : l0.length ≤ c0) (hr1 : Kd.C (Kd.int .u32) w A1 l1.length l1) (hc1 : l1.length ≤ c1) (h : slices_Compare_uint32_uint32.f k l0 l1 = some r) :
   Calls Tryz.prog 43 #[.slice A0 l0.length c0, .slice A1 l1.length c1] w fun e w' => e = .returned (.int .i64 r) ∧ Drawn0 w w' := by
 have HR0 := am hr0
 have HC0 := am hc0
 clear hr0 hc0
 have HR1 := am hr1
 have HC1 := am hc1
 clear hr1 hc1
 have H := h; unfold slices_Compare_uint32_uint32.f at H
 clear h
 have H' := am H
 clear H
 go_enter Tryz.func43, Tryz.ntmps43
 go_wp2
 go_loopg [11] k (fun kq v11 w' => ∃ (x11_1 : Int), v11 = .int .i64 x11_1 ∧ Aside0 (slices_Compare_uint32_uint32.l0 kq l0 l1 l0 (l0.length : Int) x11_1 = some r) ∧ Aside0 (kq ≤ k) ∧ Drawn0 w w')
 case atStart => exact ⟨(0), eqS, H', ⟨Nat.le_refl _⟩, by repeat (first | exact Drawn0.refl _ | apply Drawn0.step)⟩
 clear H'
 (try clear c1); (try clear p2)
 obtain ⟨x11_1, rfl, HA, HK1, ⟨m1, rfl⟩⟩ := hrel
 rcases gk with _ | k1
 · exact absurd HA.out (by simp [slices_Compare_uint32_uint32.l0])
 have H := HA.out
 clear HA
 simp only [slices_Compare_uint32_uint32.l0] at H
 by_cases c3 : x11_1 < (l0.length : Int)
 case neg =>
   rw [if_neg c3] at H
   have c3b0 : decide (x11_1 < (l0.length : Int)) = false := decide_eq_false c3
   clear c3
   by_cases c10 : (l0.length : Int) < (l1.length : Int)
   case neg =>
     rw [if_neg c10] at H
     have c10b0 : decide ((l0.length : Int) < (l1.length : Int)) = false := decide_eq_false c10
     have c10b1 : decide (l0.length < l1.length) = false := decide_eq_false (fun h => c10 (Int.ofNat_lt.mpr h))
     clear c10
     obtain rfl := Option.some.inj H
     go_wp2
     go_ret
     exact ⟨eqS, dR⟩
   rw [if_pos c10] at H
   have c10b0 : decide ((l0.length : Int) < (l1.length : Int)) = true := decide_eq_true c10
   have c10b1 : decide (l0.length < l1.length) = true := decide_eq_true (Int.ofNat_lt.mp c10)
   clear c10
   obtain rfl := Option.some.inj H
   go_wp2
   go_ret
   exact ⟨eqS, dR⟩
 rw [if_pos c3] at H
 have c3b0 : decide (x11_1 < (l0.length : Int)) = true := decide_eq_true c3
 clear c3
 by_cases c4 : 0 ≤ x11_1
 case neg => exact nn c4 H
 rw [if_pos c4] at H
 have c4b0 : decide (0 ≤ x11_1) = true := decide_eq_true c4
 clear c4
 by_cases c5 : x11_1 < (l0.length : Int)
 case neg => exact nn c5 H
 rw [if_pos c5] at H
 have c5b0 : decide (x11_1 < (l0.length : Int)) = true := decide_eq_true c5
 clear c5
 by_cases c6 : x11_1 ≥ (l1.length : Int)
 · rw [if_pos c6] at H
   have c6b0 : decide ((l1.length : Int) ≤ x11_1) = true := decide_eq_true c6
   clear c6
   obtain rfl := Option.some.inj H
   have p105 : 0 ≤ (x11_1 : Int) := of_decide_eq_true as_
   have q105 : x11_1 < (l0.length : Int) := of_decide_eq_true as_
   obtain ⟨ad105, e105, hx105_0⟩ := Kd.at_int HR0.out x11_1 p105 q105
   cases e105
   replace p105 := eq_true p105
   replace q105 := eq_true q105
   go_wp2
   go_ret
   exact ⟨eqS, dR⟩
 rw [if_neg c6] at H
 have c6b0 : decide ((l1.length : Int) ≤ x11_1) = false := decide_eq_false c6
 clear c6
 by_cases c7 : x11_1 < (l1.length : Int)
 case neg => exact nn c7 H
 rw [if_pos c7] at H
 have c7b0 : decide (x11_1 < (l1.length : Int)) = true := decide_eq_true c7
 clear c7
 obtain ⟨t107, A80, H⟩ := Option.bind_eq_some_iff.mp H
 try dsimp only at H
 have A8 := am A80
 clear A80
 by_cases c9 : t107 = 0
 case neg =>
   rw [if_neg c9] at H
   have c9b0 : (t107 == 0) = false := beq_eq_false_iff_ne.mpr c9
   have c9b1 : (t107 != 0) = true := bne_iff_ne.mpr c9
   obtain rfl := Option.some.inj H
   have p105 : 0 ≤ (x11_1 : Int) := of_decide_eq_true as_
   have q105 : x11_1 < (l0.length : Int) := of_decide_eq_true as_
   obtain ⟨ad105, e105, hx105_0⟩ := Kd.at_int HR0.out x11_1 p105 q105
   cases e105
   replace p105 := eq_true p105
   replace q105 := eq_true q105
   have p106 : 0 ≤ (x11_1 : Int) := of_decide_eq_true as_
   have q106 : x11_1 < (l1.length : Int) := of_decide_eq_true as_
   obtain ⟨ad106, e106, hx106_0⟩ := Kd.at_int HR1.out x11_1 p106 q106
   cases e106
   replace p106 := eq_true p106
   replace q106 := eq_true q106
   go_wp2_with (first | ((with_reducible refine gate_callee (f := 67) rfl ?_); refine goesA (some 26) Tryz.func67 #[.int .u32 (rd l0 x11_1), .int .u32 (rd l1 x11_1)] ?_; (with_reducible refine (cmp_Compare_uint32.calls (rd l0 x11_1) (rd l1 x11_1) t107 _ A8.out).mono ?_); rintro e w' ⟨rfl, ⟨nd, rfl⟩⟩; refine ⟨_, rfl, ?_⟩))
   go_ret
   exact ⟨eqS, dR⟩
 rw [if_pos c9] at H
 have c9b0 : (t107 == 0) = true := beq_iff_eq.mpr c9
 have c9b1 : (t107 != 0) = false := bne_eq_false_iff_eq.mpr c9
 clear c9
 have H' := am H
 clear H
 have p105 : 0 ≤ (x11_1 : Int) := of_decide_eq_true as_
 have q105 : x11_1 < (l0.length : Int) := of_decide_eq_true as_
 obtain ⟨ad105, e105, hx105_0⟩ := Kd.at_int HR0.out x11_1 p105 q105
 cases e105
 replace p105 := eq_true p105
 replace q105 := eq_true q105
 have p106 : 0 ≤ (x11_1 : Int) := of_decide_eq_true as_
 have q106 : x11_1 < (l1.length : Int) := of_decide_eq_true as_
 obtain ⟨ad106, e106, hx106_0⟩ := Kd.at_int HR1.out x11_1 p106 q106
 cases e106
 replace p106 := eq_true p106
 replace q106 := eq_true q106
 go_wp2_with (first | ((with_reducible refine gate_callee (f := 67) rfl ?_); refine goesA (some 26) Tryz.func67 #[.int .u32 (rd l0 x11_1), .int .u32 (rd l1 x11_1)] ?_; (with_reducible refine (cmp_Compare_uint32.calls (rd l0 x11_1) (rd l1 x11_1) t107 _ A8.out).mono ?_); rintro e w' ⟨rfl, ⟨nd, rfl⟩⟩; refine ⟨_, rfl, ?_⟩))
 go_roundg k1
 case measure => have := HK1.out; omega
 case rel => exact ⟨(wrap64 (x11_1 + 1)), eqS, (by first | exact H' | (subst_vars; exact H')), ⟨by have := HK1.out; omega⟩, by repeat (first | exact Drawn0.refl _ | apply Drawn0.step)⟩
end Go.Proofs.YtjbcnppbcomaiaaGreatDoor.Q
