/-
  ModpPowers: the power by a sum of exponents is the product of both powers, modulo the polynomial; by 0 it is 1, by 1 the rest; and of a product it is the product of the powers (the row, the walk and the plain words), part 1 of 12 (packed by pack.py from texts of this session).
-/
import Derived.Test.YtofbpjpdahcghaaDoorProg
import Derived.Below
import Derived.Deep.Draws
import Derived.Deep.AppendLies
import Derived.Maps.AppendAt
import Derived.OwnWalk
import Derived.Laws.BytesArg
import Derived.Laws.MakeOwn
import Derived.Laws.OwnMore
import Derived.Deep.OwnRows
import Derived.Tactics
import Derived.Lib.ConvBytes
import Derived.Laws.Slices
import Derived.WalkKit
import Derived.KernelRfl
import Derived.RowKit3
import Derived.Deep.LoopGhost
import Derived.Deep.QuietTactic
import Derived.BigQuiet
import Derived.WideLaws
import Derived.Deep.DeepCutAuto
import Derived.Deep.CutBlock
import Derived.Deep.RegionHeld3
import Derived.Laws.Rows
import Derived.Lib.AppendStr
import Derived.ArgAppend
import Derived.Laws.IdiomCopy
import Derived.OrdersHeld
import Derived.Laws.BitsLemmas
import Derived.RowKit
import Derived.Test.YtofbpjpdahcghaaDoorWApart
import Derived.Test.YtofbpjpdahcghaaDoorWArr
import Derived.Test.YtofbpjpdahcghaaDoorWFoot
import Derived.Test.YtofbpjpdahcghaaDoorWGuard
import Derived.Test.YtofbpjpdahcghaaDoorWKept
import Derived.Test.YtofbpjpdahcghaaDoorWLast
import Derived.Test.YtofbpjpdahcghaaDoorWMore
import Derived.Test.YtofbpjpdahcghaaDoorWN
import Derived.Test.YtofbpjpdahcghaaDoorWNEv
import Derived.Test.YtofbpjpdahcghaaDoorWQPut
import Derived.Test.YtofbpjpdahcghaaDoorWRepsOne
import Derived.Test.YtofbpjpdahcghaaDoorWShare
import Derived.Test.YtofbpjpdahcghaaDoorWTab
import Derived.Test.YtofbpjpdahcghaaDoorWWords
import Derived.Test.YtofbpjpdahcghaaDoorWZeros
set_option maxRecDepth 100000
set_option maxHeartbeats 8000000
set_option linter.unusedVariables false
namespace Go.Proofs.YtofbpjpdahcghaaDoor.Q
open Go.RowKit Go.Proofs.YtofbpjpdahcghaaDoorW.PrintWords Go.Proofs.YtofbpjpdahcghaaDoorW.PrintLast Go.Proofs.YtofbpjpdahcghaaDoorW.PrintMore
set_option linter.unusedVariables false
abbrev lenT : ByteArray := ⟨#[0, 1, 2, 2, 3, 3, 3, 3, 4, 4, 4, 4, 4, 4, 4, 4, 5, 5, 5, 5, 5, 5, 5, 5, 5, 5, 5, 5, 5, 5, 5, 5, 6, 6, 6, 6, 6, 6, 6, 6, 6, 6, 6, 6, 6, 6, 6, 6, 6, 6, 6, 6, 6, 6, 6, 6, 6, 6, 6, 6, 6, 6, 6, 6, 7, 7, 7, 7, 7, 7, 7, 7, 7, 7, 7, 7, 7, 7, 7, 7, 7, 7, 7, 7, 7, 7, 7, 7, 7, 7, 7, 7, 7, 7, 7, 7, 7, 7, 7, 7, 7, 7, 7, 7, 7, 7, 7, 7, 7, 7, 7, 7, 7, 7, 7, 7, 7, 7, 7, 7, 7, 7, 7, 7, 7, 7, 7, 7, 8, 8, 8, 8, 8, 8, 8, 8, 8, 8, 8, 8, 8, 8, 8, 8, 8, 8, 8, 8, 8, 8, 8, 8, 8, 8, 8, 8, 8, 8, 8, 8, 8, 8, 8, 8, 8, 8, 8, 8, 8, 8, 8, 8, 8, 8, 8, 8, 8, 8, 8, 8, 8, 8, 8, 8, 8, 8, 8, 8, 8, 8, 8, 8, 8, 8, 8, 8, 8, 8, 8, 8, 8, 8, 8, 8, 8, 8, 8, 8, 8, 8, 8, 8, 8, 8, 8, 8, 8, 8, 8, 8, 8, 8, 8, 8, 8, 8, 8, 8, 8, 8, 8, 8, 8, 8, 8, 8, 8, 8, 8, 8, 8, 8, 8, 8, 8, 8, 8, 8, 8, 8, 8, 8, 8, 8, 8, 8]⟩
def bm (n m : Nat) : Array Bool := ((List.range n).map fun i => m.testBit i).toArray
theorem am {p : Prop} (h : p) : Aside0 p := ⟨h⟩
theorem nn {α : Type} {r : α} {c : Prop} [Decidable c] {x : Option α} {q : Prop} (h : ¬ c) (H : ite c x none = some r) : q := by rw [if_neg h] at H; cases H
theorem bB {p : Prop} (h : p := by repeat (first | (with_reducible first | exact HB.out | apply below_alloc | apply pw_below_drewN | apply below_drew1 | (refine below_set ?_ (Aside0.out (by assumption)))) | exact HB.out)) : p := h
theorem as_ {p : Prop} (h : p := by first | (with_reducible assumption) | assumption) : p := h
theorem aM {p : Prop} (h : p := by (try simp only [List.map_toArray, List.map_cons, List.map_nil]); first | done | rfl | (simp only [List.length_drop, List.length_take]; rfl)) : p := h
theorem bk {p q : Prop} (h : p) (f : p → q := by intro h; (with_reducible repeat (first | refine blk_drewN ?_ _ | refine blk_drew ?_ | refine blk_alloc ?_ _)); exact h) : q := f h
theorem rR {p q : Prop} (h : p) (f : p → q := by intro h; (with_reducible repeat (first | apply Kd.R_alloc | apply Kd.R_drewN | apply Kd.R_drew)); exact h) : q := f h
theorem rV {p q : Prop} (h : p) (f : p → q := by intro h; (with_reducible repeat (first | apply Kd.V_alloc | apply Kd.V_drewN | apply Kd.V_drew)); exact h) : q := f h
theorem rN {p q : Prop} (h : p) (f : p → q := by intro h; (with_reducible repeat (first | apply Kd.N_alloc | apply Kd.N_drewN | apply Kd.N_drew)); exact h) : q := f h
theorem rS {p q : Prop} (h : p) (f : p → q := by intro h; (with_reducible repeat (first | apply Kd.S_alloc | apply Kd.S_drewN | apply Kd.S_drew)); exact h) : q := f h
theorem rC {p q : Prop} (h : p) (f : p → q := by intro h; first | (with_reducible exact h) | (with_reducible exact CV_drewN h _) | (with_reducible exact CV_drew h) | (with_reducible exact CV_alloc h _) | repeat (first | (with_reducible exact h) | (with_reducible refine CV_alloc ?_ _) | (with_reducible refine CV_drewN ?_ _) | (with_reducible refine CV_drew ?_) | exact h)) : q := f h
theorem kC {p q : Prop} (h : p) (f : p → q := by intro h; repeat (first | (with_reducible exact h) | (with_reducible refine Kd.C_alloc ?_ _) | (with_reducible refine Kd.C_drewN ?_ _) | (with_reducible refine Kd.C_drew ?_) | exact h)) : q := f h
theorem kC2 {p q : Prop} (h : p) (f : p → q := by intro h; repeat (first | exact h | (with_reducible refine Kd.C_alloc ?_ _) | (with_reducible refine Kd.C_drewN ?_ _) | (with_reducible refine Kd.C_drew ?_))) : q := f h
theorem eqS {p : Prop} (h : p := by first | rfl | (simp; done) | (simp [*]; done)) : p := h
theorem eqR {p : Prop} (h : p := by first | rfl | (simp [errW_none, errW_some] <;> rfl) | (simp [*, errW_none, errW_some] <;> rfl)) : p := h
theorem dR {p : Prop} (h : p := by repeat (first | exact Drawn0.refl _ | apply Drawn0.step)) : p := h
section
variable {P : Program} {ops : Array Oper} {rest : List Oper} {o : Oper} {a : Act} {Q : Exit → Act → World → Prop}
theorem boxE {W : World} {N : Tmp} {cs : Array Value} {t : TypeId} (h : ∀ g, g = W.heap.size → ∀ w1, w1.heap[g]? = some (.cells cs t (0, 0)) → Below W.heap.size W w1 → wpList P ops Q rest (a.put o.dst (.pointer (some ⟨g, 0, none⟩))) w1)
    (hgd : o.guard = none := by rfl) (hd : o.dst = some N := by rfl) (hrun : (execOp a.eval o).run P W = .ok (.value (.pointer (some ⟨W.heap.size, 0, none⟩))) (W.alloc (.cells cs t (0, 0))) := by first | (go_simp; done) | (go_simp; rfl)) : wpList P ops Q (o :: rest) a W := box_event hgd hd hrun h
theorem goesA {w : World} (N : Option Tmp) {f : FuncId} {fn : Func} {ar : Array Operand} {ts : Array TypeId} (hf : P.funcs[f]? = some fn) (args : Array Value)
    (h : Calls P f args w fun e w' => ∃ v, e = .returned v ∧ wpList P ops Q rest (a.put N v) w')
    (hd : o.dst = N := by rfl) (hg : o.guard = none := by rfl) (hname : (fn.name == "runtime.NumGoroutine") = false := by kernel_rfl) (hb : fn.body.isSome = true := by rfl)
    (hop : o.op = .call { callee := .value (.func f), args := ar, argTypes := ts } := by rfl) (hargs : ar.map a.eval = args := by (try simp only [List.map_toArray, List.map_cons, List.map_nil]); first | done | rfl | (simp only [List.length_drop, List.length_take]; rfl)) : wpList P ops Q (o :: rest) a w := goesL_ N hd hg hf hname hb args hop hargs h
end
section
variable {P : Program} {ops : Array Oper} {Q : Exit → Act → World → Prop} {S : World → Prop} {ds : List Nat} {md : Region.Mode}
theorem pureA {i : Nat} {N : Option Tmp} {oi : Oper} {v : Value} {fuel : Nat} {l : Array Bool} {a : Act} {w : World} (l' : Array Bool) (hi : ops[i]? = some oi) (hN : oi.dst = N)
    (hy : Region.wanted oi (yielded ops a.tmps) = true ∧ ∀ w, (execOp a.eval oi).run P w = .ok (.value v) w) {a' : Act} (ha : a.put N v = a') (h : wpAnyLast P md ops Q S ds fuel l' a' w)
    (hc : anyB md ops l l' i = true := by exact any_of HT_.out (by kernel_rfl)) (hQ : ∀ c a w, Q (.panic c) (a.put oi.dst v) w → Q (.panic c) a w := by exact fun _ _ _ h => h) : wpAnyLast P md ops Q S ds (fuel + 1) l a w := pure_ l' hi hN hc hQ (Or.inl hy) ha h
end
section
variable {P : Program} {ops : Array Oper} {Q : Exit → Act → World → Prop} {S : World → Prop} {ds : List Nat} {md : Region.Mode}
theorem pureB {N : Option Tmp} {oi : Oper} {v : Value} {fuel : Nat} {l : Array Bool} {a : Act} {w : World} (i : Nat) (l' : Array Bool) {a' : Act} (h : wpAnyLast P md ops Q S ds fuel l' a' w)
    (hi : ops[i]? = some oi := by rfl) (hN : oi.dst = N := by rfl) (hy : Region.wanted oi (yielded ops a.tmps) = true := by rfl) (hz : ∀ w, (execOp a.eval oi).run P w = .ok (.value v) w := by intro w'; go_simp; with_reducible rfl)
    (ha : a.put N v = a' := by simp only [Act.put, List.setIfInBounds_toArray, List.set_cons_zero, List.set_cons_succ, i64_w, i32_w]; rfl)
    (hc : anyB md ops l l' i = true := by exact any_of HT_.out (by kernel_rfl)) (hQ : ∀ c a w, Q (.panic c) (a.put oi.dst v) w → Q (.panic c) a w := by exact fun _ _ _ h => h) : wpAnyLast P md ops Q S ds (fuel + 1) l a w := pure_ l' hi hN hc hQ (Or.inl ⟨hy, hz⟩) ha h
theorem takeB2 {N : Option Tmp} {oi : Oper} {v : Value} {fuel : Nat} {l : Array Bool} {a : Act} {w : World} (i : Nat) (l' : Array Bool) (hS : S w) {a' : Act} (h : wpAnyLast P md ops Q S ds fuel l' a' w)
    (hi : ops[i]? = some oi := by rfl) (hN : oi.dst = N := by rfl) (hy : Region.wanted oi (yielded ops a.tmps) = true := by rfl) (hz : ∀ w, S w → (execOp a.eval oi).run P w = .ok (.value v) w := by rintro w' ⟨s0, s1⟩; go_simp; with_reducible rfl)
    (ha : a.put N v = a' := by simp only [Act.put, List.setIfInBounds_toArray, List.set_cons_zero, List.set_cons_succ, i64_w, i32_w]; rfl)
    (hc : takeB md ops ds l l' i = true := by exact take_ofW HT_.out HW_.out (by kernel_rfl)) (hQ : ∀ c a w, Q (.panic c) (a.put oi.dst v) w → Q (.panic c) a w := by exact fun _ _ _ h => h) : wpAnyLast P md ops Q S ds (fuel + 1) l a w := take_ l' hi hN hc hQ (Or.inl ⟨hy, hz⟩) hS ha h
theorem takeB3 {N : Option Tmp} {oi : Oper} {v : Value} {fuel : Nat} {l : Array Bool} {a : Act} {w : World} (i : Nat) (l' : Array Bool) (hS : S w) {a' : Act} (h : wpAnyLast P md ops Q S ds fuel l' a' w)
    (hi : ops[i]? = some oi := by rfl) (hN : oi.dst = N := by rfl) (hy : Region.wanted oi (yielded ops a.tmps) = true := by rfl) (hz : ∀ w, S w → (execOp a.eval oi).run P w = .ok (.value v) w := by rintro w' ⟨s0, s1, s2⟩; go_simp; with_reducible rfl)
    (ha : a.put N v = a' := by simp only [Act.put, List.setIfInBounds_toArray, List.set_cons_zero, List.set_cons_succ, i64_w, i32_w]; rfl)
    (hc : takeB md ops ds l l' i = true := by exact take_ofW HT_.out HW_.out (by kernel_rfl)) (hQ : ∀ c a w, Q (.panic c) (a.put oi.dst v) w → Q (.panic c) a w := by exact fun _ _ _ h => h) : wpAnyLast P md ops Q S ds (fuel + 1) l a w := take_ l' hi hN hc hQ (Or.inl ⟨hy, hz⟩) hS ha h
theorem takeB5 {N : Option Tmp} {oi : Oper} {v : Value} {fuel : Nat} {l : Array Bool} {a : Act} {w : World} (i : Nat) (l' : Array Bool) (hS : S w) {a' : Act} (h : wpAnyLast P md ops Q S ds fuel l' a' w)
    (hi : ops[i]? = some oi := by rfl) (hN : oi.dst = N := by rfl) (hy : Region.wanted oi (yielded ops a.tmps) = true := by rfl) (hz : ∀ w, S w → (execOp a.eval oi).run P w = .ok (.value v) w := by rintro w' ⟨s0, s1, s2, s3, s4⟩; go_simp; with_reducible rfl)
    (ha : a.put N v = a' := by simp only [Act.put, List.setIfInBounds_toArray, List.set_cons_zero, List.set_cons_succ, i64_w, i32_w]; rfl)
    (hc : takeB md ops ds l l' i = true := by exact take_ofW HT_.out HW_.out (by kernel_rfl)) (hQ : ∀ c a w, Q (.panic c) (a.put oi.dst v) w → Q (.panic c) a w := by exact fun _ _ _ h => h) : wpAnyLast P md ops Q S ds (fuel + 1) l a w := take_ l' hi hN hc hQ (Or.inl ⟨hy, hz⟩) hS ha h
end
theorem rF {p : Prop} (h : p := by rfl) : p := h
theorem gF {p : Prop} (h : p := by first | (go_simp; done) | (go_simp; rfl)) : p := h
theorem actp {p : Prop} (h : p := by simp only [Act.put, List.setIfInBounds_toArray, List.set_cons_zero, List.set_cons_succ, i64_w, i32_w]; rfl) : p := h
end Go.Proofs.YtofbpjpdahcghaaDoor.Q
namespace Go.Proofs.YtofbpjpdahcghaaDoor.Q
open Go.RowKit Go.Proofs.YtofbpjpdahcghaaDoorW.PrintWords Go.Proofs.YtofbpjpdahcghaaDoorW.PrintLast Go.Proofs.YtofbpjpdahcghaaDoorW.PrintMore
attribute [local go_sem] max2_int min2_int max_two min_two max_three min_three max_four min_four   -- for this text's walks alone
set_option linter.unusedVariables false
set_option linter.unusedSimpArgs false
def errW : Option Int → Value
 | none => .nilIface
 | some c => .iface 0 (.int .i64 c)
theorem errW_none : errW none = .nilIface := rfl
theorem errW_some (c : Int) : errW (some c) = .iface 0 (.int .i64 c) := rfl
theorem info22 : (Tryd.prog.info? 22).map (fun i => (i.zero, i.size, i.bytes)) = some (some (.int .u32 0), 1, 4) := by kernel_rfl
theorem info30 : (Tryd.prog.info? 30).map (fun i => (i.zero, i.size, i.bytes)) = some (some (.int .u64 0), 1, 8) := by kernel_rfl
def rd_L2 (xs : List (List Int)) (i : Int) : (List Int) := xs.getD i.toNat ([] : List Int)
theorem at_L2 {w : World} {A : Option Addr} {n : Nat} {xs : List (List Int)} (h : Kd.C (Kd.slice 22 (Kd.int .u32)) w A n xs) (i : Int) (h0 : 0 ≤ i) (h1 : i < n) : ∃ ad A0 c0, A = some ad ∧ w.cell? (ad.add i.toNat) = some (.slice A0 (rd_L2 xs i).length c0) ∧ (rd_L2 xs i).length ≤ c0 ∧ (Kd.int .u32).C w A0 (rd_L2 xs i).length (rd_L2 xs i) := by
 obtain ⟨ad, c, e, _, hK, hc0⟩ := Kd.C_get h ([] : List Int) i h0 h1
 have hc : ∀ j u, c[j]? = some u → w.cell? (ad.add (i.toNat * 1 + j)) = some u := hc0
 obtain ⟨A0, c0, rfl, l0, g0⟩ := hK
 exact ⟨ad, A0, c0, e, by have hq := hc 0 _ rfl; rwa [Nat.mul_one, Nat.add_zero] at hq, l0, g0⟩
structure S52 where
 f0 : (List Int)
 f1 : Int
def z52 : S52 := ⟨([] : List Int), (0 : Int)⟩
def k52 : Kd S52 := Kd.iso (Kd.pair (Kd.slice 22 (Kd.int .u32)) (Kd.int .i64)) (fun x : S52 => (x.f0, x.f1))
theorem k52_open {w : World} {x : S52} {cs : List Value} (h : k52.K w x cs) : ∃ A0 c0, cs = [.slice A0 x.f0.length c0, .int .i64 x.f1] ∧ x.f0.length ≤ c0 ∧ (Kd.int .u32).C w A0 x.f0.length x.f0 := by
 obtain ⟨_, _, rfl, ⟨A0, c0, rfl, l0, g0⟩, rfl⟩ := h
 exact ⟨A0, c0, rfl, l0, g0⟩
theorem k52_mk (w : World) (x : S52) {A0 : Option Addr} {c0 : Nat} (l0 : x.f0.length ≤ c0) (g0 : (Kd.int .u32).C w A0 x.f0.length x.f0) : k52.K w x [.slice A0 x.f0.length c0, .int .i64 x.f1] := ⟨[.slice A0 x.f0.length c0], [.int .i64 x.f1], rfl, ⟨A0, c0, rfl, l0, g0⟩, rfl⟩
theorem k52_openF {W : World} {ok : Nat → Prop} {x : S52} {cs : List Value} (h : Kd.FK k52 W ok x cs) : ∃ A0 c0, cs = [.slice A0 x.f0.length c0, .int .i64 x.f1] ∧ x.f0.length ≤ c0 ∧ Kd.F (Kd.int .u32) W ok A0 x.f0.length x.f0 := by
 obtain ⟨A0, c0, rfl, l0, _⟩ := k52_open (Kd.FK_now h)
 exact ⟨A0, c0, rfl, l0, (fun W' hW => by obtain ⟨A0_, c0_, he, l0_, g0_⟩ := k52_open (h W' hW); injection (Option.some.inj (show some (Value.slice A0 x.f0.length c0) = some (Value.slice A0_ x.f0.length c0_) from congrArg (fun l => l[0]?) he)) with ha_ _ _; rw [ha_]; exact g0_)⟩
theorem k52_mkF (W : World) (ok : Nat → Prop) (x : S52) {A0 : Option Addr} {c0 : Nat} (l0 : x.f0.length ≤ c0) (g0 : Kd.F (Kd.int .u32) W ok A0 x.f0.length x.f0) : Kd.FK k52 W ok x [.slice A0 x.f0.length c0, .int .i64 x.f1] := fun W2 hW => k52_mk W2 x l0 (g0 W2 hW)
def rd_T52 (xs : List S52) (i : Int) : S52 := xs.getD i.toNat z52
theorem at_T52 {w : World} {A : Option Addr} {n : Nat} {xs : List S52} (h : Kd.C k52 w A n xs) (i : Int) (h0 : 0 ≤ i) (h1 : i < n) : ∃ ad A0 c0, A = some ad ∧ w.cell? (ad.add (i.toNat * 2)) = some (.slice A0 (rd_T52 xs i).f0.length c0) ∧ w.cell? ⟨(ad.add (i.toNat * 2)).block, (ad.add (i.toNat * 2)).off + 1, none⟩ = some (.int .i64 (rd_T52 xs i).f1) ∧ (rd_T52 xs i).f0.length ≤ c0 ∧ (Kd.int .u32).C w A0 (rd_T52 xs i).f0.length (rd_T52 xs i).f0 := by
 obtain ⟨ad, c, e, _, hK, hc0⟩ := Kd.C_get h z52 i h0 h1
 have hc : ∀ j u, c[j]? = some u → w.cell? (ad.add (i.toNat * 2 + j)) = some u := hc0
 obtain ⟨A0, c0, rfl, l0, g0⟩ := k52_open hK
 exact ⟨ad, A0, c0, e, hc 0 _ rfl, by rw [← add_field _ _ 1 (by omega)]; exact hc 1 _ rfl, l0, g0⟩
structure S56 where
 f0 : Bool
 f1 : (List Int)
def z56 : S56 := ⟨false, ([] : List Int)⟩
def k56 : Kd S56 := Kd.iso (Kd.pair Kd.bool (Kd.slice 22 (Kd.int .u32))) (fun x : S56 => (x.f0, x.f1))
theorem k56_open {w : World} {x : S56} {cs : List Value} (h : k56.K w x cs) : ∃ A1 c1, cs = [.bool x.f0, .slice A1 x.f1.length c1] ∧ x.f1.length ≤ c1 ∧ (Kd.int .u32).C w A1 x.f1.length x.f1 := by
 obtain ⟨_, _, rfl, rfl, ⟨A1, c1, rfl, l1, g1⟩⟩ := h
 exact ⟨A1, c1, rfl, l1, g1⟩
theorem k56_mk (w : World) (x : S56) {A1 : Option Addr} {c1 : Nat} (l1 : x.f1.length ≤ c1) (g1 : (Kd.int .u32).C w A1 x.f1.length x.f1) : k56.K w x [.bool x.f0, .slice A1 x.f1.length c1] := ⟨[.bool x.f0], [.slice A1 x.f1.length c1], rfl, rfl, ⟨A1, c1, rfl, l1, g1⟩⟩
def rd_T56 (xs : List S56) (i : Int) : S56 := xs.getD i.toNat z56
theorem at_T56 {w : World} {A : Option Addr} {n : Nat} {xs : List S56} (h : Kd.C k56 w A n xs) (i : Int) (h0 : 0 ≤ i) (h1 : i < n) : ∃ ad A1 c1, A = some ad ∧ w.cell? (ad.add (i.toNat * 2)) = some (.bool (rd_T56 xs i).f0) ∧ w.cell? ⟨(ad.add (i.toNat * 2)).block, (ad.add (i.toNat * 2)).off + 1, none⟩ = some (.slice A1 (rd_T56 xs i).f1.length c1) ∧ (rd_T56 xs i).f1.length ≤ c1 ∧ (Kd.int .u32).C w A1 (rd_T56 xs i).f1.length (rd_T56 xs i).f1 := by
 obtain ⟨ad, c, e, _, hK, hc0⟩ := Kd.C_get h z56 i h0 h1
 have hc : ∀ j u, c[j]? = some u → w.cell? (ad.add (i.toNat * 2 + j)) = some u := hc0
 obtain ⟨A1, c1, rfl, l1, g1⟩ := k56_open hK
 exact ⟨ad, A1, c1, e, hc 0 _ rfl, by rw [← add_field _ _ 1 (by omega)]; exact hc 1 _ rfl, l1, g1⟩
theorem C_len_ {α : Type} {d : Kd α} {w : World} {A : Option Addr} {n m : Nat} {xs : List α} (h : n = m) (hc : Kd.C d w A n xs) : Kd.C d w A m xs := h ▸ hc
section
variable {P : Program} {ops : Array Oper} {rest : List Oper} {o : Oper} {a : Act} {Q : Exit → Act → World → Prop} {α : Type}
end
def modp_trim.l0 : Nat → List Int → Option (List Int)
 | 0, _ => none
 | k + 1, x0 => if (x0.length : Int) > 0 then (if 0 ≤ (wrap64 ((x0.length : Int) - 1)) then (if (wrap64 ((x0.length : Int) - 1)) < (x0.length : Int) then (if (rd x0 (wrap64 ((x0.length : Int) - 1))) = 0 then (if (wrap64 ((x0.length : Int) - 1)) ≤ (x0.length : Int) then (modp_trim.l0 k (x0.take ((wrap64 ((x0.length : Int) - 1)) : Int).toNat)) else (none)) else (some x0)) else (none)) else (none)) else (some x0)
def modp_trim.f (k : Nat) (l0 : List Int) : Option (List Int) := modp_trim.l0 k l0
theorem modp_trim.calls (k : Nat) (P0_ : Nat → Prop) (A0 : Option Addr) (c0 : Nat) (l0 : List Int) (r : List Int) (w : World) (hs0 : Kd.V (Kd.int .u32) 22 w w.heap.size (fun k_ => P0_ k_) (.slice A0 l0.length c0) l0) (h : modp_trim.f k l0 = some r) :
   Calls Tryd.prog 32 #[.slice A0 l0.length c0] w fun e w' => ∃ v0_ : Value, e = .returned (v0_) ∧ Kd.V (Kd.int .u32) 22 w' w.heap.size (fun k_ => (P0_ k_ ∨ w.heap.size ≤ k_)) v0_ r ∧ Below w.heap.size w w' := by
 have HO0 := am (show Kd.V (Kd.int .u32) 22 w w.heap.size (fun k_ => (P0_ k_ ∨ w.heap.size ≤ k_)) (.slice A0 l0.length c0) l0 from Kd.V_mono hs0 (fun k_ hk => .inl hk))
 have HB := am (Below.refl w.heap.size w)
 have H := h; unfold modp_trim.f at H
 clear h
 have H' := am H
 clear H
 go_enter Tryd.func32, Tryd.ntmps32
 go_wp2
 go_loopg [0] k (fun kq v0 w' => ∃ (x0_1 : List Int), Aside0 (modp_trim.l0 kq x0_1 = some r) ∧ Aside0 (kq ≤ k) ∧ Aside0 (Kd.V (Kd.int .u32) 22 w' w.heap.size (fun k_ => (P0_ k_ ∨ w.heap.size ≤ k_)) v0 x0_1) ∧ Aside0 (Below w.heap.size w w'))
 case atStart => exact ⟨(l0), H', ⟨Nat.le_refl _⟩, ⟨rV (HO0.out)⟩, ⟨bB⟩⟩
 clear H'
 obtain ⟨x0_1, HA, HK1, HO_0, HB⟩ := hrel
 rcases gk with _ | k1
 · exact absurd HA.out (by simp [modp_trim.l0])
 have H := HA.out
 clear HA
 simp only [modp_trim.l0] at H
 by_cases c2 : (x0_1.length : Int) > 0
 case neg =>
   rw [if_neg c2] at H
   have c2b0 : decide (0 < (x0_1.length : Int)) = false := decide_eq_false c2
   have c2b1 : decide (0 < x0_1.length) = false := decide_eq_false (by omega)
   clear c2
   obtain rfl := Option.some.inj H
   obtain ⟨Ao12, co12, eo12⟩ := Kd.V_slice HO_0.out
   subst eo12
   go_wp2
   go_ret
   exact ⟨_, eqR, rV (HO_0.out), bB⟩
 rw [if_pos c2] at H
 have c2b0 : decide (0 < (x0_1.length : Int)) = true := decide_eq_true c2
 have c2b1 : decide (0 < x0_1.length) = true := decide_eq_true (by omega)
 clear c2
 obtain ⟨ji3, hji3⟩ : ∃ j_ : Int, (wrap64 ((x0_1.length : Int) - 1)) = j_ := ⟨_, rfl⟩
 replace H : (if 0 ≤ (ji3) then (if (ji3) < (x0_1.length : Int) then (if (rd x0_1 (ji3)) = 0 then (if (ji3) ≤ (x0_1.length : Int) then (modp_trim.l0 k1 (x0_1.take ((ji3) : Int).toNat)) else (none)) else (some x0_1)) else (none)) else (none)) = some r := by first | (rw [hji3] at H; exact H) | (simp only [hji3] at H ⊢; exact H)
 have hji3w : (IntKind.i64.wrap ((x0_1.length : Int) - 1)) = ji3 := (i64_w _).trans hji3
 by_cases c4 : 0 ≤ (ji3)
 case neg => exact nn c4 H
 rw [if_pos c4] at H
 have c4b0 : decide (0 ≤ (ji3)) = true := decide_eq_true c4
 clear c4
 by_cases c5 : (ji3) < (x0_1.length : Int)
 case neg => exact nn c5 H
 rw [if_pos c5] at H
 have c5b0 : decide ((ji3) < (x0_1.length : Int)) = true := decide_eq_true c5
 clear c5
 by_cases c6 : (rd x0_1 (ji3)) = 0
 case neg =>
   rw [if_neg c6] at H
   have c6b0 : ((rd x0_1 (ji3)) == 0) = false := beq_eq_false_iff_ne.mpr c6
   have c6b1 : ((rd x0_1 (ji3)) != 0) = true := bne_iff_ne.mpr c6
   obtain rfl := Option.some.inj H
   obtain ⟨Ao11, co11, eo11⟩ := Kd.V_slice HO_0.out
   subst eo11
   have p101 : 0 ≤ ((ji3) : Int) := of_decide_eq_true as_
   have q101 : (ji3) < (x0_1.length : Int) := of_decide_eq_true as_
   obtain ⟨ad101, e101, hx101_0⟩ := Kd.at_int (Kd.V_reads' HO_0.out).2.2 (ji3) p101 q101
   cases e101
   replace p101 := eq_true p101
   replace q101 := eq_true q101
   go_wp2
   go_ret
   exact ⟨_, by first | rfl | (simp [errW_none, errW_some] <;> rfl) | (simp only [← hji3]; first | rfl | (simp [errW_none, errW_some] <;> rfl)) | (simp [*, errW_none, errW_some] <;> rfl), rV (HO_0.out), bB⟩
 rw [if_pos c6] at H
 have c6b0 : ((rd x0_1 (ji3)) == 0) = true := beq_iff_eq.mpr c6
 have c6b1 : ((rd x0_1 (ji3)) != 0) = false := bne_eq_false_iff_eq.mpr c6
 clear c6
 have c7b0 := eq_true (of_decide_eq_true as_ : 0 ≤ (ji3))
 by_cases c8 : (ji3) ≤ (x0_1.length : Int)
 case neg => exact nn c8 H
 rw [if_pos c8] at H
 have c8b0 := eq_true c8
 have c8b1 : decide ((ji3) ≤ (x0_1.length : Int)) = true := decide_eq_true c8
 clear c8
 obtain ⟨y102, hy102⟩ : ∃ y_ : List Int, y_ = (x0_1.take ((ji3) : Int).toNat) := ⟨_, rfl⟩
 replace H : (modp_trim.l0 k1 y102) = some r := by first | (rw [hy102]; exact H) | exact H
 have Ny102 := am hy102
 clear hy102
 have H' := am H
 clear H
 obtain ⟨Ao9, co9, eo9⟩ := Kd.V_slice HO_0.out
 subst eo9
 have p101 : 0 ≤ ((ji3) : Int) := of_decide_eq_true as_
 have q101 : (ji3) < (x0_1.length : Int) := of_decide_eq_true as_
 obtain ⟨ad101, e101, hx101_0⟩ := Kd.at_int (Kd.V_reads' HO_0.out).2.2 (ji3) p101 q101
 cases e101
 replace p101 := eq_true p101
 replace q101 := eq_true q101
 have q10 : ((ji3) : Int) ≤ ((x0_1.length : Int) : Int) := of_decide_eq_true as_
 obtain ⟨i010, hi010, _, hsz10, _⟩ := info_parts info22
 have hroom10 : x0_1.length ≤ co9 := (Kd.V_reads' HO_0.out).2.1
 have hC10 : Kd.F (Kd.int .u32) _ _ (some ad101) x0_1.length x0_1 := (Kd.V_at (base := w.heap.size) HO_0.out).2.2
 have hcut10 := cut_to (P := Tryd.prog) 23 22 .i64 Tryd.underlying23 hi010 (some ad101) x0_1.length co9 (ji3) (of_decide_eq_true as_) q10 hroom10
 have hr10 := Kd.F_take (m := ((ji3) : Int).toNat) hC10 (by omega)
 have hy10 : y102.length = ((ji3) : Int).toNat := (by rw [Ny102.out, List.length_take]; omega)
 rw [← Ny102.out] at hr10
 rw [← hy10] at hcut10
 have HO106 := am (show Kd.V (Kd.int .u32) 22 _ w.heap.size _ (.slice (some ad101) y102.length co9) y102 from Kd.V_mk (by omega) hr10)
 have HC106 := am (show y102.length ≤ co9 from by omega)
 clear hr10 hC10 hroom10 hi010 hsz10
 have KY10 := am hy10
 clear hy10
 replace q10 := eq_true q10
 go_wp2
 first | go_roundg k1 | (subst hji3; go_roundg k1)
 case measure => have := HK1.out; omega
 case rel => exact ⟨(y102), (by first | exact H' | (subst_vars; exact H')), ⟨by have := HK1.out; omega⟩, ⟨rV (HO106.out)⟩, ⟨bB⟩⟩
def modp_inverse.l0 : Nat → Int → Int → Int → Int → Int → Option (Int)
 | 0, _, _, _, _, _ => none
 | k + 1, x1, x5, x6, x7, x8 => if x6 = 0 then (if (wrap64 (x1)) = 0 then (none) else (some (IntKind.u64.wrap (Int.tmod (wrap64 ((Int.tmod x7 (wrap64 (x1))) + (wrap64 (x1)))) (wrap64 (x1)))))) else (modp_inverse.l0 k x1 x6 (wrap64 (x5 - (wrap64 ((wrap64 (Int.tdiv x5 x6)) * x6)))) x8 (wrap64 (x7 - (wrap64 ((wrap64 (Int.tdiv x5 x6)) * x8)))))
def modp_inverse.f (k : Nat) (a0 : Int) (a1 : Int) : Option (Int) := if (IntKind.u64.wrap (a1)) = 0 then (none) else (modp_inverse.l0 k a1 (wrap64 (Int.tmod a0 (IntKind.u64.wrap (a1)))) (wrap64 (a1)) 1 0)
theorem modp_inverse.calls (k : Nat) (a0 : Int) (a1 : Int) (r : Int) (w : World) (h : modp_inverse.f k a0 a1 = some r) :
   Calls Tryd.prog 34 #[.int .u64 a0, .int .u32 a1] w fun e w' => e = .returned (.int .u64 r) ∧ Drawn0 w w' := by
 have H := h; unfold modp_inverse.f at H
 clear h
 by_cases c3 : (IntKind.u64.wrap (a1)) = 0
 · rw [if_pos c3] at H
   exact absurd H (by simp)
 rw [if_neg c3] at H
 have c3b0 : ((IntKind.u64.wrap (a1)) == 0) = false := beq_eq_false_iff_ne.mpr c3
 have c3b1 : ((IntKind.u64.wrap (a1)) != 0) = true := bne_iff_ne.mpr c3
 have H' := am H
 clear H
 go_enter Tryd.func34, Tryd.ntmps34
 go_wp2
 go_loopg [5, 6, 7, 8] k (fun kq v5 v6 v7 v8 w' => ∃ (x5_1 : Int) (x6_1 : Int) (x7_1 : Int) (x8_1 : Int), v5 = .int .i64 x5_1 ∧ v6 = .int .i64 x6_1 ∧ v7 = .int .i64 x7_1 ∧ v8 = .int .i64 x8_1 ∧ Aside0 (modp_inverse.l0 kq a1 x5_1 x6_1 x7_1 x8_1 = some r) ∧ Aside0 (kq ≤ k) ∧ Drawn0 w w')
 case atStart => exact ⟨(wrap64 (Int.tmod a0 (IntKind.u64.wrap (a1)))), (wrap64 (a1)), (1), (0), eqS, eqS, eqS, eqS, H', ⟨Nat.le_refl _⟩, by repeat (first | exact Drawn0.refl _ | apply Drawn0.step)⟩
 clear H'
 (try clear p2); (try clear c3); (try clear c3b0); (try clear c3b1)
 obtain ⟨x5_1, x6_1, x7_1, x8_1, rfl, rfl, rfl, rfl, HA, HK1, ⟨m1, rfl⟩⟩ := hrel
 rcases gk with _ | k1
 · exact absurd HA.out (by simp [modp_inverse.l0])
 have H := HA.out
 clear HA
 simp only [modp_inverse.l0] at H
 by_cases c4 : x6_1 = 0
 case neg =>
   rw [if_neg c4] at H
   have c4b0 : (x6_1 == 0) = false := beq_eq_false_iff_ne.mpr c4
   have c4b1 : (x6_1 != 0) = true := bne_iff_ne.mpr c4
   have H' := am H
   clear H
   go_wp2
   go_roundg k1
   case measure => have := HK1.out; omega
   case rel => exact ⟨(x6_1), (wrap64 (x5_1 - (wrap64 ((wrap64 (Int.tdiv x5_1 x6_1)) * x6_1)))), (x8_1), (wrap64 (x7_1 - (wrap64 ((wrap64 (Int.tdiv x5_1 x6_1)) * x8_1)))), eqS, eqS, eqS, eqS, (by first | exact H' | (subst_vars; exact H')), ⟨by have := HK1.out; omega⟩, by repeat (first | exact Drawn0.refl _ | apply Drawn0.step)⟩
 rw [if_pos c4] at H
 have c4b0 : (x6_1 == 0) = true := beq_iff_eq.mpr c4
 have c4b1 : (x6_1 != 0) = false := bne_eq_false_iff_eq.mpr c4
 clear c4
 by_cases c5 : (wrap64 (a1)) = 0
 · rw [if_pos c5] at H
   exact absurd H (by simp)
 rw [if_neg c5] at H
 have c5b0 : ((wrap64 (a1)) == 0) = false := beq_eq_false_iff_ne.mpr c5
 have c5b1 : ((wrap64 (a1)) != 0) = true := bne_iff_ne.mpr c5
 obtain rfl := Option.some.inj H
 go_wp2
 go_ret
 exact ⟨eqS, dR⟩
mutual
def modp_Mul.j0 : Nat → List Int → List Int → Int → Bool → Option (List Int)
 | 0, _, _, _, _ => none
 | k + 1, x0, x1, x2, x22 => if x22 = true then (some ([] : List Int)) else (if 0 ≤ (wrap64 ((wrap64 ((x0.length : Int) + (x1.length : Int))) - 1)) then (if (wrap64 ((wrap64 ((x0.length : Int) + (x1.length : Int))) - 1) : Int).toNat ≤ 35184372088832 then (modp_Mul.l0 k x1 x2 (List.replicate (wrap64 ((wrap64 ((x0.length : Int) + (x1.length : Int))) - 1) : Int).toNat 0) x0 (x0.length : Int) 0) else (none)) else (none))
def modp_Mul.l0 : Nat → List Int → Int → List Int → List Int → Int → Int → Option (List Int)
 | 0, _, _, _, _, _, _ => none
 | k + 1, x1, x2, x7, x30, x31, x32 => if x32 < x31 then (if 0 ≤ x32 then (if x32 < (x30.length : Int) then (modp_Mul.l1 k x1 x2 x7 x32 (rd x30 x32) x30 x31 x32 x1 (x1.length : Int) 0) else (none)) else (none)) else (if 0 ≤ (x7.length : Int) then (if ((x7.length : Int) : Int).toNat ≤ 70368744177664 then (modp_Mul.l2 k x2 (List.replicate ((x7.length : Int) : Int).toNat 0) x7 (x7.length : Int) 0) else (none)) else (none))
def modp_Mul.l1 : Nat → List Int → Int → List Int → Int → Int → List Int → Int → Int → List Int → Int → Int → Option (List Int)
 | 0, _, _, _, _, _, _, _, _, _, _, _ => none
 | k + 1, x1, x2, x7, x8, x9, x30, x31, x32, x37, x38, x39 => if x39 < x38 then (if 0 ≤ x39 then (if x39 < (x37.length : Int) then (if 0 ≤ (wrap64 (x8 + x39)) then (if (wrap64 (x8 + x39)) < (x7.length : Int) then (if (IntKind.u64.wrap (x2)) = 0 then (none) else (modp_Mul.l1 k x1 x2 (x7.set ((wrap64 (x8 + x39)) : Int).toNat (IntKind.u64.wrap ((rd x7 (wrap64 (x8 + x39))) + (Int.tmod (IntKind.u64.wrap ((IntKind.u64.wrap (x9)) * (IntKind.u64.wrap (rd x37 x39)))) (IntKind.u64.wrap (x2)))))) x8 x9 x30 x31 x32 x37 x38 (wrap64 (x39 + 1)))) else (none)) else (none)) else (none)) else (none)) else (modp_Mul.l0 k x1 x2 x7 x30 x31 (wrap64 (x32 + 1)))
def modp_Mul.l2 : Nat → Int → List Int → List Int → Int → Int → Option (List Int)
 | 0, _, _, _, _, _ => none
 | k + 1, x2, x12, x65, x66, x67 => if x67 < x66 then (if 0 ≤ x67 then (if x67 < (x65.length : Int) then (if (IntKind.u64.wrap (x2)) = 0 then (none) else (if x67 < (x12.length : Int) then (modp_Mul.l2 k x2 (x12.set (x67 : Int).toNat ((Int.tmod (rd x65 x67) (IntKind.u64.wrap (x2))) % 4294967296)) x65 x66 (wrap64 (x67 + 1))) else (none))) else (none)) else (none)) else ((modp_trim.f k x12).bind fun t171 => (some t171))
end
def modp_Mul.f (k : Nat) (l0 : List Int) (l1 : List Int) (a2 : Int) : Option (List Int) := if (l0.length : Int) = 0 then (modp_Mul.j0 k l0 l1 a2 true) else (modp_Mul.j0 k l0 l1 a2 ((l1.length : Int) == 0))
def modp_Mul.T10 : Bool × List (List Nat × List Nat) := (true, [([], []), ([], []), ([], []), ([1, 2], [1, 2]), ([0, 3], [0, 3]), ([4], [4]), ([], []), ([6], [6]), ([], []), ([8], [8]), ([7, 9], [7, 9]), ([], []), ([11], [11]), ([10, 12], [10, 12]), ([5, 13], [5, 13]), ([0, 3, 0, 1, 2, 3, 4, 5, 6, 7, 8, 9, 10, 11, 12, 13, 14], [0, 3]), ([15, 14, 0, 1, 2, 3, 4, 5, 6, 7, 8, 9, 10, 11, 12, 13, 14], [14, 15])])
def modp_Mul.B10 : List Nat := [0, 0, 0, 6, 15, 31, 0, 64, 0, 256, 960, 0, 2048, 8128, 16383, 32767, 65535]
theorem modp_Mul.tab10 : rtab .any (opsOf Tryd.f11 10) = modp_Mul.T10 := by kernel_rfl
theorem modp_Mul.bits10 : waitsOk modp_Mul.T10.2 modp_Mul.B10 = true := by kernel_rfl
theorem modp_Mul.calls (k : Nat) (A0 : Option Addr) (c0 : Nat) (l0 : List Int) (A1 : Option Addr) (c1 : Nat) (l1 : List Int) (a2 : Int) (r : List Int) (w : World) (hr0 : Kd.C (Kd.int .u32) w A0 l0.length l0) (hc0 : l0.length ≤ c0) (hr1 : Kd.C (Kd.int .u32) w A1 l1.length l1) (hc1 : l1.length ≤ c1) (h : modp_Mul.f k l0 l1 a2 = some r) :
   Calls Tryd.prog 11 #[.slice A0 l0.length c0, .slice A1 l1.length c1, .int .u32 a2] w fun e w' => ∃ v0_ : Value, e = .returned (v0_) ∧ Kd.V (Kd.int .u32) 22 w' w.heap.size (fun k_ => (w.heap.size ≤ k_)) v0_ r ∧ Below w.heap.size w w' := by
 have HR0 := am hr0
 have HC0 := am hc0
 clear hr0 hc0
 have HR1 := am hr1
 have HC1 := am hc1
 clear hr1 hc1
 have HB := am (Below.refl w.heap.size w)
 have H := h; unfold modp_Mul.f at H
 clear h
 have HC4 := am H
 clear H
 go_enter Tryd.func11, Tryd.ntmps11
 go_upto_region 1 with (fail)
 go_cut [22] (fun v22 wc => ∃ (kq : Nat) (x22_3 : Bool), v22 = .bool x22_3 ∧ Aside0 (modp_Mul.j0 kq l0 l1 a2 x22_3 = some r) ∧ Aside0 (kq ≤ k) ∧ Aside0 (Below w.heap.size w wc))
 case first =>
   have H := HC4.out
   clear HC4
   by_cases c5 : (l0.length : Int) = 0
   case neg =>
     rw [if_neg c5] at H
     have c5b0 : ((l0.length : Int) == 0) = false := beq_eq_false_iff_ne.mpr c5
     have c5b1 : ((l0.length : Int) != 0) = true := bne_iff_ne.mpr c5
     have c5b2 : ¬ (l0 = []) := fun h_ => c5 (by rw [h_]; rfl)
     (first | rw [c5b0] | (simp only [i64_w, i32_w]; rw [c5b0]) | skip)
     have H' := am H
     clear H
     go_wp2
     go_meet
     case rel => exact ⟨_, (((l1.length : Int) == 0)), eqS, (by first | exact H' | (subst_vars; exact H')), ⟨by first | omega | exact Nat.le_refl _⟩, ⟨bB⟩⟩
   rw [if_pos c5] at H
   have c5b0 : ((l0.length : Int) == 0) = true := beq_iff_eq.mpr c5
   have c5b1 : ((l0.length : Int) != 0) = false := bne_eq_false_iff_eq.mpr c5
   clear c5
   (first | rw [c5b0] | (simp only [i64_w, i32_w]; rw [c5b0]) | skip)
   have H' := am H
   clear H
   go_wp2
   go_meet
   case rel => exact ⟨_, (true), eqS, (by first | exact H' | (subst_vars; exact H')), ⟨by first | omega | exact Nat.le_refl _⟩, ⟨bB⟩⟩
 case rest =>
   clear HC4
   obtain ⟨kq, x22_3, rfl, HA, HJ3, HB⟩ := hcut
   rcases kq with _ | kj3
   · exact absurd HA.out (by simp [modp_Mul.j0])
   have H := HA.out
   clear HA
   simp only [modp_Mul.j0] at H
   by_cases c6 : x22_3 = true
   · subst c6
     have H1 : (some ([] : List Int)) = some r := by rw [if_pos rfl] at H; exact H
     clear H
     have H := H1
     clear H1
     obtain rfl := Option.some.inj H
     go_wp2
     go_ret
     exact ⟨(.slice none 0 0), eqR, Kd.R_V (base := w.heap.size) (by first | exact Kd.R_nil _ _ _ _ _ | exact Kd.N_nil _ _ _ _ _ | exact Kd.V_nil _ _ _ _ _ | exact Kd.Q_nil _ _ _ _ _ | exact Kd.S_nil _ _ _ _ _), bB⟩
   replace c6 := Bool.eq_false_iff.mpr c6
   subst c6
   have H1 : (if 0 ≤ (wrap64 ((wrap64 ((l0.length : Int) + (l1.length : Int))) - 1)) then (if (wrap64 ((wrap64 ((l0.length : Int) + (l1.length : Int))) - 1) : Int).toNat ≤ 35184372088832 then (modp_Mul.l0 kj3 l1 a2 (List.replicate (wrap64 ((wrap64 ((l0.length : Int) + (l1.length : Int))) - 1) : Int).toNat 0) l0 (l0.length : Int) 0) else (none)) else (none)) = some r := by rw [if_neg (show ¬ (false = true) by decide)] at H; exact H
   clear H
   have H := H1
   clear H1
   obtain ⟨ji7, hji7⟩ : ∃ j_ : Int, (wrap64 ((wrap64 ((l0.length : Int) + (l1.length : Int))) - 1)) = j_ := ⟨_, rfl⟩
   replace H : (if 0 ≤ (ji7) then (if (ji7 : Int).toNat ≤ 35184372088832 then (modp_Mul.l0 kj3 l1 a2 (List.replicate (ji7 : Int).toNat 0) l0 (l0.length : Int) 0) else (none)) else (none)) = some r := by first | (rw [hji7] at H; exact H) | (simp only [hji7] at H ⊢; exact H)
   have hji7w : (IntKind.i64.wrap ((wrap64 ((l0.length : Int) + (l1.length : Int))) - 1)) = ji7 := (i64_w _).trans hji7
   by_cases c8 : 0 ≤ (ji7)
   case neg => exact nn c8 H
   rw [if_pos c8] at H
   have c8b0 := eq_true c8
   have c8b1 : decide (0 ≤ (ji7)) = true := decide_eq_true c8
   clear c8
   by_cases c9 : (ji7 : Int).toNat ≤ 35184372088832
   case neg => exact nn c9 H
   rw [if_pos c9] at H
   have c9b0 := eq_true c9
   have c9b1 : decide ((ji7 : Int).toNat ≤ 35184372088832) = true := decide_eq_true c9
   clear c9
   obtain ⟨y159, hy159⟩ : ∃ y_ : List Int, y_ = (List.replicate (ji7 : Int).toNat 0) := ⟨_, rfl⟩
   replace H : (modp_Mul.l0 kj3 l1 a2 y159 l0 (l0.length : Int) 0) = some r := by first | (rw [hy159]; exact H) | exact H
   have Ny159 := am hy159
   clear hy159
   have H' := am H
   clear H
   go_wp2_with (first | ((with_reducible refine gate_dst (N := 29) rfl ?_); (try (refine gate_guard (by rfl) ?_; dsimp only)); refine Kd.R_make (Kd.int .u64) _ 30 rfl (N := 29) rfl 60 _ _ rfl ji7 rfl rfl Tryd.underlying60 (.int .u64 0) 8 info30 rfl (by decide) (by omega) 0 (ok := fun _ => True) (okp := fun _ => True) rfl (fun _ hk => hk) trivial (of_decide_eq_true as_) (Nat.le_trans (Nat.mul_le_mul_right _ (of_decide_eq_true as_ : ji7.toNat ≤ 35184372088832)) (by omega)) (Below.refl _ _) (Nat.le_refl _) ?_; intro v160 w10 ho11 hb hg_ hnew_; clear hg_ hnew_; (first | rw [← Ny159.out] at ho11 | (simp only [Int.reduceToNat] at ho11; rw [← Ny159.out] at ho11)); have n0_ := am (Kd.R_lower (Kd.R_newM (M := fun k_ => (w.heap.size ≤ k_)) ho11 (below_size bB) (fun k_ h_ => h_)) (below_size bB)); have n1_ := am (below_step bB hb); clear HB; have HO161 := n0_; have HB := n1_; clear n0_ n1_; clear hb ho11))
   go_loopg [32] kj3 (fun kq v32 w' => ∃ (x7_2 : List Int) (x32_2 : Int), v32 = .int .i64 x32_2 ∧ Aside0 (modp_Mul.l0 kq l1 a2 x7_2 l0 (l0.length : Int) x32_2 = some r) ∧ Aside0 (kq ≤ kj3) ∧ Aside0 (Kd.R (Kd.int .u64) 30 w' w.heap.size (fun k_ => (w.heap.size ≤ k_)) v160 x7_2) ∧ Aside0 (Below w.heap.size w w'))
   case atStart => exact ⟨(y159), (0), eqS, H', ⟨Nat.le_refl _⟩, ⟨by (with_reducible repeat (first | apply Kd.R_alloc | apply Kd.R_drewN | apply Kd.R_drew)); exact Kd.R_mono HO161.out (fun _ hk => hk.1)⟩, ⟨bB⟩⟩
   clear H'
   clear c8b0 c8b1 c9b0 c9b1
   obtain ⟨x7_2, x32_2, rfl, HA, HK2, HO_7, HB⟩ := hrel
   rcases gk with _ | k2
   · exact absurd HA.out (by simp [modp_Mul.l0])
   have H := HA.out
   clear HA
   simp only [modp_Mul.l0] at H
   by_cases c12 : x32_2 < (l0.length : Int)
   case neg =>
     rw [if_neg c12] at H
     have c12b0 : decide (x32_2 < (l0.length : Int)) = false := decide_eq_false c12
     clear c12
     by_cases c26 : 0 ≤ (x7_2.length : Int)
     case neg => exact nn c26 H
     rw [if_pos c26] at H
     have c26b0 := eq_true c26
     have c26b1 : decide (0 ≤ (x7_2.length : Int)) = true := decide_eq_true c26
     clear c26
     by_cases c27 : ((x7_2.length : Int) : Int).toNat ≤ 70368744177664
     case neg => exact nn c27 H
     rw [if_pos c27] at H
     have c27b0 := eq_true c27
     have c27b1 : decide (((x7_2.length : Int) : Int).toNat ≤ 70368744177664) = true := decide_eq_true c27
     clear c27
     obtain ⟨y166, hy166⟩ : ∃ y_ : List Int, y_ = (List.replicate ((x7_2.length : Int) : Int).toNat 0) := ⟨_, rfl⟩
     replace H : (modp_Mul.l2 k2 a2 y166 x7_2 (x7_2.length : Int) 0) = some r := by first | (rw [hy166]; exact H) | exact H
     have Ny166 := am hy166
     clear hy166
     have H' := am H
     clear H
     obtain ⟨Ao28, co28, eo28⟩ := Kd.R_slice HO_7.out
     subst eo28
     go_wp2_with (first | ((with_reducible refine gate_dst (N := 64) rfl ?_); (try (refine gate_guard (by rfl) ?_; dsimp only)); refine Kd.R_make (Kd.int .u32) _ 22 rfl (N := 64) rfl 23 _ _ rfl (x7_2.length : Int) rfl rfl Tryd.underlying23 (.int .u32 0) 4 info22 rfl (by decide) (by omega) 0 (ok := fun _ => True) (okp := fun _ => True) rfl (fun _ hk => hk) trivial (of_decide_eq_true as_) (Nat.le_trans (Nat.mul_le_mul_right _ (of_decide_eq_true as_ : (x7_2.length : Int).toNat ≤ 70368744177664)) (by omega)) (Below.refl _ _) (Nat.le_refl _) ?_; intro v167 w29 ho30 hb hg_ hnew_; clear hg_ hnew_; (first | rw [← Ny166.out] at ho30 | (simp only [Int.reduceToNat] at ho30; rw [← Ny166.out] at ho30)); have n0_ := am (Kd.R_below (rR HO_7.out) hb); have n1_ := am (Kd.R_lower (Kd.R_newM (M := fun k_ => (w.heap.size ≤ k_)) ho30 (below_size bB) (fun k_ h_ => h_)) (below_size bB)); have n2_ := am (below_step bB hb); clear HO_7; clear HB; have HO_7 := n0_; have HO168 := n1_; have HB := n2_; clear n0_ n1_ n2_; clear hb ho30))
     go_loopg [67] k2 (fun kq v67 w' => ∃ (x12_3 : List Int) (x67_3 : Int), v67 = .int .i64 x67_3 ∧ Aside0 (modp_Mul.l2 kq a2 x12_3 x7_2 (x7_2.length : Int) x67_3 = some r) ∧ Aside0 (kq ≤ k2) ∧ Aside0 (Kd.R (Kd.int .u32) 22 w' w.heap.size (fun k_ => (w.heap.size ≤ k_)) v167 x12_3) ∧ Aside0 (Kd.R (Kd.int .u64) 30 w' w.heap.size (fun k_ => (w.heap.size ≤ k_)) (.slice Ao28 x7_2.length co28) x7_2) ∧ Aside0 (Below w.heap.size w w'))
     case atStart => exact ⟨(y166), (0), eqS, H', ⟨Nat.le_refl _⟩, ⟨by (with_reducible repeat (first | apply Kd.R_alloc | apply Kd.R_drewN | apply Kd.R_drew)); exact Kd.R_mono HO168.out (fun _ hk => hk.1)⟩, ⟨rR (HO_7.out)⟩, ⟨bB⟩⟩
     clear H'
     clear c12b0 c26b0 c26b1 c27b0 c27b1
     obtain ⟨x12_3, x67_3, rfl, HA, HK3, HO_12, HO_65, HB⟩ := hrel
     rcases gk with _ | k3
     · exact absurd HA.out (by simp [modp_Mul.l2])
     have H := HA.out
     clear HA
     simp only [modp_Mul.l2] at H
     by_cases c31 : x67_3 < (x7_2.length : Int)
     case neg =>
       rw [if_neg c31] at H
       have c31b0 : decide (x67_3 < (x7_2.length : Int)) = false := decide_eq_false c31
       clear c31
       obtain ⟨t171, A390, H⟩ := Option.bind_eq_some_iff.mp H
       replace H : (some t171) = some r := H
       have A39 := am A390
       clear A390
       obtain rfl := Option.some.inj H
       obtain ⟨Ao40, co40, eo40⟩ := Kd.R_slice HO_12.out
       subst eo40
       go_wp2_with (first | ((with_reducible refine gate_callee (f := 32) rfl ?_); refine goesA (some 82) Tryd.func32 #[.slice Ao40 x12_3.length co40] ?_; (with_reducible refine (modp_trim.calls k3 (fun k_ => some k_ = (.slice Ao40 x12_3.length co40 : Value).ownBlock) _ _ x12_3 t171 _ ?side1 A39.out).mono ?_); (case side1 => exact Kd.R_V (Kd.R_tight rfl (Kd.R_apart' (HO_12.out) (Kd.R_typed HO_65.out) (by decide)))); rintro e w41 ⟨v172, rfl, ho0, hb⟩; refine ⟨_, rfl, ?_⟩; have n0_ := am (Kd.R_below (rR HO_12.out) hb); have n1_ := am (Kd.R_below (rR HO_65.out) hb); have n2_ := am (Kd.V_lower (Kd.V_mono (ok' := fun k_ => (w.heap.size ≤ k_) ∧ some k_ ≠ (.slice Ao28 x7_2.length co28 : Value).ownBlock) ho0 (fun k_ hk_ => ⟨Or.elim hk_ (fun hs_ => ((Kd.R_apart' (HO_12.out) (Kd.R_typed HO_65.out) (by decide)).1 k_ hs_.symm).1) (fun hn_ => (Nat.le_trans (below_size bB) hn_)), Or.elim hk_ (fun hs_ => ((Kd.R_apart' (HO_12.out) (Kd.R_typed HO_65.out) (by decide)).1 k_ hs_.symm).2) (fun hn_ => (Kd.fresh' (Kd.R_lt (rR HO_65.out)) k_ hn_))⟩)) (below_size bB)); have n3_ := am (below_step bB hb); clear HO_12; clear HO_65; clear HB; have HO_12 := n0_; have HO_65 := n1_; have HO173 := n2_; have HB := n3_; clear n0_ n1_ n2_ n3_; (try clear hb); (try clear hb2); (try clear hk); (try clear hi); (try clear ho0)))
       go_ret
       exact ⟨_, by first | rfl | (simp [errW_none, errW_some] <;> rfl) | (simp only [← hji7]; first | rfl | (simp [errW_none, errW_some] <;> rfl)) | (simp [*, errW_none, errW_some] <;> rfl), by (with_reducible repeat (first | apply Kd.V_alloc | apply Kd.V_drewN | apply Kd.V_drew)); exact Kd.V_mono HO173.out (fun _ hk => hk.1), bB⟩
     rw [if_pos c31] at H
     have c31b0 : decide (x67_3 < (x7_2.length : Int)) = true := decide_eq_true c31
     clear c31
     by_cases c32 : 0 ≤ x67_3
     case neg => exact nn c32 H
     rw [if_pos c32] at H
     have c32b0 : decide (0 ≤ x67_3) = true := decide_eq_true c32
     clear c32
     by_cases c33 : x67_3 < (x7_2.length : Int)
     case neg => exact nn c33 H
     rw [if_pos c33] at H
     have c33b0 : decide (x67_3 < (x7_2.length : Int)) = true := decide_eq_true c33
     clear c33
     by_cases c34 : (IntKind.u64.wrap (a2)) = 0
     · rw [if_pos c34] at H
       exact absurd H (by simp)
     rw [if_neg c34] at H
     have c34b0 : ((IntKind.u64.wrap (a2)) == 0) = false := beq_eq_false_iff_ne.mpr c34
     have c34b1 : ((IntKind.u64.wrap (a2)) != 0) = true := bne_iff_ne.mpr c34
     by_cases c35 : x67_3 < (x12_3.length : Int)
     case neg => exact nn c35 H
     rw [if_pos c35] at H
     have c35b0 : decide (x67_3 < (x12_3.length : Int)) = true := decide_eq_true c35
     clear c35
     obtain ⟨y170, hy170⟩ : ∃ y_ : List Int, y_ = (x12_3.set (x67_3 : Int).toNat ((Int.tmod (rd x7_2 x67_3) (IntKind.u64.wrap (a2))) % 4294967296)) := ⟨_, rfl⟩
     replace H : (modp_Mul.l2 k3 a2 y170 x7_2 (x7_2.length : Int) (wrap64 (x67_3 + 1))) = some r := by first | (rw [hy170]; exact H) | exact H
     have Ny170 := am hy170
     clear hy170
     have H' := am H
     clear H
     have p169 : 0 ≤ (x67_3 : Int) := of_decide_eq_true as_
     have q169 : x67_3 < (x7_2.length : Int) := of_decide_eq_true as_
     obtain ⟨ad169, e169, hx169_0⟩ := Kd.at_int (Kd.R_reads' HO_65.out).2.2 x67_3 p169 q169
     cases e169
     replace p169 := eq_true p169
     replace q169 := eq_true q169
     have p36 : 0 ≤ (x67_3 : Int) := of_decide_eq_true as_
     have q36 : (x67_3 : Int) < ((x12_3.length : Int) : Int) := of_decide_eq_true as_
     obtain ⟨go36, co36, eo36, gb36, gl36, cl36, HG36⟩ := Kd.R_form HO_12.out (by omega)
     (first | cases eo36 | (injection eo36 with ea_ en_ ec_; (first | subst ea_ | (injection ea_ with ea_; subst ea_)); subst ec_; clear en_))
     have GB36 := am gb36
     have GG36 := am HG36
     clear gb36 gl36 HG36
     obtain ⟨hx36_0, hf36_0⟩ := Kd.R_celln 0 HO_12.out (x67_3 : Int) p36 q36
     replace p36 := eq_true p36
     replace q36 := eq_true q36
     have HP37 := Kd.R_putg HO_12.out (x67_3 : Int) ((Int.tmod (rd x7_2 x67_3) (IntKind.u64.wrap (a2))) % 4294967296)
     go_wp2_with (first | ((with_reducible refine gate_store (t := 22) (p := 79) rfl ?_); refine store_event (t := 22) (p := 79) (v := ?vo_w38) (w1 := (wr.setCell ⟨go36, (x67_3 : Int).toNat, none⟩ (.int .u32 ((Int.tmod (rd x7_2 x67_3) (IntKind.u64.wrap (a2))) % 4294967296)))) ?hg ?ho ?hn ?hr ?_; (case ho => rfl); (case hg => rfl); (case hn => rfl); (case hr => first | (go_simp; done) | (go_simp; rfl)); intro w38 hw; have hg : wr.grownBy w38 (some go36) := (by rw [hw]; exact HP37.2); have hp_ : Kd.R (Kd.int .u32) 22 w38 w.heap.size (fun k_ => (w.heap.size ≤ k_)) (.slice (some ⟨go36, 0, none⟩) x12_3.length co36) y170 := (by rw [hw, Ny170.out]; exact HP37.1); clear HP37; have n0_ := am (hp_); have n1_ := am (Kd.R_over' (v := (.slice (some ⟨go36, 0, none⟩) x12_3.length co36)) (rR HO_65.out) (Kd.R_typed HO_12.out) (by decide) hg); have n2_ := am ((by rw [hw]; exact below_set (HB.out) GB36.out : Below w.heap.size w w38)); clear HO_12; clear HO_65; clear HB; have HO_12 := n0_; have HO_65 := n1_; have HB := n2_; clear n0_ n1_ n2_; clear hg hw hp_))
     first | go_roundg k3 | (subst hji7; go_roundg k3)
     case measure => have := HJ3.out; have := HK2.out; have := HK3.out; omega
     case rel => exact ⟨(y170), (wrap64 (x67_3 + 1)), eqS, (by first | exact H' | (subst_vars; exact H')), ⟨by have := HJ3.out; have := HK2.out; have := HK3.out; omega⟩, ⟨rR (HO_12.out)⟩, ⟨rR (HO_65.out)⟩, ⟨bB⟩⟩
   rw [if_pos c12] at H
   have c12b0 : decide (x32_2 < (l0.length : Int)) = true := decide_eq_true c12
   clear c12
   by_cases c13 : 0 ≤ x32_2
   case neg => exact nn c13 H
   rw [if_pos c13] at H
   have c13b0 : decide (0 ≤ x32_2) = true := decide_eq_true c13
   clear c13
   by_cases c14 : x32_2 < (l0.length : Int)
   case neg => exact nn c14 H
   rw [if_pos c14] at H
   have c14b0 : decide (x32_2 < (l0.length : Int)) = true := decide_eq_true c14
   clear c14
   have H' := am H
   clear H
   have p162 : 0 ≤ (x32_2 : Int) := of_decide_eq_true as_
   have q162 : x32_2 < (l0.length : Int) := of_decide_eq_true as_
   obtain ⟨ad162, e162, hx162_0⟩ := Kd.at_int HR0.out x32_2 p162 q162
   cases e162
   replace hx162_0 := (HB.out.cell (World.block_lt_of_cell? w _ hx162_0)).trans hx162_0
   replace p162 := eq_true p162
   replace q162 := eq_true q162
   go_wp2
   go_loopg [39] k2 (fun kq v39 w' => ∃ (x7_3 : List Int) (x39_3 : Int), v39 = .int .i64 x39_3 ∧ Aside0 (modp_Mul.l1 kq l1 a2 x7_3 x32_2 (rd l0 x32_2) l0 (l0.length : Int) x32_2 l1 (l1.length : Int) x39_3 = some r) ∧ Aside0 (kq ≤ k2) ∧ Aside0 (Kd.R (Kd.int .u64) 30 w' w.heap.size (fun k_ => (w.heap.size ≤ k_)) v160 x7_3) ∧ Aside0 (Below w.heap.size w w'))
   case atStart => exact ⟨(x7_2), (0), eqS, H', ⟨Nat.le_refl _⟩, ⟨rR (HO_7.out)⟩, ⟨bB⟩⟩
   clear H'
   clear c12b0 c13b0 c14b0 hx162_0 p162 q162
   obtain ⟨x7_3, x39_3, rfl, HA, HK3, HO_7, HB⟩ := hrel
   rcases gk with _ | k3
   · exact absurd HA.out (by simp [modp_Mul.l1])
   have H := HA.out
   clear HA
   simp only [modp_Mul.l1] at H
   by_cases c15 : x39_3 < (l1.length : Int)
   case neg =>
     rw [if_neg c15] at H
     have c15b0 : decide (x39_3 < (l1.length : Int)) = false := decide_eq_false c15
     clear c15
     have H' := am H
     clear H
     go_wp2
     first | go_roundg k3 | (subst hji7; go_roundg k3)
     case measure => have := HJ3.out; have := HK2.out; have := HK3.out; omega
     case rel => exact ⟨(x7_3), (wrap64 (x32_2 + 1)), eqS, (by first | exact H' | (subst_vars; exact H')), ⟨by have := HJ3.out; have := HK2.out; have := HK3.out; omega⟩, ⟨rR (HO_7.out)⟩, ⟨bB⟩⟩
   rw [if_pos c15] at H
   have c15b0 : decide (x39_3 < (l1.length : Int)) = true := decide_eq_true c15
   clear c15
   by_cases c16 : 0 ≤ x39_3
   case neg => exact nn c16 H
   rw [if_pos c16] at H
   have c16b0 : decide (0 ≤ x39_3) = true := decide_eq_true c16
   clear c16
   by_cases c17 : x39_3 < (l1.length : Int)
   case neg => exact nn c17 H
   rw [if_pos c17] at H
   have c17b0 : decide (x39_3 < (l1.length : Int)) = true := decide_eq_true c17
   clear c17
   obtain ⟨ji18, hji18⟩ : ∃ j_ : Int, (wrap64 (x32_2 + x39_3)) = j_ := ⟨_, rfl⟩
   replace H : (if 0 ≤ (ji18) then (if (ji18) < (x7_3.length : Int) then (if (IntKind.u64.wrap (a2)) = 0 then (none) else (modp_Mul.l1 k3 l1 a2 (x7_3.set ((ji18) : Int).toNat (IntKind.u64.wrap ((rd x7_3 (ji18)) + (Int.tmod (IntKind.u64.wrap ((IntKind.u64.wrap ((rd l0 x32_2))) * (IntKind.u64.wrap (rd l1 x39_3)))) (IntKind.u64.wrap (a2)))))) x32_2 (rd l0 x32_2) l0 (l0.length : Int) x32_2 l1 (l1.length : Int) (wrap64 (x39_3 + 1)))) else (none)) else (none)) = some r := by first | (rw [hji18] at H; exact H) | (simp only [hji18] at H ⊢; exact H)
   have hji18w : (IntKind.i64.wrap (x32_2 + x39_3)) = ji18 := (i64_w _).trans hji18
   by_cases c19 : 0 ≤ (ji18)
   case neg => exact nn c19 H
   rw [if_pos c19] at H
   have c19b0 : decide (0 ≤ (ji18)) = true := decide_eq_true c19
   clear c19
   by_cases c20 : (ji18) < (x7_3.length : Int)
   case neg => exact nn c20 H
   rw [if_pos c20] at H
   have c20b0 : decide ((ji18) < (x7_3.length : Int)) = true := decide_eq_true c20
   clear c20
   by_cases c21 : (IntKind.u64.wrap (a2)) = 0
   · rw [if_pos c21] at H
     exact absurd H (by simp)
   rw [if_neg c21] at H
   have c21b0 : ((IntKind.u64.wrap (a2)) == 0) = false := beq_eq_false_iff_ne.mpr c21
   have c21b1 : ((IntKind.u64.wrap (a2)) != 0) = true := bne_iff_ne.mpr c21
   obtain ⟨y165, hy165⟩ : ∃ y_ : List Int, y_ = (x7_3.set ((ji18) : Int).toNat (IntKind.u64.wrap ((rd x7_3 (ji18)) + (Int.tmod (IntKind.u64.wrap ((IntKind.u64.wrap ((rd l0 x32_2))) * (IntKind.u64.wrap (rd l1 x39_3)))) (IntKind.u64.wrap (a2)))))) := ⟨_, rfl⟩
   replace H : (modp_Mul.l1 k3 l1 a2 y165 x32_2 (rd l0 x32_2) l0 (l0.length : Int) x32_2 l1 (l1.length : Int) (wrap64 (x39_3 + 1))) = some r := by first | (rw [hy165]; exact H) | exact H
   have Ny165 := am hy165
   clear hy165
   have H' := am H
   clear H
   have p163 : 0 ≤ (x39_3 : Int) := of_decide_eq_true as_
   have q163 : x39_3 < (l1.length : Int) := of_decide_eq_true as_
   obtain ⟨ad163, e163, hx163_0⟩ := Kd.at_int HR1.out x39_3 p163 q163
   cases e163
   replace hx163_0 := (HB.out.cell (World.block_lt_of_cell? w _ hx163_0)).trans hx163_0
   replace p163 := eq_true p163
   replace q163 := eq_true q163
   try go_wp2
   have n0_ := am (Kd.R_drew HO_7.out)
   have n1_ := am (below_drew1 HB.out)
   clear HO_7
   clear HB
   have HO_7 := n0_
   have HB := n1_
   clear n0_ n1_
   obtain ⟨Ao24, co24, eo24⟩ := Kd.R_slice HO_7.out
   (first | subst eo24 | (injection eo24 with f1_ f2_ f3_; have f4_ := f1_.symm; have f5_ := f3_.symm; clear f1_ f2_ f3_; subst f4_; subst f5_))
   have p164 : 0 ≤ ((ji18) : Int) := of_decide_eq_true as_
   have q164 : (ji18) < (x7_3.length : Int) := of_decide_eq_true as_
   obtain ⟨ad164, e164, hx164_0⟩ := Kd.at_int (Kd.R_reads' HO_7.out).2.2 (ji18) p164 q164
   cases e164
   replace p164 := eq_true p164
   replace q164 := eq_true q164
   have p22 : 0 ≤ ((ji18) : Int) := of_decide_eq_true as_
   have q22 : ((ji18) : Int) < ((x7_3.length : Int) : Int) := of_decide_eq_true as_
   obtain ⟨go22, co22, eo22, gb22, gl22, cl22, HG22⟩ := Kd.R_form HO_7.out (by omega)
   (first | cases eo22 | (injection eo22 with ea_ en_ ec_; (first | subst ea_ | (injection ea_ with ea_; subst ea_)); subst ec_; clear en_))
   have GB22 := am gb22
   have GG22 := am HG22
   clear gb22 gl22 HG22
   (first | simp only [add_plain] at hx164_0 | skip)
   obtain ⟨hx22_0, hf22_0⟩ := Kd.R_celln 0 HO_7.out ((ji18) : Int) p22 q22
   replace p22 := eq_true p22
   replace q22 := eq_true q22
   have HP25 := Kd.R_putn HO_7.out ((ji18) : Int) (IntKind.u64.wrap ((rd x7_3 (ji18)) + (Int.tmod (IntKind.u64.wrap ((IntKind.u64.wrap ((rd l0 x32_2))) * (IntKind.u64.wrap (rd l1 x39_3)))) (IntKind.u64.wrap (a2)))))
   rw [← Ny165.out] at HP25
   have HQ25 := am HP25
   clear HP25
   refine start_ (n := 17) (S := fun w' => w'.cell? ⟨go22, ((ji18)).toNat, none⟩ = some (.int .u64 (rd x7_3 (ji18)))) (ds := [16]) (bm 17 0) (by kernel_rfl) rfl rfl (hx164_0) (fun hHeld => ?_); refine with_tabW modp_Mul.tab10 modp_Mul.bits10 (fun HT_ HW_ => ?_)
   generalize wr.drew = w23 at HO_7 HB GG22 HQ25 hf22_0 hx164_0 hx22_0 hHeld ⊢
   refine pureB (N := some 44) 0 (bm 17 1) ?_
   refine pureB (N := some 45) 1 (bm 17 3) ?_
   refine pureB (N := some 46) 2 (bm 17 7) ?_
   refine pureB (N := some 47) 3 (bm 17 15) ?_
   refine pureB (N := some 48) 4 (bm 17 31) ?_
   refine pureB (N := some 50) 6 (bm 17 95) ?_
   refine pureB (N := some 51) 7 (bm 17 223) ?_
   refine pureB (N := some 52) 8 (bm 17 479) ?_
   refine pureB (N := some 53) 9 (bm 17 991) ?_
   refine pureB (N := some 54) 10 (bm 17 2015) ?_
   refine pureB (N := some 55) 11 (bm 17 4063) ?_
   refine pureB (N := some 56) 12 (bm 17 8159) ?_
   refine pureB (N := some 57) 13 (bm 17 16351) ?_
   refine take_ (i := 5) (N := some 49) (v := ?_) (a' := ?_) (bm 17 16383) rfl rfl (take_ofW HT_.out HW_.out (by kernel_rfl)) (fun _ _ _ h => h) (Or.inl ⟨by rfl, ?_⟩) hHeld ?_ ?_
   rotate_left
   · intro w' s0
     go_simp
     with_reducible rfl
   rotate_left
   · exact actp
   refine pureB (N := some 58) 14 (bm 17 32767) ?_
   refine pureB (N := some 59) 15 (bm 17 65535) ?_
   refine last_ (i := 16) (N := none) (bm 17 131071) rfl rfl (one_of HT_.out (by kernel_rfl)) (by decide) (fun K hK => ?_)
   refine skip_ (w1 := ?_) (by rfl) rfl ?_ ?_
   rotate_left
   · go_simp
     rfl
   refine hK.out _ _ ?_
   clear hK K
   refine done_ (done_of HT_.out (by kernel_rfl)) ?_
   try go_wp2
   first | go_roundg k3 | (subst hji7; go_roundg k3) | (subst hji18; go_roundg k3)
   case measure => have := HJ3.out; have := HK2.out; have := HK3.out; omega
   case rel => exact ⟨(y165), (wrap64 (x39_3 + 1)), eqS, (by first | exact H' | (subst_vars; exact H')), ⟨by have := HJ3.out; have := HK2.out; have := HK3.out; omega⟩, ⟨rR (HQ25.out)⟩, ⟨by repeat (first | (with_reducible first | exact HB.out | apply below_alloc | apply pw_below_drewN | apply below_drew1 | refine below_set ?_ GB22.out) | exact HB.out)⟩⟩
def bits_Len32.f (a0 : Int) : Option (Int) := if a0 ≥ 65536 then (if (a0 / 65536) ≥ 256 then (if 0 ≤ (((a0 / 65536) / 256) % 256) then (if (((a0 / 65536) / 256) % 256) < 256 then (some (wrap64 ((16 + 8) + (wrap64 (bt lenT (((a0 / 65536) / 256) % 256)))))) else (none)) else (none)) else (if 0 ≤ ((a0 / 65536) % 256) then (if ((a0 / 65536) % 256) < 256 then (some (wrap64 (16 + (wrap64 (bt lenT ((a0 / 65536) % 256)))))) else (none)) else (none))) else (if a0 ≥ 256 then (if 0 ≤ ((a0 / 256) % 256) then (if ((a0 / 256) % 256) < 256 then (some (wrap64 ((0 + 8) + (wrap64 (bt lenT ((a0 / 256) % 256)))))) else (none)) else (none)) else (if 0 ≤ ((a0) % 256) then (if ((a0) % 256) < 256 then (some (wrap64 (0 + (wrap64 (bt lenT ((a0) % 256)))))) else (none)) else (none)))
theorem bits_Len32.calls (a0 : Int) (r : Int) (w : World) (h : bits_Len32.f a0 = some r) :
   Calls Tryd.prog 57 #[.int .u32 a0] w fun e w' => e = .returned (.int .i64 r) ∧ Drawn0 w w' := by
 have H := h; unfold bits_Len32.f at H
 clear h
 by_cases c2 : a0 ≥ 65536
 case neg =>
   rw [if_neg c2] at H
   have c2b0 : decide (65536 ≤ a0) = false := decide_eq_false c2
   clear c2
   by_cases c12 : a0 ≥ 256
   case neg =>
     rw [if_neg c12] at H
     have c12b0 : decide (256 ≤ a0) = false := decide_eq_false c12
     clear c12
     obtain ⟨ji17, hji17⟩ : ∃ j_ : Int, ((a0) % 256) = j_ := ⟨_, rfl⟩
     replace H : (if 0 ≤ (ji17) then (if (ji17) < 256 then (some (wrap64 (0 + (wrap64 (bt lenT (ji17)))))) else (none)) else (none)) = some r := by first | (rw [hji17] at H; exact H) | (simp only [hji17] at H ⊢; exact H)
     by_cases c18 : 0 ≤ (ji17)
     case neg => exact nn c18 H
     rw [if_pos c18] at H
     have c18b0 : decide (0 ≤ (ji17)) = true := decide_eq_true c18
     clear c18
     by_cases c19 : (ji17) < 256
     case neg => exact nn c19 H
     rw [if_pos c19] at H
     have c19b0 : decide ((ji17) < 256) = true := decide_eq_true c19
     clear c19
     obtain rfl := Option.some.inj H
     have p20 : 0 ≤ ((ji17) : Int) := of_decide_eq_true as_
     have q20 : (ji17) < (256 : Int) := of_decide_eq_true as_
     have hx20 := bt_at lenT (ji17)
     replace p20 := eq_true p20
     replace q20 := eq_true q20
     go_enter Tryd.func57, Tryd.ntmps57
     go_wp2
     go_ret
     exact ⟨by first | rfl | (simp; done) | (simp only [← hji17] <;> (first | rfl | simp)) | (simp [*]; done), by repeat (first | exact Drawn0.refl _ | apply Drawn0.step)⟩
   rw [if_pos c12] at H
   have c12b0 : decide (256 ≤ a0) = true := decide_eq_true c12
   clear c12
   obtain ⟨ji13, hji13⟩ : ∃ j_ : Int, ((a0 / 256) % 256) = j_ := ⟨_, rfl⟩
   replace H : (if 0 ≤ (ji13) then (if (ji13) < 256 then (some (wrap64 ((0 + 8) + (wrap64 (bt lenT (ji13)))))) else (none)) else (none)) = some r := by first | (rw [hji13] at H; exact H) | (simp only [hji13] at H ⊢; exact H)
   by_cases c14 : 0 ≤ (ji13)
   case neg => exact nn c14 H
   rw [if_pos c14] at H
   have c14b0 : decide (0 ≤ (ji13)) = true := decide_eq_true c14
   clear c14
   by_cases c15 : (ji13) < 256
   case neg => exact nn c15 H
   rw [if_pos c15] at H
   have c15b0 : decide ((ji13) < 256) = true := decide_eq_true c15
   clear c15
   obtain rfl := Option.some.inj H
   have p16 : 0 ≤ ((ji13) : Int) := of_decide_eq_true as_
   have q16 : (ji13) < (256 : Int) := of_decide_eq_true as_
   have hx16 := bt_at lenT (ji13)
   replace p16 := eq_true p16
   replace q16 := eq_true q16
   go_enter Tryd.func57, Tryd.ntmps57
   go_wp2
   go_ret
   exact ⟨by first | rfl | (simp; done) | (simp only [← hji13] <;> (first | rfl | simp)) | (simp [*]; done), by repeat (first | exact Drawn0.refl _ | apply Drawn0.step)⟩
 rw [if_pos c2] at H
 have c2b0 : decide (65536 ≤ a0) = true := decide_eq_true c2
 clear c2
 by_cases c3 : (a0 / 65536) ≥ 256
 case neg =>
   rw [if_neg c3] at H
   have c3b0 : decide (256 ≤ (a0 / 65536)) = false := decide_eq_false c3
   clear c3
   obtain ⟨ji8, hji8⟩ : ∃ j_ : Int, ((a0 / 65536) % 256) = j_ := ⟨_, rfl⟩
   replace H : (if 0 ≤ (ji8) then (if (ji8) < 256 then (some (wrap64 (16 + (wrap64 (bt lenT (ji8)))))) else (none)) else (none)) = some r := by first | (rw [hji8] at H; exact H) | (simp only [hji8] at H ⊢; exact H)
   by_cases c9 : 0 ≤ (ji8)
   case neg => exact nn c9 H
   rw [if_pos c9] at H
   have c9b0 : decide (0 ≤ (ji8)) = true := decide_eq_true c9
   clear c9
   by_cases c10 : (ji8) < 256
   case neg => exact nn c10 H
   rw [if_pos c10] at H
   have c10b0 : decide ((ji8) < 256) = true := decide_eq_true c10
   clear c10
   obtain rfl := Option.some.inj H
   have p11 : 0 ≤ ((ji8) : Int) := of_decide_eq_true as_
   have q11 : (ji8) < (256 : Int) := of_decide_eq_true as_
   have hx11 := bt_at lenT (ji8)
   replace p11 := eq_true p11
   replace q11 := eq_true q11
   go_enter Tryd.func57, Tryd.ntmps57
   go_wp2
   go_ret
   exact ⟨by first | rfl | (simp; done) | (simp only [← hji8] <;> (first | rfl | simp)) | (simp [*]; done), by repeat (first | exact Drawn0.refl _ | apply Drawn0.step)⟩
 rw [if_pos c3] at H
 have c3b0 : decide (256 ≤ (a0 / 65536)) = true := decide_eq_true c3
 clear c3
 obtain ⟨ji4, hji4⟩ : ∃ j_ : Int, (((a0 / 65536) / 256) % 256) = j_ := ⟨_, rfl⟩
 replace H : (if 0 ≤ (ji4) then (if (ji4) < 256 then (some (wrap64 ((16 + 8) + (wrap64 (bt lenT (ji4)))))) else (none)) else (none)) = some r := by first | (rw [hji4] at H; exact H) | (simp only [hji4] at H ⊢; exact H)
 by_cases c5 : 0 ≤ (ji4)
 case neg => exact nn c5 H
 rw [if_pos c5] at H
 have c5b0 : decide (0 ≤ (ji4)) = true := decide_eq_true c5
 clear c5
 by_cases c6 : (ji4) < 256
 case neg => exact nn c6 H
 rw [if_pos c6] at H
 have c6b0 : decide ((ji4) < 256) = true := decide_eq_true c6
 clear c6
 obtain rfl := Option.some.inj H
 have p7 : 0 ≤ ((ji4) : Int) := of_decide_eq_true as_
 have q7 : (ji4) < (256 : Int) := of_decide_eq_true as_
 have hx7 := bt_at lenT (ji4)
 replace p7 := eq_true p7
 replace q7 := eq_true q7
 go_enter Tryd.func57, Tryd.ntmps57
 go_wp2
 go_ret
 exact ⟨by first | rfl | (simp; done) | (simp only [← hji4] <;> (first | rfl | simp)) | (simp [*]; done), by repeat (first | exact Drawn0.refl _ | apply Drawn0.step)⟩
def zigguratref01_Make.l0 : Nat → List Int → Int → Option (List Int)
 | 0, _, _ => none
 | k + 1, x0, x3 => if x3 > 0 then (if 0 ≤ (wrap64 (x3 - 1)) then (if (wrap64 (x3 - 1)) < (x0.length : Int) then (if (rd x0 (wrap64 (x3 - 1))) = 0 then (zigguratref01_Make.l0 k x0 (wrap64 (x3 - 1))) else ((some (([] : List Int) : List Int)).bind fun y333 => (if 0 ≤ x3 then (if x3 ≤ (x0.length : Int) then (if y333.length + (x0.take (x3 : Int).toNat).length < 35184372088832 then (some (y333 ++ (x0.take (x3 : Int).toNat))) else (none)) else (none)) else (none)))) else (none)) else (none)) else ((some (([] : List Int) : List Int)).bind fun y340 => (if 0 ≤ x3 then (if x3 ≤ (x0.length : Int) then (if y340.length + (x0.take (x3 : Int).toNat).length < 35184372088832 then (some (y340 ++ (x0.take (x3 : Int).toNat))) else (none)) else (none)) else (none)))
def zigguratref01_Make.f (k : Nat) (l0 : List Int) : Option (List Int) := zigguratref01_Make.l0 k l0 (l0.length : Int)
theorem zigguratref01_Make.calls (k : Nat) (A0 : Option Addr) (c0 : Nat) (l0 : List Int) (r : List Int) (w : World) (hr0 : Kd.C (Kd.int .u32) w A0 l0.length l0) (hc0 : l0.length ≤ c0) (h : zigguratref01_Make.f k l0 = some r) :
   Calls Tryd.prog 39 #[.slice A0 l0.length c0] w fun e w' => ∃ v0_ : Value, e = .returned (v0_) ∧ Kd.R (Kd.int .u32) 22 w' w.heap.size (fun _ => True) v0_ r ∧ Below w.heap.size w w' := by
 have HR0 := am hr0
 have HC0 := am hc0
 clear hr0 hc0
 have HB := am (Below.refl w.heap.size w)
 have H := h; unfold zigguratref01_Make.f at H
 clear h
 have H' := am H
 clear H
 go_enter Tryd.func39, Tryd.ntmps39
 go_wp2
 go_loopg [3] k (fun kq v3 w' => ∃ (x3_1 : Int), v3 = .int .i64 x3_1 ∧ Aside0 (zigguratref01_Make.l0 kq l0 x3_1 = some r) ∧ Aside0 (kq ≤ k) ∧ Aside0 (Below w.heap.size w w'))
 case atStart => exact ⟨((l0.length : Int)), eqS, H', ⟨Nat.le_refl _⟩, ⟨bB⟩⟩
 clear H'
 obtain ⟨x3_1, rfl, HA, HK1, HB⟩ := hrel
 rcases gk with _ | k1
 · exact absurd HA.out (by simp [zigguratref01_Make.l0])
 have H := HA.out
 clear HA
 simp only [zigguratref01_Make.l0] at H
 by_cases c2 : x3_1 > 0
 case neg =>
   rw [if_neg c2] at H
   have c2b0 : decide (0 < x3_1) = false := decide_eq_false c2
   clear c2
   obtain ⟨y340, hy340⟩ : ∃ y_ : List Int, y_ = (([] : List Int)) := ⟨_, rfl⟩
   replace H : (if 0 ≤ x3_1 then (if x3_1 ≤ (l0.length : Int) then (if y340.length + (l0.take (x3_1 : Int).toNat).length < 35184372088832 then (some (y340 ++ (l0.take (x3_1 : Int).toNat))) else (none)) else (none)) else (none)) = some r := by first | (rw [hy340]; exact H) | exact H
   have Ny340 := am hy340
   clear hy340
   by_cases c14 : 0 ≤ x3_1
   case neg => exact nn c14 H
   rw [if_pos c14] at H
   have c14b0 := eq_true c14
   have c14b1 : decide (0 ≤ x3_1) = true := decide_eq_true c14
   clear c14
   by_cases c15 : x3_1 ≤ (l0.length : Int)
   case neg => exact nn c15 H
   rw [if_pos c15] at H
   have c15b0 := eq_true c15
   have c15b1 : decide (x3_1 ≤ (l0.length : Int)) = true := decide_eq_true c15
   clear c15
   by_cases c16 : y340.length + (l0.take (x3_1 : Int).toNat).length < 35184372088832
   case neg => exact nn c16 H
   rw [if_pos c16] at H
   have LMc16 := am c16
   clear c16
   obtain ⟨y344, hy344⟩ : ∃ y_ : List Int, y_ = (y340 ++ (l0.take (x3_1 : Int).toNat)) := ⟨_, rfl⟩
   replace H : (some y344) = some r := by first | (rw [hy344]; exact H) | exact H
   have Ny344 := am hy344
   clear hy344
   obtain rfl := Option.some.inj H
   go_wp2_with (first | ((with_reducible refine gate_dst (N := 18) rfl ?_); refine Kd.R_lit (Kd.int .u32) _ 22 rF (N := 18) rF (xs := ([] : List Int)) (inner := []) (ok := fun _ => True) (okp := fun _ => True) gF ?hp (fun _ hk => hk) trivial (Below.refl _ _) (Nat.le_refl _) (by simp) ?_; (case hp => exact (Reps.none _ _)); intro v341 w17 ho18 hb hg_ hnew_; clear hg_ hnew_; (first | rw [← Ny340.out] at ho18 | (simp only [Int.reduceToNat] at ho18; rw [← Ny340.out] at ho18)); have n0_ := am (Kd.R_lower ho18 (below_size bB)); have n1_ := am (below_step bB hb); clear HB; have HO342 := n0_; have HB := n1_; clear n0_ n1_; clear hb ho18; obtain ⟨i019, hi019, _, hsz19, _⟩ := info_parts info22; obtain ⟨hcut19, hA19, hC19⟩ := print_take_of (P := Tryd.prog) (Value.int .u32) 0 23 22 .i64 Tryd.underlying23 hi019 hsz19 A0 c0 l0 x3_1 (of_decide_eq_true as_) (of_decide_eq_true as_) HC0.out; have HR343 := am (Kd.C_of_reads (h1 := fun _ => rfl) (hA19 _ (Kd.reads_of_C HR0.out))); have HC343 := am hC19; clear hA19 hC19 hi019 hsz19) | ((with_reducible refine gate_builtin (b := .append) (xs := #[.tmp 18, .tmp 21]) rfl ?_); at_builtin; refine Kd.R_append_rows (Kd.int .u32) (w0 := w) w.heap.size rfl (.tmp 18) (.tmp 21) 23 22 (.int .u32 0) 4 rfl Tryd.underlying23 info22 rfl (by decide) (by omega) v341 y340 (l0.take (x3_1 : Int).toNat) _ _ _ (fun _ => True) (fun _ => False) rfl rfl ?aO ?aR (fun _ _ h => h) (fun _ h => h.elim) ?aF ?aB ?aS ?aL ?_; (case aR => first | (refine C_len_ (show (l0.take (x3_1 : Int).toNat).length = x3_1.toNat from (by rw [List.length_take]; have h_ : (x3_1 : Int) ≤ (l0.length : Int) := of_decide_eq_true as_; omega)) ?_; exact kC2 ((Kd.C_below HR343.out HB.out))) | (exact kC2 ((Kd.C_below HR343.out HB.out)))); (case aB => exact bB); (case aF => exact (fun _ _ => trivial)); (case aO => exact (rR HO342.out)); (case aS => exact (below_size bB)); (case aL => have := LMc16.out; have hlx_ := (show (l0.take (x3_1 : Int).toNat).length = x3_1.toNat from (by rw [List.length_take]; have h_ : (x3_1 : Int) ≤ (l0.length : Int) := of_decide_eq_true as_; omega)); omega); intro v345 w20 ho hb hg hat; rw [← Ny344.out] at ho; have n0_ := am (hb); have n1_ := am (ho); clear HB; clear HO342; have HB := n0_; have HO346 := n1_; clear n0_ n1_; clear ho hb hg hat))
   go_ret
   exact ⟨_, eqR, rR (HO346.out), bB⟩
 rw [if_pos c2] at H
 have c2b0 : decide (0 < x3_1) = true := decide_eq_true c2
 clear c2
 obtain ⟨ji3, hji3⟩ : ∃ j_ : Int, (wrap64 (x3_1 - 1)) = j_ := ⟨_, rfl⟩
 replace H : (if 0 ≤ (ji3) then (if (ji3) < (l0.length : Int) then (if (rd l0 (ji3)) = 0 then (zigguratref01_Make.l0 k1 l0 ji3) else ((some (([] : List Int) : List Int)).bind fun y333 => (if 0 ≤ x3_1 then (if x3_1 ≤ (l0.length : Int) then (if y333.length + (l0.take (x3_1 : Int).toNat).length < 35184372088832 then (some (y333 ++ (l0.take (x3_1 : Int).toNat))) else (none)) else (none)) else (none)))) else (none)) else (none)) = some r := by first | (rw [hji3] at H; exact H) | (simp only [hji3] at H ⊢; exact H)
 have hji3w : (IntKind.i64.wrap (x3_1 - 1)) = ji3 := (i64_w _).trans hji3
 by_cases c4 : 0 ≤ (ji3)
 case neg => exact nn c4 H
 rw [if_pos c4] at H
 have c4b0 : decide (0 ≤ (ji3)) = true := decide_eq_true c4
 clear c4
 by_cases c5 : (ji3) < (l0.length : Int)
 case neg => exact nn c5 H
 rw [if_pos c5] at H
 have c5b0 : decide ((ji3) < (l0.length : Int)) = true := decide_eq_true c5
 clear c5
 by_cases c6 : (rd l0 (ji3)) = 0
 · rw [if_pos c6] at H
   have c6b0 : ((rd l0 (ji3)) == 0) = true := beq_iff_eq.mpr c6
   have c6b1 : ((rd l0 (ji3)) != 0) = false := bne_eq_false_iff_eq.mpr c6
   clear c6
   have H' := am H
   clear H
   have p332 : 0 ≤ ((ji3) : Int) := of_decide_eq_true as_
   have q332 : (ji3) < (l0.length : Int) := of_decide_eq_true as_
   obtain ⟨ad332, e332, hx332_0⟩ := Kd.at_int HR0.out (ji3) p332 q332
   cases e332
   replace hx332_0 := (HB.out.cell (World.block_lt_of_cell? w _ hx332_0)).trans hx332_0
   replace p332 := eq_true p332
   replace q332 := eq_true q332
   go_wp2
   first | go_roundg k1 | (subst hji3; go_roundg k1)
   case measure => have := HK1.out; omega
   case rel => exact ⟨(ji3), (by first | rfl | (simp; done) | (simp only [← hji3] <;> (first | rfl | simp)) | (simp [*]; done)), (by first | exact H' | (subst_vars; exact H')), ⟨by have := HK1.out; omega⟩, ⟨bB⟩⟩
 rw [if_neg c6] at H
 have c6b0 : ((rd l0 (ji3)) == 0) = false := beq_eq_false_iff_ne.mpr c6
 have c6b1 : ((rd l0 (ji3)) != 0) = true := bne_iff_ne.mpr c6
 obtain ⟨y333, hy333⟩ : ∃ y_ : List Int, y_ = (([] : List Int)) := ⟨_, rfl⟩
 replace H : (if 0 ≤ x3_1 then (if x3_1 ≤ (l0.length : Int) then (if y333.length + (l0.take (x3_1 : Int).toNat).length < 35184372088832 then (some (y333 ++ (l0.take (x3_1 : Int).toNat))) else (none)) else (none)) else (none)) = some r := by first | (rw [hy333]; exact H) | exact H
 have Ny333 := am hy333
 clear hy333
 by_cases c7 : 0 ≤ x3_1
 case neg => exact nn c7 H
 rw [if_pos c7] at H
 have c7b0 := eq_true c7
 have c7b1 : decide (0 ≤ x3_1) = true := decide_eq_true c7
 clear c7
 by_cases c8 : x3_1 ≤ (l0.length : Int)
 case neg => exact nn c8 H
 rw [if_pos c8] at H
 have c8b0 := eq_true c8
 have c8b1 : decide (x3_1 ≤ (l0.length : Int)) = true := decide_eq_true c8
 clear c8
 by_cases c9 : y333.length + (l0.take (x3_1 : Int).toNat).length < 35184372088832
 case neg => exact nn c9 H
 rw [if_pos c9] at H
 have LMc9 := am c9
 clear c9
 obtain ⟨y337, hy337⟩ : ∃ y_ : List Int, y_ = (y333 ++ (l0.take (x3_1 : Int).toNat)) := ⟨_, rfl⟩
 replace H : (some y337) = some r := by first | (rw [hy337]; exact H) | exact H
 have Ny337 := am hy337
 clear hy337
 obtain rfl := Option.some.inj H
 have p332 : 0 ≤ ((ji3) : Int) := of_decide_eq_true as_
 have q332 : (ji3) < (l0.length : Int) := of_decide_eq_true as_
 obtain ⟨ad332, e332, hx332_0⟩ := Kd.at_int HR0.out (ji3) p332 q332
 cases e332
 replace hx332_0 := (HB.out.cell (World.block_lt_of_cell? w _ hx332_0)).trans hx332_0
 replace p332 := eq_true p332
 replace q332 := eq_true q332
 go_wp2_with (first | ((with_reducible refine gate_dst (N := 18) rfl ?_); refine Kd.R_lit (Kd.int .u32) _ 22 rF (N := 18) rF (xs := ([] : List Int)) (inner := []) (ok := fun _ => True) (okp := fun _ => True) gF ?hp (fun _ hk => hk) trivial (Below.refl _ _) (Nat.le_refl _) (by simp) ?_; (case hp => exact (Reps.none _ _)); intro v334 w10 ho11 hb hg_ hnew_; clear hg_ hnew_; (first | rw [← Ny333.out] at ho11 | (simp only [Int.reduceToNat] at ho11; rw [← Ny333.out] at ho11)); have n0_ := am (Kd.R_lower ho11 (below_size bB)); have n1_ := am (below_step bB hb); clear HB; have HO335 := n0_; have HB := n1_; clear n0_ n1_; clear hb ho11; obtain ⟨i012, hi012, _, hsz12, _⟩ := info_parts info22; obtain ⟨hcut12, hA12, hC12⟩ := print_take_of (P := Tryd.prog) (Value.int .u32) 0 23 22 .i64 Tryd.underlying23 hi012 hsz12 (some ad332) c0 l0 x3_1 (of_decide_eq_true as_) (of_decide_eq_true as_) HC0.out; have HR336 := am (Kd.C_of_reads (h1 := fun _ => rfl) (hA12 _ (Kd.reads_of_C HR0.out))); have HC336 := am hC12; clear hA12 hC12 hi012 hsz12) | ((with_reducible refine gate_builtin (b := .append) (xs := #[.tmp 18, .tmp 21]) rfl ?_); at_builtin; refine Kd.R_append_rows (Kd.int .u32) (w0 := w) w.heap.size rfl (.tmp 18) (.tmp 21) 23 22 (.int .u32 0) 4 rfl Tryd.underlying23 info22 rfl (by decide) (by omega) v334 y333 (l0.take (x3_1 : Int).toNat) _ _ _ (fun _ => True) (fun _ => False) rfl rfl ?aO ?aR (fun _ _ h => h) (fun _ h => h.elim) ?aF ?aB ?aS ?aL ?_; (case aR => first | (refine C_len_ (show (l0.take (x3_1 : Int).toNat).length = x3_1.toNat from (by rw [List.length_take]; have h_ : (x3_1 : Int) ≤ (l0.length : Int) := of_decide_eq_true as_; omega)) ?_; exact kC2 ((Kd.C_below HR336.out HB.out))) | (exact kC2 ((Kd.C_below HR336.out HB.out)))); (case aB => exact bB); (case aF => exact (fun _ _ => trivial)); (case aO => exact (rR HO335.out)); (case aS => exact (below_size bB)); (case aL => have := LMc9.out; have hlx_ := (show (l0.take (x3_1 : Int).toNat).length = x3_1.toNat from (by rw [List.length_take]; have h_ : (x3_1 : Int) ≤ (l0.length : Int) := of_decide_eq_true as_; omega)); omega); intro v338 w13 ho hb hg hat; rw [← Ny337.out] at ho; have n0_ := am (hb); have n1_ := am (ho); clear HB; clear HO335; have HB := n0_; have HO339 := n1_; clear n0_ n1_; clear ho hb hg hat))
 go_ret
 exact ⟨_, by first | rfl | (simp [errW_none, errW_some] <;> rfl) | (simp only [← hji3]; first | rfl | (simp [errW_none, errW_some] <;> rfl)) | (simp [*, errW_none, errW_some] <;> rfl), rR (HO339.out), bB⟩
def zigguratref06_Make.f (k : Nat) (a0 : Bool) (l1 : List Int) : Option (Bool × List Int) := (zigguratref01_Make.f k l1).bind fun t348 => (if a0 = true then (some (decide ((t348.length : Int) > 0), t348)) else (some (false, t348)))
theorem zigguratref06_Make.calls (k : Nat) (a0 : Bool) (A1 : Option Addr) (c1 : Nat) (l1 : List Int) (r1 : Bool) (r2 : List Int) (w : World) (hr1 : Kd.C (Kd.int .u32) w A1 l1.length l1) (hc1 : l1.length ≤ c1) (h : zigguratref06_Make.f k a0 l1 = some (r1, r2)) :
   Calls Tryd.prog 54 #[.bool a0, .slice A1 l1.length c1] w fun e w' => ∃ v1_ : Value, e = .returned (.agg #[.bool r1, v1_]) ∧ Kd.R (Kd.int .u32) 22 w' w.heap.size (fun _ => True) v1_ r2 ∧ Below w.heap.size w w' := by
 have hu56 := Tryd.underlying56
 have HR1 := am hr1
 have HC1 := am hc1
 clear hr1 hc1
 have HB := am (Below.refl w.heap.size w)
 have H := h; unfold zigguratref06_Make.f at H
 clear h
 obtain ⟨t348, A30, H⟩ := Option.bind_eq_some_iff.mp H
 try dsimp only at H
 have A3 := am A30
 clear A30
 by_cases c4 : a0 = true
 · subst c4
   have H1 : (some (decide ((t348.length : Int) > 0), t348)) = some (r1, r2) := by rw [if_pos rfl] at H; exact H
   clear H
   have H := H1
   clear H1
   simp only [Option.some.injEq, Prod.mk.injEq] at H
   obtain ⟨rfl, rfl⟩ := H
   go_enter Tryd.func54, Tryd.ntmps54
   go_wp2_with (first | ((with_reducible refine gate_dst (N := 4) rfl ?_); (try (refine gate_guard (by rfl) ?_; dsimp only)); refine boxE (N := 4) (cs := #[.bool false, .slice none 0 0]) (t := 56) ?_; intro gb347 hg w5 hbox hb; have n0_ := am (below_step bB hb); have n1_ := am (hbox); have n2_ := am ((by rw [hg]; exact (below_size bB) : w.heap.size ≤ gb347)); have n3_ := am ((by rw [hg]; exact (below_size bB) : w.heap.size ≤ gb347)); clear HB; have HB := n0_; have BK347 := n1_; have GW347 := n2_; have GE347 := n3_; clear n0_ n1_ n2_ n3_; clear hb hbox hg) | ((with_reducible refine gate_callee (f := 39) rfl ?_); refine goesA (some 7) Tryd.func39 #[.slice A1 l1.length c1] ?_; (with_reducible refine (zigguratref01_Make.calls k _ _ l1 t348 _ ?side1 ?side2 A3.out).mono ?_); (case side1 => exact kC2 ((Kd.C_below HR1.out HB.out))); (case side2 => exact HC1.out); rintro e w6 ⟨v349, rfl, ho0, hb⟩; refine ⟨_, rfl, ?_⟩; have n0_ := am (Kd.R_lower ho0 (below_size bB)); have n1_ := am (blk_below (g := gb347) (o := .cells #[.bool false, .slice none 0 0] 56 (0, 0)) (bk BK347.out) hb); have n2_ := am (below_step bB hb); clear BK347; clear HB; have HO350 := n0_; have BK347 := n1_; have HB := n2_; clear n0_ n1_ n2_; (try clear hb); (try clear hb2); (try clear hk); (try clear hi); (try clear ho0); obtain ⟨Ao7, co7, eo7⟩ := Kd.R_slice HO350.out; subst eo7; have hcz8_0 : w6.cell? ⟨gb347, 0, none⟩ = some (.bool false) := (blk_cell BK347.out 0).trans rfl; have hcz8_1 : w6.cell? ⟨gb347, 1, none⟩ = some (.slice none 0 0) := (blk_cell BK347.out 1).trans rfl; have hfz8_0 := blk_frozen BK347.out 0; have hfz8_1 := blk_frozen BK347.out 1))
   refine bodyPost_ret (results_cell_row rfl _ _ gb347 56 #[.bool (decide (0 < t348.length)), .slice Ao7 t348.length co7] (0, 0) _ rfl (by (with_reducible repeat (first | refine blk_drewN ?_ _ | refine blk_drew ?_ | refine blk_alloc ?_ _)); refine blk_put (cs := #[.bool (decide (0 < t348.length)), .slice none 0 0]) ?_ 1 _ rfl; (with_reducible repeat (first | refine blk_drewN ?_ _ | refine blk_drew ?_ | refine blk_alloc ?_ _)); refine blk_put (cs := #[.bool false, .slice none 0 0]) ?_ 0 _ rfl; (with_reducible repeat (first | refine blk_drewN ?_ _ | refine blk_drew ?_ | refine blk_alloc ?_ _)); exact BK347.out) Tryd.underlying56 rfl (by kernel_rfl)) rfl ?_
   exact ⟨_, eqR, by (with_reducible repeat (first | apply Kd.R_alloc | apply Kd.R_drewN | apply Kd.R_drew)); exact Kd.R_mono (Kd.R_far (p := ⟨gb347, 1, none⟩) (Kd.R_far (p := ⟨gb347, 0, none⟩) (Kd.R_types HO350.out BK347.out (by decide)) (fun _ hk => hk.2) (.bool (decide (0 < t348.length)))) (fun _ hk => hk.2) (.slice Ao7 t348.length co7)) (fun _ hk => trivial), bB⟩
 replace c4 := Bool.eq_false_iff.mpr c4
 subst c4
 have H1 : (some (false, t348)) = some (r1, r2) := by rw [if_neg (show ¬ (false = true) by decide)] at H; exact H
 clear H
 have H := H1
 clear H1
 simp only [Option.some.injEq, Prod.mk.injEq] at H
 obtain ⟨rfl, rfl⟩ := H
 go_enter Tryd.func54, Tryd.ntmps54
 go_wp2_with (first | ((with_reducible refine gate_dst (N := 4) rfl ?_); (try (refine gate_guard (by rfl) ?_; dsimp only)); refine boxE (N := 4) (cs := #[.bool false, .slice none 0 0]) (t := 56) ?_; intro gb347 hg w9 hbox hb; have n0_ := am (below_step bB hb); have n1_ := am (hbox); have n2_ := am ((by rw [hg]; exact (below_size bB) : w.heap.size ≤ gb347)); have n3_ := am ((by rw [hg]; exact (below_size bB) : w.heap.size ≤ gb347)); clear HB; have HB := n0_; have BK347 := n1_; have GW347 := n2_; have GE347 := n3_; clear n0_ n1_ n2_ n3_; clear hb hbox hg) | ((with_reducible refine gate_callee (f := 39) rfl ?_); refine goesA (some 7) Tryd.func39 #[.slice A1 l1.length c1] ?_; (with_reducible refine (zigguratref01_Make.calls k _ _ l1 t348 _ ?side1 ?side2 A3.out).mono ?_); (case side1 => exact kC2 ((Kd.C_below HR1.out HB.out))); (case side2 => exact HC1.out); rintro e w10 ⟨v349, rfl, ho0, hb⟩; refine ⟨_, rfl, ?_⟩; have n0_ := am (Kd.R_lower ho0 (below_size bB)); have n1_ := am (blk_below (g := gb347) (o := .cells #[.bool false, .slice none 0 0] 56 (0, 0)) (bk BK347.out) hb); have n2_ := am (below_step bB hb); clear BK347; clear HB; have HO350 := n0_; have BK347 := n1_; have HB := n2_; clear n0_ n1_ n2_; (try clear hb); (try clear hb2); (try clear hk); (try clear hi); (try clear ho0); obtain ⟨Ao11, co11, eo11⟩ := Kd.R_slice HO350.out; subst eo11; have hcz12_0 : w10.cell? ⟨gb347, 0, none⟩ = some (.bool false) := (blk_cell BK347.out 0).trans rfl; have hcz12_1 : w10.cell? ⟨gb347, 1, none⟩ = some (.slice none 0 0) := (blk_cell BK347.out 1).trans rfl; have hfz12_0 := blk_frozen BK347.out 0; have hfz12_1 := blk_frozen BK347.out 1))
 refine bodyPost_ret (results_cell_row rfl _ _ gb347 56 #[.bool false, .slice Ao11 t348.length co11] (0, 0) _ rfl (by (with_reducible repeat (first | refine blk_drewN ?_ _ | refine blk_drew ?_ | refine blk_alloc ?_ _)); refine blk_put (cs := #[.bool false, .slice none 0 0]) ?_ 1 _ rfl; (with_reducible repeat (first | refine blk_drewN ?_ _ | refine blk_drew ?_ | refine blk_alloc ?_ _)); refine blk_put (cs := #[.bool false, .slice none 0 0]) ?_ 0 _ rfl; (with_reducible repeat (first | refine blk_drewN ?_ _ | refine blk_drew ?_ | refine blk_alloc ?_ _)); exact BK347.out) Tryd.underlying56 rfl (by kernel_rfl)) rfl ?_
 exact ⟨_, eqR, by (with_reducible repeat (first | apply Kd.R_alloc | apply Kd.R_drewN | apply Kd.R_drew)); exact Kd.R_mono (Kd.R_far (p := ⟨gb347, 1, none⟩) (Kd.R_far (p := ⟨gb347, 0, none⟩) (Kd.R_types HO350.out BK347.out (by decide)) (fun _ hk => hk.2) (.bool false)) (fun _ hk => hk.2) (.slice Ao11 t348.length co11)) (fun _ hk => trivial), bB⟩
def zigguratref01_Of.f (k : Nat) (a0 : Int) : Option (List Int) := (zigguratref01_Make.f k (([(Int.tmod a0 4294967296) % 4294967296, (IntKind.u64.wrap (Int.tdiv a0 4294967296)) % 4294967296] : List Int))).bind fun t354 => (some t354)
theorem zigguratref01_Of.calls (k : Nat) (a0 : Int) (r : List Int) (w : World) (h : zigguratref01_Of.f k a0 = some r) :
   Calls Tryd.prog 55 #[.int .u64 a0] w fun e w' => ∃ v0_ : Value, e = .returned (v0_) ∧ Kd.R (Kd.int .u32) 22 w' w.heap.size (fun _ => True) v0_ r ∧ Below w.heap.size w w' := by
 have HB := am (Below.refl w.heap.size w)
 have H := h; unfold zigguratref01_Of.f at H
 clear h
 obtain ⟨y351, hy351⟩ : ∃ y_ : List Int, y_ = (([(Int.tmod a0 4294967296) % 4294967296, (IntKind.u64.wrap (Int.tdiv a0 4294967296)) % 4294967296] : List Int)) := ⟨_, rfl⟩
 replace H : ((zigguratref01_Make.f k y351).bind fun t354 => (some t354)) = some r := by first | (rw [hy351]; exact H) | exact H
 have Ny351 := am hy351
 clear hy351
 obtain ⟨t354, A20, H⟩ := Option.bind_eq_some_iff.mp H
 replace H : (some t354) = some r := H
 have A2 := am A20
 clear A20
 obtain rfl := Option.some.inj H
 go_enter Tryd.func55, Tryd.ntmps55
 go_wp2_with (first | ((with_reducible refine gate_dst (N := 9) rfl ?_); refine Kd.R_lit (Kd.int .u32) _ 22 rF (N := 9) rF (xs := ([(Int.tmod a0 4294967296) % 4294967296, (IntKind.u64.wrap (Int.tdiv a0 4294967296)) % 4294967296] : List Int)) (inner := [.int .u32 ((Int.tmod a0 4294967296) % 4294967296), .int .u32 ((IntKind.u64.wrap (Int.tdiv a0 4294967296)) % 4294967296)]) (ok := fun _ => True) (okp := fun _ => True) gF ?hp (fun _ hk => hk) trivial (Below.refl _ _) (Nat.le_refl _) (by simp) ?_; (case hp => exact (Reps.one (show Kd.M (Kd.int .u32) _ _ _ ((Int.tmod a0 4294967296) % 4294967296) [.int .u32 ((Int.tmod a0 4294967296) % 4294967296)] from rfl) (Reps.one (show Kd.M (Kd.int .u32) _ _ _ ((IntKind.u64.wrap (Int.tdiv a0 4294967296)) % 4294967296) [.int .u32 ((IntKind.u64.wrap (Int.tdiv a0 4294967296)) % 4294967296)] from rfl) (Reps.none _ _)))); intro v352 w3 ho4 hb hg_ hnew_; clear hg_ hnew_; (first | rw [← Ny351.out] at ho4 | (simp only [Int.reduceToNat] at ho4; rw [← Ny351.out] at ho4)); have n0_ := am (Kd.R_lower ho4 (below_size bB)); have n1_ := am (below_step bB hb); clear HB; have HO353 := n0_; have HB := n1_; clear n0_ n1_; clear hb ho4; obtain ⟨Ao5, co5, eo5⟩ := Kd.R_slice HO353.out; subst eo5) | ((with_reducible refine gate_callee (f := 39) rfl ?_); refine goesA (some 10) Tryd.func39 #[.slice Ao5 y351.length co5] ?_; (with_reducible refine (zigguratref01_Make.calls k _ _ y351 t354 _ ?side1 ?side2 A2.out).mono ?_); (case side1 => exact kC2 ((Kd.R_reads' HO353.out).2.2)); (case side2 => exact (Kd.R_reads' HO353.out).2.1); rintro e w6 ⟨v355, rfl, ho0, hb⟩; refine ⟨_, rfl, ?_⟩; have n0_ := am (Kd.R_elder' (rR HO353.out) (Kd.R_base ho0) hb); have n1_ := am (Kd.R_lower (Kd.R_new' ho0 (Kd.R_lt (rR HO353.out))) (below_size bB)); have n2_ := am (below_step bB hb); clear HO353; clear HB; have HO353 := n0_; have HO356 := n1_; have HB := n2_; clear n0_ n1_ n2_; (try clear hb); (try clear hb2); (try clear hk); (try clear hi); (try clear ho0)))
 go_ret
 exact ⟨_, eqR, by (with_reducible repeat (first | apply Kd.R_alloc | apply Kd.R_drewN | apply Kd.R_drew)); exact Kd.R_mono HO356.out (fun _ hk => trivial), bB⟩
def zigguratref06_Of.f (k : Nat) (a0 : Int) : Option (Bool × List Int) := if a0 < 0 then ((zigguratref01_Of.f k (IntKind.u64.wrap (-(IntKind.u64.wrap (a0))))).bind fun t358 => ((zigguratref06_Make.f k true t358).bind fun bt361 => (some (bt361.1, bt361.2)))) else ((zigguratref01_Of.f k (IntKind.u64.wrap (a0))).bind fun t365 => ((zigguratref06_Make.f k false t365).bind fun bt368 => (some (bt368.1, bt368.2))))
theorem zigguratref06_Of.calls (k : Nat) (a0 : Int) (r1 : Bool) (r2 : List Int) (w : World) (h : zigguratref06_Of.f k a0 = some (r1, r2)) :
   Calls Tryd.prog 28 #[.int .i64 a0] w fun e w' => ∃ v1_ : Value, e = .returned (.agg #[.bool r1, v1_]) ∧ Kd.R (Kd.int .u32) 22 w' w.heap.size (fun _ => True) v1_ r2 ∧ Below w.heap.size w w' := by
 have hu56 := Tryd.underlying56
 have HB := am (Below.refl w.heap.size w)
 have H := h; unfold zigguratref06_Of.f at H
 clear h
 by_cases c2 : a0 < 0
 case neg =>
   rw [if_neg c2] at H
   have c2b0 : decide (a0 < 0) = false := decide_eq_false c2
   clear c2
   obtain ⟨t365, A110, H⟩ := Option.bind_eq_some_iff.mp H
   try dsimp only at H
   have A11 := am A110
   clear A110
   obtain ⟨⟨t368, t369⟩, A120, H⟩ := Option.bind_eq_some_iff.mp H
   replace H : (some (t368, t369)) = some (r1, r2) := H
   have A12 := am A120
   clear A120
   simp only [Option.some.injEq, Prod.mk.injEq] at H
   obtain ⟨rfl, rfl⟩ := H
   go_enter Tryd.func28, Tryd.ntmps28
   go_wp2_with (first | ((with_reducible refine gate_dst (N := 2) rfl ?_); refine boxE (N := 2) (cs := #[.bool false, .slice none 0 0]) (t := 56) ?_; intro gb357 hg w13 hbox hb; have n0_ := am (below_step bB hb); have n1_ := am (hbox); have n2_ := am ((by rw [hg]; exact (below_size bB) : w.heap.size ≤ gb357)); have n3_ := am ((by rw [hg]; exact (below_size bB) : w.heap.size ≤ gb357)); clear HB; have HB := n0_; have BK357 := n1_; have GW357 := n2_; have GE357 := n3_; clear n0_ n1_ n2_ n3_; clear hb hbox hg) | ((with_reducible refine gate_callee (f := 55) rfl ?_); refine goesA (some 12) Tryd.func55 #[.int .u64 (IntKind.u64.wrap (a0))] ?_; (with_reducible refine (zigguratref01_Of.calls k (IntKind.u64.wrap (a0)) t365 _ A11.out).mono ?_); rintro e w14 ⟨v366, rfl, ho0, hb⟩; refine ⟨_, rfl, ?_⟩; have n0_ := am (Kd.R_lower ho0 (below_size bB)); have n1_ := am (blk_below (g := gb357) (o := .cells #[.bool false, .slice none 0 0] 56 (0, 0)) (bk BK357.out) hb); have n2_ := am (below_step bB hb); clear BK357; clear HB; have HO367 := n0_; have BK357 := n1_; have HB := n2_; clear n0_ n1_ n2_; (try clear hb); (try clear hb2); (try clear hk); (try clear hi); (try clear ho0); obtain ⟨Ao15, co15, eo15⟩ := Kd.R_slice HO367.out; subst eo15) | ((with_reducible refine gate_callee (f := 54) rfl ?_); refine goesA (some 13) Tryd.func54 #[.bool false, .slice Ao15 t365.length co15] ?_; (with_reducible refine (zigguratref06_Make.calls k false _ _ t365 t368 t369 _ ?side1 ?side2 A12.out).mono ?_); (case side1 => exact kC2 ((Kd.R_reads' HO367.out).2.2)); (case side2 => exact (Kd.R_reads' HO367.out).2.1); rintro e w16 ⟨v370, rfl, ho0, hb⟩; refine ⟨_, rfl, ?_⟩; have n0_ := am (Kd.R_elder' (rR HO367.out) (Kd.R_base ho0) hb); have n1_ := am (Kd.R_lower (Kd.R_new' ho0 (Kd.R_lt (rR HO367.out))) (below_size bB)); have n2_ := am (blk_below (g := gb357) (o := .cells #[.bool false, .slice none 0 0] 56 (0, 0)) (bk BK357.out) hb); have n3_ := am (below_step bB hb); clear HO367; clear BK357; clear HB; have HO367 := n0_; have HO371 := n1_; have BK357 := n2_; have HB := n3_; clear n0_ n1_ n2_ n3_; (try clear hb); (try clear hb2); (try clear hk); (try clear hi); (try clear ho0); have hcz17_0 : w16.cell? ⟨gb357, 0, none⟩ = some (.bool false) := (blk_cell BK357.out 0).trans rfl; have hcz17_1 : w16.cell? ⟨gb357, 1, none⟩ = some (.slice none 0 0) := (blk_cell BK357.out 1).trans rfl; have hfz17_0 := blk_frozen BK357.out 0; have hfz17_1 := blk_frozen BK357.out 1; obtain ⟨Ao18, co18, eo18⟩ := Kd.R_slice HO371.out; subst eo18))
   refine bodyPost_ret (results_cell_row rfl _ _ gb357 56 #[.bool t368, .slice Ao18 t369.length co18] (0, 0) _ rfl (by (with_reducible repeat (first | refine blk_drewN ?_ _ | refine blk_drew ?_ | refine blk_alloc ?_ _)); refine blk_put (cs := #[.bool t368, .slice none 0 0]) ?_ 1 _ rfl; (with_reducible repeat (first | refine blk_drewN ?_ _ | refine blk_drew ?_ | refine blk_alloc ?_ _)); refine blk_put (cs := #[.bool false, .slice none 0 0]) ?_ 0 _ rfl; (with_reducible repeat (first | refine blk_drewN ?_ _ | refine blk_drew ?_ | refine blk_alloc ?_ _)); exact BK357.out) Tryd.underlying56 rfl (by kernel_rfl)) rfl ?_
   exact ⟨_, eqR, by (with_reducible repeat (first | apply Kd.R_alloc | apply Kd.R_drewN | apply Kd.R_drew)); exact Kd.R_mono (Kd.R_far (p := ⟨gb357, 1, none⟩) (Kd.R_far (p := ⟨gb357, 0, none⟩) (Kd.R_types HO371.out BK357.out (by decide)) (fun _ hk => hk.2) (.bool t368)) (fun _ hk => hk.2) (.slice Ao18 t369.length co18)) (fun _ hk => trivial), bB⟩
 rw [if_pos c2] at H
 have c2b0 : decide (a0 < 0) = true := decide_eq_true c2
 clear c2
 obtain ⟨t358, A30, H⟩ := Option.bind_eq_some_iff.mp H
 try dsimp only at H
 have A3 := am A30
 clear A30
 obtain ⟨⟨t361, t362⟩, A40, H⟩ := Option.bind_eq_some_iff.mp H
 replace H : (some (t361, t362)) = some (r1, r2) := H
 have A4 := am A40
 clear A40
 simp only [Option.some.injEq, Prod.mk.injEq] at H
 obtain ⟨rfl, rfl⟩ := H
 go_enter Tryd.func28, Tryd.ntmps28
 go_wp2_with (first | ((with_reducible refine gate_dst (N := 2) rfl ?_); refine boxE (N := 2) (cs := #[.bool false, .slice none 0 0]) (t := 56) ?_; intro gb357 hg w5 hbox hb; have n0_ := am (below_step bB hb); have n1_ := am (hbox); have n2_ := am ((by rw [hg]; exact (below_size bB) : w.heap.size ≤ gb357)); have n3_ := am ((by rw [hg]; exact (below_size bB) : w.heap.size ≤ gb357)); clear HB; have HB := n0_; have BK357 := n1_; have GW357 := n2_; have GE357 := n3_; clear n0_ n1_ n2_ n3_; clear hb hbox hg) | ((with_reducible refine gate_callee (f := 55) rfl ?_); refine goesA (some 8) Tryd.func55 #[.int .u64 (IntKind.u64.wrap (-(IntKind.u64.wrap (a0))))] ?_; (with_reducible refine (zigguratref01_Of.calls k (IntKind.u64.wrap (-(IntKind.u64.wrap (a0)))) t358 _ A3.out).mono ?_); rintro e w6 ⟨v359, rfl, ho0, hb⟩; refine ⟨_, rfl, ?_⟩; have n0_ := am (Kd.R_lower ho0 (below_size bB)); have n1_ := am (blk_below (g := gb357) (o := .cells #[.bool false, .slice none 0 0] 56 (0, 0)) (bk BK357.out) hb); have n2_ := am (below_step bB hb); clear BK357; clear HB; have HO360 := n0_; have BK357 := n1_; have HB := n2_; clear n0_ n1_ n2_; (try clear hb); (try clear hb2); (try clear hk); (try clear hi); (try clear ho0); obtain ⟨Ao7, co7, eo7⟩ := Kd.R_slice HO360.out; subst eo7) | ((with_reducible refine gate_callee (f := 54) rfl ?_); refine goesA (some 9) Tryd.func54 #[.bool true, .slice Ao7 t358.length co7] ?_; (with_reducible refine (zigguratref06_Make.calls k true _ _ t358 t361 t362 _ ?side1 ?side2 A4.out).mono ?_); (case side1 => exact kC2 ((Kd.R_reads' HO360.out).2.2)); (case side2 => exact (Kd.R_reads' HO360.out).2.1); rintro e w8 ⟨v363, rfl, ho0, hb⟩; refine ⟨_, rfl, ?_⟩; have n0_ := am (Kd.R_elder' (rR HO360.out) (Kd.R_base ho0) hb); have n1_ := am (Kd.R_lower (Kd.R_new' ho0 (Kd.R_lt (rR HO360.out))) (below_size bB)); have n2_ := am (blk_below (g := gb357) (o := .cells #[.bool false, .slice none 0 0] 56 (0, 0)) (bk BK357.out) hb); have n3_ := am (below_step bB hb); clear HO360; clear BK357; clear HB; have HO360 := n0_; have HO364 := n1_; have BK357 := n2_; have HB := n3_; clear n0_ n1_ n2_ n3_; (try clear hb); (try clear hb2); (try clear hk); (try clear hi); (try clear ho0); have hcz9_0 : w8.cell? ⟨gb357, 0, none⟩ = some (.bool false) := (blk_cell BK357.out 0).trans rfl; have hcz9_1 : w8.cell? ⟨gb357, 1, none⟩ = some (.slice none 0 0) := (blk_cell BK357.out 1).trans rfl; have hfz9_0 := blk_frozen BK357.out 0; have hfz9_1 := blk_frozen BK357.out 1; obtain ⟨Ao10, co10, eo10⟩ := Kd.R_slice HO364.out; subst eo10))
 refine bodyPost_ret (results_cell_row rfl _ _ gb357 56 #[.bool t361, .slice Ao10 t362.length co10] (0, 0) _ rfl (by (with_reducible repeat (first | refine blk_drewN ?_ _ | refine blk_drew ?_ | refine blk_alloc ?_ _)); refine blk_put (cs := #[.bool t361, .slice none 0 0]) ?_ 1 _ rfl; (with_reducible repeat (first | refine blk_drewN ?_ _ | refine blk_drew ?_ | refine blk_alloc ?_ _)); refine blk_put (cs := #[.bool false, .slice none 0 0]) ?_ 0 _ rfl; (with_reducible repeat (first | refine blk_drewN ?_ _ | refine blk_drew ?_ | refine blk_alloc ?_ _)); exact BK357.out) Tryd.underlying56 rfl (by kernel_rfl)) rfl ?_
 exact ⟨_, eqR, by (with_reducible repeat (first | apply Kd.R_alloc | apply Kd.R_drewN | apply Kd.R_drew)); exact Kd.R_mono (Kd.R_far (p := ⟨gb357, 1, none⟩) (Kd.R_far (p := ⟨gb357, 0, none⟩) (Kd.R_types HO364.out BK357.out (by decide)) (fun _ hk => hk.2) (.bool t361)) (fun _ hk => hk.2) (.slice Ao10 t362.length co10)) (fun _ hk => trivial), bB⟩
mutual
def zigguratref14_Prime.j0 : Nat → Int → Bool → Option (Bool)
 | 0, _, _ => none
 | k + 1, x0, x9 => if x9 = true then (some false) else (zigguratref14_Prime.l0 k x0 2)
def zigguratref14_Prime.l0 : Nat → Int → Int → Option (Bool)
 | 0, _, _ => none
 | k + 1, x0, x3 => if ((x3 * x3) % 4294967296) ≤ x0 then (if x3 = 0 then (none) else (if (Int.tmod x0 x3) = 0 then (some false) else (zigguratref14_Prime.l0 k x0 ((x3 + 1) % 4294967296)))) else (some true)
end
def zigguratref14_Prime.f (k : Nat) (a0 : Int) : Option (Bool) := if a0 < 2 then (zigguratref14_Prime.j0 k a0 true) else (zigguratref14_Prime.j0 k a0 (decide (a0 > 65521)))
theorem zigguratref14_Prime.calls (k : Nat) (a0 : Int) (r : Bool) (w : World) (h : zigguratref14_Prime.f k a0 = some r) :
   Calls Tryd.prog 29 #[.int .u32 a0] w fun e w' => e = .returned (.bool r) ∧ Drawn0 w w' := by
 have H := h; unfold zigguratref14_Prime.f at H
 clear h
 have HC2 := am H
 clear H
 go_enter Tryd.func29, Tryd.ntmps29
 go_upto_region 1 with (fail)
 go_cut [9] (fun v9 wc => ∃ (kq : Nat) (x9_1 : Bool), v9 = .bool x9_1 ∧ Aside0 (zigguratref14_Prime.j0 kq a0 x9_1 = some r) ∧ Aside0 (kq ≤ k) ∧ Drawn0 w wc)
 case first =>
   have H := HC2.out
   clear HC2
   by_cases c3 : a0 < 2
   case neg =>
     rw [if_neg c3] at H
     have c3b0 : decide (a0 < 2) = false := decide_eq_false c3
     clear c3
     (first | rw [c3b0] | (simp only [i64_w, i32_w]; rw [c3b0]) | skip)
     have H' := am H
     clear H
     go_wp2
     go_meet
     case rel => exact ⟨_, (decide (a0 > 65521)), eqS, (by first | exact H' | (subst_vars; exact H')), ⟨by first | omega | exact Nat.le_refl _⟩, by repeat (first | exact Drawn0.refl _ | apply Drawn0.step)⟩
   rw [if_pos c3] at H
   have c3b0 : decide (a0 < 2) = true := decide_eq_true c3
   clear c3
   (first | rw [c3b0] | (simp only [i64_w, i32_w]; rw [c3b0]) | skip)
   have H' := am H
   clear H
   go_wp2
   go_meet
   case rel => exact ⟨_, (true), eqS, (by first | exact H' | (subst_vars; exact H')), ⟨by first | omega | exact Nat.le_refl _⟩, by repeat (first | exact Drawn0.refl _ | apply Drawn0.step)⟩
 case rest =>
   clear HC2
   obtain ⟨kq, x9_1, rfl, HA, HJ1, ⟨mc1, rfl⟩⟩ := hcut
   rcases kq with _ | kj1
   · exact absurd HA.out (by simp [zigguratref14_Prime.j0])
   have H := HA.out
   clear HA
   simp only [zigguratref14_Prime.j0] at H
   by_cases c4 : x9_1 = true
   · subst c4
     have H1 : (some false) = some r := by rw [if_pos rfl] at H; exact H
     clear H
     have H := H1
     clear H1
     obtain rfl := Option.some.inj H
     go_wp2
     go_ret
     exact ⟨eqS, dR⟩
   replace c4 := Bool.eq_false_iff.mpr c4
   subst c4
   have H1 : (zigguratref14_Prime.l0 kj1 a0 2) = some r := by rw [if_neg (show ¬ (false = true) by decide)] at H; exact H
   clear H
   have H := H1
   clear H1
   have H' := am H
   clear H
   go_wp2
   go_loopg [3] kj1 (fun kq v3 w' => ∃ (x3_2 : Int), v3 = .int .u32 x3_2 ∧ Aside0 (zigguratref14_Prime.l0 kq a0 x3_2 = some r) ∧ Aside0 (kq ≤ kj1) ∧ Drawn0 w w')
   case atStart => exact ⟨(2), eqS, H', ⟨Nat.le_refl _⟩, by repeat (first | exact Drawn0.refl _ | apply Drawn0.step)⟩
   clear H'
   obtain ⟨x3_2, rfl, HA, HK2, ⟨m2, rfl⟩⟩ := hrel
   rcases gk with _ | k2
   · exact absurd HA.out (by simp [zigguratref14_Prime.l0])
   have H := HA.out
   clear HA
   simp only [zigguratref14_Prime.l0] at H
   by_cases c5 : ((x3_2 * x3_2) % 4294967296) ≤ a0
   case neg =>
     rw [if_neg c5] at H
     have c5b0 : decide (((x3_2 * x3_2) % 4294967296) ≤ a0) = false := decide_eq_false c5
     clear c5
     obtain rfl := Option.some.inj H
     go_wp2
     go_ret
     exact ⟨eqS, dR⟩
   rw [if_pos c5] at H
   have c5b0 : decide (((x3_2 * x3_2) % 4294967296) ≤ a0) = true := decide_eq_true c5
   clear c5
   by_cases c6 : x3_2 = 0
   · rw [if_pos c6] at H
     exact absurd H (by simp)
   rw [if_neg c6] at H
   have c6b0 : (x3_2 == 0) = false := beq_eq_false_iff_ne.mpr c6
   have c6b1 : (x3_2 != 0) = true := bne_iff_ne.mpr c6
   by_cases c7 : (Int.tmod a0 x3_2) = 0
   · rw [if_pos c7] at H
     have c7b0 : ((Int.tmod a0 x3_2) == 0) = true := beq_iff_eq.mpr c7
     have c7b1 : ((Int.tmod a0 x3_2) != 0) = false := bne_eq_false_iff_eq.mpr c7
     clear c7
     obtain rfl := Option.some.inj H
     go_wp2
     go_ret
     exact ⟨eqS, dR⟩
   rw [if_neg c7] at H
   have c7b0 : ((Int.tmod a0 x3_2) == 0) = false := beq_eq_false_iff_ne.mpr c7
   have c7b1 : ((Int.tmod a0 x3_2) != 0) = true := bne_iff_ne.mpr c7
   have H' := am H
   clear H
   go_wp2
   go_roundg k2
   case measure => have := HJ1.out; have := HK2.out; omega
   case rel => exact ⟨((x3_2 + 1) % 4294967296), eqS, (by first | exact H' | (subst_vars; exact H')), ⟨by have := HJ1.out; have := HK2.out; omega⟩, by repeat (first | exact Drawn0.refl _ | apply Drawn0.step)⟩
def zigguratref14_Of.l0 : Nat → Int → Option (Int)
 | 0, _ => none
 | k + 1, x3 => if x3 > 2 then ((zigguratref14_Prime.f k x3).bind fun t375 => (if t375 = true then (some x3) else (zigguratref14_Of.l0 k ((x3 - 1) % 4294967296)))) else (some 2)
def zigguratref14_Of.f (k : Nat) (a0 : Int) : Option (Int) := zigguratref14_Of.l0 k (Int.tmod a0 65522)
theorem zigguratref14_Of.calls (k : Nat) (a0 : Int) (r : Int) (w : World) (h : zigguratref14_Of.f k a0 = some r) :
   Calls Tryd.prog 8 #[.int .u32 a0] w fun e w' => e = .returned (.int .u32 r) ∧ Drawn0 w w' := by
 have H := h; unfold zigguratref14_Of.f at H
 clear h
 have H' := am H
 clear H
 go_enter Tryd.func8, Tryd.ntmps8
 go_wp2
 go_loopg [3] k (fun kq v3 w' => ∃ (x3_1 : Int), v3 = .int .u32 x3_1 ∧ Aside0 (zigguratref14_Of.l0 kq x3_1 = some r) ∧ Aside0 (kq ≤ k) ∧ Drawn0 w w')
 case atStart => exact ⟨(Int.tmod a0 65522), eqS, H', ⟨Nat.le_refl _⟩, by repeat (first | exact Drawn0.refl _ | apply Drawn0.step)⟩
 clear H'
 obtain ⟨x3_1, rfl, HA, HK1, ⟨m1, rfl⟩⟩ := hrel
 rcases gk with _ | k1
 · exact absurd HA.out (by simp [zigguratref14_Of.l0])
 have H := HA.out
 clear HA
 simp only [zigguratref14_Of.l0] at H
 by_cases c2 : x3_1 > 2
 case neg =>
   rw [if_neg c2] at H
   have c2b0 : decide (2 < x3_1) = false := decide_eq_false c2
   clear c2
   obtain rfl := Option.some.inj H
   go_wp2
   go_ret
   exact ⟨eqS, dR⟩
 rw [if_pos c2] at H
 have c2b0 : decide (2 < x3_1) = true := decide_eq_true c2
 clear c2
 obtain ⟨t375, A30, H⟩ := Option.bind_eq_some_iff.mp H
 try dsimp only at H
 have A3 := am A30
 clear A30
 by_cases c4 : t375 = true
 · subst c4
   have H1 : (some x3_1) = some r := by rw [if_pos rfl] at H; exact H
   clear H
   have H := H1
   clear H1
   obtain rfl := Option.some.inj H
   go_wp2_with (first | ((with_reducible refine gate_callee (f := 29) rfl ?_); refine goesA (some 11) Tryd.func29 #[.int .u32 x3_1] ?_; (with_reducible refine (zigguratref14_Prime.calls k1 x3_1 true _ A3.out).mono ?_); rintro e w' ⟨rfl, ⟨nd, rfl⟩⟩; refine ⟨_, rfl, ?_⟩))
   go_ret
   exact ⟨eqS, dR⟩
 replace c4 := Bool.eq_false_iff.mpr c4
 subst c4
 have H1 : (zigguratref14_Of.l0 k1 ((x3_1 - 1) % 4294967296)) = some r := by rw [if_neg (show ¬ (false = true) by decide)] at H; exact H
 clear H
 have H := H1
 clear H1
 have H' := am H
 clear H
 go_wp2_with (first | ((with_reducible refine gate_callee (f := 29) rfl ?_); refine goesA (some 11) Tryd.func29 #[.int .u32 x3_1] ?_; (with_reducible refine (zigguratref14_Prime.calls k1 x3_1 false _ A3.out).mono ?_); rintro e w' ⟨rfl, ⟨nd, rfl⟩⟩; refine ⟨_, rfl, ?_⟩))
 go_roundg k1
 case measure => have := HK1.out; omega
 case rel => exact ⟨((x3_1 - 1) % 4294967296), eqS, (by first | exact H' | (subst_vars; exact H')), ⟨by have := HK1.out; omega⟩, by repeat (first | exact Drawn0.refl _ | apply Drawn0.step)⟩
def zigguratref14_trim.l0 : Nat → List Int → Int → Option (List Int)
 | 0, _, _ => none
 | k + 1, x0, x3 => if x3 > 0 then (if 0 ≤ (wrap64 (x3 - 1)) then (if (wrap64 (x3 - 1)) < (x0.length : Int) then (if (rd x0 (wrap64 (x3 - 1))) = 0 then (zigguratref14_trim.l0 k x0 (wrap64 (x3 - 1))) else (if 0 ≤ x3 then (if x3 ≤ (x0.length : Int) then (some (x0.take (x3 : Int).toNat)) else (none)) else (none))) else (none)) else (none)) else (if 0 ≤ x3 then (if x3 ≤ (x0.length : Int) then (some (x0.take (x3 : Int).toNat)) else (none)) else (none))
def zigguratref14_trim.f (k : Nat) (l0 : List Int) : Option (List Int) := zigguratref14_trim.l0 k l0 (l0.length : Int)
theorem zigguratref14_trim.calls (k : Nat) (P0_ : Nat → Prop) (u9000_ : Value) (l0 : List Int) (r : List Int) (w0 w : World) (hB : Below w0.heap.size w0 w) (ho0 : Kd.R (Kd.int .u32) 22 w w0.heap.size P0_ u9000_ l0) (h : zigguratref14_trim.f k l0 = some r) :
   Calls Tryd.prog 30 #[u9000_] w fun e w' => ∃ v0_ : Value, e = .returned (v0_) ∧ Kd.R (Kd.int .u32) 22 w' w0.heap.size (fun k_ => (P0_ k_ ∨ w.heap.size ≤ k_)) v0_ r ∧ Below w0.heap.size w0 w' ∧ Kept w w' (fun k_ => P0_ k_) := by
 have HO0 := am (show Kd.R (Kd.int .u32) 22 w w0.heap.size (fun k_ => (P0_ k_ ∨ w.heap.size ≤ k_)) u9000_ l0 from Kd.R_mono ho0 (fun k_ hk => (.inl hk)))
 have HK := am (Kept.refl w (fun k_ => P0_ k_))
 have HW0 := am hB.size
 have HB := am hB
 clear hB
 have H := h; unfold zigguratref14_trim.f at H
 clear h
 have H' := am H
 clear H
 obtain ⟨Ao2, co2, eo2⟩ := Kd.R_slice HO0.out
 subst eo2
 go_enter Tryd.func30, Tryd.ntmps30
 go_wp2
 go_loopg [3] k (fun kq v3 w' => ∃ (x3_1 : Int), v3 = .int .i64 x3_1 ∧ Aside0 (zigguratref14_trim.l0 kq l0 x3_1 = some r) ∧ Aside0 (kq ≤ k) ∧ Aside0 (Kd.R (Kd.int .u32) 22 w' w0.heap.size (fun k_ => (P0_ k_ ∨ w.heap.size ≤ k_)) (.slice Ao2 l0.length co2) l0) ∧ Aside0 (Kept w w' (fun k_ => P0_ k_)) ∧ Aside0 (Below w0.heap.size w0 w'))
 case atStart => exact ⟨((l0.length : Int)), eqS, H', ⟨Nat.le_refl _⟩, ⟨rR (HO0.out)⟩, ⟨by repeat (first | (with_reducible first | exact HK.out | apply Kept.alloc | apply Kept.drewN | apply Kept.drew) | exact HK.out)⟩, ⟨bB⟩⟩
 clear H'
 obtain ⟨x3_1, rfl, HA, HK1, HO_0, HK, HB⟩ := hrel
 rcases gk with _ | k1
 · exact absurd HA.out (by simp [zigguratref14_trim.l0])
 have H := HA.out
 clear HA
 simp only [zigguratref14_trim.l0] at H
 by_cases c3 : x3_1 > 0
 case neg =>
   rw [if_neg c3] at H
   have c3b0 : decide (0 < x3_1) = false := decide_eq_false c3
   clear c3
   by_cases c11 : 0 ≤ x3_1
   case neg => exact nn c11 H
   rw [if_pos c11] at H
   have c11b0 := eq_true c11
   have c11b1 : decide (0 ≤ x3_1) = true := decide_eq_true c11
   clear c11
   by_cases c12 : x3_1 ≤ (l0.length : Int)
   case neg => exact nn c12 H
   rw [if_pos c12] at H
   have c12b0 := eq_true c12
   have c12b1 : decide (x3_1 ≤ (l0.length : Int)) = true := decide_eq_true c12
   clear c12
   obtain ⟨y380, hy380⟩ : ∃ y_ : List Int, y_ = (l0.take (x3_1 : Int).toNat) := ⟨_, rfl⟩
   replace H : (some y380) = some r := by first | (rw [hy380]; exact H) | exact H
   have Ny380 := am hy380
   clear hy380
   obtain rfl := Option.some.inj H
   have q13 : (x3_1 : Int) ≤ ((l0.length : Int) : Int) := of_decide_eq_true as_
   obtain ⟨i013, hi013, _, hsz13, _⟩ := info_parts info22
   have hcut13 := cut_to (P := Tryd.prog) 23 22 .i64 Tryd.underlying23 hi013 Ao2 l0.length co2 x3_1 (of_decide_eq_true as_) q13 (Kd.R_reads' HO_0.out).2.1
   have hr13 := Kd.R_take (m := (x3_1 : Int).toNat) HO_0.out (by omega)
   have hy13 : y380.length = (x3_1 : Int).toNat := (by rw [Ny380.out, List.length_take]; omega)
   rw [← Ny380.out] at hr13
   rw [← hy13] at hr13 hcut13
   clear hy13 hi013 hsz13 HO_0
   have HO382 := am hr13
   clear hr13
   replace q13 := eq_true q13
   go_wp2
   go_ret
   exact ⟨_, eqR, rR (HO382.out), bB, by repeat (first | (with_reducible first | exact HK.out | apply Kept.alloc | apply Kept.drewN | apply Kept.drew) | exact HK.out)⟩
 rw [if_pos c3] at H
 have c3b0 : decide (0 < x3_1) = true := decide_eq_true c3
 clear c3
 obtain ⟨ji4, hji4⟩ : ∃ j_ : Int, (wrap64 (x3_1 - 1)) = j_ := ⟨_, rfl⟩
 replace H : (if 0 ≤ (ji4) then (if (ji4) < (l0.length : Int) then (if (rd l0 (ji4)) = 0 then (zigguratref14_trim.l0 k1 l0 ji4) else (if 0 ≤ x3_1 then (if x3_1 ≤ (l0.length : Int) then (some (l0.take (x3_1 : Int).toNat)) else (none)) else (none))) else (none)) else (none)) = some r := by first | (rw [hji4] at H; exact H) | (simp only [hji4] at H ⊢; exact H)
 have hji4w : (IntKind.i64.wrap (x3_1 - 1)) = ji4 := (i64_w _).trans hji4
 by_cases c5 : 0 ≤ (ji4)
 case neg => exact nn c5 H
 rw [if_pos c5] at H
 have c5b0 : decide (0 ≤ (ji4)) = true := decide_eq_true c5
 clear c5
 by_cases c6 : (ji4) < (l0.length : Int)
 case neg => exact nn c6 H
 rw [if_pos c6] at H
 have c6b0 : decide ((ji4) < (l0.length : Int)) = true := decide_eq_true c6
 clear c6
 by_cases c7 : (rd l0 (ji4)) = 0
 · rw [if_pos c7] at H
   have c7b0 : ((rd l0 (ji4)) == 0) = true := beq_iff_eq.mpr c7
   have c7b1 : ((rd l0 (ji4)) != 0) = false := bne_eq_false_iff_eq.mpr c7
   clear c7
   have H' := am H
   clear H
   have p376 : 0 ≤ ((ji4) : Int) := of_decide_eq_true as_
   have q376 : (ji4) < (l0.length : Int) := of_decide_eq_true as_
   obtain ⟨ad376, e376, hx376_0⟩ := Kd.at_int (Kd.R_reads' HO_0.out).2.2 (ji4) p376 q376
   cases e376
   replace p376 := eq_true p376
   replace q376 := eq_true q376
   go_wp2
   first | go_roundg k1 | (subst hji4; go_roundg k1)
   case measure => have := HK1.out; omega
   case rel => exact ⟨(ji4), (by first | rfl | (simp; done) | (simp only [← hji4] <;> (first | rfl | simp)) | (simp [*]; done)), (by first | exact H' | (subst_vars; exact H')), ⟨by have := HK1.out; omega⟩, ⟨rR (HO_0.out)⟩, ⟨by repeat (first | (with_reducible first | exact HK.out | apply Kept.alloc | apply Kept.drewN | apply Kept.drew) | exact HK.out)⟩, ⟨bB⟩⟩
 rw [if_neg c7] at H
 have c7b0 : ((rd l0 (ji4)) == 0) = false := beq_eq_false_iff_ne.mpr c7
 have c7b1 : ((rd l0 (ji4)) != 0) = true := bne_iff_ne.mpr c7
 by_cases c8 : 0 ≤ x3_1
 case neg => exact nn c8 H
 rw [if_pos c8] at H
 have c8b0 := eq_true c8
 have c8b1 : decide (0 ≤ x3_1) = true := decide_eq_true c8
 clear c8
 by_cases c9 : x3_1 ≤ (l0.length : Int)
 case neg => exact nn c9 H
 rw [if_pos c9] at H
 have c9b0 := eq_true c9
 have c9b1 : decide (x3_1 ≤ (l0.length : Int)) = true := decide_eq_true c9
 clear c9
 obtain ⟨y377, hy377⟩ : ∃ y_ : List Int, y_ = (l0.take (x3_1 : Int).toNat) := ⟨_, rfl⟩
 replace H : (some y377) = some r := by first | (rw [hy377]; exact H) | exact H
 have Ny377 := am hy377
 clear hy377
 obtain rfl := Option.some.inj H
 have p376 : 0 ≤ ((ji4) : Int) := of_decide_eq_true as_
 have q376 : (ji4) < (l0.length : Int) := of_decide_eq_true as_
 obtain ⟨ad376, e376, hx376_0⟩ := Kd.at_int (Kd.R_reads' HO_0.out).2.2 (ji4) p376 q376
 cases e376
 replace p376 := eq_true p376
 replace q376 := eq_true q376
 have q10 : (x3_1 : Int) ≤ ((l0.length : Int) : Int) := of_decide_eq_true as_
 obtain ⟨i010, hi010, _, hsz10, _⟩ := info_parts info22
 have hcut10 := cut_to (P := Tryd.prog) 23 22 .i64 Tryd.underlying23 hi010 (some ad376) l0.length co2 x3_1 (of_decide_eq_true as_) q10 (Kd.R_reads' HO_0.out).2.1
 have hr10 := Kd.R_take (m := (x3_1 : Int).toNat) HO_0.out (by omega)
 have hy10 : y377.length = (x3_1 : Int).toNat := (by rw [Ny377.out, List.length_take]; omega)
 rw [← Ny377.out] at hr10
 rw [← hy10] at hr10 hcut10
 clear hy10 hi010 hsz10 HO_0
 have HO379 := am hr10
 clear hr10
 replace q10 := eq_true q10
 go_wp2
 go_ret
 exact ⟨_, by first | rfl | (simp [errW_none, errW_some] <;> rfl) | (simp only [← hji4]; first | rfl | (simp [errW_none, errW_some] <;> rfl)) | (simp [*, errW_none, errW_some] <;> rfl), rR (HO379.out), bB, by repeat (first | (with_reducible first | exact HK.out | apply Kept.alloc | apply Kept.drewN | apply Kept.drew) | exact HK.out)⟩
def zigguratref14_Made.l0 : Nat → List Int → Int → Int → List Int → Int → Option (List Int)
 | 0, _, _, _, _, _ => none
 | k + 1, x0, x1, x2, x7, x8 => if x8 < (x0.length : Int) then (if x8 < x2 then (if 0 ≤ x8 then (if x1 = 0 then (none) else (if x7.length < 35184372088832 then (zigguratref14_Made.l0 k x0 x1 x2 (x7 ++ [Int.tmod (rd x0 x8) x1]) (wrap64 (x8 + 1))) else (none))) else (none)) else ((zigguratref14_trim.f k x7).bind fun t390 => (some t390))) else ((zigguratref14_trim.f k x7).bind fun t393 => (some t393))
def zigguratref14_Made.f (k : Nat) (l0 : List Int) (a1 : Int) (a2 : Int) : Option (List Int) := zigguratref14_Made.l0 k l0 a1 a2 (([] : List Int)) 0
theorem zigguratref14_Made.calls (k : Nat) (A0 : Option Addr) (c0 : Nat) (l0 : List Int) (a1 : Int) (a2 : Int) (r : List Int) (w : World) (hr0 : Kd.C (Kd.int .u32) w A0 l0.length l0) (hc0 : l0.length ≤ c0) (h : zigguratref14_Made.f k l0 a1 a2 = some r) :
   Calls Tryd.prog 9 #[.slice A0 l0.length c0, .int .u32 a1, .int .i64 a2] w fun e w' => ∃ v0_ : Value, e = .returned (v0_) ∧ Kd.R (Kd.int .u32) 22 w' w.heap.size (fun _ => True) v0_ r ∧ Below w.heap.size w w' := by
 have HR0 := am hr0
 have HC0 := am hc0
 clear hr0 hc0
 have HB := am (Below.refl w.heap.size w)
 have H := h; unfold zigguratref14_Made.f at H
 clear h
 obtain ⟨y383, hy383⟩ : ∃ y_ : List Int, y_ = (([] : List Int)) := ⟨_, rfl⟩
 replace H : (zigguratref14_Made.l0 k l0 a1 a2 y383 0) = some r := by first | (rw [hy383]; exact H) | exact H
 have Ny383 := am hy383
 clear hy383
 have H' := am H
 clear H
 go_enter Tryd.func9, Tryd.ntmps9
 go_wp2_with (first | ((with_reducible refine gate_dst (N := 9) rfl ?_); refine Kd.R_lit (Kd.int .u32) _ 22 rF (N := 9) rF (xs := ([] : List Int)) (inner := []) (ok := fun _ => True) (okp := fun _ => True) gF ?hp (fun _ hk => hk) trivial (Below.refl _ _) (Nat.le_refl _) (by simp) ?_; (case hp => exact (Reps.none _ _)); intro v384 w4 ho5 hb hg_ hnew_; clear hg_ hnew_; (first | rw [← Ny383.out] at ho5 | (simp only [Int.reduceToNat] at ho5; rw [← Ny383.out] at ho5)); have n0_ := am (Kd.R_lower ho5 (below_size bB)); have n1_ := am (below_step bB hb); clear HB; have HO385 := n0_; have HB := n1_; clear n0_ n1_; clear hb ho5))
 go_loopg [7, 8] k (fun kq v7 v8 w' => ∃ (x7_1 : List Int) (x8_1 : Int), v8 = .int .i64 x8_1 ∧ Aside0 (zigguratref14_Made.l0 kq l0 a1 a2 x7_1 x8_1 = some r) ∧ Aside0 (kq ≤ k) ∧ Aside0 (Kd.R (Kd.int .u32) 22 w' w.heap.size (fun _ => True) v7 x7_1) ∧ Aside0 (Below w.heap.size w w'))
 case atStart => exact ⟨(y383), (0), eqS, H', ⟨Nat.le_refl _⟩, ⟨rR (HO385.out)⟩, ⟨bB⟩⟩
 clear H'
 try clear p2
 obtain ⟨x7_1, x8_1, rfl, HA, HK1, HO_7, HB⟩ := hrel
 rcases gk with _ | k1
 · exact absurd HA.out (by simp [zigguratref14_Made.l0])
 have H := HA.out
 clear HA
 simp only [zigguratref14_Made.l0] at H
 by_cases c6 : x8_1 < (l0.length : Int)
 case neg =>
   rw [if_neg c6] at H
   have c6b0 : decide (x8_1 < (l0.length : Int)) = false := decide_eq_false c6
   clear c6
   obtain ⟨t393, A150, H⟩ := Option.bind_eq_some_iff.mp H
   replace H : (some t393) = some r := H
   have A15 := am A150
   clear A150
   obtain rfl := Option.some.inj H
   obtain ⟨Ao16, co16, eo16⟩ := Kd.R_slice HO_7.out
   subst eo16
   go_wp2_with (first | ((with_reducible refine gate_callee (f := 30) rfl ?_); refine goesA (some 31) Tryd.func30 #[.slice Ao16 x7_1.length co16] ?_; (with_reducible refine (zigguratref14_trim.calls k1 (fun k_ => some k_ = (.slice Ao16 x7_1.length co16 : Value).ownBlock) (.slice Ao16 x7_1.length co16) x7_1 t393 w _ ?side1 ?side2 A15.out).mono ?_); (case side1 => repeat (first | (with_reducible first | exact HB.out | apply below_alloc | apply pw_below_drewN | apply below_drew1) | exact HB.out)); (case side2 => exact Kd.R_tight rfl HO_7.out); rintro e w17 ⟨v394, rfl, ho0, hb, hkp⟩; refine ⟨_, rfl, ?_⟩; have n0_ := am (Kd.R_mono (ok' := fun k_ => True) ho0 (fun k_ hk_ => trivial)); have n1_ := am (hb); clear HB; clear HO_7; have HO395 := n0_; have HB := n1_; clear n0_ n1_; (try clear hb); (try clear hkp); (try clear ho0)))
   go_ret
   exact ⟨_, eqR, rR (HO395.out), bB⟩
 rw [if_pos c6] at H
 have c6b0 : decide (x8_1 < (l0.length : Int)) = true := decide_eq_true c6
 clear c6
 by_cases c7 : x8_1 < a2
 case neg =>
   rw [if_neg c7] at H
   have c7b0 : decide (x8_1 < a2) = false := decide_eq_false c7
   clear c7
   obtain ⟨t390, A120, H⟩ := Option.bind_eq_some_iff.mp H
   replace H : (some t390) = some r := H
   have A12 := am A120
   clear A120
   obtain rfl := Option.some.inj H
   obtain ⟨Ao13, co13, eo13⟩ := Kd.R_slice HO_7.out
   subst eo13
   go_wp2_with (first | ((with_reducible refine gate_callee (f := 30) rfl ?_); refine goesA (some 31) Tryd.func30 #[.slice Ao13 x7_1.length co13] ?_; (with_reducible refine (zigguratref14_trim.calls k1 (fun k_ => some k_ = (.slice Ao13 x7_1.length co13 : Value).ownBlock) (.slice Ao13 x7_1.length co13) x7_1 t390 w _ ?side1 ?side2 A12.out).mono ?_); (case side1 => repeat (first | (with_reducible first | exact HB.out | apply below_alloc | apply pw_below_drewN | apply below_drew1) | exact HB.out)); (case side2 => exact Kd.R_tight rfl HO_7.out); rintro e w14 ⟨v391, rfl, ho0, hb, hkp⟩; refine ⟨_, rfl, ?_⟩; have n0_ := am (Kd.R_mono (ok' := fun k_ => True) ho0 (fun k_ hk_ => trivial)); have n1_ := am (hb); clear HB; clear HO_7; have HO392 := n0_; have HB := n1_; clear n0_ n1_; (try clear hb); (try clear hkp); (try clear ho0)))
   go_ret
   exact ⟨_, eqR, rR (HO392.out), bB⟩
 rw [if_pos c7] at H
 have c7b0 : decide (x8_1 < a2) = true := decide_eq_true c7
 clear c7
 by_cases c8 : 0 ≤ x8_1
 case neg => exact nn c8 H
 rw [if_pos c8] at H
 have c8b0 : decide (0 ≤ x8_1) = true := decide_eq_true c8
 clear c8
 by_cases c9 : a1 = 0
 · rw [if_pos c9] at H
   exact absurd H (by simp)
 rw [if_neg c9] at H
 have c9b0 : (a1 == 0) = false := beq_eq_false_iff_ne.mpr c9
 have c9b1 : (a1 != 0) = true := bne_iff_ne.mpr c9
 by_cases c10 : x7_1.length < 35184372088832
 case neg => exact nn c10 H
 rw [if_pos c10] at H
 have LMc10 := am c10
 clear c10
 obtain ⟨y387, hy387⟩ : ∃ y_ : List Int, y_ = (x7_1 ++ [Int.tmod (rd l0 x8_1) a1]) := ⟨_, rfl⟩
 replace H : (zigguratref14_Made.l0 k1 l0 a1 a2 y387 (wrap64 (x8_1 + 1))) = some r := by first | (rw [hy387]; exact H) | exact H
 have Ny387 := am hy387
 clear hy387
 have H' := am H
 clear H
 have p386 : 0 ≤ (x8_1 : Int) := of_decide_eq_true as_
 have q386 : x8_1 < (l0.length : Int) := of_decide_eq_true as_
 obtain ⟨ad386, e386, hx386_0⟩ := Kd.at_int HR0.out x8_1 p386 q386
 cases e386
 replace hx386_0 := (HB.out.cell (World.block_lt_of_cell? w _ hx386_0)).trans hx386_0
 replace p386 := eq_true p386
 replace q386 := eq_true q386
 go_wp2_with (first | ((with_reducible refine gate_builtin (b := .append) (xs := #[.tmp 21, .tmp 28]) rfl ?_); at_builtin; refine Kd.R_append (Kd.int .u32) (w0 := w) w.heap.size rfl (.tmp 21) (.tmp 28) 23 22 (.int .u32 0) 4 rfl Tryd.underlying23 info22 rfl (by decide) (by omega) u7 x7_1 (Int.tmod (rd l0 x8_1) a1) [.int .u32 (Int.tmod (rd l0 x8_1) a1)] (fun _ => True) (fun _ => False) rfl rfl ?aP (fun _ hk => hk.elim) ?aF ?aO ?aB ?aS ?aL ?_; (case aP => exact rfl); (case aB => exact bB); (case aF => exact (fun _ _ => trivial)); (case aO => exact (rR HO_7.out)); (case aS => exact (below_size bB)); (case aL => have := LMc10.out; omega); intro v388 w11 ho hb hg hat; rw [← Ny387.out] at ho; have n0_ := am (hb); have n1_ := am (ho); clear HB; clear HO_7; have HB := n0_; have HO389 := n1_; clear n0_ n1_; clear ho hb hg hat))
 go_roundg k1
 case measure => have := HK1.out; omega
 case rel => exact ⟨(y387), (wrap64 (x8_1 + 1)), eqS, (by first | exact H' | (subst_vars; exact H')), ⟨by have := HK1.out; omega⟩, ⟨rR (HO389.out)⟩, ⟨bB⟩⟩
def zigguratref01_Made.f (k : Nat) (l0 : List Int) (a1 : Int) : Option (List Int) := if 0 ≤ (mn (l0.length : Int) a1) then (if (mn (l0.length : Int) a1) ≤ (l0.length : Int) then ((zigguratref01_Make.f k (l0.take ((mn (l0.length : Int) a1) : Int).toNat)).bind fun t428 => (some t428)) else (none)) else (none)
theorem zigguratref01_Made.calls (k : Nat) (A0 : Option Addr) (c0 : Nat) (l0 : List Int) (a1 : Int) (r : List Int) (w : World) (hr0 : Kd.C (Kd.int .u32) w A0 l0.length l0) (hc0 : l0.length ≤ c0) (h : zigguratref01_Made.f k l0 a1 = some r) :
   Calls Tryd.prog 19 #[.slice A0 l0.length c0, .int .i64 a1] w fun e w' => ∃ v0_ : Value, e = .returned (v0_) ∧ Kd.R (Kd.int .u32) 22 w' w.heap.size (fun _ => True) v0_ r ∧ Below w.heap.size w w' := by
 have HR0 := am hr0
 have HC0 := am hc0
 clear hr0 hc0
 have HB := am (Below.refl w.heap.size w)
 have H := h; unfold zigguratref01_Made.f at H
 clear h
 obtain ⟨ji3, hji3⟩ : ∃ j_ : Int, (mn (l0.length : Int) a1) = j_ := ⟨_, rfl⟩
 replace H : (if 0 ≤ (ji3) then (if (ji3) ≤ (l0.length : Int) then ((zigguratref01_Make.f k (l0.take ((ji3) : Int).toNat)).bind fun t428 => (some t428)) else (none)) else (none)) = some r := by first | (rw [hji3] at H; exact H) | (simp only [hji3] at H ⊢; exact H)
 have hji3_ : (if a1 < (l0.length : Int) then a1 else (l0.length : Int)) = ji3 := hji3
 have hji3n_ := hji3_
 (try simp only [Int.ofNat_lt] at hji3n_)
 by_cases c4 : 0 ≤ (ji3)
 case neg => exact nn c4 H
 rw [if_pos c4] at H
 have c4b0 := eq_true c4
 have c4b1 : decide (0 ≤ (ji3)) = true := decide_eq_true c4
 clear c4
 by_cases c5 : (ji3) ≤ (l0.length : Int)
 case neg => exact nn c5 H
 rw [if_pos c5] at H
 have c5b0 := eq_true c5
 have c5b1 : decide ((ji3) ≤ (l0.length : Int)) = true := decide_eq_true c5
 clear c5
 obtain ⟨t428, A60, H⟩ := Option.bind_eq_some_iff.mp H
 replace H : (some t428) = some r := H
 have A6 := am A60
 clear A60
 obtain rfl := Option.some.inj H
 obtain ⟨i07, hi07, _, hsz7, _⟩ := info_parts info22
 obtain ⟨hcut7, hA7, hC7⟩ := print_take_of (P := Tryd.prog) (Value.int .u32) 0 23 22 .i64 Tryd.underlying23 hi07 hsz7 A0 c0 l0 (ji3) (of_decide_eq_true as_) (of_decide_eq_true as_) HC0.out
 have HR427 := am (Kd.C_of_reads (h1 := fun _ => rfl) (hA7 _ (Kd.reads_of_C HR0.out)))
 have HC427 := am hC7
 clear hA7 hC7 hi07 hsz7
 go_enter Tryd.func19, Tryd.ntmps19
 go_wp2_with (first | ((with_reducible refine gate_callee (f := 39) rfl ?_); refine goesL_ (some 11) rfl rfl Tryd.func39 (by kernel_rfl) rfl #[.slice A0 (l0.take ((ji3) : Int).toNat).length c0] rfl (by (try simp only [List.map_toArray, List.map_cons, List.map_nil]); first | done | (rw [show (l0.take ((ji3) : Int).toNat).length = (ji3).toNat from (by rw [List.length_take]; have h_ : ((ji3) : Int) ≤ (l0.length : Int) := of_decide_eq_true as_; omega)] <;> rfl) | (simp only [hji3]; rfl) | rfl | (simp only [List.length_drop, List.length_take]; rfl)) ?_; (with_reducible refine (zigguratref01_Make.calls k _ _ (l0.take ((ji3) : Int).toNat) t428 _ ?side1 ?side2 A6.out).mono ?_); (case side1 => exact kC2 (HR427.out)); (case side2 => exact HC427.out); rintro e w8 ⟨v429, rfl, ho0, hb⟩; refine ⟨_, rfl, ?_⟩; have n0_ := am (Kd.R_lower ho0 (below_size bB)); have n1_ := am (below_step bB hb); clear HB; have HO430 := n0_; have HB := n1_; clear n0_ n1_; (try clear hb); (try clear hb2); (try clear hk); (try clear hi); (try clear ho0)))
 go_ret
 exact ⟨_, by first | rfl | (simp [errW_none, errW_some] <;> rfl) | (simp only [← hji3]; first | rfl | (simp [errW_none, errW_some] <;> rfl)) | (simp [*, errW_none, errW_some] <;> rfl), rR (HO430.out), bB⟩
def zigguratref01_limb.f (l0 : List Int) (a1 : Int) : Option (Int) := if a1 < 0 then (some 0) else (if a1 ≥ (l0.length : Int) then (some 0) else (if 0 ≤ a1 then (if a1 < (l0.length : Int) then (some (IntKind.u64.wrap (rd l0 a1))) else (none)) else (none)))
theorem zigguratref01_limb.calls (A0 : Option Addr) (c0 : Nat) (l0 : List Int) (a1 : Int) (r : Int) (w : World) (hr0 : Kd.C (Kd.int .u32) w A0 l0.length l0) (hc0 : l0.length ≤ c0) (h : zigguratref01_limb.f l0 a1 = some r) :
   Calls Tryd.prog 42 #[.slice A0 l0.length c0, .int .i64 a1] w fun e w' => e = .returned (.int .u64 r) ∧ Drawn0 w w' := by
 have HR0 := am hr0
 have HC0 := am hc0
 clear hr0 hc0
 have H := h; unfold zigguratref01_limb.f at H
 clear h
 by_cases c3 : a1 < 0
 · rw [if_pos c3] at H
   have c3b0 : decide (a1 < 0) = true := decide_eq_true c3
   clear c3
   obtain rfl := Option.some.inj H
   go_enter Tryd.func42, Tryd.ntmps42
   go_wp2
   go_ret
   exact ⟨eqS, dR⟩
 rw [if_neg c3] at H
 have c3b0 : decide (a1 < 0) = false := decide_eq_false c3
 clear c3
 by_cases c4 : a1 ≥ (l0.length : Int)
 · rw [if_pos c4] at H
   have c4b0 : decide ((l0.length : Int) ≤ a1) = true := decide_eq_true c4
   clear c4
   obtain rfl := Option.some.inj H
   go_enter Tryd.func42, Tryd.ntmps42
   go_wp2
   go_ret
   exact ⟨eqS, dR⟩
 rw [if_neg c4] at H
 have c4b0 : decide ((l0.length : Int) ≤ a1) = false := decide_eq_false c4
 clear c4
 by_cases c5 : 0 ≤ a1
 case neg => exact nn c5 H
 rw [if_pos c5] at H
 have c5b0 : decide (0 ≤ a1) = true := decide_eq_true c5
 clear c5
 by_cases c6 : a1 < (l0.length : Int)
 case neg => exact nn c6 H
 rw [if_pos c6] at H
 have c6b0 : decide (a1 < (l0.length : Int)) = true := decide_eq_true c6
 clear c6
 obtain rfl := Option.some.inj H
 have p431 : 0 ≤ (a1 : Int) := of_decide_eq_true as_
 have q431 : a1 < (l0.length : Int) := of_decide_eq_true as_
 obtain ⟨ad431, e431, hx431_0⟩ := Kd.at_int HR0.out a1 p431 q431
 cases e431
 replace p431 := eq_true p431
 replace q431 := eq_true q431
 go_enter Tryd.func42, Tryd.ntmps42
 go_wp2
 go_ret
 exact ⟨eqS, dR⟩
mutual
def zigguratref01_Add.l0 : Nat → List Int → List Int → List Int → Int → Int → Option (List Int)
 | 0, _, _, _, _, _ => none
 | k + 1, x0, x1, x5, x6, x7 => if x7 ≤ (x0.length : Int) then (zigguratref01_Add.j1 k x0 x1 x5 x6 x7 true) else (zigguratref01_Add.j1 k x0 x1 x5 x6 x7 (decide (x7 ≤ (x1.length : Int))))
def zigguratref01_Add.j1 : Nat → List Int → List Int → List Int → Int → Int → Bool → Option (List Int)
 | 0, _, _, _, _, _, _ => none
 | k + 1, x0, x1, x5, x6, x7, x19 => if x19 = true then ((zigguratref01_limb.f x0 x7).bind fun t435 => ((zigguratref01_limb.f x1 x7).bind fun t436 => (if x5.length < 35184372088832 then (zigguratref01_Add.l0 k x0 x1 (x5 ++ [(Int.tmod (IntKind.u64.wrap ((IntKind.u64.wrap (t435 + t436)) + x6)) 4294967296) % 4294967296]) (IntKind.u64.wrap (Int.tdiv (IntKind.u64.wrap ((IntKind.u64.wrap (t435 + t436)) + x6)) 4294967296)) (wrap64 (x7 + 1))) else (none)))) else ((zigguratref01_Make.f k x5).bind fun t440 => (some t440))
end
def zigguratref01_Add.f (k : Nat) (l0 : List Int) (l1 : List Int) : Option (List Int) := zigguratref01_Add.l0 k l0 l1 (([] : List Int)) 0 0
theorem zigguratref01_Add.calls (k : Nat) (A0 : Option Addr) (c0 : Nat) (l0 : List Int) (A1 : Option Addr) (c1 : Nat) (l1 : List Int) (r : List Int) (w : World) (hr0 : Kd.C (Kd.int .u32) w A0 l0.length l0) (hc0 : l0.length ≤ c0) (hr1 : Kd.C (Kd.int .u32) w A1 l1.length l1) (hc1 : l1.length ≤ c1) (h : zigguratref01_Add.f k l0 l1 = some r) :
   Calls Tryd.prog 21 #[.slice A0 l0.length c0, .slice A1 l1.length c1] w fun e w' => ∃ v0_ : Value, e = .returned (v0_) ∧ Kd.R (Kd.int .u32) 22 w' w.heap.size (fun _ => True) v0_ r ∧ Below w.heap.size w w' := by
 have HR0 := am hr0
 have HC0 := am hc0
 clear hr0 hc0
 have HR1 := am hr1
 have HC1 := am hc1
 clear hr1 hc1
 have HB := am (Below.refl w.heap.size w)
 have H := h; unfold zigguratref01_Add.f at H
 clear h
 obtain ⟨y432, hy432⟩ : ∃ y_ : List Int, y_ = (([] : List Int)) := ⟨_, rfl⟩
 replace H : (zigguratref01_Add.l0 k l0 l1 y432 0 0) = some r := by first | (rw [hy432]; exact H) | exact H
 have Ny432 := am hy432
 clear hy432
 have H' := am H
 clear H
 go_enter Tryd.func21, Tryd.ntmps21
 go_wp2_with (first | ((with_reducible refine gate_dst (N := 9) rfl ?_); (try (refine gate_guard (by rfl) ?_; dsimp only)); refine Kd.R_lit (Kd.int .u32) _ 22 rF (N := 9) rF (xs := ([] : List Int)) (inner := []) (ok := fun _ => True) (okp := fun _ => True) gF ?hp (fun _ hk => hk) trivial (Below.refl _ _) (Nat.le_refl _) (by simp) ?_; (case hp => exact (Reps.none _ _)); intro v433 w3 ho4 hb hg_ hnew_; clear hg_ hnew_; (first | rw [← Ny432.out] at ho4 | (simp only [Int.reduceToNat] at ho4; rw [← Ny432.out] at ho4)); have n0_ := am (Kd.R_lower ho4 (below_size bB)); have n1_ := am (below_step bB hb); clear HB; have HO434 := n0_; have HB := n1_; clear n0_ n1_; clear hb ho4))
 go_loopg [5, 6, 7] k (fun kq v5 v6 v7 w' => ∃ (x5_1 : List Int) (x6_1 : Int) (x7_1 : Int), v6 = .int .u64 x6_1 ∧ v7 = .int .i64 x7_1 ∧ Aside0 (zigguratref01_Add.l0 kq l0 l1 x5_1 x6_1 x7_1 = some r) ∧ Aside0 (kq ≤ k) ∧ Aside0 (Kd.R (Kd.int .u32) 22 w' w.heap.size (fun _ => True) v5 x5_1) ∧ Aside0 (Below w.heap.size w w'))
 case atStart => exact ⟨(y432), (0), (0), eqS, eqS, H', ⟨Nat.le_refl _⟩, ⟨rR (HO434.out)⟩, ⟨bB⟩⟩
 clear H'
 (try clear c1); (try clear c2); (try clear p2)
 obtain ⟨x5_1, x6_1, x7_1, rfl, rfl, HA, HK1, HO_5, HB⟩ := hrel
 rcases gk with _ | k1
 · exact absurd HA.out (by simp [zigguratref01_Add.l0])
 have H := HA.out
 clear HA
 simp only [zigguratref01_Add.l0] at H
 have HC5 := am H
 clear H
 go_upto_region 3 with (fail)
 go_cut [19] (fun v19 wc => ∃ (kq : Nat) (x19_4 : Bool), v19 = .bool x19_4 ∧ Aside0 (zigguratref01_Add.j1 kq l0 l1 x5_1 x6_1 x7_1 x19_4 = some r) ∧ Aside0 (kq ≤ k1) ∧ Aside0 (Kd.R (Kd.int .u32) 22 wc w.heap.size (fun _ => True) u5 x5_1) ∧ Aside0 (Below w.heap.size w wc))
 case first =>
   have H := HC5.out
   clear HC5
   by_cases c6 : x7_1 ≤ (l0.length : Int)
   case neg =>
     rw [if_neg c6] at H
     have c6b0 : decide (x7_1 ≤ (l0.length : Int)) = false := decide_eq_false c6
     clear c6
     (first | rw [c6b0] | (simp only [i64_w, i32_w]; rw [c6b0]) | skip)
     have H' := am H
     clear H
     go_wp2
     go_meet
     case rel => exact ⟨_, (decide (x7_1 ≤ (l1.length : Int))), eqS, (by first | exact H' | (subst_vars; exact H')), ⟨by have := HK1.out; first | omega | exact Nat.le_refl _⟩, ⟨rR (HO_5.out)⟩, ⟨bB⟩⟩
   rw [if_pos c6] at H
   have c6b0 : decide (x7_1 ≤ (l0.length : Int)) = true := decide_eq_true c6
   clear c6
   (first | rw [c6b0] | (simp only [i64_w, i32_w]; rw [c6b0]) | skip)
   have H' := am H
   clear H
   go_wp2
   go_meet
   case rel => exact ⟨_, (true), eqS, (by first | exact H' | (subst_vars; exact H')), ⟨by have := HK1.out; first | omega | exact Nat.le_refl _⟩, ⟨rR (HO_5.out)⟩, ⟨bB⟩⟩
 case rest =>
   clear HC5
   (try clear c1); (try clear c2); (try clear p2); (try clear c6); (try clear c6b0); (try clear p2)
   obtain ⟨kq, x19_4, rfl, HA, HJ4, HO_5, HB⟩ := hcut
   rcases kq with _ | kj4
   · exact absurd HA.out (by simp [zigguratref01_Add.j1])
   have H := HA.out
   clear HA
   simp only [zigguratref01_Add.j1] at H
   by_cases c7 : x19_4 = true
   case neg =>
     replace c7 := Bool.eq_false_iff.mpr c7
     subst c7
     have H1 : ((zigguratref01_Make.f kj4 x5_1).bind fun t440 => (some t440)) = some r := by rw [if_neg (show ¬ (false = true) by decide)] at H; exact H
     clear H
     have H := H1
     clear H1
     obtain ⟨t440, A120, H⟩ := Option.bind_eq_some_iff.mp H
     replace H : (some t440) = some r := H
     have A12 := am A120
     clear A120
     obtain rfl := Option.some.inj H
     obtain ⟨Ao13, co13, eo13⟩ := Kd.R_slice HO_5.out
     subst eo13
     go_wp2_with (first | ((with_reducible refine gate_callee (f := 39) rfl ?_); refine goesA (some 40) Tryd.func39 #[.slice Ao13 x5_1.length co13] ?_; (with_reducible refine (zigguratref01_Make.calls kj4 _ _ x5_1 t440 _ ?side1 ?side2 A12.out).mono ?_); (case side1 => exact kC2 ((Kd.R_reads' HO_5.out).2.2)); (case side2 => exact (Kd.R_reads' HO_5.out).2.1); rintro e w14 ⟨v441, rfl, ho0, hb⟩; refine ⟨_, rfl, ?_⟩; have n0_ := am (Kd.R_elder' (rR HO_5.out) (Kd.R_base ho0) hb); have n1_ := am (Kd.R_lower (Kd.R_new' ho0 (Kd.R_lt (rR HO_5.out))) (below_size bB)); have n2_ := am (below_step bB hb); clear HO_5; clear HB; have HO_5 := n0_; have HO442 := n1_; have HB := n2_; clear n0_ n1_ n2_; (try clear hb); (try clear hb2); (try clear hk); (try clear hi); (try clear ho0)))
     go_ret
     exact ⟨_, eqR, by (with_reducible repeat (first | apply Kd.R_alloc | apply Kd.R_drewN | apply Kd.R_drew)); exact Kd.R_mono HO442.out (fun _ hk => trivial), bB⟩
   subst c7
   have H1 : ((zigguratref01_limb.f l0 x7_1).bind fun t435 => ((zigguratref01_limb.f l1 x7_1).bind fun t436 => (if x5_1.length < 35184372088832 then (zigguratref01_Add.l0 kj4 l0 l1 (x5_1 ++ [(Int.tmod (IntKind.u64.wrap ((IntKind.u64.wrap (t435 + t436)) + x6_1)) 4294967296) % 4294967296]) (IntKind.u64.wrap (Int.tdiv (IntKind.u64.wrap ((IntKind.u64.wrap (t435 + t436)) + x6_1)) 4294967296)) (wrap64 (x7_1 + 1))) else (none)))) = some r := by rw [if_pos rfl] at H; exact H
   clear H
   have H := H1
   clear H1
   obtain ⟨t435, A80, H⟩ := Option.bind_eq_some_iff.mp H
   try dsimp only at H
   have A8 := am A80
   clear A80
   obtain ⟨t436, A90, H⟩ := Option.bind_eq_some_iff.mp H
   try dsimp only at H
   have A9 := am A90
   clear A90
   by_cases c10 : x5_1.length < 35184372088832
   case neg => exact nn c10 H
   rw [if_pos c10] at H
   have LMc10 := am c10
   clear c10
   obtain ⟨y437, hy437⟩ : ∃ y_ : List Int, y_ = (x5_1 ++ [(Int.tmod (IntKind.u64.wrap ((IntKind.u64.wrap (t435 + t436)) + x6_1)) 4294967296) % 4294967296]) := ⟨_, rfl⟩
   replace H : (zigguratref01_Add.l0 kj4 l0 l1 y437 (IntKind.u64.wrap (Int.tdiv (IntKind.u64.wrap ((IntKind.u64.wrap (t435 + t436)) + x6_1)) 4294967296)) (wrap64 (x7_1 + 1))) = some r := by first | (rw [hy437]; exact H) | exact H
   have Ny437 := am hy437
   clear hy437
   have H' := am H
   clear H
   go_wp2_with (first | ((with_reducible refine gate_callee (f := 42) rfl ?_); refine goesA (some 24) Tryd.func42 #[.slice A0 l0.length c0, .int .i64 x7_1] ?_; (with_reducible refine (zigguratref01_limb.calls _ _ l0 x7_1 t435 _ ?side1 ?side2 A8.out).mono ?_); (case side1 => exact kC2 ((Kd.C_below HR0.out HB.out))); (case side2 => exact HC0.out); rintro e w' ⟨rfl, ⟨nd, rfl⟩⟩; refine ⟨_, rfl, ?_⟩) | ((with_reducible refine gate_callee (f := 42) rfl ?_); refine goesA (some 27) Tryd.func42 #[.slice A1 l1.length c1, .int .i64 x7_1] ?_; (with_reducible refine (zigguratref01_limb.calls _ _ l1 x7_1 t436 _ ?side1 ?side2 A9.out).mono ?_); (case side1 => exact kC2 ((Kd.C_below HR1.out bB))); (case side2 => exact HC1.out); rintro e w' ⟨rfl, ⟨nd, rfl⟩⟩; refine ⟨_, rfl, ?_⟩) | ((with_reducible refine gate_builtin (b := .append) (xs := #[.tmp 31, .tmp 35]) rfl ?_); (try (refine gate_guard (by rfl) ?_; dsimp only)); at_builtin; refine Kd.R_append (Kd.int .u32) (w0 := w) w.heap.size rfl (.tmp 31) (.tmp 35) 23 22 (.int .u32 0) 4 rfl Tryd.underlying23 info22 rfl (by decide) (by omega) u5 x5_1 ((Int.tmod (IntKind.u64.wrap ((IntKind.u64.wrap (t435 + t436)) + x6_1)) 4294967296) % 4294967296) [.int .u32 ((Int.tmod (IntKind.u64.wrap ((IntKind.u64.wrap (t435 + t436)) + x6_1)) 4294967296) % 4294967296)] (fun _ => True) (fun _ => False) rfl rfl ?aP (fun _ hk => hk.elim) ?aF ?aO ?aB ?aS ?aL ?_; (case aP => exact rfl); (case aB => exact bB); (case aF => exact (fun _ _ => trivial)); (case aO => exact (rR HO_5.out)); (case aS => exact (below_size bB)); (case aL => have := LMc10.out; omega); intro v438 w11 ho hb hg hat; rw [← Ny437.out] at ho; have n0_ := am (hb); have n1_ := am (ho); clear HB; clear HO_5; have HB := n0_; have HO439 := n1_; clear n0_ n1_; clear ho hb hg hat))
   go_roundg kj4
   case measure => have := HK1.out; have := HJ4.out; omega
   case rel => exact ⟨(y437), (IntKind.u64.wrap (Int.tdiv (IntKind.u64.wrap ((IntKind.u64.wrap (t435 + t436)) + x6_1)) 4294967296)), (wrap64 (x7_1 + 1)), eqS, eqS, (by first | exact H' | (subst_vars; exact H')), ⟨by have := HK1.out; have := HJ4.out; omega⟩, ⟨rR (HO439.out)⟩, ⟨bB⟩⟩
def cmp_isNaN_int.f (a0 : Int) : Option (Bool) := some (a0 != a0)
theorem cmp_isNaN_int.calls (a0 : Int) (r : Bool) (w : World) (h : cmp_isNaN_int.f a0 = some r) :
   Calls Tryd.prog 63 #[.int .i64 a0] w fun e w' => e = .returned (.bool r) ∧ Drawn0 w w' := by
 have H := h; unfold cmp_isNaN_int.f at H
 clear h
 obtain rfl := Option.some.inj H
 go_enter Tryd.func63, Tryd.ntmps63
 go_wp2
 go_ret
 exact ⟨eqS, dR⟩
def cmp_Compare_int.f (a0 : Int) (a1 : Int) : Option (Int) := (cmp_isNaN_int.f a0).bind fun t101 => ((cmp_isNaN_int.f a1).bind fun t102 => (if t101 = true then (if t102 = true then (some 0) else (some (-1))) else (if t102 = true then (some 1) else (if a0 < a1 then (some (-1)) else (if a0 > a1 then (some 1) else (some 0))))))
theorem cmp_Compare_int.calls (a0 : Int) (a1 : Int) (r : Int) (w : World) (h : cmp_Compare_int.f a0 a1 = some r) :
   Calls Tryd.prog 49 #[.int .i64 a0, .int .i64 a1] w fun e w' => e = .returned (.int .i64 r) ∧ Drawn0 w w' := by
 have H := h; unfold cmp_Compare_int.f at H
 clear h
 obtain ⟨t101, A30, H⟩ := Option.bind_eq_some_iff.mp H
 try dsimp only at H
 have A3 := am A30
 clear A30
 obtain ⟨t102, A40, H⟩ := Option.bind_eq_some_iff.mp H
 try dsimp only at H
 have A4 := am A40
 clear A40
 by_cases c5 : t101 = true
 · subst c5
   have H1 : (if t102 = true then (some 0) else (some (-1))) = some r := by rw [if_pos rfl] at H; exact H
   clear H
   have H := H1
   clear H1
   by_cases c6 : t102 = true
   · subst c6
     have H1 : (some 0) = some r := by rw [if_pos rfl] at H; exact H
     clear H
     have H := H1
     clear H1
     obtain rfl := Option.some.inj H
     go_enter Tryd.func49, Tryd.ntmps49
     go_wp2_with (first | ((with_reducible refine gate_callee (f := 63) rfl ?_); refine goesA (some 8) Tryd.func63 #[.int .i64 a0] ?_; (with_reducible refine (cmp_isNaN_int.calls a0 true _ A3.out).mono ?_); rintro e w' ⟨rfl, ⟨nd, rfl⟩⟩; refine ⟨_, rfl, ?_⟩) | ((with_reducible refine gate_callee (f := 63) rfl ?_); refine goesA (some 10) Tryd.func63 #[.int .i64 a1] ?_; (with_reducible refine (cmp_isNaN_int.calls a1 true _ A4.out).mono ?_); rintro e w' ⟨rfl, ⟨nd, rfl⟩⟩; refine ⟨_, rfl, ?_⟩))
     go_ret
     exact ⟨eqS, dR⟩
   replace c6 := Bool.eq_false_iff.mpr c6
   subst c6
   have H1 : (some (-1)) = some r := by rw [if_neg (show ¬ (false = true) by decide)] at H; exact H
   clear H
   have H := H1
   clear H1
   obtain rfl := Option.some.inj H
   go_enter Tryd.func49, Tryd.ntmps49
   go_wp2_with (first | ((with_reducible refine gate_callee (f := 63) rfl ?_); refine goesA (some 8) Tryd.func63 #[.int .i64 a0] ?_; (with_reducible refine (cmp_isNaN_int.calls a0 true _ A3.out).mono ?_); rintro e w' ⟨rfl, ⟨nd, rfl⟩⟩; refine ⟨_, rfl, ?_⟩) | ((with_reducible refine gate_callee (f := 63) rfl ?_); refine goesA (some 10) Tryd.func63 #[.int .i64 a1] ?_; (with_reducible refine (cmp_isNaN_int.calls a1 false _ A4.out).mono ?_); rintro e w' ⟨rfl, ⟨nd, rfl⟩⟩; refine ⟨_, rfl, ?_⟩))
   go_ret
   exact ⟨eqS, dR⟩
 replace c5 := Bool.eq_false_iff.mpr c5
 subst c5
 have H1 : (if t102 = true then (some 1) else (if a0 < a1 then (some (-1)) else (if a0 > a1 then (some 1) else (some 0)))) = some r := by rw [if_neg (show ¬ (false = true) by decide)] at H; exact H
 clear H
 have H := H1
 clear H1
 by_cases c7 : t102 = true
 · subst c7
   have H1 : (some 1) = some r := by rw [if_pos rfl] at H; exact H
   clear H
   have H := H1
   clear H1
   obtain rfl := Option.some.inj H
   go_enter Tryd.func49, Tryd.ntmps49
   go_wp2_with (first | ((with_reducible refine gate_callee (f := 63) rfl ?_); refine goesA (some 8) Tryd.func63 #[.int .i64 a0] ?_; (with_reducible refine (cmp_isNaN_int.calls a0 false _ A3.out).mono ?_); rintro e w' ⟨rfl, ⟨nd, rfl⟩⟩; refine ⟨_, rfl, ?_⟩) | ((with_reducible refine gate_callee (f := 63) rfl ?_); refine goesA (some 10) Tryd.func63 #[.int .i64 a1] ?_; (with_reducible refine (cmp_isNaN_int.calls a1 true _ A4.out).mono ?_); rintro e w' ⟨rfl, ⟨nd, rfl⟩⟩; refine ⟨_, rfl, ?_⟩))
   go_ret
   exact ⟨eqS, dR⟩
 replace c7 := Bool.eq_false_iff.mpr c7
 subst c7
 have H1 : (if a0 < a1 then (some (-1)) else (if a0 > a1 then (some 1) else (some 0))) = some r := by rw [if_neg (show ¬ (false = true) by decide)] at H; exact H
 clear H
 have H := H1
 clear H1
 by_cases c8 : a0 < a1
 · rw [if_pos c8] at H
   have c8b0 : decide (a0 < a1) = true := decide_eq_true c8
   clear c8
   obtain rfl := Option.some.inj H
   go_enter Tryd.func49, Tryd.ntmps49
   go_wp2_with (first | ((with_reducible refine gate_callee (f := 63) rfl ?_); refine goesA (some 8) Tryd.func63 #[.int .i64 a0] ?_; (with_reducible refine (cmp_isNaN_int.calls a0 false _ A3.out).mono ?_); rintro e w' ⟨rfl, ⟨nd, rfl⟩⟩; refine ⟨_, rfl, ?_⟩) | ((with_reducible refine gate_callee (f := 63) rfl ?_); refine goesA (some 10) Tryd.func63 #[.int .i64 a1] ?_; (with_reducible refine (cmp_isNaN_int.calls a1 false _ A4.out).mono ?_); rintro e w' ⟨rfl, ⟨nd, rfl⟩⟩; refine ⟨_, rfl, ?_⟩))
   go_ret
   exact ⟨eqS, dR⟩
 rw [if_neg c8] at H
 have c8b0 : decide (a0 < a1) = false := decide_eq_false c8
 clear c8
 by_cases c9 : a0 > a1
 case neg =>
   rw [if_neg c9] at H
   have c9b0 : decide (a1 < a0) = false := decide_eq_false c9
   clear c9
   obtain rfl := Option.some.inj H
   go_enter Tryd.func49, Tryd.ntmps49
   go_wp2_with (first | ((with_reducible refine gate_callee (f := 63) rfl ?_); refine goesA (some 8) Tryd.func63 #[.int .i64 a0] ?_; (with_reducible refine (cmp_isNaN_int.calls a0 false _ A3.out).mono ?_); rintro e w' ⟨rfl, ⟨nd, rfl⟩⟩; refine ⟨_, rfl, ?_⟩) | ((with_reducible refine gate_callee (f := 63) rfl ?_); refine goesA (some 10) Tryd.func63 #[.int .i64 a1] ?_; (with_reducible refine (cmp_isNaN_int.calls a1 false _ A4.out).mono ?_); rintro e w' ⟨rfl, ⟨nd, rfl⟩⟩; refine ⟨_, rfl, ?_⟩))
   go_ret
   exact ⟨eqS, dR⟩
 rw [if_pos c9] at H
 have c9b0 : decide (a1 < a0) = true := decide_eq_true c9
 clear c9
 obtain rfl := Option.some.inj H
 go_enter Tryd.func49, Tryd.ntmps49
 go_wp2_with (first | ((with_reducible refine gate_callee (f := 63) rfl ?_); refine goesA (some 8) Tryd.func63 #[.int .i64 a0] ?_; (with_reducible refine (cmp_isNaN_int.calls a0 false _ A3.out).mono ?_); rintro e w' ⟨rfl, ⟨nd, rfl⟩⟩; refine ⟨_, rfl, ?_⟩) | ((with_reducible refine gate_callee (f := 63) rfl ?_); refine goesA (some 10) Tryd.func63 #[.int .i64 a1] ?_; (with_reducible refine (cmp_isNaN_int.calls a1 false _ A4.out).mono ?_); rintro e w' ⟨rfl, ⟨nd, rfl⟩⟩; refine ⟨_, rfl, ?_⟩))
 go_ret
 exact ⟨eqS, dR⟩
def cmp_isNaN_uint32.f (a0 : Int) : Option (Bool) := some (a0 != a0)
theorem cmp_isNaN_uint32.calls (a0 : Int) (r : Bool) (w : World) (h : cmp_isNaN_uint32.f a0 = some r) :
   Calls Tryd.prog 80 #[.int .u32 a0] w fun e w' => e = .returned (.bool r) ∧ Drawn0 w w' := by
 have H := h; unfold cmp_isNaN_uint32.f at H
 clear h
 obtain rfl := Option.some.inj H
 go_enter Tryd.func80, Tryd.ntmps80
 go_wp2
 go_ret
 exact ⟨eqS, dR⟩
def cmp_Compare_uint32.f (a0 : Int) (a1 : Int) : Option (Int) := (cmp_isNaN_uint32.f a0).bind fun t103 => ((cmp_isNaN_uint32.f a1).bind fun t104 => (if t103 = true then (if t104 = true then (some 0) else (some (-1))) else (if t104 = true then (some 1) else (if a0 < a1 then (some (-1)) else (if a0 > a1 then (some 1) else (some 0))))))
theorem cmp_Compare_uint32.calls (a0 : Int) (a1 : Int) (r : Int) (w : World) (h : cmp_Compare_uint32.f a0 a1 = some r) :
   Calls Tryd.prog 64 #[.int .u32 a0, .int .u32 a1] w fun e w' => e = .returned (.int .i64 r) ∧ Drawn0 w w' := by
 have H := h; unfold cmp_Compare_uint32.f at H
 clear h
 obtain ⟨t103, A30, H⟩ := Option.bind_eq_some_iff.mp H
 try dsimp only at H
 have A3 := am A30
 clear A30
 obtain ⟨t104, A40, H⟩ := Option.bind_eq_some_iff.mp H
 try dsimp only at H
 have A4 := am A40
 clear A40
 by_cases c5 : t103 = true
 · subst c5
   have H1 : (if t104 = true then (some 0) else (some (-1))) = some r := by rw [if_pos rfl] at H; exact H
   clear H
   have H := H1
   clear H1
   by_cases c6 : t104 = true
   · subst c6
     have H1 : (some 0) = some r := by rw [if_pos rfl] at H; exact H
     clear H
     have H := H1
     clear H1
     obtain rfl := Option.some.inj H
     go_enter Tryd.func64, Tryd.ntmps64
     go_wp2_with (first | ((with_reducible refine gate_callee (f := 80) rfl ?_); refine goesA (some 8) Tryd.func80 #[.int .u32 a0] ?_; (with_reducible refine (cmp_isNaN_uint32.calls a0 true _ A3.out).mono ?_); rintro e w' ⟨rfl, ⟨nd, rfl⟩⟩; refine ⟨_, rfl, ?_⟩) | ((with_reducible refine gate_callee (f := 80) rfl ?_); refine goesA (some 10) Tryd.func80 #[.int .u32 a1] ?_; (with_reducible refine (cmp_isNaN_uint32.calls a1 true _ A4.out).mono ?_); rintro e w' ⟨rfl, ⟨nd, rfl⟩⟩; refine ⟨_, rfl, ?_⟩))
     go_ret
     exact ⟨eqS, dR⟩
   replace c6 := Bool.eq_false_iff.mpr c6
   subst c6
   have H1 : (some (-1)) = some r := by rw [if_neg (show ¬ (false = true) by decide)] at H; exact H
   clear H
   have H := H1
   clear H1
   obtain rfl := Option.some.inj H
   go_enter Tryd.func64, Tryd.ntmps64
   go_wp2_with (first | ((with_reducible refine gate_callee (f := 80) rfl ?_); refine goesA (some 8) Tryd.func80 #[.int .u32 a0] ?_; (with_reducible refine (cmp_isNaN_uint32.calls a0 true _ A3.out).mono ?_); rintro e w' ⟨rfl, ⟨nd, rfl⟩⟩; refine ⟨_, rfl, ?_⟩) | ((with_reducible refine gate_callee (f := 80) rfl ?_); refine goesA (some 10) Tryd.func80 #[.int .u32 a1] ?_; (with_reducible refine (cmp_isNaN_uint32.calls a1 false _ A4.out).mono ?_); rintro e w' ⟨rfl, ⟨nd, rfl⟩⟩; refine ⟨_, rfl, ?_⟩))
   go_ret
   exact ⟨eqS, dR⟩
 replace c5 := Bool.eq_false_iff.mpr c5
 subst c5
 have H1 : (if t104 = true then (some 1) else (if a0 < a1 then (some (-1)) else (if a0 > a1 then (some 1) else (some 0)))) = some r := by rw [if_neg (show ¬ (false = true) by decide)] at H; exact H
 clear H
 have H := H1
 clear H1
 by_cases c7 : t104 = true
 · subst c7
   have H1 : (some 1) = some r := by rw [if_pos rfl] at H; exact H
   clear H
   have H := H1
   clear H1
   obtain rfl := Option.some.inj H
   go_enter Tryd.func64, Tryd.ntmps64
   go_wp2_with (first | ((with_reducible refine gate_callee (f := 80) rfl ?_); refine goesA (some 8) Tryd.func80 #[.int .u32 a0] ?_; (with_reducible refine (cmp_isNaN_uint32.calls a0 false _ A3.out).mono ?_); rintro e w' ⟨rfl, ⟨nd, rfl⟩⟩; refine ⟨_, rfl, ?_⟩) | ((with_reducible refine gate_callee (f := 80) rfl ?_); refine goesA (some 10) Tryd.func80 #[.int .u32 a1] ?_; (with_reducible refine (cmp_isNaN_uint32.calls a1 true _ A4.out).mono ?_); rintro e w' ⟨rfl, ⟨nd, rfl⟩⟩; refine ⟨_, rfl, ?_⟩))
   go_ret
   exact ⟨eqS, dR⟩
 replace c7 := Bool.eq_false_iff.mpr c7
 subst c7
 have H1 : (if a0 < a1 then (some (-1)) else (if a0 > a1 then (some 1) else (some 0))) = some r := by rw [if_neg (show ¬ (false = true) by decide)] at H; exact H
 clear H
 have H := H1
 clear H1
 by_cases c8 : a0 < a1
 · rw [if_pos c8] at H
   have c8b0 : decide (a0 < a1) = true := decide_eq_true c8
   clear c8
   obtain rfl := Option.some.inj H
   go_enter Tryd.func64, Tryd.ntmps64
   go_wp2_with (first | ((with_reducible refine gate_callee (f := 80) rfl ?_); refine goesA (some 8) Tryd.func80 #[.int .u32 a0] ?_; (with_reducible refine (cmp_isNaN_uint32.calls a0 false _ A3.out).mono ?_); rintro e w' ⟨rfl, ⟨nd, rfl⟩⟩; refine ⟨_, rfl, ?_⟩) | ((with_reducible refine gate_callee (f := 80) rfl ?_); refine goesA (some 10) Tryd.func80 #[.int .u32 a1] ?_; (with_reducible refine (cmp_isNaN_uint32.calls a1 false _ A4.out).mono ?_); rintro e w' ⟨rfl, ⟨nd, rfl⟩⟩; refine ⟨_, rfl, ?_⟩))
   go_ret
   exact ⟨eqS, dR⟩
 rw [if_neg c8] at H
 have c8b0 : decide (a0 < a1) = false := decide_eq_false c8
 clear c8
 by_cases c9 : a0 > a1
 case neg =>
   rw [if_neg c9] at H
   have c9b0 : decide (a1 < a0) = false := decide_eq_false c9
   clear c9
   obtain rfl := Option.some.inj H
   go_enter Tryd.func64, Tryd.ntmps64
   go_wp2_with (first | ((with_reducible refine gate_callee (f := 80) rfl ?_); refine goesA (some 8) Tryd.func80 #[.int .u32 a0] ?_; (with_reducible refine (cmp_isNaN_uint32.calls a0 false _ A3.out).mono ?_); rintro e w' ⟨rfl, ⟨nd, rfl⟩⟩; refine ⟨_, rfl, ?_⟩) | ((with_reducible refine gate_callee (f := 80) rfl ?_); refine goesA (some 10) Tryd.func80 #[.int .u32 a1] ?_; (with_reducible refine (cmp_isNaN_uint32.calls a1 false _ A4.out).mono ?_); rintro e w' ⟨rfl, ⟨nd, rfl⟩⟩; refine ⟨_, rfl, ?_⟩))
   go_ret
   exact ⟨eqS, dR⟩
 rw [if_pos c9] at H
 have c9b0 : decide (a1 < a0) = true := decide_eq_true c9
 clear c9
 obtain rfl := Option.some.inj H
 go_enter Tryd.func64, Tryd.ntmps64
 go_wp2_with (first | ((with_reducible refine gate_callee (f := 80) rfl ?_); refine goesA (some 8) Tryd.func80 #[.int .u32 a0] ?_; (with_reducible refine (cmp_isNaN_uint32.calls a0 false _ A3.out).mono ?_); rintro e w' ⟨rfl, ⟨nd, rfl⟩⟩; refine ⟨_, rfl, ?_⟩) | ((with_reducible refine gate_callee (f := 80) rfl ?_); refine goesA (some 10) Tryd.func80 #[.int .u32 a1] ?_; (with_reducible refine (cmp_isNaN_uint32.calls a1 false _ A4.out).mono ?_); rintro e w' ⟨rfl, ⟨nd, rfl⟩⟩; refine ⟨_, rfl, ?_⟩))
 go_ret
 exact ⟨eqS, dR⟩
def slices_Compare_uint32_uint32.l0 : Nat → List Int → List Int → List Int → Int → Int → Option (Int)
 | 0, _, _, _, _, _ => none
 | k + 1, x0, x1, x9, x10, x11 => if x11 < x10 then (if 0 ≤ x11 then (if x11 < (x9.length : Int) then (if x11 ≥ (x1.length : Int) then (some 1) else (if x11 < (x1.length : Int) then ((cmp_Compare_uint32.f (rd x9 x11) (rd x1 x11)).bind fun t107 => (if t107 = 0 then (slices_Compare_uint32_uint32.l0 k x0 x1 x9 x10 (wrap64 (x11 + 1))) else (some t107))) else (none))) else (none)) else (none)) else (if (x0.length : Int) < (x1.length : Int) then (some (-1)) else (some 0))
def slices_Compare_uint32_uint32.f (k : Nat) (l0 : List Int) (l1 : List Int) : Option (Int) := slices_Compare_uint32_uint32.l0 k l0 l1 l0 (l0.length : Int) 0
theorem slices_Compare_uint32_uint32.calls (k : Nat) (A0 : Option Addr) (c0 : Nat) (l0 : List Int) (A1 : Option Addr) (c1 : Nat) (l1 : List Int) (r : Int) (w : World) (hr0 : Kd.C (Kd.int .u32) w A0 l0.length l0) (hc0 : l0.length ≤ c0) (hr1 : Kd.C (Kd.int .u32) w A1 l1.length l1) (hc1 : l1.length ≤ c1) (h : slices_Compare_uint32_uint32.f k l0 l1 = some r) :
   Calls Tryd.prog 50 #[.slice A0 l0.length c0, .slice A1 l1.length c1] w fun e w' => e = .returned (.int .i64 r) ∧ Drawn0 w w' := by
 have HR0 := am hr0
 have HC0 := am hc0
 clear hr0 hc0
 have HR1 := am hr1
 have HC1 := am hc1
 clear hr1 hc1
 have H := h; unfold slices_Compare_uint32_uint32.f at H
 clear h
 have H' := am H
 clear H
 go_enter Tryd.func50, Tryd.ntmps50
 go_wp2
 go_loopg [11] k (fun kq v11 w' => ∃ (x11_1 : Int), v11 = .int .i64 x11_1 ∧ Aside0 (slices_Compare_uint32_uint32.l0 kq l0 l1 l0 (l0.length : Int) x11_1 = some r) ∧ Aside0 (kq ≤ k) ∧ Drawn0 w w')
 case atStart => exact ⟨(0), eqS, H', ⟨Nat.le_refl _⟩, by repeat (first | exact Drawn0.refl _ | apply Drawn0.step)⟩
 clear H'
 (try clear c1); (try clear p2)
 obtain ⟨x11_1, rfl, HA, HK1, ⟨m1, rfl⟩⟩ := hrel
 rcases gk with _ | k1
 · exact absurd HA.out (by simp [slices_Compare_uint32_uint32.l0])
 have H := HA.out
 clear HA
 simp only [slices_Compare_uint32_uint32.l0] at H
 by_cases c3 : x11_1 < (l0.length : Int)
 case neg =>
   rw [if_neg c3] at H
   have c3b0 : decide (x11_1 < (l0.length : Int)) = false := decide_eq_false c3
   clear c3
   by_cases c10 : (l0.length : Int) < (l1.length : Int)
   case neg =>
     rw [if_neg c10] at H
     have c10b0 : decide ((l0.length : Int) < (l1.length : Int)) = false := decide_eq_false c10
     have c10b1 : decide (l0.length < l1.length) = false := decide_eq_false (fun h => c10 (Int.ofNat_lt.mpr h))
     clear c10
     obtain rfl := Option.some.inj H
     go_wp2
     go_ret
     exact ⟨eqS, dR⟩
   rw [if_pos c10] at H
   have c10b0 : decide ((l0.length : Int) < (l1.length : Int)) = true := decide_eq_true c10
   have c10b1 : decide (l0.length < l1.length) = true := decide_eq_true (Int.ofNat_lt.mp c10)
   clear c10
   obtain rfl := Option.some.inj H
   go_wp2
   go_ret
   exact ⟨eqS, dR⟩
 rw [if_pos c3] at H
 have c3b0 : decide (x11_1 < (l0.length : Int)) = true := decide_eq_true c3
 clear c3
 by_cases c4 : 0 ≤ x11_1
 case neg => exact nn c4 H
 rw [if_pos c4] at H
 have c4b0 : decide (0 ≤ x11_1) = true := decide_eq_true c4
 clear c4
 by_cases c5 : x11_1 < (l0.length : Int)
 case neg => exact nn c5 H
 rw [if_pos c5] at H
 have c5b0 : decide (x11_1 < (l0.length : Int)) = true := decide_eq_true c5
 clear c5
 by_cases c6 : x11_1 ≥ (l1.length : Int)
 · rw [if_pos c6] at H
   have c6b0 : decide ((l1.length : Int) ≤ x11_1) = true := decide_eq_true c6
   clear c6
   obtain rfl := Option.some.inj H
   have p105 : 0 ≤ (x11_1 : Int) := of_decide_eq_true as_
   have q105 : x11_1 < (l0.length : Int) := of_decide_eq_true as_
   obtain ⟨ad105, e105, hx105_0⟩ := Kd.at_int HR0.out x11_1 p105 q105
   cases e105
   replace p105 := eq_true p105
   replace q105 := eq_true q105
   go_wp2
   go_ret
   exact ⟨eqS, dR⟩
 rw [if_neg c6] at H
 have c6b0 : decide ((l1.length : Int) ≤ x11_1) = false := decide_eq_false c6
 clear c6
 by_cases c7 : x11_1 < (l1.length : Int)
 case neg => exact nn c7 H
 rw [if_pos c7] at H
 have c7b0 : decide (x11_1 < (l1.length : Int)) = true := decide_eq_true c7
 clear c7
 obtain ⟨t107, A80, H⟩ := Option.bind_eq_some_iff.mp H
 try dsimp only at H
 have A8 := am A80
 clear A80
 by_cases c9 : t107 = 0
 case neg =>
   rw [if_neg c9] at H
   have c9b0 : (t107 == 0) = false := beq_eq_false_iff_ne.mpr c9
   have c9b1 : (t107 != 0) = true := bne_iff_ne.mpr c9
   obtain rfl := Option.some.inj H
   have p105 : 0 ≤ (x11_1 : Int) := of_decide_eq_true as_
   have q105 : x11_1 < (l0.length : Int) := of_decide_eq_true as_
   obtain ⟨ad105, e105, hx105_0⟩ := Kd.at_int HR0.out x11_1 p105 q105
   cases e105
   replace p105 := eq_true p105
   replace q105 := eq_true q105
   have p106 : 0 ≤ (x11_1 : Int) := of_decide_eq_true as_
   have q106 : x11_1 < (l1.length : Int) := of_decide_eq_true as_
   obtain ⟨ad106, e106, hx106_0⟩ := Kd.at_int HR1.out x11_1 p106 q106
   cases e106
   replace p106 := eq_true p106
   replace q106 := eq_true q106
   go_wp2_with (first | ((with_reducible refine gate_callee (f := 64) rfl ?_); refine goesA (some 26) Tryd.func64 #[.int .u32 (rd l0 x11_1), .int .u32 (rd l1 x11_1)] ?_; (with_reducible refine (cmp_Compare_uint32.calls (rd l0 x11_1) (rd l1 x11_1) t107 _ A8.out).mono ?_); rintro e w' ⟨rfl, ⟨nd, rfl⟩⟩; refine ⟨_, rfl, ?_⟩))
   go_ret
   exact ⟨eqS, dR⟩
 rw [if_pos c9] at H
 have c9b0 : (t107 == 0) = true := beq_iff_eq.mpr c9
 have c9b1 : (t107 != 0) = false := bne_eq_false_iff_eq.mpr c9
 clear c9
 have H' := am H
 clear H
 have p105 : 0 ≤ (x11_1 : Int) := of_decide_eq_true as_
 have q105 : x11_1 < (l0.length : Int) := of_decide_eq_true as_
 obtain ⟨ad105, e105, hx105_0⟩ := Kd.at_int HR0.out x11_1 p105 q105
 cases e105
 replace p105 := eq_true p105
 replace q105 := eq_true q105
 have p106 : 0 ≤ (x11_1 : Int) := of_decide_eq_true as_
 have q106 : x11_1 < (l1.length : Int) := of_decide_eq_true as_
 obtain ⟨ad106, e106, hx106_0⟩ := Kd.at_int HR1.out x11_1 p106 q106
 cases e106
 replace p106 := eq_true p106
 replace q106 := eq_true q106
 go_wp2_with (first | ((with_reducible refine gate_callee (f := 64) rfl ?_); refine goesA (some 26) Tryd.func64 #[.int .u32 (rd l0 x11_1), .int .u32 (rd l1 x11_1)] ?_; (with_reducible refine (cmp_Compare_uint32.calls (rd l0 x11_1) (rd l1 x11_1) t107 _ A8.out).mono ?_); rintro e w' ⟨rfl, ⟨nd, rfl⟩⟩; refine ⟨_, rfl, ?_⟩))
 go_roundg k1
 case measure => have := HK1.out; omega
 case rel => exact ⟨(wrap64 (x11_1 + 1)), eqS, (by first | exact H' | (subst_vars; exact H')), ⟨by have := HK1.out; omega⟩, by repeat (first | exact Drawn0.refl _ | apply Drawn0.step)⟩
end Go.Proofs.YtofbpjpdahcghaaDoor.Q
