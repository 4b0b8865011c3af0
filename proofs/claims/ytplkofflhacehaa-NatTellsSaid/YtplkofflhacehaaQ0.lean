-- Written by a program of this session (a patched print) for this claim; Lean checks it.
import Derived.Test.YtplkofflhacehaaProg
import Derived.Below
import Derived.Deep.Draws
import Derived.Deep.AppendLies
import Derived.Maps.AppendAt
import Derived.OwnWalk
import Derived.Laws.BytesArg
import Derived.Laws.MakeOwn
import Derived.Laws.OwnMore
import Derived.Deep.OwnRows
import Derived.Tactics
import Derived.Lib.ConvBytes
import Derived.Laws.Slices
import Derived.WalkKit
import Derived.KernelRfl
import Derived.RowKit3
import Derived.Deep.LoopGhost
import Derived.Deep.QuietTactic
import Derived.BigQuiet
import Derived.WideLaws
import Derived.Deep.DeepCutAuto
import Derived.Deep.CutBlock
import Derived.Deep.RegionHeld3
import Derived.Laws.Rows
import Derived.Lib.AppendStr
import Derived.ArgAppend
import Derived.Laws.IdiomCopy
import Derived.OrdersHeld
import Derived.Laws.BitsLemmas
import Derived.RowKit
import Derived.Test.YtplkofflhacehaaWWords
import Derived.Test.YtplkofflhacehaaWLast
import Derived.Test.YtplkofflhacehaaWTab
import Derived.Test.YtplkofflhacehaaWFour
import Derived.Test.YtplkofflhacehaaWQPut
import Derived.Test.YtplkofflhacehaaWApart
import Derived.Test.YtplkofflhacehaaWArr
import Derived.Test.YtplkofflhacehaaWZeros
import Derived.Test.YtplkofflhacehaaWFoot
import Derived.Test.YtplkofflhacehaaWKept
import Derived.Test.YtplkofflhacehaaWShare
import Derived.Test.YtplkofflhacehaaWN
import Derived.Test.YtplkofflhacehaaWFootNe
import Derived.Test.YtplkofflhacehaaWAt
import Derived.Test.YtplkofflhacehaaWEqStruct
import Derived.Test.YtplkofflhacehaaWRepsOne
import Derived.Test.YtplkofflhacehaaWInv
import Derived.Test.YtplkofflhacehaaWInvWords
import Derived.Test.YtplkofflhacehaaWGuard
import Derived.Test.YtplkofflhacehaaWNEv
import Derived.Test.YtplkofflhacehaaWMore
namespace Go.Proofs.Ytplkofflhacehaa.Q
open Go.RowKit Go.Proofs.YtplkofflhacehaaW.PrintWords Go.Proofs.YtplkofflhacehaaW.PrintLast Go.Proofs.YtplkofflhacehaaW.PrintMore
attribute [local go_sem] max2_int min2_int max_two min_two max_three min_three max_four min_four   -- for this text's walks alone
set_option linter.unusedVariables false
set_option linter.unusedSimpArgs false



def errW : Option Int → Value
  | none => .nilIface
  | some c => .iface 0 (.int .i64 c)
theorem errW_none : errW none = .nilIface := rfl
theorem errW_some (c : Int) : errW (some c) = .iface 0 (.int .i64 c) := rfl

theorem info37 : (Try.prog.info? 37).map (fun i => (i.zero, i.size, i.bytes)) = some (some (.int .u32 0), 1, 4) := by kernel_rfl
-- the values' own types

theorem C_len_ {α : Type} {d : Kd α} {w : World} {A : Option Addr} {n m : Nat} {xs : List α} (h : n = m) (hc : Kd.C d w A n xs) : Kd.C d w A m xs := h ▸ hc
theorem made_take (zs : Array Value) (n c : Nat) (h : n ≤ c) : (madeCells zs c).toList.take n = (madeCells zs n).toList := by
  apply List.ext_getElem
  · simp [madeCells]
    omega
  · intro i h1 h2
    simp [madeCells]
section
variable {P : Program} {ops : Array Oper} {rest : List Oper} {o : Oper} {a : Act} {Q : Exit → Act → World → Prop} {α : Type}
/-- make([]T, n, c): n elements z0, of a room for c. -/
theorem R_make2_ (d : Kd α) {w0 W : World} (base e : Nat) (hgd : o.guard = none) {N : Tmp} (hd : o.dst = some N) (t : TypeId) (x y : Operand) (ho : o.op = .makeSlice t x y) (n c : Int) (hx : a.eval x = .int .i64 n) (hy : a.eval y = .int .i64 c)
    (ht : P.underlying t = some (.slice e)) (z : Value) (bytes : Nat) (hinfo : (P.info? e).map (fun i => (i.zero, i.size, i.bytes)) = some (some z, d.sz, bytes)) (hz : z.cells.size = d.sz) (hs0 : 0 < d.sz) (hb0 : 0 < bytes)
    (z0 : α) {ok okp : Nat → Prop} (hzero : d.M W base okp z0 z.cells.toList) (hok : ∀ k, okp k → ok k) (hfresh : ok W.heap.size) (h0 : 0 ≤ n) (hnc : n ≤ c) (hl : c.toNat * bytes ≤ 281474976710656) (HB : Below base w0 W) (hbase : base ≤ W.heap.size)
    (h : ∀ v1 w1, d.R e w1 base ok v1 (List.replicate n.toNat z0) → Below base w0 w1 → W.grownBy w1 none → (∃ b, v1.ownBlock = some b ∧ W.heap.size ≤ b) → wpList P ops Q rest (a.put o.dst v1) w1) : wpList P ops Q (o :: rest) a W := by
  obtain ⟨m, rfl⟩ := Int.eq_ofNat_of_zero_le h0
  obtain ⟨k, rfl⟩ := Int.eq_ofNat_of_zero_le (Int.le_trans h0 hnc)
  simp only [Int.toNat_natCast] at hl h
  obtain ⟨i0, hi, hzz⟩ := Option.map_eq_some_iff.1 hinfo
  simp only [Prod.mk.injEq] at hzz
  obtain ⟨hz0, hz1, hz2⟩ := hzz
  have hmk : m ≤ k := by omega
  have hm : k ≤ 281474976710656 := Nat.le_trans (Nat.le_mul_of_pos_right _ hb0) hl
  have hr := run_make (P := P) W t e i0 z ht hi hz0 .i64 .i64 (m : Int) (k : Int) (by omega) (by omega)
    (by
      have h3 : ((i0.bytes * k : Nat) : Int) ≤ 281474976710656 := by rw [hz2, Nat.mul_comm]; omega
      rwa [Int.natCast_mul] at h3) (by omega)
  simp only [Int.toNat_natCast] at hr
  rw [hz1] at hr
  have hrep := Kd.reps_made (R := d.M W base okp) hz hs0 hzero m
  refine Kd.event_run hgd (w1 := W.alloc (.cells (madeCells z.cells (k * d.sz)) e)) (v := .slice (some ⟨W.heap.size, 0, none⟩) m k) (by simp [execOp, ho, hx, hy, hr]) (h _ _ ⟨fun b hk => ?_, (madeCells z.cells (m * d.sz)).toList, ?_, ?_⟩ (HB.alloc hbase _) (World.grownBy_alloc W _ none) ⟨W.heap.size, by simp [Value.ownBlock], Nat.le_refl _⟩)
  · have : W.heap.size = b := by simpa [Value.ownBlock] using hk
    subst this
    exact hfresh
  · have hl : (List.replicate m z0).length = m := List.length_replicate
    rw [hl]
    refine ⟨by simp [size_madeCells], .inr ⟨W.heap.size, k, madeCells z.cells (k * d.sz), rfl, hbase, heap_alloc_new W _, hmk, by simp only [maxLen]; omega, size_madeCells _ _, made_take _ _ _ (Nat.mul_le_mul_right _ hmk)⟩⟩
  · refine hrep.imp_ (fun p cs hp => d.M_mono (fun b hk => ⟨hok b hk.1, fun he => ?_⟩) (Kd.M_below (d.M_bound hp) (below_alloc (Below.refl _ _) _)))
    have h3 : b = W.heap.size := by simpa [Value.ownBlock] using he
    have := hk.2.2.1
    omega
end

end Go.Proofs.Ytplkofflhacehaa.Q
