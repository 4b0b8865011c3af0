/-
  store.Sum's table, by hand: the array's block is known whole.
-/
import Derived.Test.YtkeegknadegaaaaDoorProg
import Derived.Test.YtkeegknadegaaaaDoorSCore
import Derived.WalkKit
import Derived.Outline
import Derived.Below
import Derived.Laws.Rows
import Derived.Laws.Tables
import Derived.Lib.Hide
namespace Go.Proofs.YtkeegknadegaaaaDoor.Q
open Go.RowKit Go.Proofs.YtkeegknadegaaaaDoor.S
set_option linter.unusedVariables false
set_option linter.unusedSimpArgs false

def zs66 : Array Value := Array.replicate 256 (.int .u32 0)
theorem zeroValue66 (w : World) : (zeroValue 66).run Tryd.prog w = .ok (.agg zs66) w := by kernel_rfl
theorem zs66_size : zs66.size = 256 := by simp [zs66]
theorem zs66_ne : zs66 ≠ #[] := by intro h; have := congrArg Array.size h; simp [zs66_size] at this
theorem info66 : (Tryd.prog.info? 66).map (·.size) = some 256 := by kernel_rfl

/-- The table when i entries are made. -/
def tabArr (i : Nat) : Array Value := Array.ofFn fun j : Fin 256 => if j.1 < i then .int .u32 ((tabB j.1).toNat : Int) else .int .u32 0
theorem tabArr_size (i : Nat) : (tabArr i).size = 256 := by simp [tabArr]
theorem tabArr_zero : tabArr 0 = zs66 := by
  apply Array.ext
  · simp [tabArr_size, zs66_size]
  · intro i h1 h2; simp [tabArr, zs66]
theorem tabArr_succ (i : Nat) (h : i < 256) : (tabArr i).setIfInBounds i (.int .u32 ((tabB i).toNat : Int)) = tabArr (i + 1) := by
  apply Array.ext
  · simp [tabArr_size]
  · intro j h1 h2
    rw [Array.getElem_setIfInBounds (by simpa using h1)]
    simp only [tabArr, Array.getElem_ofFn]
    by_cases e : i = j
    · subst e; simp
    · rw [if_neg e]
      by_cases hj : j < i
      · rw [if_pos hj, if_pos (by omega)]
      · rw [if_neg hj, if_neg (by omega)]
theorem tabArr_get (i : Nat) (h : i < 256) : (tabArr 256)[i]? = some (.int .u32 ((tabB i).toNat : Int)) := by
  rw [Array.getElem?_eq_getElem (by rw [tabArr_size]; exact h)]
  simp [tabArr, h]
theorem tabArr_old (i j : Nat) (h : j < 256) : ∃ v, (tabArr i)[j]? = some v := ⟨_, Array.getElem?_eq_getElem (by rw [tabArr_size]; exact h)⟩
theorem tabArr_all : (tabArr 256).all (·.oneCell') = true := by
  rw [Array.all_eq_true]
  intro i hi
  simp only [tabArr, Array.getElem_ofFn]
  split <;> rfl

/-- What a round keeps: the result's block, the table's block, and all that was. -/
structure TabInv (w wr : World) (i : Nat) : Prop where
  b0 : wr.heap[w.heap.size]? = some (.cells zs66 66 (0, 0))
  b1 : wr.heap[w.heap.size + 1]? = some (.cells (tabArr i) 66 (0, 0))
  sz : wr.heap.size = w.heap.size + 2
  bel : Below w.heap.size w wr

theorem TabInv.start (w : World) : TabInv w ((w.alloc (.cells zs66 66)).alloc (.cells zs66 66)) 0 :=
  ⟨heap_alloc2_old _ _ _, by rw [tabArr_zero]; exact heap_alloc2_new _ _ _, by simp, ((Below.refl _ _).alloc (Nat.le_refl _) _).alloc (by simp) _⟩
theorem TabInv.step {w wr : World} {i : Nat} (h : TabInv w wr i) (hi : i < 256) : TabInv w (wr.setCell ⟨w.heap.size + 1, i, none⟩ (.int .u32 ((tabB i).toNat : Int))) (i + 1) := by
  refine ⟨?_, ?_, ?_, h.bel.setCell (by simp) _⟩
  · rw [heap_setCell_other _ _ _ _ (by simp)]; exact h.b0
  · rw [heap_setCell_same _ _ _ _ _ _ h.b1, tabArr_succ i hi]
  · simp [h.sz]

theorem below_setRow {B g : Nat} {a w : World} (h : Below B a w) (hg : B ≤ g) (cs : Array Value) : Below B a (w.setRow g cs) :=
  ⟨h.os, h.tape, h.output, by simpa [World.setRow] using h.size, fun k hk => by rw [setRow_other _ _ _ _ (by omega)]; exact h.block k hk⟩

set_option maxHeartbeats 2000000 in
set_option maxRecDepth 100000 in
theorem table_calls (w : World) : Calls Tryd.prog 30 #[] w fun e w' => e = .returned (.agg (tabArr 256)) ∧ Below w.heap.size w w' := by
  have hz := zeroValue66
  have hne := zs66_ne
  have hsz := zs66_size
  go_enter Tryd.func30, Tryd.ntmps30
  go_wp2
  clear hz hne hsz
  go_loopw [4] (fun t wr => ∃ i : Nat, i ≤ 256 ∧ t = .int .i64 i ∧ Hid (TabInv w wr i)) (fun t _ => 256 - (intOf t).toNat)
  case atStart => exact ⟨0, by omega, rfl, TabInv.start w⟩
  case round =>
    obtain ⟨i, hi, rfl, HT⟩ := hrel
    by_cases hlt : i < 256
    · obtain ⟨ov, ho⟩ := tabArr_old i i hlt
      have hc : wr.cell? ⟨w.heap.size + 1, i, none⟩ = some ov := (cell_of_row _ _ _ _ _ _ HT.out.b1).trans ho
      have hf : wr.frozen? ⟨w.heap.size + 1, i, none⟩ = false := frozen_of_row _ _ _ _ _ HT.out.b1
      have HC := Lib.hid hc
      have HF := Lib.hid hf
      clear ho hc hf
      go_wp2
      go_loop [3, 9] (fun c j => ∃ k : Nat, k ≤ 8 ∧ j = .int .i64 k ∧ c = .int .u32 ((stepN k (BitVec.ofNat 32 i)).toNat : Int)) (fun _ j => 8 - (intOf j).toNat)
      case atStart => exact ⟨0, by omega, rfl, by rw [show ((stepN 0 (BitVec.ofNat 32 i)).toNat : Int) = i by simp [stepN]; omega]⟩
      case round =>
        obtain ⟨k, hk, rfl, rfl⟩ := hrel
        by_cases hk8 : k < 8
        · have hb := (stepN k (BitVec.ofNat 32 i)).isLt
          have hs := step_int (stepN k (BitVec.ofNat 32 i))
          have HS := Lib.hid hs
          clear hs
          go_wp2
          go_round
          case rel => exact ⟨k + 1, by omega, by go_num, by rw [HS.out]; rfl⟩
          case measure => simp [intOf]; omega
        · obtain rfl : k = 8 := by omega
          have hc := HC.out
          have hf := HF.out
          go_wp2
          go_roundw
          case rel => exact ⟨i + 1, by omega, by go_num, HT.out.step hlt⟩
          case measure => simp [intOf]; omega
    · obtain rfl : i = 256 := by omega
      have h0 := Lib.hid HT.out.b0
      have h1 := Lib.hid HT.out.b1
      go_wp2_with (first | (refine wpList_load_row rfl 66 (.tmp 1) rfl (w.heap.size + 1) rfl 66 (tabArr 256) (0, 0) _ h1.out Tryd.underlying66 rfl (by rw [tabArr_size]; exact info66) ?_) | (refine wpList_store_row rfl 66 (.tmp 0) (.tmp 22) rfl w.heap.size (tabArr 256) rfl rfl 66 zs66 h0.out (by rw [tabArr_size]; exact info66) (by rw [tabArr_size, zs66_size]) tabArr_all ?_))
      refine bodyPost_ret (v := .agg (tabArr 256)) (results_cell_row Tryd.results30 _ _ w.heap.size 66 (tabArr 256) (0, 0) _ rfl (setRow_heap _ _ _ _ _ _ h0.out) Tryd.underlying66 rfl (by rw [tabArr_size]; exact info66)) rfl ⟨rfl, below_setRow HT.out.bel (Nat.le_refl _) _⟩
end Go.Proofs.YtkeegknadegaaaaDoor.Q
