/-
  []byte of a constant text: the literal's row, and the conversion to its own type behind it, which marks the row.
-/
import Derived.Test.YtkeegknadegaaaaDoorQ0
import Derived.Lib.SlBytesConst
namespace Go.Proofs.YtkeegknadegaaaaDoor.Q
open Go.RowKit Go.Proofs.YtkeegknadegaaaaDoorW.PrintWords
variable {P : Program} {ops : Array Oper} {o o2 : Oper} {rest : List Oper} {a : Act} {Q : Exit → Act → World → Prop}
theorem C_cells {w : World} {g e : Nat} {fr : Nat × Nat} {xs : List Int} (h : w.heap[g]? = some (.cells (xs.map (Value.int .u8)).toArray e fr)) (hl : xs.length ≤ 9223372036854775807) : Kd.C (Kd.int .u8) w (some ⟨g, 0, none⟩) xs.length xs := by
  refine ⟨rfl, hl, fun _ => ⟨_, rfl, fun j p hj => ⟨[.int .u8 p], rfl, rfl, fun i u hi => ?_⟩⟩⟩
  cases i with
  | succ i => simp at hi
  | zero =>
    simp only [List.getElem?_cons_zero, Option.some.injEq] at hi
    subst hi
    have hz : (Kd.int IntKind.u8).sz = 1 := rfl
    simp only [hz, Nat.mul_one, Nat.add_zero]
    have ea : (⟨g, 0, none⟩ : Addr).add j = ⟨g, j, none⟩ := by
      rcases Nat.eq_zero_or_pos j with rfl | hp
      · simp [Addr.add]
      · simp [Addr.add, Nat.ne_of_gt hp]
    rw [ea]
    simp [World.cell?, h, hj]
theorem lit_conv {W : World} (hg : o.guard = none) (hg2 : o2.guard = none) (xs : List Int) {C : Array Value} (hC : C = (xs.map (Value.int .u8)).toArray) (hl : xs.length ≤ 9223372036854775807)
    (hrun : (execOp a.eval o).run P W = .ok (.value (.slice (some ⟨W.heap.size, 0, none⟩) xs.length xs.length)) (W.alloc (.cells C 5)))
    (hop : ∀ v W1 W2, (convert 22 22 v).run P W1 = .ok v W2 → (execOp (a.put o.dst v).eval o2).run P W1 = .ok (.value v) W2)
    (ht : P.underlying 22 = some (.slice 5)) (he : P.underlying 5 = some (.int .u8))
    (h : ∀ A w1, Kd.C (Kd.int .u8) w1 A xs.length xs → Below W.heap.size W w1 → wpList P ops Q rest ((a.put o.dst (.slice A xs.length xs.length)).put o2.dst (.slice A xs.length xs.length)) w1) : wpList P ops Q (o :: o2 :: rest) a W := by
  refine Kd.event_run hg hrun (Kd.event_run hg2 (hop _ _ _ (Go.Lib.run_convert_bytes_const W 22 5 C _ _ ht he)) (h _ _ ?_ ((Below.refl _ _).alloc (Nat.le_refl _) _)))
  subst hC
  have e : ∀ fr : Nat × Nat, (W.alloc (.cells (xs.map (Value.int .u8)).toArray 5 fr)).heap[W.heap.size]? = some (.cells (xs.map (Value.int .u8)).toArray 5 fr) := fun fr => by
    show (W.heap.push _)[W.heap.size]? = _
    simp
  exact C_cells (e _) hl
end Go.Proofs.YtkeegknadegaaaaDoor.Q
