/-
  A range over a function whose iterator calls yield for some values, each of which goes on, and then at most once with one that returns: told of what its argument leads to in memory.
-/
import Derived.Test.YtkeegknadegaaaaDoorHRec
namespace Go.Proofs.YtkeegknadegaaaaDoor.Q
open Go.RowKit Go.Shelf
set_option linter.unusedVariables false

/-- The record of such a loop. -/
def loopOf (fn : FuncId) (a : Act) (ps : Array Tmp) (assign body : Code) (D : Nat) (st : LoopState) (pe : Option Code) : Loop := { state := st, pending := pe, fn, tmps := a.tmps, params := ps, assign, body, defers := D }
/-- Both blocks of the loop's own lie as they should. -/
structure Stands (L : Loop) (D : Nat) (X : World) : Prop where
  rec_ : X.heap[D + 1]? = some (.loop L)
  def_ : X.heap[D]? = some (.deferred (some []))
theorem Stands.lt {L : Loop} {D : Nat} {X : World} (h : Stands L D X) : D + 1 < X.heap.size := (Array.getElem?_eq_some_iff.1 h.rec_).1
theorem Stands.grown {L : Loop} {D : Nat} {X Y : World} (h : Stands L D X) (hg : X.grownBy Y none) : Stands L D Y :=
  ⟨(hg.block _ h.lt (fun e => by cases e)).trans h.rec_, (hg.block _ (by have := h.lt; omega) (fun e => by cases e)).trans h.def_⟩
theorem Stands.kept {L : Loop} {D : Nat} {X Y : World} (h : Stands L D X) (hk : KeepsFrom D X Y) : Stands L D Y := ⟨hk.same _ _ (by omega) h.rec_ rfl, hk.same _ _ (Nat.le_refl _) h.def_ rfl⟩
theorem Stands.turn {L L' : Loop} {D : Nat} {X : World} (h : Stands L D X) : Stands L' D (X.putObj (D + 1) (.loop L')) := ⟨World.putObj_heap_same h.lt, (World.putObj_heap_other (by omega)).trans h.def_⟩

/-- What may be done to the loop's own blocks. -/
def Bears (D : Nat) (I : World → Prop) : Prop := ∀ X Y row, I X → X.grownBy Y row → (∀ r, row = some r → D ≤ r ∧ ∃ o : Obj, X.heap[r]? = some o ∧ o.isCells = false) → I Y
theorem Bears.fresh {D : Nat} {I : World → Prop} (h : Bears D I) {X Y : World} (hI : I X) (hg : X.grownBy Y none) : I Y := h X Y Option.none hI hg (fun r e => by cases e)
theorem Bears.turn {D : Nat} {I : World → Prop} (h : Bears D I) {X : World} {L L' : Loop} (hI : I X) (hs : Stands L D X) : I (X.putObj (D + 1) (.loop L')) :=
  h X _ (some (D + 1)) hI (grownBy_putObj' X (D + 1) _) (fun r e => by cases e; exact ⟨by omega, _, hs.rec_, rfl⟩)

section
variable {P : Program} {g : Operand} {ps : Array Tmp} {assign body : Code} {Q : Exit → Act → World → Prop} {a : Act} {w : World} {gf : Nat} {lb : Array Value}
theorem range_recs {γ β : Type} (hg : a.eval g = .func (.func gf) #[] lb) (eg : ∀ args w, (callFunc gf args).run P w = .ok (.enter gf args) w)
    (encG : γ → Array Value) (encB : β → Array Value) (FitB : β → World → Prop) (hpG : ∀ x, (encG x).size = ps.size) (hpB : ∀ x, (encB x).size = ps.size)
    (Kp : World → World → Prop) (goods : List γ) (ok : Prop)
    (hseq : ∀ (l : Nat) (J : List γ → World → Prop) (Jx : World → Prop) (W : World), Below w.heap.size w W → w.heap.size ≤ W.heap.size → (∀ xs X Y, J xs X → X.grownBy Y none → J xs Y) →
      (∀ pre x X, J pre X → pre.length < goods.length → YieldAt Fence.wide 2 P l (encG x) X fun e X' => e = .returned (.bool true) ∧ J (pre ++ [x]) X' ∧ Kp X X') →
      (∀ b X, J goods X → FitB b X → YieldAt Fence.wide 2 P l (encB b) X fun e X' => e = .returned (.bool false) ∧ Jx X') → J [] W →
      CallsIn Fence.wide 3 P gf (#[.func (.yield l) #[] #[]] ++ lb) W fun e W' => (∃ v, e = .returned v) ∧ ((ok ∧ J goods W') ∨ (¬ ok ∧ Jx W')))
    (hKt : ∀ A B C : World, Kp A B → Kp B C → Kp A C) (hKb : ∀ (X : World) (l : Nat) (o o' : Obj), w.heap.size ≤ l → X.heap[l]? = some o → o.isCells = false → Kp X (X.putObj l o'))
    (I : List γ → World → Prop) (Ix : World → Prop) (hI : ∀ xs, Bears w.heap.size (I xs)) (hIx : Bears w.heap.size Ix) (h0 : I [] w)
    (AG : γ → Act → World → Prop) (AB : β → Act → World → Prop) (hAG : ∀ x a', Bears w.heap.size (AG x a')) (hAB : ∀ x a', Bears w.heap.size (AB x a'))
    (assignG : ∀ l pre x X (K : Act → World → Prop), I pre X → (∀ a' X', KeepsFrom w.heap.size X X' → Kp X X' → I pre X' → AG x a' X' → K a' X') →
      assign.wpIn (Fence.wide.inRound l) 2 P (Exit.then K (fun _ _ _ => False)) { tmps := (ps.zip (encG x)).foldl (fun t (p, v) => t.setIfInBounds p v) a.tmps, defers := [] } X)
    (bodyG : ∀ l pre x a' X, I pre X → AG x a' X → pre.length < goods.length → body.wpIn (Fence.wide.inRound l) 2 P (fun e _ X' => match e with | .normal => KeepsFrom w.heap.size X X' ∧ Kp X X' ∧ I (pre ++ [x]) X' | _ => False) a' X)
    (assignB : ∀ l b X (K : Act → World → Prop), I goods X → FitB b X → (∀ a' X', KeepsFrom w.heap.size X X' → I goods X' → AB b a' X' → K a' X') →
      assign.wpIn (Fence.wide.inRound l) 2 P (Exit.then K (fun _ _ _ => False)) { tmps := (ps.zip (encB b)).foldl (fun t (p, v) => t.setIfInBounds p v) a.tmps, defers := [] } X)
    (bodyB : ∀ l b a' X, I goods X → AB b a' X → body.wpIn (Fence.wide.inRound l) 2 P (fun e _ X' => match e with | .ret => KeepsFrom w.heap.size X X' ∧ Ix X' | _ => False) a' X)
    (hdone : ok → ∀ (D : Nat) (W : World), w.heap.size ≤ D → I goods W → W.heap[D]? = some (.deferred (some [])) → Q .normal { a with defers := { target := .collected D, args := #[] } :: a.defers } W)
    (hstop : ¬ ok → ∀ (D : Nat) (W : World), w.heap.size ≤ D → Ix W → W.heap[D]? = some (.deferred (some [])) → Code.ret.wpIn Fence.wide 4 P Q { a with defers := { target := .collected D, args := #[] } :: a.defers } W) :
    (Code.rangeFunc g ps assign body).wpIn Fence.wide 4 P Q a w := by
  refine wpIn_rangeFunc ?_
  intro fn hfn
  obtain ⟨R, hR⟩ : ∃ R : LoopState → Option Code → Loop, R = loopOf fn a ps assign body w.heap.size := ⟨_, rfl⟩
  obtain ⟨W1, hW1⟩ : ∃ W1, (w.alloc (.deferred (some []))).alloc (.loop (R .ready none)) = W1 := ⟨_, rfl⟩
  have hg1 : w.grownBy W1 none := by rw [← hW1]; exact World.grownBy.trans (World.grownBy_alloc w _ _) (World.grownBy_alloc _ _ _)
  have hS1 : Stands (R .ready none) w.heap.size W1 := by
    rw [← hW1]
    exact ⟨by have h := heap_alloc_new (w.alloc (.deferred (some []))) (.loop (R .ready none)); rwa [World.size_alloc] at h, (Below.heap_alloc _ _ _ (by simp)).trans (heap_alloc_new w _)⟩
  have hB1 : Below w.heap.size w W1 := by rw [← hW1]; exact ((Below.refl _ w).alloc (Nat.le_refl _) _).alloc (by simp) _
  refine ⟨w.heap.size + 1, [{ target := .collected w.heap.size, args := #[] }], W1, { target := .fn (.func gf) lb, args := #[.func (.yield (w.heap.size + 1)) #[] #[]] }, W1, gf,
    #[.func (.yield (w.heap.size + 1)) #[] #[]] ++ lb, W1, ?_, ?_, (fun _ _ => trivial), ?_, (fun h => by cases h), ?_⟩
  · rw [← hW1, hR]; exact run_enterLoop_outer _ _ _ _ _
  · simp only [resolve, hg]
    simp [go_sem]
  · simp [invoke, go_sem, eg]
  refine (hseq (w.heap.size + 1) (fun pre X => I pre X ∧ Stands (R .ready none) w.heap.size X) (fun X => Ix X ∧ Stands (R .done (some .ret)) w.heap.size X) W1 hB1 hB1.size
    (fun xs X Y h hg' => ⟨(hI xs).fresh h.1 hg', h.2.grown hg'⟩) ?good ?bad ⟨(hI []).fresh h0 hg1, hS1⟩).mono ?behind
  case good =>
    rintro pre x X ⟨hi, hs⟩ hpl
    have hy := run_yield (P := P) (args := encG x) hs.rec_ (by rw [hR]; exact hpG x)
    rw [hR] at hy
    refine ⟨fn, _, assign, body, hy, roundIn_of_wpIn hfn (assignG _ pre x X _ hi ?_)⟩
    intro a' X' hk hkp hi' hax
    have hs' := hs.kept hk
    refine ⟨_, run_beginRound hs'.rec_ (by rw [hR]; rfl), ?_⟩
    have hs2 : Stands { R .ready none with state := .busy } w.heap.size _ := hs'.turn
    refine wpIn_mono (bodyG _ pre x a' _ ((hI pre).turn hi' hs') ((hAG x a').turn hax hs') hpl) ?_
    rintro e a3 X3 hp
    cases e with
    | normal =>
      obtain ⟨hk3, hkp3, hi3⟩ := hp
      have hs3 := hs2.kept hk3
      have hr := run_endRound (P := P) (none : Option Code) hs3.rec_
      have hs4 : Stands (R .ready none) w.heap.size (X3.putObj (w.heap.size + 1) (.loop (R .ready none))) := hs3.turn
      have hi4 := (hI (pre ++ [x])).turn (L' := R .ready none) hi3 hs3
      rw [hR] at hr hs4 hi4 ⊢
      exact ⟨_, _, hr, rfl, ⟨hi4, hs4⟩, hKt _ _ _ hkp (hKt _ _ _ (hKb _ _ _ _ (by omega) hs'.rec_ rfl) (hKt _ _ _ hkp3 (hKb _ _ _ _ (by omega) hs3.rec_ rfl)))⟩
    | _ => exact hp.elim
  case bad =>
    rintro b X ⟨hi, hs⟩ hfit
    have hy := run_yield (P := P) (args := encB b) hs.rec_ (by rw [hR]; exact hpB b)
    rw [hR] at hy
    refine ⟨fn, _, assign, body, hy, roundIn_of_wpIn hfn (assignB _ b X _ hi hfit ?_)⟩
    intro a' X' hk hi' hax
    have hs' := hs.kept hk
    refine ⟨_, run_beginRound hs'.rec_ (by rw [hR]; rfl), ?_⟩
    have hs2 : Stands { R .ready none with state := .busy } w.heap.size _ := hs'.turn
    refine wpIn_mono (bodyB _ b a' _ ((hI goods).turn hi' hs') ((hAB b a').turn hax hs')) ?_
    rintro e a3 X3 hp
    cases e with
    | ret =>
      obtain ⟨hk3, hi3⟩ := hp
      have hs3 := hs2.kept hk3
      have hr := run_endRound (P := P) (some .ret) hs3.rec_
      have hs4 : Stands (R .done (some .ret)) w.heap.size (X3.putObj (w.heap.size + 1) (.loop (R .done (some .ret)))) := hs3.turn
      have hi4 := hIx.turn (L' := R .done (some .ret)) hi3 hs3
      rw [hR] at hr hs4 hi4 ⊢
      exact ⟨_, _, hr, rfl, hi4, hs4⟩
    | _ => exact hp.elim
  case behind =>
    rintro e W2 ⟨⟨v, rfl⟩, (⟨ho, hi, hs⟩ | ⟨ho, hi, hs⟩)⟩
    · have hr := run_endLoop (P := P) hs.rec_ (by rw [hR]; simp [loopOf])
      have hd := (World.putObj_heap_other (o := .loop { R .ready none with state := .exhausted }) (show w.heap.size ≠ w.heap.size + 1 by omega)).trans hs.def_
      have hi4 := (hI goods).turn (L' := { R .ready none with state := .exhausted }) hi hs
      rw [hR] at hr hd hi4
      exact ⟨none, _, hr, hdone ho _ _ (Nat.le_refl _) hi4 hd⟩
    · have hr := run_endLoop (P := P) hs.rec_ (by rw [hR]; simp [loopOf])
      have hd := (World.putObj_heap_other (o := .loop { R .done (some .ret) with state := .exhausted }) (show w.heap.size ≠ w.heap.size + 1 by omega)).trans hs.def_
      have hi4 := hIx.turn (L' := { R .done (some .ret) with state := .exhausted }) hi hs
      rw [hR] at hr hd hi4
      exact ⟨some .ret, _, hr, hstop ho _ _ (Nat.le_refl _) hi4 hd⟩
end
end Go.Proofs.YtkeegknadegaaaaDoor.Q
