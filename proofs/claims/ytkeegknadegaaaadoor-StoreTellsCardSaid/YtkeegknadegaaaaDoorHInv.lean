/-
  store.Read: what its variables hold between two rounds, and what a round's end makes of it.
-/
import Derived.Test.YtkeegknadegaaaaDoorHLoop
import Derived.Maps.AppendAt
namespace Go.Proofs.YtkeegknadegaaaaDoor.Q
open Go.RowKit Go.Shelf Go.Proofs.YtkeegknadegaaaaDoor.S Go.Proofs.YtkeegknadegaaaaDoorW.PrintWords Go.Proofs.YtkeegknadegaaaaDoorW.PrintLast Go.Proofs.YtkeegknadegaaaaDoorW.PrintMore
set_option linter.unusedVariables false

def cellsOf (pre : List RecG) : List Value := pre.flatMap fun g => [.string g.1, .string g.2.1]
def entsOf (pre : List RecG) : List S24 := pre.map fun g => ⟨g.1, g.2.1⟩
def endOf (pre : List RecG) : Nat := (pre.getLast?.map (·.2.2)).getD 0
theorem cellsOf_snoc (pre : List RecG) (g : RecG) : cellsOf (pre ++ [g]) = cellsOf pre ++ [.string g.1, .string g.2.1] := by simp [cellsOf]
theorem endOf_snoc (pre : List RecG) (g : RecG) : endOf (pre ++ [g]) = g.2.2 := by simp [endOf]
theorem entsOf_snoc (q : List RecG) (g : RecG) : entsOf (q ++ [g]) = entsOf q ++ [⟨g.1, g.2.1⟩] := by unfold entsOf; rw [List.map_append]; rfl
theorem entsOf_length (q : List RecG) : (entsOf q).length = q.length := by unfold entsOf; rw [List.length_map]
theorem entsOf_reps {w : World} {base : Nat} {ok : Nat → Prop} (pre : List RecG) : Reps (k24.M w base ok) 2 (entsOf pre) (cellsOf pre) := by
  have h : ∀ n, n ≤ pre.length → Reps (k24.M w base ok) 2 (entsOf (pre.take n)) (cellsOf (pre.take n)) := by
    intro n
    induction n with
    | zero => intro _; exact Reps.none _ _
    | succ n ih =>
      intro hn
      have e2 := List.take_succ_eq_append_getElem (l := pre) (i := n) hn
      rw [e2, cellsOf_snoc, entsOf_snoc]
      exact (ih (by omega)).snoc (k24_mkM w base ok ⟨pre[n].1, pre[n].2.1⟩) rfl
  have := h pre.length (Nat.le_refl _)
  rwa [List.take_length] at this
theorem R_ents {w : World} {base : Nat} {v : Value} {pre : List RecG} (h : w.ownsRow base 24 2 v pre.length (cellsOf pre)) : Kd.R k24 24 w base (fun _ => True) v (entsOf pre) := by
  refine ⟨fun _ _ => trivial, cellsOf pre, ?_, entsOf_reps pre⟩
  rw [entsOf_length]; exact h

/-- A box that is no loop's block stays as it is. -/
theorem box_bears {B D : Nat} {t : TypeId} {v : Value} : Bears D (fun X => Boxed X B t v) := fun X Y row h hg hr =>
  h.kept hg (fun e' => by obtain ⟨_, o, ho, hc⟩ := hr B e'.symm; rw [show X.heap[B]? = _ from h] at ho; cases ho; cases hc)
theorem blk_bears {B D : Nat} {cs : Array Value} {t : TypeId} : Bears D (fun X => X.heap[B]? = some (.cells cs t (0, 0))) := fun X Y row h hg hr =>
  (hg.block B (blk_lt h) (fun e' => by obtain ⟨_, o, ho, hc⟩ := hr B e'.symm; rw [h] at ho; cases ho; cases hc)).trans h
theorem row_bears {D base e size k : Nat} {v : Value} {xs : List Value} : Bears D (fun X => X.ownsRow base e size v k xs) := fun X Y row h hg hr => by
  refine h.kept hg ?_
  rcases h.2 with ⟨rfl, _⟩ | ⟨g, cap, cur, rfl, _, hgb, _⟩
  · exact .inl rfl
  · refine .inr fun e' => ?_
    obtain ⟨_, o, ho, hc⟩ := hr g (by simpa [Value.ownBlock] using e'.symm)
    rw [hgb] at ho; cases ho; cases hc
theorem below_bears {D n₀ : Nat} {w : World} (h1 : n₀ ≤ D) (h2 : n₀ ≤ w.heap.size) : Bears D (fun X => Below n₀ w X) := fun X Y row h hg hr =>
  h.grown hg (Nat.le_trans h2 h.size) (fun k e => Nat.le_trans h1 (hr k e).1)

/-- What Read's variables hold. -/
structure ReadInv (w : World) (n₀ : Nat) (L : Value) (r0 r1 r2 : Value) (pre : List RecG) (v : Value) (X : World) : Prop where
  b0 : Boxed X n₀ 29 r0
  b1 : Boxed X (n₀ + 1) 3 r1
  b2 : Boxed X (n₀ + 2) 26 r2
  out : Boxed X (n₀ + 3) 29 v
  at_ : Boxed X (n₀ + 4) 3 (.int .i64 (endOf pre : Int))
  lg : Boxed X (n₀ + 5) 22 L
  row : X.ownsRow (n₀ + 6) 24 2 v pre.length (cellsOf pre)
  bel : Below n₀ w X
theorem ReadInv.bears {w : World} {n₀ D : Nat} {L r0 r1 r2 : Value} {pre : List RecG} {v : Value} (h1 : n₀ ≤ D) (h2 : n₀ ≤ w.heap.size) : Bears D (ReadInv w n₀ L r0 r1 r2 pre v) := fun X Y row h hg hr =>
  ⟨box_bears X Y row h.b0 hg hr, box_bears X Y row h.b1 hg hr, box_bears X Y row h.b2 hg hr, box_bears X Y row h.out hg hr, box_bears X Y row h.at_ hg hr, box_bears X Y row h.lg hg hr, row_bears X Y row h.row hg hr, below_bears h1 h2 X Y row h.bel hg hr⟩
theorem bears_ex {D : Nat} {α : Type} {I : α → World → Prop} (h : ∀ x, Bears D (I x)) : Bears D (fun X => ∃ x, I x X) := fun X Y row ⟨x, hx⟩ hg hr => ⟨x, h x X Y row hx hg hr⟩
theorem bears_and {D : Nat} {I I' : World → Prop} (h : Bears D I) (h' : Bears D I') : Bears D (fun X => I X ∧ I' X) := fun X Y row hx hg hr => ⟨h X Y row hx.1 hg hr, h' X Y row hx.2 hg hr⟩
theorem bears_pure {D : Nat} (p : Prop) : Bears D (fun _ => p) := fun _ _ _ h _ _ => h

/-- A built-in append under a name that the walk leaves closed. -/
def appB (ats : Array TypeId) (ty : TypeId) (args : Array Value) : Sem Value := Builtin.append_ ats ty args
theorem append_appB (ats : Array TypeId) (ty : TypeId) (args : Array Value) : Builtin.append_ ats ty args = appB ats ty args := rfl
theorem run_appB {P : Program} {ats : Array TypeId} {ty : TypeId} {args : Array Value} {w w' : World} {v : Value} (h : (Builtin.append_ ats ty args).run P w = .ok v w') : (appB ats ty args).run P w = .ok v w' := h

theorem read_kept {w : World} {n₀ : Nat} {L r0 r1 r2 : Value} {pre : List RecG} {v : Value} {X : World} (h : ReadInv w n₀ L r0 r1 r2 pre v X) (h2 : n₀ ≤ w.heap.size) {Y : World} (hg : X.grownBy Y none) : ReadInv w n₀ L r0 r1 r2 pre v Y :=
  (ReadInv.bears (Nat.le_refl _) h2).fresh h hg

theorem ReadInv.far {w : World} {n₀ : Nat} {L r0 r1 r2 : Value} {pre : List RecG} {v : Value} {X : World} (h : ReadInv w n₀ L r0 r1 r2 pre v X) (g : Nat) (u : Value) (hg : n₀ + 6 ≤ g) (hne : some g ≠ v.ownBlock) :
    ReadInv w n₀ L r0 r1 r2 pre v (X.setCell ⟨g, 0, none⟩ u) :=
  ⟨h.b0.other (by omega) _, h.b1.other (by omega) _, h.b2.other (by omega) _, h.out.other (by omega) _, h.at_.other (by omega) _, h.lg.other (by omega) _, h.row.kept (grownBy_setCell' X g u) (.inr (fun e => hne e.symm)), h.bel.setCell (p := ⟨g, 0, none⟩) (by simp; omega) _⟩
/-- The results are laid. -/
theorem ReadInv.results {w : World} {n₀ : Nat} {L r0 r1 r2 : Value} {pre : List RecG} {v : Value} {X : World} (h : ReadInv w n₀ L r0 r1 r2 pre v X) (u0 u1 u2 : Value) :
    ReadInv w n₀ L u0 u1 u2 pre v (((X.setCell ⟨n₀, 0, none⟩ u0).setCell ⟨n₀ + 1, 0, none⟩ u1).setCell ⟨n₀ + 2, 0, none⟩ u2) := by
  have g0 := grownBy_setCell' X n₀ u0
  have g1 := grownBy_setCell' (X.setCell ⟨n₀, 0, none⟩ u0) (n₀ + 1) u1
  have g2 := grownBy_setCell' ((X.setCell ⟨n₀, 0, none⟩ u0).setCell ⟨n₀ + 1, 0, none⟩ u1) (n₀ + 2) u2
  have ro : ∀ k, v.ownBlock = some k → n₀ + 6 ≤ k := fun k hk => own_base h.row k hk
  refine ⟨((h.b0.set u0).other (by omega) _).other (by omega) _, (((h.b1.other (by omega) _).set u1).other (by omega) _), ((h.b2.other (by omega) _).other (by omega) _).set u2, ((h.out.other (by omega) _).other (by omega) _).other (by omega) _, ((h.at_.other (by omega) _).other (by omega) _).other (by omega) _, ((h.lg.other (by omega) _).other (by omega) _).other (by omega) _, ?_, ?_⟩
  · exact ((h.row.kept g0 (.inr fun e => by have := ro _ e; omega)).kept g1 (.inr fun e => by have := ro _ e; omega)).kept g2 (.inr fun e => by have := ro _ e; omega)
  · exact Below.setCell (p := ⟨n₀ + 2, 0, none⟩) (Below.setCell (p := ⟨n₀ + 1, 0, none⟩) (Below.setCell (p := ⟨n₀, 0, none⟩) h.bel (Nat.le_refl _) _) (by simp) _) (by simp) _

/-- The append of a round: what it gives, and what lies behind both stores. -/
theorem ReadInv.push {w : World} {n₀ : Nat} {L r0 r1 r2 : Value} {pre : List RecG} {v : Value} {X : World} (h : ReadInv w n₀ L r0 r1 r2 pre v X) (h2 : n₀ ≤ w.heap.size) (n t : ByteArray) (p : Nat) (hl : pre.length ≤ 100000000000)
    (Bx : Nat) (hBx : n₀ + 6 ≤ Bx) (hbx : X.heap[Bx]? = some (.cells #[.string n, .string t, .int .i64 (p : Int)] 56 (0, 0))) :
    ∃ g cap w3, (appB #[29, 29] 29 #[v, .slice (some ⟨X.heap.size, 0, none⟩) 1 1]).run Tryd.prog (X.alloc (.cells #[.string n, .string t] 24)).drew = .ok (.slice (some ⟨g, 0, none⟩) (pre.length + 1) cap) w3 ∧
      Boxed w3 (n₀ + 3) 29 v ∧ Boxed w3 (n₀ + 4) 3 (.int .i64 (endOf pre : Int)) ∧ w3.heap[Bx]? = some (.cells #[.string n, .string t, .int .i64 (p : Int)] 56 (0, 0)) ∧
      ReadInv w n₀ L r0 r1 r2 (pre ++ [(n, t, p)]) (.slice (some ⟨g, 0, none⟩) (pre.length + 1) cap) ((w3.setCell ⟨n₀ + 3, 0, none⟩ (.slice (some ⟨g, 0, none⟩) (pre.length + 1) cap)).setCell ⟨n₀ + 4, 0, none⟩ (.int .i64 (p : Int))) ∧
      KeepsOthers X ((w3.setCell ⟨n₀ + 3, 0, none⟩ (.slice (some ⟨g, 0, none⟩) (pre.length + 1) cap)).setCell ⟨n₀ + 4, 0, none⟩ (.int .i64 (p : Int))) := by
  obtain ⟨i0, hi, hz0, hz1, hz2⟩ := info_parts info24
  have hlt := h.lg.lt
  have hg0 : X.grownBy (X.alloc (.cells #[.string n, .string t] 24)).drew none := World.grownBy.trans (World.grownBy_alloc X _ _) (grown_of_below (Below.refl _ _).drew)
  obtain ⟨v', w3, hrun, r1', r2', _⟩ := run_append_own (P := Tryd.prog) (X.alloc (.cells #[.string n, .string t] 24)).drew (n₀ + 6) 29 29 24 i0 _ 2 32 Tryd.underlying29 hi hz0 hz1 hz2 rfl (by decide) v pre.length _ ((h.row.alloc _).drew) ⟨X.heap.size, 0, none⟩ 1 1 [.string n, .string t] rfl
    (World.news_of_block (cs := #[.string n, .string t]) (t := 24) (fr := (0, 0)) (blk_drew (blk_new X _))) (by simp [Value.oneCell']) (by unfold maxLen; omega) (by omega) (by simp; omega)
  obtain ⟨g, cap, rfl⟩ := ownsRow_succ r1'
  have hY := read_kept h h2 hg0
  have hYx := (hg0.block Bx (blk_lt hbx) (fun e => by cases e)).trans hbx
  have nr : ∀ {B ty u}, Boxed (X.alloc (.cells #[.string n, .string t] 24)).drew B ty u → ty ≠ 24 → Boxed w3 B ty u := fun hb ht => hb.kept r2' (hb.not_row ht hY.row)
  have c0 := nr hY.b0 (by decide)
  have c1 := nr hY.b1 (by decide)
  have c2 := nr hY.b2 (by decide)
  have c3 := nr hY.out (by decide)
  have c4 := nr hY.at_ (by decide)
  have c5 := nr hY.lg (by decide)
  have cx : w3.heap[Bx]? = some (.cells #[.string n, .string t, .int .i64 (p : Int)] 56 (0, 0)) := blk_grown hYx r2' (own_ne hY.row hYx (by decide))
  have g3 := grownBy_setCell' w3 (n₀ + 3) (.slice (some ⟨g, 0, none⟩) (pre.length + 1) cap)
  have g4 := grownBy_setCell' (w3.setCell ⟨n₀ + 3, 0, none⟩ (.slice (some ⟨g, 0, none⟩) (pre.length + 1) cap)) (n₀ + 4) (.int .i64 (p : Int))
  have row3 := r1'.kept g3 (.inr (fun e => (c3.not_row (by decide) r1') e.symm))
  have d4 := c4.kept g3 (by simp)
  refine ⟨g, cap, w3, run_appB hrun, c3, c4, cx, ⟨?_, ?_, ?_, ?_, ?_, ?_, ?_, ?_⟩, ?_⟩
  · exact (c0.kept g3 (by simp)).kept g4 (by simp)
  · exact (c1.kept g3 (by simp)).kept g4 (by simp)
  · exact (c2.kept g3 (by simp)).kept g4 (by simp)
  · exact (c3.set _).kept g4 (by simp)
  · rw [endOf_snoc]; exact d4.set _
  · exact (c5.kept g3 (by simp)).kept g4 (by simp)
  · have hr := row3.kept g4 (.inr (fun e => (d4.not_row (by decide) row3) e.symm))
    rw [cellsOf_snoc, List.length_append]
    exact hr
  · refine Below.setCell (p := ⟨n₀ + 4, 0, none⟩) (Below.setCell (p := ⟨n₀ + 3, 0, none⟩) ((hY.bel).grown r2' (by have := hY.bel.size; omega) (fun k e => ?_)) (by simp) _) (by simp) _
    have := own_base hY.row k e
    omega
  · refine (((KeepsOthers.alloc X _).trans (KeepsOthers.drew _)).trans (KeepsOthers.of_grownBy r2' fun j o ej hj => ?_)).trans ((KeepsOthers.setCell _ _ _).trans (KeepsOthers.setCell _ _ _))
    obtain ⟨cells, hc⟩ := own_typed hY.row j ej
    rw [hc] at hj; cases hj; rfl
end Go.Proofs.YtkeegknadegaaaaDoor.Q
