/-
  A region that draws its order, in a round of a range over a function, where it calls no function: walked as outside, each load that nobody writes taken first.
-/
import Derived.Test.YtkeegknadegaaaaDoorHInv
namespace Go.Proofs.YtkeegknadegaaaaDoor.Q
open Go.RowKit Go.Shelf Go.Proofs.YtkeegknadegaaaaDoorW.PrintWords Go.Proofs.YtkeegknadegaaaaDoorW.PrintLast Go.Proofs.YtkeegknadegaaaaDoorW.PrintMore
set_option linter.unusedVariables false

section
variable {P : Program} {ops : Array Oper} {Q : Exit → Act → World → Prop} {S : World → Prop} {ds : List Nat} {n : Nat}
theorem rowsIn_wide_ {row : String} {args : Array Value} {w : World} {R : Value → World → Prop} (h : Rows P row args w R) : RowsIn Fence.wide n P row args w R :=
  fun c cs _ => let ⟨v, w', r, s⟩ := h c cs; ⟨v, w', r, stepsIn_wide.2 s⟩
/-- One operation that is no defer statement, in a round as outside. -/
theorem opIn_of_op {l : Nat} {o : Oper} {a : Act} {w : World} {K : Act → World → Prop} (hd : ∀ c, o.op ≠ .defer c) (h : o.wp P a w K Q) : o.wpIn (Fence.wide.inRound l) n P a w K Q := by
  refine ⟨fun _ _ => trivial, ?_⟩
  show o.uponIn _ _ _ _ _ _ ((o.semAt (some l) a.eval).run P w)
  rw [Oper.semAt_some l _ _ hd]
  unfold Oper.wp at h
  generalize (execOp a.eval o).run P w = r at *
  cases r with
  | ok x w' =>
    cases x with
    | value v => exact h
    | skip => exact h
    | defer d => exact h
    | enter f args => exact ⟨(fun e => by cases e), CallsIn.inRound l (callsIn_wide.2 h)⟩
    | row r args => exact ⟨(fun e => by cases e), rowsIn_wide_ h⟩
    | _ => exact h.elim
  | halt x w' => cases x <;> first | exact h | exact h.elim
theorem anyIn_of_last {l : Nat} (hd : ∀ (i : Nat) (o : Oper), ops[i]? = some o → ∀ c, o.op ≠ .defer c) (hQ : ¬ LetsOut Q) : ∀ (fuel : Nat) (listed : Array Bool) (a : Act) (w : World),
    wpAnyLast P .any ops Q S ds fuel listed a w → wpAnyIn (Fence.wide.inRound l) n P .any ops Q fuel listed a w
  | 0, _, _, _, h => h
  | fuel + 1, listed, a, w, h => by
    refine ⟨h.1, fun i hi => ?_⟩
    have h2 := wpOp_mono (fun a' w' h' => anyIn_of_last (l := l) hd hQ fuel _ a' w' h'.2) (h.2 i hi)
    unfold wpOp at h2
    unfold wpOpIn
    cases ho : ops[i]? with
    | none => rw [ho] at h2; exact h2
    | some o =>
      rw [ho] at h2
      simp only at h2 ⊢
      split
      · rename_i hw
        rw [if_pos hw] at h2
        rcases h2 with h2 | h2
        · exact opIn_of_op (hd i o ho) h2
        · exact absurd h2.2 hQ
      · rename_i hw
        rw [if_neg hw] at h2
        exact ⟨fun _ _ => trivial, h2⟩
def noDefer (ops : Array Oper) : Bool := ops.all fun o => match o.op with | .defer _ => false | _ => true
theorem noDefer_spec (h : noDefer ops = true) : ∀ (i : Nat) (o : Oper), ops[i]? = some o → ∀ c, o.op ≠ .defer c := by
  intro i o ho c e
  have hi := (Array.getElem?_eq_some_iff.1 ho)
  have h2 := (Array.all_eq_true.1 h) i hi.1
  rw [hi.2, e] at h2
  cases h2
/-- THE BEGINNING, in a round: what is said behind the region is of the world alone. -/
theorem startIn_ {id m l : Nat} {a : Act} {w : World} {R : World → Prop} (b : Array Bool) (hm : P.follows .mixedOrders = true) (hd : noDefer ops = true) (hn : ops.size = m) (hl : Array.replicate m false = b) (hS : S w.drew)
    (h : S w.drew → wpAnyLast P .any ops (fun e _ w' => e = .normal ∧ R w') S ds m b a w.drew) (hR : ∀ a' w', R w' → Q .normal a' w') : (Code.region id ops true).wpIn (Fence.wide.inRound l) n P Q a w := by
  subst hn
  subst hl
  refine wpIn_mono (Q := fun e _ w' => e = .normal ∧ R w') (wpIn_region_any hm (anyIn_of_last (noDefer_spec hd) ?_ _ _ _ _ (h hS))) ?_
  · rintro ⟨a, w, h, _⟩; cases h
  · rintro e a' w' ⟨rfl, hr⟩; exact hR a' w' hr
/-- An operation that yields a value and makes memory. -/
theorem val_ {oi : Oper} {a : Act} {w w1 : World} {K : Act → World → Prop} {N : Option Tmp} {v : Value} (hw : Region.wanted oi (yielded ops a.tmps) = true) (hN : oi.dst = N) (hrun : (execOp a.eval oi).run P w = .ok (.value v) w1)
    (h : K (a.put N v) w1) : if Region.wanted oi (yielded ops a.tmps) = true then Oper.wp P oi a w K Q else K (a.put N undef) w := by
  rw [if_pos hw]
  unfold Oper.wp
  rw [hrun]
  subst hN
  exact h
end
end Go.Proofs.YtkeegknadegaaaaDoor.Q
