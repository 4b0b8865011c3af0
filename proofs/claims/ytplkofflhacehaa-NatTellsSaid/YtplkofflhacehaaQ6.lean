-- Written by a program of this session (a patched print) for this claim; Lean checks it.
import Derived.Test.YtplkofflhacehaaQ0
import Derived.Test.YtplkofflhacehaaQ3
import Derived.Test.YtplkofflhacehaaQ4
import Derived.Test.YtplkofflhacehaaQ5
import Derived.Test.YtplkofflhacehaaQ8
namespace Go.Proofs.Ytplkofflhacehaa.Q
open Go.RowKit Go.Proofs.YtplkofflhacehaaW.PrintWords Go.Proofs.YtplkofflhacehaaW.PrintLast Go.Proofs.YtplkofflhacehaaW.PrintMore
attribute [local go_sem] max2_int min2_int max_two min_two max_three min_three max_four min_four   -- for this text's walks alone
set_option linter.unusedVariables false
set_option linter.unusedSimpArgs false

--EXT 
open Go.Shelf
def subG (x y c : Int) : Int × Int := (bits_Sub32.f x y c).getD (0, 0)
theorem subG_step : StepFn 38 subG := fun x y c w => bits_Sub32.calls x y c _ _ w rfl
/-! ### nat_Sub: function 18, by hand -/
def nat_Sub.f (k : Nat) (l0 : List Int) (l1 : List Int) : Option (List Int × Bool) :=
  (nat_Cmp.f k l0 l1).bind fun t => if t < 0 then some (([] : List Int), false) else if l0.length ≤ 35184372088831 then (nat_Make.f k (allRow subG l0 l1 l0.length)).bind fun r => some (r, true) else none
theorem nat_Sub.mono : ∀ a0 a1 k, LeO (nat_Sub.f k a0 a1) (nat_Sub.f (k + 1) a0 a1) := by
  intro a0 a1 k
  unfold nat_Sub.f
  exact LeO.bind (nat_Cmp.mono _ _ _) (fun _ => LeO.ite (LeO.refl _) (LeO.ite (LeO.bind (nat_Make.mono _ _) (fun _ => LeO.refl _)) (LeO.none _)))
set_option maxHeartbeats 2000000 in
set_option maxRecDepth 100000 in
theorem nat_Sub.calls (k : Nat) (A0 : Option Addr) (c0 : Nat) (l0 : List Int) (A1 : Option Addr) (c1 : Nat) (l1 : List Int) (r1 : List Int) (r2 : Bool) (w : World) (hr0 : Kd.C (Kd.int .u32) w A0 l0.length l0) (hc0 : l0.length ≤ c0) (hr1 : Kd.C (Kd.int .u32) w A1 l1.length l1) (hc1 : l1.length ≤ c1) (h : nat_Sub.f k l0 l1 = some (r1, r2)) :
    Calls Try.prog 18 #[.slice A0 l0.length c0, .slice A1 l1.length c1] w fun e w' => ∃ v0_ : Value, e = .returned (.tuple #[v0_, .bool r2]) ∧ Kd.R (Kd.int .u32) 37 w' w.heap.size (fun _ => True) v0_ r1 ∧ Below w.heap.size w w' := by
  have HR0 := Aside0.mk hr0
  have HR1 := Aside0.mk hr1
  have HC0 := Aside0.mk hc0
  have HC1 := Aside0.mk hc1
  clear hr0 hr1 hc0 hc1
  unfold nat_Sub.f at h
  obtain ⟨t, ht, h⟩ := Option.bind_eq_some_iff.mp h
  have HT := Aside0.mk ht
  clear ht
  by_cases hneg : t < 0
  · rw [if_pos hneg] at h
    simp only [Option.some.injEq, Prod.mk.injEq] at h
    obtain ⟨rfl, rfl⟩ := h
    have hnb : decide (t < 0) = true := decide_eq_true hneg
    clear hneg
    go_enter Try.func18, Try.ntmps18
    go_wp2_with (go_at_call 24; (with_reducible refine Calls.mono (nat_Cmp.calls k A0 c0 l0 A1 c1 l1 t _ HR0.out HC0.out HR1.out HC1.out HT.out) ?_); rintro e w' ⟨rfl, hb⟩; have HB := Aside0.mk hb; clear hb)
    go_ret2
    exact ⟨_, rfl, Kd.R_nil _ _ _ _ _, HB.out⟩
  · rw [if_neg hneg] at h
    by_cases hb : l0.length ≤ 35184372088831
    · rw [if_pos hb] at h
      obtain ⟨r, hr, h⟩ := Option.bind_eq_some_iff.mp h
      simp only [Option.some.injEq, Prod.mk.injEq] at h
      obtain ⟨rfl, rfl⟩ := h
      have H := Aside0.mk hr
      clear hr
      have hnb : decide (t < 0) = false := decide_eq_false hneg
      clear hneg
      go_enter Try.func18, Try.ntmps18
      go_wp2_with (first | (go_at_call 24; (with_reducible refine Calls.mono (nat_Cmp.calls k A0 c0 l0 A1 c1 l1 t _ HR0.out HC0.out HR1.out HC1.out HT.out) ?_); rintro e w' ⟨rfl, hb⟩; have HB := Aside0.mk hb; clear hb) | (go_at_call 37; (with_reducible refine Calls.mono (all_calls 38 (.inl rfl) subG subG_step A0 c0 l0 A1 c1 l1 l0.length _ rfl hb k r H.out _ (Kd.C_below HR0.out HB.out) (Kd.C_below HR1.out HB.out)) ?_); rintro e w2 ⟨v, rfl, ho, hb2⟩; have HO := Aside0.mk ho; have HB2 := Aside0.mk hb2; clear ho hb2))
      go_ret2
      exact ⟨_, rfl, Kd.R_lower HO.out HB.out.size, HB.out.trans (HB2.out.mono HB.out.size)⟩
    · rw [if_neg hb] at h
      exact absurd h (by simp)

end Go.Proofs.Ytplkofflhacehaa.Q
