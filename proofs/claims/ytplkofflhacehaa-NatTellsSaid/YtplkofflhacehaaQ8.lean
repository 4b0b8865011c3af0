-- Written by a program of this session (a patched print) for this claim; Lean checks it.
import Derived.Test.YtplkofflhacehaaQ0
import Derived.Test.YtplkofflhacehaaQ3
import Derived.Test.YtplkofflhacehaaQ4
import Derived.Test.YtplkofflhacehaaQ7
namespace Go.Proofs.Ytplkofflhacehaa.Q
open Go.RowKit Go.Proofs.YtplkofflhacehaaW.PrintWords Go.Proofs.YtplkofflhacehaaW.PrintLast Go.Proofs.YtplkofflhacehaaW.PrintMore
attribute [local go_sem] max2_int min2_int max_two min_two max_three min_three max_four min_four   -- for this text's walks alone
set_option linter.unusedVariables false
set_option linter.unusedSimpArgs false

--EXT 
open Go.Shelf


def addG (x y c : Int) : Int × Int := (bits_Add32.f x y c).getD (0, 0)
theorem addG_step : StepFn 40 addG := fun x y c w => bits_Add32.calls x y c _ _ w rfl

/-- The limbs that a step makes of two rows, n of them. -/
def allRow (gf : Int → Int → Int → Int × Int) (l0 l1 : List Int) (n : Nat) : List Int := (outOf gf (upto (fun i => (rowAt l0 i, rowAt l1 i)) n)).1

theorem all_calls (g : Nat) (hgl : g = 38 ∨ g = 40) (gf : Int → Int → Int → Int × Int) (hg : StepFn g gf) (A0 : Option Addr) (c0 : Nat) (l0 : List Int) (A1 : Option Addr) (c1 : Nat) (l1 : List Int) (n : Nat) (N : Int) (hN : N = (n : Int)) (hn : n ≤ 35184372088831)
    (k : Nat) (r : List Int) (hmk : nat_Make.f k (allRow gf l0 l1 n) = some r) (w : World)
    (hr0 : Kd.C (Kd.int .u32) w A0 l0.length l0) (hr1 : Kd.C (Kd.int .u32) w A1 l1.length l1) :
    Calls Try.prog 37 #[.slice A0 l0.length c0, .slice A1 l1.length c1, .int .i64 N, .func (.func g) #[] #[]] w fun e w' => ∃ v0_ : Value, e = .returned (v0_) ∧ Kd.R (Kd.int .u32) 37 w' w.heap.size (fun _ => True) v0_ r ∧ Below w.heap.size w w' := by
  subst hN
  exact callsIn_wide.1 (all_in g hgl gf hg A0 c0 l0 A1 c1 l1 n hn k r hmk w hr0 hr1)

/-! ### nat_Add: function 22, by hand -/
def nat_Add.f (k : Nat) (l0 : List Int) (l1 : List Int) : Option (List Int) := if max l0.length l1.length + 1 ≤ 35184372088831 then nat_Make.f k (allRow addG l0 l1 (max l0.length l1.length + 1)) else none
theorem nat_Add.mono : ∀ a0 a1 k, LeO (nat_Add.f k a0 a1) (nat_Add.f (k + 1) a0 a1) := by
  intro a0 a1 k
  unfold nat_Add.f
  exact LeO.ite (nat_Make.mono _ _) (LeO.none _)
set_option maxHeartbeats 2000000 in
set_option maxRecDepth 100000 in
theorem nat_Add.calls (k : Nat) (A0 : Option Addr) (c0 : Nat) (l0 : List Int) (A1 : Option Addr) (c1 : Nat) (l1 : List Int) (r : List Int) (w : World) (hr0 : Kd.C (Kd.int .u32) w A0 l0.length l0) (hc0 : l0.length ≤ c0) (hr1 : Kd.C (Kd.int .u32) w A1 l1.length l1) (hc1 : l1.length ≤ c1) (h : nat_Add.f k l0 l1 = some r) :
    Calls Try.prog 22 #[.slice A0 l0.length c0, .slice A1 l1.length c1] w fun e w' => ∃ v0_ : Value, e = .returned (v0_) ∧ Kd.R (Kd.int .u32) 37 w' w.heap.size (fun _ => True) v0_ r ∧ Below w.heap.size w w' := by
  have HR0 := Aside0.mk hr0
  have HR1 := Aside0.mk hr1
  clear hr0 hr1 hc0 hc1
  unfold nat_Add.f at h
  by_cases hb : max l0.length l1.length + 1 ≤ 35184372088831
  · rw [if_pos hb] at h
    obtain ⟨m, hm⟩ : ∃ m : Nat, max l0.length l1.length = m := ⟨_, rfl⟩
    rw [hm] at h hb
    have hmx : (if l0.length < l1.length then (l1.length : Int) else (l0.length : Int)) = (m : Int) := by
      split <;> omega
    have H := Aside0.mk h
    clear h hm
    have h0 : 0 ≤ (m : Int) := by omega
    have h1 : (m : Int) ≤ 35184372088830 := by omega
    go_enter Try.func22, Try.ntmps22
    go_wp2_with (go_at_call 37; (with_reducible refine Calls.mono (all_calls 40 (.inr rfl) addG addG_step A0 c0 l0 A1 c1 l1 (m + 1) _ ?hN hb k r H.out _ HR0.out HR1.out) ?_); (case hN => omega); rintro e w' ⟨v, rfl, ho, hb⟩; have HO := Aside0.mk ho; have HB := Aside0.mk hb; clear ho hb)
    go_ret
    exact ⟨_, rfl, HO.out, HB.out⟩
  · rw [if_neg hb] at h
    exact absurd h (by simp)


end Go.Proofs.Ytplkofflhacehaa.Q
