import Derived.Test.YtplkofflhacehaaNFun4
import Derived.Test.YtplkofflhacehaaQ14
namespace Go.Proofs.Ytplkofflhacehaa.Pure
open Go.RowKit Go.Proofs.Ytplkofflhacehaa.Q Go.Proofs.YtplkofflhacehaaW.PrintWords Go.Proofs.YtplkofflhacehaaW.PrintLast Go.Proofs.YtplkofflhacehaaW.PrintMore
open Go.Proofs.Ytplkofflhacehaa.NC Go.Proofs.Ytplkofflhacehaa.NF
set_option linter.unusedVariables false
set_option linter.unusedSimpArgs false
theorem cmpN_add (a b c : Nat) : cmpN (a + c) (b + c) = cmpN a b := by unfold cmpN; split <;> split <;> (try split) <;> (try split) <;> omega
theorem cmpN_mul (a b : Nat) {p : Nat} (hp : 0 < p) : cmpN (a * p) (b * p) = cmpN a b := by
  unfold cmpN
  simp only [Nat.mul_lt_mul_right hp]
theorem cmpN_cases (a b : Nat) : (a < b ∧ cmpN a b = -1 ∧ cmpN b a = 1) ∨ (a = b ∧ cmpN a b = 0 ∧ cmpN b a = 0) ∨ (b < a ∧ cmpN a b = 1 ∧ cmpN b a = -1) := by
  unfold cmpN
  rcases Nat.lt_trichotomy a b with h | h | h
  · left; refine ⟨h, ?_, ?_⟩
    · rw [if_pos h]
    · rw [if_neg (by omega), if_pos h]
  · right; left; refine ⟨h, ?_, ?_⟩ <;> rw [if_neg (by omega), if_neg (by omega)]
  · right; right; refine ⟨h, ?_, ?_⟩
    · rw [if_neg (by omega), if_pos h]
    · rw [if_pos h]
theorem NatOrder : zigguratlaw01_NatOrder.Pure := by
  intro l0 l1 l2 _ _ h0 _ _ h1 _ _ h2
  refine ⟨5000, ?_⟩
  unfold zigguratlaw01_NatOrder.f
  have la := made_len (limbs_wf h0) 40
  have lb := made_len (limbs_wf h1) 40
  have lc := made_len (limbs_wf h2) 40
  have m0 := made_f (limbs_wf h0) (m := 40) (k := 5000) (by omega) (by omega)
  have m1 := made_f (limbs_wf h1) (m := 40) (k := 5000) (by omega) (by omega)
  have m2 := made_f (limbs_wf h2) (m := 40) (k := 5000) (by omega) (by omega)
  rw [show ((40 : Nat) : Int) = 40 from rfl] at m0 m1 m2
  rw [head_k (by omega), Option.bind_some, m0, Option.bind_some, m1, Option.bind_some, m2, Option.bind_some]
  generalize val (l0.take 40) = a at la
  generalize val (l1.take 40) = b at lb
  generalize val (l2.take 40) = c at lc
  have lac := len_add la lc
  have lbc := len_add lb lc
  have sa := len_shl (s := (toL c).length) (q := 2) la (by omega)
  have sb := len_shl (s := (toL c).length) (q := 2) lb (by omega)
  have tail : ((nat_Add.f 5000 (toL a) (toL c)).bind fun t472 => ((nat_Add.f 5000 (toL b) (toL c)).bind fun t475 => ((nat_Cmp.f 5000 t472 t475).bind fun t478 => (if t478 = cmpN a b then ((nat_Shl.f 5000 (toL a) ((toL c).length : Int)).bind fun t479 => ((nat_Shl.f 5000 (toL b) ((toL c).length : Int)).bind fun t482 => ((nat_Cmp.f 5000 t479 t482).bind fun t485 => (if t485 = cmpN a b then (some true) else (none))))) else (none))))) = some true := by
    rw [add_f (by omega) (by omega) (by omega), Option.bind_some, add_f (by omega) (by omega) (by omega), Option.bind_some, cmp_f (by omega) (by omega) (by omega), Option.bind_some, if_pos (cmpN_add _ _ _),
      shl_f (by omega) (by omega) (by omega), Option.bind_some, shl_f (by omega) (by omega) (by omega), Option.bind_some, cmp_f (by omega) (by omega) (by omega), Option.bind_some, if_pos (cmpN_mul _ _ (Nat.pow_pos (by omega)))]
  rw [cmp_f (by omega) (by omega) (by omega), Option.bind_some]
  have aa : cmpN a a = 0 := by rcases cmpN_cases a a with h | h | h <;> omega
  rcases cmpN_cases a b with ⟨h, e1, e2⟩ | ⟨h, e1, e2⟩ | ⟨h, e1, e2⟩
  · rw [if_neg (by omega), if_neg (by omega), cmp_f (by omega) (by omega) (by omega), Option.bind_some, if_pos (by rw [e1, e2]; unfold wrap64; omega), same_toL (by omega) (by omega), Option.bind_some,
      if_neg (by rw [e1, decide_eq_false (by omega)]; decide), cmp_f (by omega) (by omega) (by omega), Option.bind_some, if_pos aa, if_pos (by omega), cmp_f (by omega) (by omega) (by omega), Option.bind_some]
    rcases cmpN_cases b c with ⟨h3, e3, e4⟩ | ⟨h3, e3, e4⟩ | ⟨h3, e3, e4⟩
    · rw [if_pos (by omega), cmp_f (by omega) (by omega) (by omega), Option.bind_some, if_neg (by rcases cmpN_cases a c with h | h | h <;> omega)]; exact tail
    · rw [if_pos (by omega), cmp_f (by omega) (by omega) (by omega), Option.bind_some, if_neg (by rcases cmpN_cases a c with h | h | h <;> omega)]; exact tail
    · rw [if_neg (by omega)]; exact tail
  · rw [if_neg (by omega), if_neg (by omega), cmp_f (by omega) (by omega) (by omega), Option.bind_some, if_pos (by rw [e1, e2]; unfold wrap64; omega), same_toL (by omega) (by omega), Option.bind_some,
      if_neg (by rw [e1, decide_eq_true (by omega)]; decide), cmp_f (by omega) (by omega) (by omega), Option.bind_some, if_pos aa, if_pos (by omega), cmp_f (by omega) (by omega) (by omega), Option.bind_some]
    rcases cmpN_cases b c with ⟨h3, e3, e4⟩ | ⟨h3, e3, e4⟩ | ⟨h3, e3, e4⟩
    · rw [if_pos (by omega), cmp_f (by omega) (by omega) (by omega), Option.bind_some, if_neg (by rcases cmpN_cases a c with h | h | h <;> omega)]; exact tail
    · rw [if_pos (by omega), cmp_f (by omega) (by omega) (by omega), Option.bind_some, if_neg (by rcases cmpN_cases a c with h | h | h <;> omega)]; exact tail
    · rw [if_neg (by omega)]; exact tail
  · rw [if_neg (by omega), if_neg (by omega), cmp_f (by omega) (by omega) (by omega), Option.bind_some, if_pos (by rw [e1, e2]; unfold wrap64; omega), same_toL (by omega) (by omega), Option.bind_some,
      if_neg (by rw [e1, decide_eq_false (by omega)]; decide), cmp_f (by omega) (by omega) (by omega), Option.bind_some, if_pos aa, if_neg (by omega)]
    exact tail
end Go.Proofs.Ytplkofflhacehaa.Pure
