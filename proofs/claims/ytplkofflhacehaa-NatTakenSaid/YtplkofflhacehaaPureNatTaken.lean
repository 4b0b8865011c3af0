import Derived.Test.YtplkofflhacehaaNFun4
import Derived.Test.YtplkofflhacehaaQ13
namespace Go.Proofs.Ytplkofflhacehaa.Pure
open Go.RowKit Go.Proofs.Ytplkofflhacehaa.Q Go.Proofs.YtplkofflhacehaaW.PrintWords Go.Proofs.YtplkofflhacehaaW.PrintLast Go.Proofs.YtplkofflhacehaaW.PrintMore
open Go.Proofs.Ytplkofflhacehaa.NC Go.Proofs.Ytplkofflhacehaa.NF
set_option linter.unusedVariables false
set_option linter.unusedSimpArgs false
theorem cmpN_cases (a b : Nat) : (a < b ∧ cmpN a b = -1) ∨ (a = b ∧ cmpN a b = 0) ∨ (b < a ∧ cmpN a b = 1) := by
  unfold cmpN
  rcases Nat.lt_trichotomy a b with h | h | h
  · left; exact ⟨h, by rw [if_pos h]⟩
  · right; left; exact ⟨h, by rw [if_neg (by omega), if_neg (by omega)]⟩
  · right; right; exact ⟨h, by rw [if_neg (by omega), if_pos h]⟩
theorem right_nil : nat_Right.f [] = some true := by rw [← toL_zero]; exact right_f (by rw [toL_zero]; decide)
theorem NatTaken : zigguratlaw01_NatTaken.Pure := by
  intro l0 l1 _ _ h0 _ _ h1
  refine ⟨5000, ?_⟩
  unfold zigguratlaw01_NatTaken.f
  have la := made_len (limbs_wf h0) 60
  have lb := made_len (limbs_wf h1) 60
  have m0 := made_f (limbs_wf h0) (m := 60) (k := 5000) (by omega) (by omega)
  have m1 := made_f (limbs_wf h1) (m := 60) (k := 5000) (by omega) (by omega)
  rw [show ((60 : Nat) : Int) = 60 from rfl] at m0 m1
  rw [head_k (by omega), Option.bind_some, m0, Option.bind_some, m1, Option.bind_some]
  generalize val (l0.take 60) = a at la
  generalize val (l1.take 60) = b at lb
  have lab := len_add la lb
  have ld := len_mono (Nat.sub_le a b) la
  have le := len_mono (Nat.sub_le b a) lb
  rw [add_f (by omega) (by omega) (by omega), Option.bind_some, sub_f (by omega) (by omega) (by omega), if_neg (by omega), Option.bind_some]
  rw [sub_f (a := a) (b := b) (by omega) (by omega) (by omega), sub_f (a := b) (b := a) (by omega) (by omega) (by omega), Option.bind_some, Option.bind_some]
  rw [if_pos rfl]
  rw [Nat.add_sub_cancel, same_toL (by omega) (by omega), Option.bind_some, if_pos (by simp), cmp_f (by omega) (by omega) (by omega), Option.bind_some]
  rcases cmpN_cases a b with ⟨h, e1⟩ | ⟨h, e1⟩ | ⟨h, e1⟩
  · rw [if_pos h, if_neg (by omega : ¬ b < a), e1, if_neg (by simp), Option.bind_some, if_neg (by simp)]
    rw [if_neg (by simp), if_pos rfl, add_f (by omega) (by omega) (by omega), Option.bind_some, Nat.sub_add_cancel (by omega), same_toL (by omega) (by omega), Option.bind_some, if_pos (by simp), if_pos (by rfl), right_nil, Option.bind_some, if_pos rfl, right_f (by omega), Option.bind_some, if_pos rfl]
  · rw [if_neg (by omega : ¬ a < b), if_neg (by omega : ¬ b < a), e1, if_neg (by simp), Option.bind_some, if_neg (by simp)]
    rw [if_pos rfl, add_f (by omega) (by omega) (by omega), Option.bind_some, Nat.sub_add_cancel (by omega), same_toL (by omega) (by omega), Option.bind_some, if_pos (by simp), if_pos rfl, add_f (by omega) (by omega) (by omega), Option.bind_some, Nat.sub_add_cancel (by omega), same_toL (by omega) (by omega), Option.bind_some, if_pos (by simp), right_f (by omega), Option.bind_some, if_pos rfl, right_f (by omega), Option.bind_some, if_pos rfl]
  · rw [if_neg (by omega : ¬ a < b), if_pos h, e1, if_neg (by simp), Option.bind_some, if_neg (by simp)]
    rw [if_pos rfl, add_f (by omega) (by omega) (by omega), Option.bind_some, Nat.sub_add_cancel (by omega), same_toL (by omega) (by omega), Option.bind_some, if_pos (by simp), if_neg (by simp), if_pos (by rfl), right_f (by omega), Option.bind_some, if_pos rfl, right_nil, Option.bind_some, if_pos rfl]
end Go.Proofs.Ytplkofflhacehaa.Pure
