import Derived.Test.YtplkofflhacehaaNFun4
import Derived.Test.YtplkofflhacehaaQ12
namespace Go.Proofs.Ytplkofflhacehaa.Pure
open Go.RowKit Go.Proofs.Ytplkofflhacehaa.Q Go.Proofs.YtplkofflhacehaaW.PrintWords Go.Proofs.YtplkofflhacehaaW.PrintLast Go.Proofs.YtplkofflhacehaaW.PrintMore
open Go.Proofs.Ytplkofflhacehaa.NC Go.Proofs.Ytplkofflhacehaa.NF
set_option linter.unusedVariables false
set_option linter.unusedSimpArgs false
theorem mx_nat (a b : Nat) : mx (a : Int) (b : Int) = ((max a b : Nat) : Int) := by unfold mx; split <;> omega
theorem bl_mono {a b : Nat} (h : a ≤ b) : bl a ≤ bl b := bl_le.2 (Nat.lt_of_le_of_lt h (bl_le.1 (Nat.le_refl _)))
theorem bl_add (a b : Nat) : bl (a + b) ≤ 1 + max (bl a) (bl b) := by
  have ha : a < 2 ^ bl a := bl_le.1 (Nat.le_refl _)
  have hb : b < 2 ^ bl b := bl_le.1 (Nat.le_refl _)
  have h1 : 2 ^ bl a ≤ 2 ^ max (bl a) (bl b) := Nat.pow_le_pow_right (by omega) (Nat.le_max_left _ _)
  have h2 : 2 ^ bl b ≤ 2 ^ max (bl a) (bl b) := Nat.pow_le_pow_right (by omega) (Nat.le_max_right _ _)
  rw [bl_le, Nat.pow_add]
  omega
theorem bl_len {a m : Nat} (h : (toL a).length ≤ m) : bl a ≤ 32 * m := by
  rw [toL_length_le, pow32] at h
  exact bl_le.2 h
theorem NatSums : zigguratlaw01_NatSums.Pure := by
  intro l0 l1 l2 _ _ h0 _ _ h1 _ _ h2
  refine ⟨5000, ?_⟩
  unfold zigguratlaw01_NatSums.f
  have la := made_len (limbs_wf h0) 60
  have lb := made_len (limbs_wf h1) 60
  have lc := made_len (limbs_wf h2) 60
  have m0 := made_f (limbs_wf h0) (m := 60) (k := 5000) (by omega) (by omega)
  have m1 := made_f (limbs_wf h1) (m := 60) (k := 5000) (by omega) (by omega)
  have m2 := made_f (limbs_wf h2) (m := 60) (k := 5000) (by omega) (by omega)
  rw [show ((60 : Nat) : Int) = 60 from rfl] at m0 m1 m2
  rw [head_k (by omega), Option.bind_some, m0, Option.bind_some, m1, Option.bind_some, m2, Option.bind_some]
  generalize val (l0.take 60) = a at la
  generalize val (l1.take 60) = b at lb
  generalize val (l2.take 60) = c at lc
  have lab := len_add la lb
  have lbc := len_add lb lc
  have b1 := bl_add a b
  have b2 : bl a ≤ bl (a + b) := bl_mono (by omega)
  have b3 : bl b ≤ bl (a + b) := bl_mono (by omega)
  have b4 := bl_len lab
  have b5 := bl_len la
  have b6 := bl_len lb
  rw [add_f (by omega) (by omega) (by omega), Option.bind_some, add_f (by omega) (by omega) (by omega), Option.bind_some, same_toL (by omega) (by omega), Option.bind_some, if_pos (by rw [Nat.add_comm]; simp),
    add_f (by omega) (by omega) (by omega), Option.bind_some, add_f (by omega) (by omega) (by omega), Option.bind_some, add_f (by omega) (by omega) (by omega), Option.bind_some,
    same_toL (by have := len_add lab (Nat.le_succ_of_le lc); omega) (by have := len_add lab (Nat.le_succ_of_le lc); omega), Option.bind_some, if_pos (by rw [Nat.add_assoc]; simp),
    add_nil (by omega) (by omega), Option.bind_some, same_toL (by omega) (by omega), Option.bind_some, if_pos (by simp), right_f (by omega), Option.bind_some, if_pos rfl,
    bits_f (by omega), Option.bind_some, bits_f (by omega), Option.bind_some, bits_f (by omega), Option.bind_some, mx_nat, w64 (by omega) (by omega), if_pos (by omega),
    Option.bind_some, Option.bind_some, Option.bind_some, mx_nat, if_pos (by omega)]
end Go.Proofs.Ytplkofflhacehaa.Pure
