import Derived.Test.YtplkofflhacehaaNFun4
import Derived.Test.YtplkofflhacehaaQ16
namespace Go.Proofs.Ytplkofflhacehaa.Pure
open Go.RowKit Go.Proofs.Ytplkofflhacehaa.Q Go.Proofs.YtplkofflhacehaaW.PrintWords Go.Proofs.YtplkofflhacehaaW.PrintLast Go.Proofs.YtplkofflhacehaaW.PrintMore
open Go.Proofs.Ytplkofflhacehaa.NC Go.Proofs.Ytplkofflhacehaa.NF
set_option linter.unusedVariables false
set_option linter.unusedSimpArgs false
theorem one_toL : ([1] : List Int) = toL 1 := by rw [toL_pos (by omega), show 1 / 4294967296 = 0 by decide, toL_zero]; rfl
theorem bl_pow (s : Nat) : bl (2 ^ s) = s + 1 := bl_eq (Nat.pow_lt_pow_right (by omega) (by omega)) (.inr (Nat.le_refl _))
theorem bl_pow1 (s : Nat) : bl (2 ^ s - 1) = s := by
  have hp : 0 < 2 ^ s := Nat.pow_pos (by omega)
  refine bl_eq (by omega) ?_
  cases s with
  | zero => exact .inl rfl
  | succ s =>
    right
    have : 0 < 2 ^ s := Nat.pow_pos (by omega)
    rw [Nat.add_sub_cancel, Nat.pow_succ]
    omega
theorem NatCarry : zigguratlaw01_NatCarry.Pure := by
  intro a0 a1 h0 h1
  obtain ⟨n, rfl, hn⟩ := wf16 h0
  obtain ⟨m, rfl, hm⟩ := wf16 h1
  refine ⟨5000, ?_⟩
  unfold zigguratlaw01_NatCarry.f
  have w1 : wrap64 (n : Int) = (n : Int) := w64 (by omega) (by omega)
  have w2 : wrap64 (m : Int) = (m : Int) := w64 (by omega) (by omega)
  have e1 : Int.tmod (n : Int) 2001 = ((n % 2001 : Nat) : Int) := by rw [Int.tmod_eq_emod_of_nonneg (by omega)]; omega
  have hs : n % 2001 < 2001 := Nat.mod_lt _ (by omega)
  generalize n % 2001 = s at e1 hs
  have e2 : wrap64 ((s : Int) + 1) = ((s + 1 : Nat) : Int) := by rw [w64 (by omega) (by omega)]; omega
  have e3 : Int.tmod (m : Int) ((s + 1 : Nat) : Int) = ((m % (s + 1) : Nat) : Int) := by
    rw [Int.tmod_eq_emod_of_nonneg (by omega), Int.natCast_emod]
  have hj : m % (s + 1) < s + 1 := Nat.mod_lt _ (by omega)
  have l1 : (toL 1).length ≤ 1 := by rw [← one_toL]; decide
  have lp : (toL (2 ^ s)).length ≤ 64 := by
    have := len_shl (s := s) (q := 63) l1 (by omega)
    rwa [Nat.one_mul] at this
  have hp : 0 < 2 ^ s := Nat.pow_pos (by omega)
  have lq : (toL (2 ^ s - 1)).length ≤ 64 := len_mono (Nat.sub_le _ _) lp
  have hcmp : cmpN (2 ^ s - 1) (2 ^ s) = -1 := by unfold cmpN; rw [if_pos (by omega)]
  rw [w1, w2, e1, head_k (by omega), Option.bind_some, one_toL, shl_f (by omega) (by omega) (by omega), Option.bind_some, Nat.one_mul, sub_f (by omega) (by omega) (by omega), if_neg (by omega), Option.bind_some, e2, e3, if_neg (by omega)]
  dsimp only
  rw [if_pos rfl, add_f (by omega) (by omega) (by omega), Option.bind_some, Nat.sub_add_cancel hp, same_toL (by omega) (by omega), Option.bind_some, if_pos (by simp), bits_f (by omega), Option.bind_some, if_pos (by rw [bl_pow]), bits_f (by omega), Option.bind_some, if_pos (by rw [bl_pow1]), bit_f (by omega), Option.bind_some, if_pos (by rw [Nat.div_self hp]; rfl)]
  generalize m % (s + 1) = j at hj
  by_cases hjs : j = s
  · rw [if_pos (by omega), cmp_f (by omega) (by omega) (by omega), Option.bind_some, if_pos hcmp]
  · rw [if_neg (by omega), bit_f (by omega), Option.bind_some, if_pos (by rw [← Nat.toNat_testBit, Nat.testBit_two_pow_sub_one, decide_eq_true (by omega)]; rfl), bit_f (by omega), Option.bind_some,
      if_pos (by rw [← Nat.toNat_testBit, Nat.testBit_two_pow_of_ne (by omega)]; rfl), cmp_f (by omega) (by omega) (by omega), Option.bind_some, if_pos hcmp]
end Go.Proofs.Ytplkofflhacehaa.Pure
