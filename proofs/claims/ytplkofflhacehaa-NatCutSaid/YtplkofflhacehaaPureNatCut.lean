import Derived.Test.YtplkofflhacehaaNFun4
import Derived.Test.YtplkofflhacehaaQ14
namespace Go.Proofs.Ytplkofflhacehaa.Pure
open Go.RowKit Go.Proofs.Ytplkofflhacehaa.Q Go.Proofs.YtplkofflhacehaaW.PrintWords Go.Proofs.YtplkofflhacehaaW.PrintLast Go.Proofs.YtplkofflhacehaaW.PrintMore
open Go.Proofs.Ytplkofflhacehaa.NC Go.Proofs.Ytplkofflhacehaa.NF
set_option linter.unusedVariables false
set_option linter.unusedSimpArgs false
theorem mx_zero (a b : Nat) : mx 0 ((a : Int) - (b : Int)) = ((a - b : Nat) : Int) := by unfold mx; split <;> omega
theorem bl_shr (a s : Nat) : bl (a / 2 ^ s) = bl a - s := by
  have h : ∀ m, bl (a / 2 ^ s) ≤ m ↔ bl a - s ≤ m := fun m => by
    rw [bl_le, Nat.div_lt_iff_lt_mul (Nat.pow_pos (by omega)), ← Nat.pow_add, ← bl_le]
    omega
  exact Nat.le_antisymm ((h _).2 (Nat.le_refl _)) ((h _).1 (Nat.le_refl _))
theorem bl_len {a m : Nat} (h : (toL a).length ≤ m) : bl a ≤ 32 * m := by
  rw [toL_length_le, pow32] at h
  exact bl_le.2 h
theorem NatCut : zigguratlaw01_NatCut.Pure := by
  intro l0 a1 a2 _ _ h0 h1 h2
  obtain ⟨n, rfl, hn⟩ := wf16 h1
  obtain ⟨m, rfl, hm⟩ := wf16 h2
  refine ⟨5000, ?_⟩
  unfold zigguratlaw01_NatCut.f
  have la := made_len (limbs_wf h0) 40
  have m0 := made_f (limbs_wf h0) (m := 40) (k := 5000) (by omega) (by omega)
  rw [show ((40 : Nat) : Int) = 40 from rfl] at m0
  have w1 : wrap64 (n : Int) = (n : Int) := w64 (by omega) (by omega)
  have w2 : wrap64 (m : Int) = (m : Int) := w64 (by omega) (by omega)
  have e1 : Int.tmod (n : Int) 501 = ((n % 501 : Nat) : Int) := by rw [Int.tmod_eq_emod_of_nonneg (by omega)]; omega
  have e2 : Int.tmod (m : Int) 1500 = ((m % 1500 : Nat) : Int) := by rw [Int.tmod_eq_emod_of_nonneg (by omega)]; omega
  have hs : n % 501 < 501 := Nat.mod_lt _ (by omega)
  have hj : m % 1500 < 1500 := Nat.mod_lt _ (by omega)
  generalize n % 501 = s at e1 hs
  generalize m % 1500 = j at e2 hj
  rw [head_k (by omega), Option.bind_some, m0, Option.bind_some, w1, w2, e1, e2]
  clear e1 e2 w1 w2 m0
  generalize val (l0.take 40) = a at la
  have ba := bl_len la
  have s0 : s < 2147483648 := by omega
  have s1 : s / 32 + 2 * 40 + 2 < 5000 := by omega
  have A1 : (toL a).length < 1099511627776 := by omega
  have A2 : 2 * (toL a).length + 1 < 5000 := by omega
  have A3 : (toL a).length < 5000 := by omega
  have A4 : s / 32 + 2 * (toL a).length + 2 < 5000 := by omega
  have e3 : wrap64 ((s : Int) + (j : Int)) = ((s + j : Nat) : Int) := by rw [w64 (by omega) (by omega)]; omega
  have s2 : s + j < 2147483648 := by omega
  have s3 : j < 2147483648 := by omega
  have e5 : wrap64 (((bl a : Nat) : Int) - (s : Int)) = ((bl a : Nat) : Int) - (s : Int) := w64 (by omega) (by omega)
  have L56 : ∀ n : Nat, (toL n).length ≤ 40 + 16 → (toL n).length < 1099511627776 := fun n h => by omega
  have L40 : ∀ n : Nat, (toL n).length ≤ 40 → (toL n).length < 1099511627776 := fun n h => by omega
  have L41 : ∀ n : Nat, (toL n).length ≤ 40 → s / 32 + 2 * (toL n).length + 2 < 5000 := fun n h => by omega
  have hs16 : s ≤ 32 * 16 := by omega
  have hlast : s = 0 ∨ ∃ t, s = t + 1 ∧ wrap64 ((s : Int) - 1) = (t : Int) ∧ t < 2147483648 := by
    by_cases h : s = 0
    · exact .inl h
    · exact .inr ⟨s - 1, by omega, by rw [w64 (by omega) (by omega)]; omega, by omega⟩
  have hz : ((s : Nat) : Int) = 0 ↔ s = 0 := by omega
  have hp : 0 < 2 ^ s := Nat.pow_pos (by decide)
  have hq : a / 2 ^ s ≤ a := Nat.div_le_self _ _
  have hc : a / 2 ^ s * 2 ^ s ≤ a := Nat.div_mul_le_self _ _
  have hr : ∀ _ : Unit, a - a / 2 ^ s * 2 ^ s = a % 2 ^ s := fun _ => by have := Nat.div_add_mod a (2 ^ s); rw [Nat.mul_comm] at this; omega
  have lq := len_mono hq la
  have lc := len_mono hc la
  have lr := len_mono (Nat.sub_le a (a / 2 ^ s * 2 ^ s)) la
  have lsh := len_shl (s := s) (q := 16) la hs16
  have hbit : a / 2 ^ s / 2 ^ j % 2 = a / 2 ^ (s + j) % 2 := by rw [Nat.div_div_eq_div_mul, ← Nat.pow_add]
  have hbit2 : a * 2 ^ s / 2 ^ (s + j) % 2 = a / 2 ^ j % 2 := by rw [Nat.pow_add, ← Nat.div_div_eq_div_mul, Nat.mul_div_cancel _ hp]
  rw [shr_f A1 s0 A2, Option.bind_some, shl_f (L40 _ lq) s0 (L41 _ lq), Option.bind_some, sub_f A1 (L40 _ lc) A3, if_neg (Nat.not_lt.2 hc), Option.bind_some]
  dsimp only
  rw [if_pos rfl, bits_f (L40 _ lr), Option.bind_some, if_pos (by rw [hr ()]; exact Int.ofNat_le.2 (bl_le.2 (Nat.mod_lt _ hp))), e3, bit_f s3, Option.bind_some, bit_f s2, Option.bind_some, if_pos (by rw [hbit]),
    shl_f A1 s0 A4, Option.bind_some, bit_f s2, Option.bind_some, bit_f s3, Option.bind_some, if_pos (by rw [hbit2]), bits_f (L40 _ lq), Option.bind_some, bits_f A1, Option.bind_some,
    e5, mx_zero, if_pos (by rw [bl_shr])]
  rcases hlast with h00 | ⟨t, rfl, e4, ht⟩
  · rw [if_pos (hz.2 h00)]
  · rw [if_neg (fun h => Nat.succ_ne_zero t (hz.1 h)), e4, bit_f ht, Option.bind_some, if_pos ?_]
    have : a / 2 ^ (t + 1) * 2 ^ (t + 1) / 2 ^ t % 2 = 0 := by
      rw [Nat.pow_succ 2 t, Nat.mul_comm (2 ^ t) 2, ← Nat.mul_assoc, Nat.mul_div_cancel _ (Nat.pow_pos (by decide)), Nat.mul_mod_left]
    rw [this]
    rfl
end Go.Proofs.Ytplkofflhacehaa.Pure
