import Derived.Test.YtplkofflhacehaaNFun4
import Derived.Test.YtplkofflhacehaaQ13
namespace Go.Proofs.Ytplkofflhacehaa.Pure
open Go.RowKit Go.Proofs.Ytplkofflhacehaa.Q Go.Proofs.YtplkofflhacehaaW.PrintWords Go.Proofs.YtplkofflhacehaaW.PrintLast Go.Proofs.YtplkofflhacehaaW.PrintMore
open Go.Proofs.Ytplkofflhacehaa.NC Go.Proofs.Ytplkofflhacehaa.NF
set_option linter.unusedVariables false
set_option linter.unusedSimpArgs false
theorem one_toL : ([1] : List Int) = toL 1 := by rw [toL_pos (by omega), show 1 / 4294967296 = 0 by decide, toL_zero]; rfl
theorem bl_len {a m : Nat} (h : (toL a).length ≤ m) : bl a ≤ 32 * m := by
  rw [toL_length_le, pow32] at h
  exact bl_le.2 h
theorem bl_zero_iff (a : Nat) : bl a = 0 ↔ a = 0 := by
  have := @bl_le a 0
  simp at this
  omega
theorem loop {a x1 : Nat} (la : (toL a).length ≤ 12) (hx : x1 < 65536) : ∀ (i k : Nat), i ≤ 400 → i + 100 ≤ k →
    zigguratlaw01_NatBits.l0 k (x1 : Int) true (toL a) (bl a : Int) (toL (a / 2 ^ i)) ((i : Int) - 1) = some true := by
  have ba := bl_len la
  have hb : a < 2 ^ bl a := bl_le.1 (Nat.le_refl _)
  intro i
  induction i with
  | zero =>
    intro k hi hk
    obtain ⟨k, rfl⟩ : ∃ m, k = m + 1 := ⟨k - 1, by omega⟩
    have hz : a / 2 ^ (bl a + x1) = 0 := Nat.div_eq_of_lt (Nat.lt_of_lt_of_le hb (Nat.pow_le_pow_right (by omega) (by omega)))
    have e1 : wrap64 ((bl a : Int) + wrap64 (x1 : Int)) = ((bl a + x1 : Nat) : Int) := by
      rw [w64 (z := (x1 : Int)) (by omega) (by omega), w64 (by omega) (by omega)]; omega
    have hl : ((toL a).length : Int) = 0 ↔ a = 0 := by
      rw [← toL_nil]
      exact ⟨fun h => List.length_eq_zero_iff.1 (by omega), fun h => by rw [h]; rfl⟩
    simp only [zigguratlaw01_NatBits.l0]
    rw [if_neg (by omega), Nat.pow_zero, Nat.div_one, same_toL (by omega) (by omega), Option.bind_some, if_pos (by simp), e1]
    by_cases h0 : a = 0
    · have hb0 := (bl_zero_iff a).2 h0
      rw [if_pos (by rw [beq_iff_eq.2 (hl.2 h0), hb0]; rfl), if_pos (by omega), bit_f (by omega), Option.bind_some, if_pos (by rw [hz]; rfl)]
    · have hb0 : bl a ≠ 0 := fun h => h0 ((bl_zero_iff a).1 h)
      have e2 : wrap64 ((bl a : Int) - 1) = ((bl a - 1 : Nat) : Int) := by rw [w64 (by omega) (by omega)]; omega
      have h1 : 2 ^ (bl a - 1) ≤ a := lt_bl.1 (by omega)
      have h2 : a / 2 ^ (bl a - 1) = 1 := by
        have hp : 0 < 2 ^ (bl a - 1) := Nat.pow_pos (by omega)
        have h3 : a / 2 ^ (bl a - 1) < 2 := (Nat.div_lt_iff_lt_mul hp).2 (by rw [Nat.mul_comm, ← Nat.pow_succ, show (bl a - 1).succ = bl a by omega]; exact hb)
        have h4 : 1 ≤ a / 2 ^ (bl a - 1) := (Nat.le_div_iff_mul_le hp).2 (by omega)
        omega
      rw [if_pos (by rw [beq_eq_false_iff_ne.2 (fun h => h0 (hl.1 h)), beq_eq_false_iff_ne.2 (show ((bl a : Nat) : Int) ≠ 0 by omega)]; rfl), if_neg (by omega), e2, bit_f (by omega), Option.bind_some, if_pos (by rw [h2]; rfl), bit_f (by omega), Option.bind_some, if_pos (by rw [hz]; rfl)]
  | succ i ih =>
    intro k hi hk
    obtain ⟨k, rfl⟩ : ∃ m, k = m + 1 := ⟨k - 1, by omega⟩
    have hd : a / 2 ^ (i + 1) = a / 2 ^ i / 2 := by rw [Nat.pow_succ, Nat.div_div_eq_div_mul]
    have hle : a / 2 ^ i ≤ a := Nat.div_le_self _ _
    have e0 : (((i + 1 : Nat) : Int) - 1) = (i : Int) := by omega
    have e1 : wrap64 ((i : Int) - 1) = (i : Int) - 1 := w64 (by omega) (by omega)
    have lx : (toL (a / 2 ^ (i + 1))).length ≤ 12 := len_mono (Nat.div_le_self _ _) la
    have ly : (toL (a / 2 ^ (i + 1) + a / 2 ^ (i + 1))).length ≤ 12 := len_mono (by omega) la
    have l1 : (toL 1).length ≤ 12 := by rw [← one_toL]; decide
    simp only [zigguratlaw01_NatBits.l0]
    have ih := ih k (by omega) (by omega)
    rw [e0, if_pos (by omega), add_f (by omega) (by omega) (by omega), Option.bind_some, bit_f (by omega), Option.bind_some, e1]
    by_cases h : a / 2 ^ i % 2 = 1
    · have e2 : a / 2 ^ (i + 1) + a / 2 ^ (i + 1) + 1 = a / 2 ^ i := by omega
      rw [if_pos (by omega), one_toL, add_f (by omega) (by omega) (by omega), Option.bind_some, e2]
      exact ih
    · have e2 : a / 2 ^ (i + 1) + a / 2 ^ (i + 1) = a / 2 ^ i := by omega
      rw [if_neg (by omega), Option.bind_some, if_pos (by omega), e2]
      exact ih
theorem NatBits : zigguratlaw01_NatBits.Pure := by
  intro l0 a1 _ _ h0 h1
  obtain ⟨n, rfl, hn⟩ := wf16 h1
  refine ⟨5000, ?_⟩
  unfold zigguratlaw01_NatBits.f
  have la := made_len (limbs_wf h0) 12
  have m0 := made_f (limbs_wf h0) (m := 12) (k := 5000) (by omega) (by omega)
  rw [show ((12 : Nat) : Int) = 12 from rfl] at m0
  rw [head_k (by omega), Option.bind_some, m0, Option.bind_some]
  generalize val (l0.take 12) = a at la
  have ba := bl_len la
  have ba2 : bl a ≤ 32 * (toL a).length := bl_len (Nat.le_refl _)
  rw [bits_f (by omega), Option.bind_some, if_neg (by omega), w64 (z := 32 * _) (by omega) (by omega), if_neg (by omega), w64 (by omega) (by omega)]
  have := loop la hn (bl a) 5000 (by omega) (by omega)
  rw [Nat.div_eq_of_lt (bl_le.1 (Nat.le_refl _)), toL_zero] at this
  exact this
end Go.Proofs.Ytplkofflhacehaa.Pure
