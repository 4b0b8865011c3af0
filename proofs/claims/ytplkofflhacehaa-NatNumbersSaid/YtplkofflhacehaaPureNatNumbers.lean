import Derived.Test.YtplkofflhacehaaNFun4
import Derived.Test.YtplkofflhacehaaQ15
namespace Go.Proofs.Ytplkofflhacehaa.Pure
open Go.RowKit Go.Proofs.Ytplkofflhacehaa.Q Go.Proofs.YtplkofflhacehaaW.PrintWords Go.Proofs.YtplkofflhacehaaW.PrintLast Go.Proofs.YtplkofflhacehaaW.PrintMore
open Go.Proofs.Ytplkofflhacehaa.NC Go.Proofs.Ytplkofflhacehaa.NF
set_option linter.unusedVariables false
set_option linter.unusedSimpArgs false
theorem back (a s : Nat) (hs : s < 64) : a * 2 ^ s % 18446744073709551616 / 2 ^ s = a % 2 ^ (64 - s) := by
  have hp : 0 < 2 ^ s := Nat.pow_pos (by omega)
  rw [show (18446744073709551616 : Nat) = 2 ^ s * 2 ^ (64 - s) by rw [← Nat.pow_add, show s + (64 - s) = 64 by omega], Nat.mul_comm a, Nat.mul_mod_mul_left, Nat.mul_div_cancel_left _ hp]
theorem back_iff (a s : Nat) (hs : s < 64) : a * 2 ^ s % 18446744073709551616 / 2 ^ s = a ↔ a * 2 ^ s < 18446744073709551616 := by
  have hp : 0 < 2 ^ s := Nat.pow_pos (by omega)
  have hq : 0 < 2 ^ (64 - s) := Nat.pow_pos (by omega)
  rw [back a s hs, show (18446744073709551616 : Nat) = 2 ^ (64 - s) * 2 ^ s by rw [← Nat.pow_add, show 64 - s + s = 64 by omega], Nat.mul_lt_mul_right hp]
  exact ⟨fun h => by have := Nat.mod_lt a hq; omega, fun h => Nat.mod_eq_of_lt h⟩
theorem shl64 (a s : Nat) (hs : s < 64) : shl .u64 (a : Int) (s : Int) = ((a * 2 ^ s % 18446744073709551616 : Nat) : Int) := by
  unfold shl
  have hcast : ((a : Int) * 2 ^ s) = ((a * 2 ^ s : Nat) : Int) := by rw [Int.natCast_mul, Int.natCast_pow]; rfl
  rw [min64 hs, hcast, IntKind.wrap_u64]
  omega
theorem shr64 (a s : Nat) (hs : s < 64) : shr .u64 (a : Int) (s : Int) = ((a / 2 ^ s : Nat) : Int) := by
  unfold shr
  rw [min64 hs, Int.natCast_ediv, Int.natCast_pow]; rfl
theorem len64 {a : Nat} (h : a < 18446744073709551616) : (toL a).length ≤ 2 := by rw [toL_length_le, pow2of32]; exact h
theorem low_small {n k : Nat} (hk : 3 < k) (h : n < 18446744073709551616) : nat_Low.f k (toL n) = some ((n : Int), true) := by rw [low_f hk, if_pos h]
theorem low_big {n k : Nat} (hk : 3 < k) (h : ¬ n < 18446744073709551616) : nat_Low.f k (toL n) = some (0, false) := by rw [low_f hk, if_neg h]
theorem low_nil {k : Nat} (hk : 3 < k) : nat_Low.f k [] = some (0, true) := by
  have := low_small (n := 0) hk (by omega)
  rwa [toL_zero] at this
theorem NatNumbers : zigguratlaw01_NatNumbers.Pure := by
  intro a0 a1 a2 h0 h1 h2
  obtain ⟨a, rfl, ha⟩ := wf64 h0
  obtain ⟨b, rfl, hb⟩ := wf64 h1
  obtain ⟨c, rfl, hc⟩ := wf8 h2
  refine ⟨5000, ?_⟩
  unfold zigguratlaw01_NatNumbers.f
  have w2 : wrap64 (c : Int) = (c : Int) := w64 (by omega) (by omega)
  have es : Int.tmod (c : Int) 64 = ((c % 64 : Nat) : Int) := by rw [Int.tmod_eq_emod_of_nonneg (by omega)]; omega
  have hs : c % 64 < 64 := Nat.mod_lt _ (by omega)
  generalize c % 64 = s at es hs
  have la := len64 ha
  have lb := len64 hb
  have lab := len_add la lb
  have hq : a / 2 ^ s < 18446744073709551616 := Nat.lt_of_le_of_lt (Nat.div_le_self _ _) ha
  have lsh := len_shl (s := s) (q := 2) la (by omega)
  have wa : IntKind.u64.wrap ((a : Int) + (b : Int)) = (((a + b) % 18446744073709551616 : Nat) : Int) := by rw [IntKind.wrap_u64]; omega
  have tail : (if true = true then (if 0 ≤ (s : Int) then (if ((a / 2 ^ s : Nat) : Int) = (shr .u64 (a : Int) (s : Int)) then ((nat_Shl.f 5000 (toL a) (s : Int)).bind fun t525 => ((nat_Low.f 5000 t525).bind fun bt528 => (if (bt528.2 == ((shr .u64 (shl .u64 (a : Int) (s : Int)) (s : Int)) == (a : Int))) = true then (if bt528.2 = true then (if bt528.1 = (shl .u64 (a : Int) (s : Int)) then ((nat_Right.f (toL a)).bind fun t530 => (if t530 = true then ((nat_Right.f (toL b)).bind fun t531 => (if t531 = true then (some true) else (none))) else (none))) else (none)) else ((nat_Right.f (toL a)).bind fun t532 => (if t532 = true then ((nat_Right.f (toL b)).bind fun t533 => (if t533 = true then (some true) else (none))) else (none)))) else (none)))) else (none)) else (none)) else (none)) = some true := by
    rw [if_pos rfl, if_pos (by omega), if_pos (shr64 a s hs).symm, shl_f (by omega) (by omega) (by omega), Option.bind_some, shl64 a s hs, shr64 _ s hs]
    have hi := back_iff a s hs
    by_cases h : a * 2 ^ s < 18446744073709551616
    · rw [low_small (by omega) h, Option.bind_some, if_pos (by rw [beq_iff_eq.2 (Int.natCast_inj.2 (hi.2 h))]; rfl), if_pos rfl, if_pos (by rw [Nat.mod_eq_of_lt h]), right_f (by omega), Option.bind_some, if_pos rfl, right_f (by omega), Option.bind_some, if_pos rfl]
    · rw [low_big (by omega) h, Option.bind_some, if_pos (by rw [beq_eq_false_iff_ne.2 (fun e => h (hi.1 (Int.natCast_inj.1 e)))]; rfl), if_neg (by simp), right_f (by omega), Option.bind_some, if_pos rfl, right_f (by omega), Option.bind_some, if_pos rfl]
  rw [w2, es, head_k (by omega), Option.bind_some, of_f ha (by omega), Option.bind_some, of_f hb (by omega), Option.bind_some, low_small (by omega) ha, Option.bind_some, add_f (by omega) (by omega) (by omega), Option.bind_some, wa]
  by_cases hov : a + b < 18446744073709551616
  · rw [low_small (by omega) hov, Option.bind_some, sub_f (by omega) (by omega) (by omega)]
    by_cases hab : a < b
    · rw [if_pos hab, Option.bind_some, low_nil (by omega), Option.bind_some, shr_f (by omega) (by omega) (by omega), Option.bind_some, low_small (by omega) hq, Option.bind_some, if_pos rfl, if_pos rfl, if_neg (by rw [decide_eq_true (by omega)]; simp), if_pos rfl, if_pos (by rw [Nat.mod_eq_of_lt hov]), if_neg (by rw [decide_eq_false (by omega)]; simp), if_neg (by simp)]
      exact tail
    · rw [if_neg hab, Option.bind_some, low_small (by omega) (by omega), Option.bind_some, shr_f (by omega) (by omega) (by omega), Option.bind_some, low_small (by omega) hq, Option.bind_some, if_pos rfl, if_pos rfl, if_neg (by rw [decide_eq_true (by omega)]; simp), if_pos rfl, if_pos (by rw [Nat.mod_eq_of_lt hov]), if_neg (by rw [decide_eq_true (by omega)]; simp), if_pos rfl, if_pos (by rw [u64w (by omega) (by omega)]; show ((a - b : Nat) : Int) = _; omega)]
      exact tail
  · rw [low_big (by omega) hov, Option.bind_some, sub_f (by omega) (by omega) (by omega)]
    by_cases hab : a < b
    · rw [if_pos hab, Option.bind_some, low_nil (by omega), Option.bind_some, shr_f (by omega) (by omega) (by omega), Option.bind_some, low_small (by omega) hq, Option.bind_some, if_pos rfl, if_pos rfl, if_neg (by rw [decide_eq_false (by omega)]; simp), if_neg (by simp), if_neg (by rw [decide_eq_false (by omega)]; simp), if_neg (by simp)]
      exact tail
    · rw [if_neg hab, Option.bind_some, low_small (by omega) (by omega), Option.bind_some, shr_f (by omega) (by omega) (by omega), Option.bind_some, low_small (by omega) hq, Option.bind_some, if_pos rfl, if_pos rfl, if_neg (by rw [decide_eq_false (by omega)]; simp), if_neg (by simp), if_neg (by rw [decide_eq_true (by omega)]; simp), if_pos rfl, if_pos (by rw [u64w (by omega) (by omega)]; show ((a - b : Nat) : Int) = _; omega)]
      exact tail
end Go.Proofs.Ytplkofflhacehaa.Pure
