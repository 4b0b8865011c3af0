/- Sums, differences, shifts and bits of naturals: plain Lean over the printed functions. -/
import Derived.Test.YtplkofflhacehaaNFun
import Derived.Test.YtplkofflhacehaaQ4
import Derived.Test.YtplkofflhacehaaQ6
import Derived.Test.YtplkofflhacehaaQ7
import Derived.Test.YtplkofflhacehaaQ8
import Derived.Test.YtplkofflhacehaaQ9
namespace Go.Proofs.Ytplkofflhacehaa.NF
open Go.RowKit Go.Proofs.Ytplkofflhacehaa.Q Go.Proofs.Ytplkofflhacehaa.NC Go.Proofs.YtplkofflhacehaaW.PrintWords Go.Proofs.YtplkofflhacehaaW.PrintLast Go.Proofs.YtplkofflhacehaaW.PrintMore
set_option linter.unusedVariables false
set_option linter.unusedSimpArgs false

/-! ### Add -/
theorem addG_eq {x y c : Nat} (hx : x < 4294967296) (hy : y < 4294967296) (hc : c ≤ 1) : addG x y c = ((((x + y + c) % 4294967296 : Nat) : Int), (((x + y + c) / 4294967296 : Nat) : Int)) := by
  simp only [addG, bits_Add32.f, Option.getD_some]
  rw [u64w (z := (x : Int)) (by omega) (by omega), u64w (z := (y : Int)) (by omega) (by omega), u64w (z := (c : Int)) (by omega) (by omega), u64w (z := (x : Int) + y) (by omega) (by omega), u64w (z := (x : Int) + y + c) (by omega) (by omega)]
  congr 1 <;> omega
theorem out_add (f1 f2 : Nat → Nat) (h1 : ∀ i, f1 i < 4294967296) (h2 : ∀ i, f2 i < 4294967296) : ∀ n, ∃ c : Nat, c ≤ 1 ∧ (outOf addG (upto (fun i => ((f1 i : Int), (f2 i : Int))) n)).2 = (c : Int) ∧
    Limbs (outOf addG (upto (fun i => ((f1 i : Int), (f2 i : Int))) n)).1 ∧ (outOf addG (upto (fun i => ((f1 i : Int), (f2 i : Int))) n)).1.length = n ∧
    val (outOf addG (upto (fun i => ((f1 i : Int), (f2 i : Int))) n)).1 + 4294967296 ^ n * c = upV f1 n + upV f2 n := by
  intro n
  induction n with
  | zero => exact ⟨0, by omega, rfl, limbs_nil, rfl, by simp [upto, outOf, val, upV]⟩
  | succ n ih =>
    obtain ⟨c, hc, e2, hl, hn, hv⟩ := ih
    rw [upto_succ, outOf_snoc, e2]
    dsimp only
    rw [addG_eq (h1 n) (h2 n) hc]
    refine ⟨(f1 n + f2 n + c) / 4294967296, ?_, rfl, limbs_snoc hl (by omega) (by omega), ?_, ?_⟩
    · have := h1 n; have := h2 n; omega
    · rw [List.length_append, hn]; rfl
    · rw [val_snoc, hn]
      simp only [upV, Int.toNat_natCast, Nat.pow_succ]
      have hd := Nat.div_add_mod (f1 n + f2 n + c) 4294967296
      generalize (f1 n + f2 n + c) / 4294967296 = q at *
      generalize hr : (f1 n + f2 n + c) % 4294967296 = r at *
      generalize 4294967296 ^ n = M at *
      have h5 : M * f1 n + M * f2 n + M * c = M * 4294967296 * q + M * r := by
        rw [← Nat.mul_add, ← Nat.mul_add, Nat.mul_assoc, ← Nat.mul_add, hd]
      omega
theorem rows_eq {l0 l1 : List Int} (h0 : Limbs l0) (h1 : Limbs l1) : (fun i => (Go.Proofs.Ytplkofflhacehaa.Q.rowAt l0 i, Go.Proofs.Ytplkofflhacehaa.Q.rowAt l1 i)) = (fun i => ((lim l0 i : Int), (lim l1 i : Int))) := by
  funext i
  rw [Go.Proofs.Ytplkofflhacehaa.Q.rowAt, Go.Proofs.Ytplkofflhacehaa.Q.rowAt, rd_nat h0, rd_nat h1]
theorem fin1 (V x y z p q c : Nat) (hc : c ≤ 1) (hv : V + z * 4294967296 * c = p + q) (a1 : p < x) (a2 : q < y) (b1 : x ≤ z) (b2 : y ≤ z) : V = p + q := by
  rcases (show c = 0 ∨ c = 1 by omega) with rfl | rfl
  · rw [Nat.mul_zero, Nat.add_zero] at hv
    exact hv
  · exfalso
    rw [Nat.mul_one] at hv
    have h2 : z * 2 ≤ z * 4294967296 := Nat.mul_le_mul_left _ (by decide)
    generalize z * 4294967296 = u at *
    omega
theorem add_row {l0 l1 : List Int} (h0 : Limbs l0) (h1 : Limbs l1) : Limbs (allRow addG l0 l1 (max l0.length l1.length + 1)) ∧ (allRow addG l0 l1 (max l0.length l1.length + 1)).length = max l0.length l1.length + 1 ∧ val (allRow addG l0 l1 (max l0.length l1.length + 1)) = val l0 + val l1 := by
  unfold allRow
  rw [rows_eq h0 h1]
  obtain ⟨m, hm⟩ : ∃ m, max l0.length l1.length = m := ⟨_, rfl⟩
  rw [hm]
  obtain ⟨c, hc, e2, hl, hn, hv⟩ := out_add (lim l0) (lim l1) (lim_lt h0) (lim_lt h1) (m + 1)
  refine ⟨hl, hn, ?_⟩
  rw [upV_all h0 (by omega), upV_all h1 (by omega)] at hv
  have a1 := val_lt h0
  have a2 := val_lt h1
  have b1 : 4294967296 ^ l0.length ≤ 4294967296 ^ m := Nat.pow_le_pow_right (by omega) (by omega)
  have b2 : 4294967296 ^ l1.length ≤ 4294967296 ^ m := Nat.pow_le_pow_right (by omega) (by omega)
  rw [Nat.pow_succ] at hv
  exact fin1 _ _ _ _ _ _ c hc hv a1 a2 b1 b2
theorem add_f {a b k : Nat} (ha : (toL a).length < 1099511627776) (hb : (toL b).length < 1099511627776) (hk : max (toL a).length (toL b).length + 1 < k) : nat_Add.f k (toL a) (toL b) = some (toL (a + b)) := by
  unfold nat_Add.f
  rw [if_pos (by omega)]
  obtain ⟨h1, h2, h3⟩ := add_row (limbs_toL a) (limbs_toL b)
  rw [make_f h1 (by omega) (by omega), h3, val_toL, val_toL]

/-! ### Sub -/
theorem top_bit {x : Nat} (h : x < 4294967296) : x / 2147483648 = (x.testBit 31).toNat := by
  rw [Nat.testBit_eq_decide_div_mod_eq]
  have e : (2 : Nat) ^ 31 = 2147483648 := by decide
  rw [e]
  by_cases h1 : x < 2147483648
  · have : x / 2147483648 = 0 := by omega
    rw [this]; rfl
  · have : x / 2147483648 = 1 := by omega
    rw [this]; rfl
theorem top_is {x : Nat} (h : x < 4294967296) : x.testBit 31 = decide (2147483648 ≤ x) := by
  rw [Nat.testBit_eq_decide_div_mod_eq]
  have e : (2 : Nat) ^ 31 = 2147483648 := by decide
  rw [e]
  by_cases h1 : 2147483648 ≤ x
  · have : x / 2147483648 = 1 := by omega
    simp [this, h1]
  · have : x / 2147483648 = 0 := by omega
    simp [this, h1]
theorem subG_eq {x y c : Nat} (hx : x < 4294967296) (hy : y < 4294967296) (hc : c ≤ 1) : ∃ s b : Nat, subG x y c = ((s : Int), (b : Int)) ∧ s < 4294967296 ∧ b ≤ 1 ∧ x + 4294967296 * b = s + y + c := by
  obtain ⟨d, hd⟩ : ∃ d : Nat, ((((x : Int) - y) % 4294967296) - c) % 4294967296 = (d : Int) := ⟨(((((x : Int) - y) % 4294967296) - c) % 4294967296).toNat, by omega⟩
  have hdl : d < 4294967296 := by omega
  have hM : (4294967295 : Nat) < 4294967296 := by decide
  have n1 : 4294967295 ^^^ x < 4294967296 := Nat.xor_lt_two_pow (n := 32) hM hx
  have n2 : (4294967295 ^^^ x) &&& y < 4294967296 := Nat.and_lt_two_pow (n := 32) _ hy
  have n3 : x ^^^ y < 4294967296 := Nat.xor_lt_two_pow (n := 32) hx hy
  have n4 : 4294967295 ^^^ (x ^^^ y) < 4294967296 := Nat.xor_lt_two_pow (n := 32) hM n3
  have n5 : (4294967295 ^^^ (x ^^^ y)) &&& d < 4294967296 := Nat.and_lt_two_pow (n := 32) _ hdl
  have n6 : ((4294967295 ^^^ x) &&& y) ||| ((4294967295 ^^^ (x ^^^ y)) &&& d) < 4294967296 := Nat.or_lt_two_pow (n := 32) n2 n5
  have e : subG x y c = ((d : Int), (((((4294967295 ^^^ x) &&& y) ||| ((4294967295 ^^^ (x ^^^ y)) &&& d)) / 2147483648 : Nat) : Int)) := by
    simp only [subG, bits_Sub32.f, Option.getD_some]
    rw [hd]
    have q1 : Go.bits .xor .u32 4294967295 (x : Int) = ((4294967295 ^^^ x : Nat) : Int) := bits_xor32 hM hx
    rw [q1, bits_and32 n1 hy, bits_xor32 hx hy]
    have q2 : Go.bits .xor .u32 4294967295 ((x ^^^ y : Nat) : Int) = ((4294967295 ^^^ (x ^^^ y) : Nat) : Int) := bits_xor32 hM n3
    rw [q2, bits_and32 n4 hdl, bits_or32 n2 n5]
    congr 1
  rw [top_bit n6] at e
  have tM : Nat.testBit 4294967295 31 = true := by decide
  rw [Nat.testBit_or, Nat.testBit_and, Nat.testBit_and, Nat.testBit_xor, Nat.testBit_xor, Nat.testBit_xor, tM, top_is hx, top_is hy, top_is hdl] at e
  refine ⟨d, _, e, hdl, ?_, ?_⟩
  · generalize ((true ^^ decide (2147483648 ≤ x)) && decide (2147483648 ≤ y) || (true ^^ (decide (2147483648 ≤ x) ^^ decide (2147483648 ≤ y))) && decide (2147483648 ≤ d)) = b
    cases b <;> decide
  · clear e n1 n2 n3 n4 n5 n6 tM hM
    by_cases hx1 : 2147483648 ≤ x <;> by_cases hy1 : 2147483648 ≤ y <;> by_cases hd1 : 2147483648 ≤ d <;> simp [hx1, hy1, hd1] <;> omega
theorem out_sub (f1 f2 : Nat → Nat) (h1 : ∀ i, f1 i < 4294967296) (h2 : ∀ i, f2 i < 4294967296) : ∀ n, ∃ c : Nat, c ≤ 1 ∧ (outOf subG (upto (fun i => ((f1 i : Int), (f2 i : Int))) n)).2 = (c : Int) ∧
    Limbs (outOf subG (upto (fun i => ((f1 i : Int), (f2 i : Int))) n)).1 ∧ (outOf subG (upto (fun i => ((f1 i : Int), (f2 i : Int))) n)).1.length = n ∧
    val (outOf subG (upto (fun i => ((f1 i : Int), (f2 i : Int))) n)).1 + upV f2 n = upV f1 n + 4294967296 ^ n * c := by
  intro n
  induction n with
  | zero => exact ⟨0, by omega, rfl, limbs_nil, rfl, by simp [upto, outOf, val, upV]⟩
  | succ n ih =>
    obtain ⟨c, hc, e2, hl, hn, hv⟩ := ih
    obtain ⟨s, b, e3, hs, hb, hsb⟩ := subG_eq (h1 n) (h2 n) hc
    rw [upto_succ, outOf_snoc, e2]
    dsimp only
    rw [e3]
    refine ⟨b, hb, rfl, limbs_snoc hl (by omega) (by omega), ?_, ?_⟩
    · rw [List.length_append, hn]; rfl
    · rw [val_snoc, hn]
      simp only [upV, Int.toNat_natCast, Nat.pow_succ]
      generalize 4294967296 ^ n = M at *
      have h5 : M * f1 n + M * 4294967296 * b = M * s + M * f2 n + M * c := by
        rw [Nat.mul_assoc, ← Nat.mul_add, ← Nat.mul_add, ← Nat.mul_add, hsb]
      omega
theorem sub_f {a b k : Nat} (ha : (toL a).length < 1099511627776) (hb : (toL b).length < 1099511627776) (hk : (toL a).length < k) :
    nat_Sub.f k (toL a) (toL b) = some (if a < b then ([], false) else (toL (a - b), true)) := by
  unfold nat_Sub.f
  rw [cmp_f (by omega) (by omega) hk, Option.bind_some]
  by_cases h : a < b
  · have e1 : cmpN a b = -1 := by unfold cmpN; rw [if_pos h]
    rw [e1, if_pos (by decide), if_pos h]
  · have e1 : ¬ cmpN a b < 0 := by unfold cmpN; rw [if_neg h]; split <;> omega
    rw [if_neg e1, if_pos (by omega), if_neg h]
    obtain ⟨c, hc, e2, hl, hn, hv⟩ := out_sub (lim (toL a)) (lim (toL b)) (lim_lt (limbs_toL a)) (lim_lt (limbs_toL b)) (toL a).length
    have hle : (toL b).length ≤ (toL a).length := by
      rw [toL_length_le]
      exact Nat.lt_of_le_of_lt (Nat.le_of_not_lt h) (val_lt_toL a)
    rw [upV_all (limbs_toL a) (Nat.le_refl _), upV_all (limbs_toL b) hle, val_toL, val_toL] at hv
    unfold allRow
    rw [rows_eq (limbs_toL a) (limbs_toL b), make_f hl (by omega) (by omega), Option.bind_some]
    have hvl := val_lt hl
    rw [hn] at hvl
    have : c = 0 := by
      rcases (show c = 0 ∨ c = 1 by omega) with rfl | rfl
      · rfl
      · omega
    subst this
    have : val (outOf subG (upto (fun i => ((lim (toL a) i : Int), (lim (toL b) i : Int))) (toL a).length)).1 = a - b := by omega
    rw [this]

/-! ### Low -/
theorem pow2of32 : (4294967296 : Nat) ^ 2 = 18446744073709551616 := by decide
theorem low_f {n k : Nat} (hk : 3 < k) : nat_Low.f k (toL n) = some (if n < 18446744073709551616 then ((n : Int), true) else (0, false)) := by
  unfold nat_Low.f
  by_cases h : n < 18446744073709551616
  · have hlen : (toL n).length ≤ 2 := by rw [toL_length_le, pow2of32]; exact h
    rw [if_neg (by omega), if_pos h]
    obtain ⟨k, rfl⟩ : ∃ m, k = m + 3 := ⟨k - 3, by omega⟩
    by_cases h0 : n = 0
    · subst h0
      rw [toL_zero]
      simp [nat_Low.l0]
    · have e0 : toL n = ((n % 4294967296 : Nat) : Int) :: toL (n / 4294967296) := toL_pos h0
      have s0 : ∀ a : Nat, a < 4294967296 → Go.bits .or .u64 0 (shl .u64 (IntKind.u64.wrap (a : Int)) (wrap64 (32 * 0))) = (a : Int) := by
        intro a ha
        have e1 : shl .u64 (IntKind.u64.wrap (a : Int)) (wrap64 (32 * 0)) = (a : Int) := by
          rw [u64w (by omega) (by omega)]
          have : (wrap64 (32 * 0)).toNat = 0 := by unfold wrap64; omega
          simp only [shl, this, IntKind.bits, Nat.zero_min, Int.pow_zero, Int.mul_one]
          rw [u64w (by omega) (by omega)]
        rw [e1]
        have := bits_or64 (a := 0) (b := a) (by decide) (by omega)
        rw [Nat.zero_or] at this
        exact this
      by_cases h1 : n / 4294967296 = 0
      · have e1 : toL n = [(n : Int)] := by
          rw [e0, h1, toL_zero]; congr 1; omega
        rw [e1]
        simp only [nat_Low.l0]
        rw [if_pos (by simp), if_pos (by omega), if_pos (by simp), if_pos (by unfold wrap64; omega)]
        have r0 : rd [(n : Int)] 0 = (n : Int) := rfl
        have w1 : wrap64 (0 + 1) = 1 := by unfold wrap64; omega
        rw [r0, s0 n (by omega), w1, if_neg (by simp)]
      · have h2 : n / 4294967296 / 4294967296 = 0 := by omega
        have e1 : toL n = [((n % 4294967296 : Nat) : Int), ((n / 4294967296 : Nat) : Int)] := by
          rw [e0, toL_pos h1, h2, toL_zero, Nat.mod_eq_of_lt (show n / 4294967296 < 4294967296 by omega)]
        rw [e1]
        simp only [nat_Low.l0]
        rw [if_pos (by simp), if_pos (by omega), if_pos (by simp), if_pos (by unfold wrap64; omega)]
        have r0 : rd [((n % 4294967296 : Nat) : Int), ((n / 4294967296 : Nat) : Int)] 0 = ((n % 4294967296 : Nat) : Int) := rfl
        have w1 : wrap64 (0 + 1) = 1 := by unfold wrap64; omega
        have w2 : wrap64 (1 + 1) = 2 := by unfold wrap64; omega
        have r1 : rd [((n % 4294967296 : Nat) : Int), ((n / 4294967296 : Nat) : Int)] 1 = ((n / 4294967296 : Nat) : Int) := rfl
        rw [r0, s0 _ (by omega), w1, if_pos (by simp), if_pos (by omega), if_pos (by simp), if_pos (by unfold wrap64; omega), r1, w2]
        have e2 : shl .u64 (IntKind.u64.wrap ((n / 4294967296 : Nat) : Int)) (wrap64 (32 * 1)) = ((2 ^ 32 * (n / 4294967296) : Nat) : Int) := by
          rw [u64w (by omega) (by omega)]
          have : (wrap64 (32 * 1)).toNat = 32 := by unfold wrap64; omega
          have hm : min 32 64 = 32 := by decide
          simp only [shl, this, IntKind.bits, hm]
          rw [u64w (by omega) (by omega)]
          omega
        rw [e2, bits_or64 (by omega) (by omega), Nat.or_comm, or_add (by omega), if_neg (by simp)]
        congr 2
        omega
  · have hlen : ¬ (toL n).length ≤ 2 := by rw [toL_length_le, pow2of32]; exact h
    rw [if_pos (by omega), if_neg h]
end Go.Proofs.Ytplkofflhacehaa.NF
