/- What the functions on naturals come to: plain Lean over the printed functions. -/
import Derived.Test.YtplkofflhacehaaNCore
import Derived.Test.YtplkofflhacehaaQ1
import Derived.Test.YtplkofflhacehaaQ3
import Derived.Test.YtplkofflhacehaaQ7
import Derived.Test.YtplkofflhacehaaQ9
namespace Go.Proofs.Ytplkofflhacehaa.NF
open Go.RowKit Go.Proofs.Ytplkofflhacehaa.Q Go.Proofs.Ytplkofflhacehaa.NC Go.Proofs.YtplkofflhacehaaW.PrintWords Go.Proofs.YtplkofflhacehaaW.PrintLast Go.Proofs.YtplkofflhacehaaW.PrintMore
set_option linter.unusedVariables false
set_option linter.unusedSimpArgs false

theorem w64 {z : Int} (h0 : -9223372036854775808 ≤ z) (h1 : z < 9223372036854775808) : wrap64 z = z := by unfold wrap64; omega
theorem rd_nat {l : List Int} (h : Limbs l) (i : Nat) : rd l (i : Int) = (lim l i : Int) := by
  unfold rd
  rw [Int.toNat_natCast, getD_lim h]
theorem rd_int {l : List Int} (h : Limbs l) {i : Int} (h0 : 0 ≤ i) : rd l i = (lim l i.toNat : Int) := by
  unfold rd
  rw [getD_lim h]
theorem u64w {z : Int} (h0 : 0 ≤ z) (h1 : z < 18446744073709551616) : IntKind.u64.wrap z = z := by
  simp only [IntKind.wrap, IntKind.bits, IntKind.signed]
  simp
  omega

/-- Bits on whole numbers that fit. -/
theorem bits_or32 {a b : Nat} (ha : a < 4294967296) (hb : b < 4294967296) : Go.bits .or .u32 (a : Int) (b : Int) = ((a ||| b : Nat) : Int) := by
  have h : a ||| b < 2 ^ 32 := Nat.or_lt_two_pow ha hb
  have e : Go.bits .or .u32 (a : Int) (b : Int) = IntKind.u32.wrap ((BitVec.ofInt 32 (a : Int) ||| BitVec.ofInt 32 (b : Int)).toNat : Int) := rfl
  rw [e, BitVec.ofInt_natCast, BitVec.ofInt_natCast, BitVec.toNat_or, BitVec.toNat_ofNat, BitVec.toNat_ofNat, Nat.mod_eq_of_lt ha, Nat.mod_eq_of_lt hb, IntKind.wrap_u32]
  omega
theorem bits_and32 {a b : Nat} (ha : a < 4294967296) (hb : b < 4294967296) : Go.bits .and .u32 (a : Int) (b : Int) = ((a &&& b : Nat) : Int) := by
  have h : a &&& b < 2 ^ 32 := Nat.and_lt_two_pow a hb
  have e : Go.bits .and .u32 (a : Int) (b : Int) = IntKind.u32.wrap ((BitVec.ofInt 32 (a : Int) &&& BitVec.ofInt 32 (b : Int)).toNat : Int) := rfl
  rw [e, BitVec.ofInt_natCast, BitVec.ofInt_natCast, BitVec.toNat_and, BitVec.toNat_ofNat, BitVec.toNat_ofNat, Nat.mod_eq_of_lt ha, Nat.mod_eq_of_lt hb, IntKind.wrap_u32]
  omega
theorem bits_xor32 {a b : Nat} (ha : a < 4294967296) (hb : b < 4294967296) : Go.bits .xor .u32 (a : Int) (b : Int) = ((a ^^^ b : Nat) : Int) := by
  have h : a ^^^ b < 2 ^ 32 := Nat.xor_lt_two_pow ha hb
  have e : Go.bits .xor .u32 (a : Int) (b : Int) = IntKind.u32.wrap ((BitVec.ofInt 32 (a : Int) ^^^ BitVec.ofInt 32 (b : Int)).toNat : Int) := rfl
  rw [e, BitVec.ofInt_natCast, BitVec.ofInt_natCast, BitVec.toNat_xor, BitVec.toNat_ofNat, BitVec.toNat_ofNat, Nat.mod_eq_of_lt ha, Nat.mod_eq_of_lt hb, IntKind.wrap_u32]
  omega
theorem bits_or64 {a b : Nat} (ha : a < 18446744073709551616) (hb : b < 18446744073709551616) : Go.bits .or .u64 (a : Int) (b : Int) = ((a ||| b : Nat) : Int) := by
  have h : a ||| b < 2 ^ 64 := Nat.or_lt_two_pow ha hb
  have e : Go.bits .or .u64 (a : Int) (b : Int) = IntKind.u64.wrap ((BitVec.ofInt 64 (a : Int) ||| BitVec.ofInt 64 (b : Int)).toNat : Int) := rfl
  rw [e, BitVec.ofInt_natCast, BitVec.ofInt_natCast, BitVec.toNat_or, BitVec.toNat_ofNat, BitVec.toNat_ofNat, Nat.mod_eq_of_lt ha, Nat.mod_eq_of_lt hb, u64w (by omega) (by omega)]
theorem or_add {a b i : Nat} (hb : b < 2 ^ i) : 2 ^ i * a ||| b = 2 ^ i * a + b := (Nat.two_pow_add_eq_or_of_lt hb a).symm

/-! ### Make -/
theorem make_l0 {x0 : List Int} (hl : Limbs x0) (hlen : x0.length < 35184372088832) : ∀ (n k : Nat), n < k → n ≤ x0.length → val (x0.take n) = val x0 → nat_Make.l0 k x0 (n : Int) = some (toL (val x0)) := by
  intro n
  induction n with
  | zero =>
    intro k hk hn hv
    obtain ⟨k, rfl⟩ : ∃ m, k = m + 1 := ⟨k - 1, by omega⟩
    have h0 : val x0 = 0 := by rw [← hv]; simp [val]
    simp only [nat_Make.l0]
    rw [if_neg (by omega), if_pos (by omega), if_pos (by omega), h0, toL_zero]
    simp [slices_Clone_uint32_uint32.f]
  | succ n ih =>
    intro k hk hn hv
    obtain ⟨k, rfl⟩ : ∃ m, k = m + 1 := ⟨k - 1, by omega⟩
    have e : wrap64 (((n + 1 : Nat) : Int) - 1) = (n : Int) := by unfold wrap64; omega
    simp only [nat_Make.l0]
    rw [if_pos (by omega), e, if_pos (by omega), if_pos (by omega), rd_nat hl]
    by_cases hz : lim x0 n = 0
    · rw [hz, if_pos (by rfl)]
      refine ih k (by omega) (by omega) ?_
      rw [← hv, val_take_succ hl, hz]
      simp
    · rw [if_neg (by omega), if_pos (by omega), if_pos (by omega)]
      have e2 : (((n + 1 : Nat) : Int)).toNat = n + 1 := by omega
      rw [e2]
      have hlt : (x0.take (n + 1)).length < 35184372088832 := by rw [List.length_take]; omega
      unfold slices_Clone_uint32_uint32.f
      rw [if_pos hlt, Option.bind_some, ← hv, canon (limbs_take hl _)]
      intro hne
      rw [List.getLast_eq_getElem]
      have hl1 : (x0.take (n + 1)).length = n + 1 := by rw [List.length_take]; omega
      simp only [hl1, Nat.add_sub_cancel, List.getElem_take]
      intro h0
      apply hz
      have hnl : n < x0.length := by omega
      simp [lim, List.getD_eq_getElem?_getD, List.getElem?_eq_getElem hnl, h0]
theorem make_f {l : List Int} (hl : Limbs l) (hlen : l.length < 35184372088832) {k : Nat} (hk : l.length < k) : nat_Make.f k l = some (toL (val l)) :=
  make_l0 hl hlen l.length k hk (Nat.le_refl _) (by rw [List.take_length])

/-! ### Same -/
theorem same_l0 (x y : List Int) (hlen : x.length < 4611686018427387904) (he : x.length = y.length) : ∀ (d k : Nat) (i : Nat), x.length - i = d → i ≤ x.length → d < k → zigguratref01_Same.l0 k x y (i : Int) = some (decide (x.drop i = y.drop i)) := by
  intro d
  induction d with
  | zero =>
    intro k i hd hi hk
    obtain ⟨k, rfl⟩ : ∃ m, k = m + 1 := ⟨k - 1, by omega⟩
    simp only [zigguratref01_Same.l0]
    rw [if_neg (by omega), List.drop_of_length_le (by omega), List.drop_of_length_le (by omega)]
    simp
  | succ d ih =>
    intro k i hd hi hk
    obtain ⟨k, rfl⟩ : ∃ m, k = m + 1 := ⟨k - 1, by omega⟩
    have hx : i < x.length := by omega
    have hy : i < y.length := by omega
    simp only [zigguratref01_Same.l0]
    rw [if_pos (by omega), if_pos (by omega), if_pos (by omega)]
    have e : wrap64 ((i : Int) + 1) = ((i + 1 : Nat) : Int) := by unfold wrap64; omega
    have ex : rd x (i : Int) = x[i] := by simp [rd, List.getElem?_eq_getElem hx]
    have ey : rd y (i : Int) = y[i] := by simp [rd, List.getElem?_eq_getElem hy]
    rw [e, ex, ey, List.drop_eq_getElem_cons hx, List.drop_eq_getElem_cons hy]
    by_cases h : x[i] = y[i]
    · rw [if_pos h, ih k (i + 1) (by omega) (by omega) (by omega)]
      simp only [h, List.cons.injEq, true_and]
    · rw [if_neg h]
      simp only [h, List.cons.injEq, false_and, decide_false]
theorem same_f {x y : List Int} (hlen : x.length < 4611686018427387904) {k : Nat} (hk : x.length < k) : zigguratref01_Same.f k x y = some (decide (x = y)) := by
  unfold zigguratref01_Same.f
  by_cases he : x.length = y.length
  · rw [if_pos (by omega)]
    have := same_l0 x y hlen he x.length k 0 (by omega) (by omega) hk
    simpa using this
  · rw [if_neg (by omega)]
    have : ¬ x = y := fun h => he (by rw [h])
    simp [this]
theorem same_toL {a b k : Nat} (hlen : (toL a).length < 4611686018427387904) (hk : (toL a).length < k) : zigguratref01_Same.f k (toL a) (toL b) = some (decide (a = b)) := by
  rw [same_f hlen hk]
  congr 1
  by_cases h : a = b
  · simp [h]
  · have : ¬ toL a = toL b := fun h2 => h (toL_inj h2)
    simp [h, this]

/-! ### Right, Of, at -/
theorem right_f {n : Nat} (h : (toL n).length ≤ 65536) : nat_Right.f (toL n) = some true := by
  unfold nat_Right.f
  by_cases h0 : toL n = []
  · rw [h0, if_pos (by rfl)]
  · have hne : (toL n).length ≠ 0 := fun h => h0 (List.length_eq_zero_iff.1 h)
    have e : wrap64 (((toL n).length : Int) - 1) = (((toL n).length - 1 : Nat) : Int) := by unfold wrap64; omega
    rw [if_neg (by omega), if_pos (by omega), e, if_pos (by omega), if_pos (by omega)]
    have h1 := toL_last h0
    rw [List.getLast_eq_getElem] at h1
    have e2 : rd (toL n) (((toL n).length - 1 : Nat) : Int) = (toL n)[(toL n).length - 1] := by
      have : (toL n).length - 1 < (toL n).length := by omega
      simp [rd, List.getElem?_eq_getElem this]
    rw [e2]
    simp [h1]
theorem at_f {l : List Int} (h : Limbs l) {i : Int} (h0 : 0 ≤ i) : nat_at.f l i = some (lim l i.toNat : Int) := by
  unfold nat_at.f
  rw [if_neg (by omega)]
  by_cases h1 : i < (l.length : Int)
  · rw [if_neg (by omega), if_pos h0, if_pos h1, rd_int h h0]
  · rw [if_pos (by omega)]
    have : lim l i.toNat = 0 := by simp [lim, List.getD_eq_getElem?_getD, List.getElem?_eq_none (show l.length ≤ i.toNat by omega)]
    rw [this]
    rfl

/-! ### Cmp -/
def cmpN (a b : Nat) : Int := if a < b then -1 else if b < a then 1 else 0
theorem cmp_l0 {x y : List Int} (hx : Limbs x) (hy : Limbs y) (hlen : x.length < 4611686018427387904) : ∀ (n k : Nat), n < k → n ≤ x.length → n ≤ y.length → nat_Cmp.l0 k x y ((n : Int) - 1) = some (cmpN (val (x.take n)) (val (y.take n))) := by
  intro n
  induction n with
  | zero =>
    intro k hk h1 h2
    obtain ⟨k, rfl⟩ : ∃ m, k = m + 1 := ⟨k - 1, by omega⟩
    simp only [nat_Cmp.l0]
    rw [if_neg (by omega)]
    simp [cmpN, val]
  | succ n ih =>
    intro k hk h1 h2
    obtain ⟨k, rfl⟩ : ∃ m, k = m + 1 := ⟨k - 1, by omega⟩
    have e0 : (((n + 1 : Nat) : Int) - 1) = (n : Int) := by omega
    have e : wrap64 ((n : Int) - 1) = (n : Int) - 1 := by unfold wrap64; omega
    rw [e0]
    simp only [nat_Cmp.l0]
    rw [if_pos (by omega), if_pos (by omega), if_pos (by omega), if_pos (by omega), rd_nat hx, rd_nat hy, e, val_take_succ hx, val_take_succ hy]
    have t1 := val_take_lt hx n
    have t2 := val_take_lt hy n
    generalize lim x n = a
    generalize lim y n = b
    generalize hp : val (x.take n) = p at *
    generalize hq : val (y.take n) = q at *
    generalize 4294967296 ^ n = M at *
    by_cases hab : a < b
    · rw [if_pos (by omega)]
      have : M * a + M ≤ M * b := by rw [← Nat.mul_succ]; exact Nat.mul_le_mul_left _ hab
      unfold cmpN
      rw [if_pos (by omega)]
    · rw [if_neg (by omega)]
      by_cases hba : b < a
      · rw [if_pos (by omega)]
        have : M * b + M ≤ M * a := by rw [← Nat.mul_succ]; exact Nat.mul_le_mul_left _ hba
        unfold cmpN
        rw [if_neg (by omega), if_pos (by omega)]
      · have : a = b := by omega
        subst this
        rw [if_neg (by omega), ih k (by omega) (by omega) (by omega)]
        unfold cmpN
        congr 1
        by_cases h3 : p < q
        · have g3 : p + M * a < q + M * a := by omega
          rw [if_pos h3, if_pos g3]
        · have g3 : ¬ p + M * a < q + M * a := by omega
          rw [if_neg h3, if_neg g3]
          by_cases h4 : q < p
          · have g4 : q + M * a < p + M * a := by omega
            rw [if_pos h4, if_pos g4]
          · have g4 : ¬ q + M * a < p + M * a := by omega
            rw [if_neg h4, if_neg g4]
theorem toL_len_lt {a b : Nat} (h : (toL a).length < (toL b).length) : a < b := by
  have h1 := val_lt_toL a
  have h2 : b ≠ 0 := by
    intro h0
    rw [h0, toL_zero] at h
    simp at h
  have h3 := pow_le_val h2
  exact Nat.lt_of_lt_of_le h1 (Nat.le_trans (Nat.pow_le_pow_right (by omega) (by omega)) h3)
theorem cmp_f {a b k : Nat} (h1 : (toL a).length < 4611686018427387904) (h2 : (toL b).length < 4611686018427387904) (hk : (toL a).length < k) : nat_Cmp.f k (toL a) (toL b) = some (cmpN a b) := by
  unfold nat_Cmp.f
  by_cases he : (toL a).length = (toL b).length
  · rw [if_pos (by omega)]
    have e : wrap64 (((toL a).length : Int) - 1) = ((toL a).length : Int) - 1 := by unfold wrap64; omega
    rw [e, cmp_l0 (limbs_toL a) (limbs_toL b) h1 (toL a).length k hk (Nat.le_refl _) (by omega), List.take_length, he, List.take_length, val_toL, val_toL]
  · rw [if_neg (by omega)]
    have e : wrap64 (((toL a).length : Int) - ((toL b).length : Int)) = ((toL a).length : Int) - ((toL b).length : Int) := by unfold wrap64; omega
    rw [e]
    congr 1
    by_cases h : (toL a).length < (toL b).length
    · have h3 := toL_len_lt h
      have e1 : cmpN a b = -1 := by unfold cmpN; rw [if_pos h3]
      rw [e1]
      unfold mx mn
      (repeat' split) <;> omega
    · have h3 := toL_len_lt (show (toL b).length < (toL a).length by omega)
      have h4 : ¬ a < b := by omega
      have e1 : cmpN a b = 1 := by unfold cmpN; rw [if_neg h4, if_pos h3]
      rw [e1]
      unfold mx mn
      (repeat' split) <;> omega
end Go.Proofs.Ytplkofflhacehaa.NF
