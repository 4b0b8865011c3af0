/- The statement's own reference of naturals: plain Lean over the printed functions. -/
import Derived.Test.YtplkofflhacehaaNFun4
import Derived.Test.YtplkofflhacehaaQ10
import Derived.Test.YtplkofflhacehaaQ11
import Derived.Test.YtplkofflhacehaaQ12
namespace Go.Proofs.Ytplkofflhacehaa.NF
open Go.RowKit Go.Proofs.Ytplkofflhacehaa.Q Go.Proofs.Ytplkofflhacehaa.NC Go.Proofs.YtplkofflhacehaaW.PrintWords Go.Proofs.YtplkofflhacehaaW.PrintLast Go.Proofs.YtplkofflhacehaaW.PrintMore
set_option linter.unusedVariables false
set_option linter.unusedSimpArgs false
theorem limb_f {l : List Int} (h : Limbs l) (i : Nat) : zigguratref01_limb.f l (i : Int) = some (lim l i : Int) := by
  unfold zigguratref01_limb.f
  have hx := lim_lt h i
  rw [if_neg (by omega)]
  by_cases h1 : i < l.length
  · rw [if_neg (by omega), if_pos (by omega), if_pos (by omega), rd_nat h, u64w (by omega) (by omega)]
  · rw [if_pos (by omega)]
    have : lim l i = 0 := by simp [lim, List.getD_eq_getElem?_getD, List.getElem?_eq_none (by omega : l.length ≤ i)]
    rw [this]; rfl
theorem rright_f (l : List Int) : zigguratref01_Right.f l = nat_Right.f l := by
  unfold zigguratref01_Right.f nat_Right.f
  rfl

/-! ### Cmp -/
theorem rcmp_l0 {x y : List Int} (hx : Limbs x) (hy : Limbs y) : ∀ (n k : Nat), n < 4611686018427387904 → n < k → zigguratref01_Cmp.l0 k x y ((n : Int) - 1) = some (cmpN (val (x.take n)) (val (y.take n))) := by
  intro n
  induction n with
  | zero =>
    intro k _ hk
    obtain ⟨k, rfl⟩ : ∃ m, k = m + 1 := ⟨k - 1, by omega⟩
    simp only [zigguratref01_Cmp.l0]
    rw [if_neg (by omega)]
    simp [cmpN, val]
  | succ n ih =>
    intro k hn hk
    obtain ⟨k, rfl⟩ : ∃ m, k = m + 1 := ⟨k - 1, by omega⟩
    have e0 : (((n + 1 : Nat) : Int) - 1) = (n : Int) := by omega
    have e1 : wrap64 ((n : Int) - 1) = (n : Int) - 1 := w64 (by omega) (by omega)
    simp only [zigguratref01_Cmp.l0]
    rw [e0, if_pos (by omega), limb_f hx, Option.bind_some, limb_f hy, Option.bind_some, val_take_succ hx, val_take_succ hy]
    have hp : 0 < 4294967296 ^ n := Nat.pow_pos (by omega)
    have h1 := val_take_lt hx n
    have h2 := val_take_lt hy n
    rcases Nat.lt_trichotomy (lim x n) (lim y n) with h | h | h
    · rw [if_pos (by omega)]
      have h3 : 4294967296 ^ n * (lim x n + 1) ≤ 4294967296 ^ n * lim y n := Nat.mul_le_mul_left _ h
      rw [Nat.mul_add] at h3
      generalize 4294967296 ^ n * lim x n = p at *
      generalize 4294967296 ^ n * lim y n = q at *
      unfold cmpN
      rw [if_pos (by omega)]
    · rw [if_neg (by omega), Option.bind_some, Option.bind_some, if_neg (by omega), e1, ih k (by omega) (by omega), h]
      congr 1
      unfold cmpN
      simp only [Nat.add_lt_add_iff_right]
    · rw [if_neg (by omega), Option.bind_some, Option.bind_some, if_pos (by omega)]
      have h3 : 4294967296 ^ n * (lim y n + 1) ≤ 4294967296 ^ n * lim x n := Nat.mul_le_mul_left _ h
      rw [Nat.mul_add] at h3
      generalize 4294967296 ^ n * lim x n = p at *
      generalize 4294967296 ^ n * lim y n = q at *
      unfold cmpN
      rw [if_neg (by omega), if_pos (by omega)]
theorem rcmp_f {a b k m : Nat} (ha : (toL a).length ≤ m) (hb : (toL b).length ≤ m) (hm : m < 4611686018427387904) (hk : m < k) : zigguratref01_Cmp.f k (toL a) (toL b) = some (cmpN a b) := by
  unfold zigguratref01_Cmp.f
  have e : mx ((toL a).length : Int) ((toL b).length : Int) = ((max (toL a).length (toL b).length : Nat) : Int) := by unfold mx; split <;> omega
  rw [e, w64 (by omega) (by omega), rcmp_l0 (limbs_toL a) (limbs_toL b) _ k (by omega) (by omega), List.take_of_length_le (by omega), List.take_of_length_le (by omega), val_toL, val_toL]

/-! ### Sub -/
theorem rsub_step {x y c : Nat} (hx : x < 4294967296) (hy : y < 4294967296) (hc : c ≤ 1) : ∃ d c' : Nat, d < 4294967296 ∧ c' ≤ 1 ∧ d + y + c = x + 4294967296 * c' ∧
    (Int.tmod (IntKind.u64.wrap ((IntKind.u64.wrap ((IntKind.u64.wrap (4294967296 + (x : Int))) - (y : Int))) - (c : Int))) 4294967296) % 4294967296 = (d : Int) ∧
    IntKind.u64.wrap (1 - (IntKind.u64.wrap (Int.tdiv (IntKind.u64.wrap ((IntKind.u64.wrap ((IntKind.u64.wrap (4294967296 + (x : Int))) - (y : Int))) - (c : Int))) 4294967296))) = (c' : Int) := by
  rw [u64w (z := 4294967296 + (x : Int)) (by omega) (by omega), u64w (z := 4294967296 + (x : Int) - (y : Int)) (by omega) (by omega), u64w (z := 4294967296 + (x : Int) - (y : Int) - (c : Int)) (by omega) (by omega),
    Int.tmod_eq_emod_of_nonneg (by omega), Int.tdiv_eq_ediv_of_nonneg (by omega), u64w (z := (4294967296 + (x : Int) - (y : Int) - (c : Int)) / 4294967296) (by omega) (by omega), u64w (by omega) (by omega)]
  exact ⟨(4294967296 + x - y - c) % 4294967296, 1 - (4294967296 + x - y - c) / 4294967296, by omega, by omega, by omega, by omega, by omega⟩
theorem sub_val (p v1 v2 v3 d y x c c' : Nat) (h : v1 + v2 = v3 + p * c) (e : d + y + c = x + 4294967296 * c') : v1 + p * d + (v2 + p * y) = v3 + p * x + p * 4294967296 * c' := by
  have e2 : p * (d + y + c) = p * (x + 4294967296 * c') := by rw [e]
  rw [Nat.mul_add, Nat.mul_add, Nat.mul_add, ← Nat.mul_assoc] at e2
  omega
theorem rsub_l0 {x y : List Int} (hx : Limbs x) (hy : Limbs y) (hyx : y.length ≤ x.length) (hlen : x.length < 1099511627776) (hle : val y ≤ val x) : ∀ (m i k c : Nat) (z : List Int), Limbs z → i + m = x.length → z.length = i → x.length + m + 1 < k → c ≤ 1 →
    val z + val (y.take i) = val (x.take i) + 4294967296 ^ i * c → zigguratref01_Sub.l0 k x y z (c : Int) (i : Int) = some (toL (val x - val y), true) := by
  intro m
  induction m with
  | zero =>
    intro i k c z hz hi hzl hk hc hv
    obtain ⟨k, rfl⟩ : ∃ m, k = m + 1 := ⟨k - 1, by omega⟩
    simp only [zigguratref01_Sub.l0]
    rw [if_neg (by omega), rmake_f hz (by omega) (by omega), Option.bind_some]
    rw [List.take_of_length_le (by omega), List.take_of_length_le (by omega)] at hv
    have h1 := val_lt hz
    rw [hzl] at h1
    have h2 := val_lt hx
    have e : i = x.length := by omega
    rw [e] at h1 hv
    have hc0 : c = 0 := by
      rcases (show c = 0 ∨ c = 1 by omega) with h | h
      · exact h
      · subst h; rw [Nat.mul_one] at hv; omega
    subst hc0
    congr 3
    omega
  | succ m ih =>
    intro i k c z hz hi hzl hk hc hv
    obtain ⟨k, rfl⟩ : ∃ m, k = m + 1 := ⟨k - 1, by omega⟩
    obtain ⟨d, c', hd, hc', he, e1, e2⟩ := rsub_step (lim_lt hx i) (lim_lt hy i) hc
    simp only [zigguratref01_Sub.l0]
    rw [if_pos (by omega), limb_f hx, Option.bind_some, limb_f hy, Option.bind_some, if_pos (by omega), e1, e2, show wrap64 ((i : Int) + 1) = ((i + 1 : Nat) : Int) by unfold wrap64; omega]
    refine ih (i + 1) k c' _ (limbs_snoc hz (by omega) (by omega)) (by omega) (by rw [List.length_append, List.length_singleton]; omega) (by omega) hc' ?_
    rw [val_snoc, val_take_succ hx, val_take_succ hy, hzl, Int.toNat_natCast, Nat.pow_succ]
    exact sub_val _ _ _ _ _ _ _ _ _ hv he
theorem rsub_f {a b k m : Nat} (ha : (toL a).length ≤ m) (hb : (toL b).length ≤ m) (hm : m < 1099511627776) (hk : 2 * m + 1 < k) : zigguratref01_Sub.f k (toL a) (toL b) = some (if a < b then ([], false) else (toL (a - b), true)) := by
  unfold zigguratref01_Sub.f
  rw [rcmp_f ha hb (by omega) (by omega), Option.bind_some]
  by_cases h : a < b
  · rw [if_pos h, if_pos (by unfold cmpN; rw [if_pos h]; omega)]
  · rw [if_neg h, if_neg (by unfold cmpN; rw [if_neg h]; split <;> omega)]
    have hlen : (toL b).length ≤ (toL a).length := len_mono (by omega) (Nat.le_refl _)
    have := rsub_l0 (limbs_toL a) (limbs_toL b) hlen (by omega) (by rw [val_toL, val_toL]; omega) (toL a).length 0 k 0 [] limbs_nil (by omega) rfl (by omega) (by omega) (by simp [val])
    rw [val_toL, val_toL] at this
    exact this

/-! ### Low -/
theorem rlow_l0 {x : List Int} (hx : Limbs x) (hlen : x.length ≤ 2) : ∀ (n k v : Nat), n ≤ x.length → n < k → v * 4294967296 ^ n + val (x.take n) < 18446744073709551616 → zigguratref01_Low.l0 k x (v : Int) ((n : Int) - 1) = some (((v * 4294967296 ^ n + val (x.take n) : Nat) : Int), true) := by
  intro n
  induction n with
  | zero =>
    intro k v _ hk hv
    obtain ⟨k, rfl⟩ : ∃ m, k = m + 1 := ⟨k - 1, by omega⟩
    simp only [zigguratref01_Low.l0]
    rw [if_neg (by omega)]
    simp [val]
  | succ n ih =>
    intro k v hn hk hv
    obtain ⟨k, rfl⟩ : ∃ m, k = m + 1 := ⟨k - 1, by omega⟩
    have e0 : (((n + 1 : Nat) : Int) - 1) = (n : Int) := by omega
    have e1 : wrap64 ((n : Int) - 1) = (n : Int) - 1 := w64 (by omega) (by omega)
    have hp : 1 ≤ 4294967296 ^ n := Nat.pow_pos (by omega)
    have hl := lim_lt hx n
    have he : v * 4294967296 ^ (n + 1) + val (x.take (n + 1)) = (v * 4294967296 + lim x n) * 4294967296 ^ n + val (x.take n) := by
      rw [val_take_succ hx, Nat.pow_succ, Nat.add_mul, Nat.mul_comm (4294967296 ^ n) 4294967296, ← Nat.mul_assoc, Nat.mul_comm (lim x n)]
      omega
    rw [he] at hv ⊢
    have hle : v * 4294967296 + lim x n ≤ (v * 4294967296 + lim x n) * 4294967296 ^ n := Nat.le_mul_of_pos_right _ hp
    have hle2 : v * 4294967296 + lim x n < 18446744073709551616 := by omega
    simp only [zigguratref01_Low.l0]
    rw [e0, if_pos (by omega), if_pos (by omega), if_pos (by omega), rd_nat hx, u64w (z := (v : Int) * 4294967296) (by omega) (by omega), u64w (z := ((lim x n : Nat) : Int)) (by omega) (by omega), u64w (by omega) (by omega), e1]
    have := ih k (v * 4294967296 + lim x n) (by omega) (by omega) hv
    rw [show (((v * 4294967296 + lim x n : Nat)) : Int) = (v : Int) * 4294967296 + ((lim x n : Nat) : Int) by omega] at this
    exact this
theorem rlow_f {n k : Nat} (hk : 3 < k) (hl : (toL n).length < 4611686018427387904) : zigguratref01_Low.f k (toL n) = some (if n < 18446744073709551616 then ((n : Int), true) else (0, false)) := by
  unfold zigguratref01_Low.f
  by_cases h : n < 18446744073709551616
  · have hlen : (toL n).length ≤ 2 := by rw [toL_length_le, pow2of32]; exact h
    rw [if_neg (by omega), if_pos h, w64 (by omega) (by omega)]
    have := rlow_l0 (limbs_toL n) hlen (toL n).length k 0 (Nat.le_refl _) (by omega) (by rw [List.take_of_length_le (Nat.le_refl _), val_toL]; omega)
    rw [List.take_of_length_le (Nat.le_refl _), val_toL, Nat.zero_mul, Nat.zero_add] at this
    exact this
  · have hlen : ¬ (toL n).length ≤ 2 := by rw [toL_length_le, pow2of32]; exact h
    rw [if_pos (by omega), if_neg h]
end Go.Proofs.Ytplkofflhacehaa.NF
