/- The statement's own reference of naturals, second part: sums, bits, shifts. -/
import Derived.Test.YtplkofflhacehaaNRef
namespace Go.Proofs.Ytplkofflhacehaa.NF
open Go.RowKit Go.Proofs.Ytplkofflhacehaa.Q Go.Proofs.Ytplkofflhacehaa.NC Go.Proofs.YtplkofflhacehaaW.PrintWords Go.Proofs.YtplkofflhacehaaW.PrintLast Go.Proofs.YtplkofflhacehaaW.PrintMore
set_option linter.unusedVariables false
set_option linter.unusedSimpArgs false

/-! ### Add -/
theorem radd_step {x y c : Nat} (hx : x < 4294967296) (hy : y < 4294967296) (hc : c ≤ 1) :
    (Int.tmod (IntKind.u64.wrap ((IntKind.u64.wrap ((x : Int) + (y : Int))) + (c : Int))) 4294967296) % 4294967296 = (((x + y + c) % 4294967296 : Nat) : Int) ∧
    IntKind.u64.wrap (Int.tdiv (IntKind.u64.wrap ((IntKind.u64.wrap ((x : Int) + (y : Int))) + (c : Int))) 4294967296) = (((x + y + c) / 4294967296 : Nat) : Int) := by
  rw [u64w (z := (x : Int) + (y : Int)) (by omega) (by omega), u64w (z := (x : Int) + (y : Int) + (c : Int)) (by omega) (by omega),
    Int.tmod_eq_emod_of_nonneg (by omega), Int.tdiv_eq_ediv_of_nonneg (by omega), u64w (by omega) (by omega)]
  constructor <;> omega
theorem add_val (p v v1 v2 x y c d c' : Nat) (h : v + p * c = v1 + v2) (e : d + 4294967296 * c' = x + y + c) : v + p * d + p * 4294967296 * c' = v1 + p * x + (v2 + p * y) := by
  have e2 : p * (d + 4294967296 * c') = p * (x + y + c) := by rw [e]
  rw [Nat.mul_add, Nat.mul_add, Nat.mul_add, ← Nat.mul_assoc] at e2
  omega
theorem radd_l0 {x y : List Int} (hx : Limbs x) (hy : Limbs y) {M : Nat} (hM : M = max x.length y.length) (hlen : M < 1099511627776) : ∀ (m i k c : Nat) (z : List Int), Limbs z → i + m = M + 1 → z.length = i → M + 2 * m + 4 < k → c ≤ 1 →
    val z + 4294967296 ^ i * c = val (x.take i) + val (y.take i) → zigguratref01_Add.l0 k x y z (c : Int) (i : Int) = some (toL (val x + val y)) := by
  intro m
  induction m with
  | zero =>
    intro i k c z hz hi hzl hk hc hv
    obtain ⟨k, rfl⟩ : ∃ m, k = m + 2 := ⟨k - 2, by omega⟩
    simp only [zigguratref01_Add.l0]
    rw [if_neg (by omega), decide_eq_false (by omega)]
    simp only [zigguratref01_Add.j1]
    rw [if_neg (by decide), rmake_f hz (by omega) (by omega), Option.bind_some]
    rw [List.take_of_length_le (by omega), List.take_of_length_le (by omega)] at hv
    have h1 : val x < 4294967296 ^ M := Nat.lt_of_lt_of_le (val_lt hx) (Nat.pow_le_pow_right (by omega) (by omega))
    have h2 : val y < 4294967296 ^ M := Nat.lt_of_lt_of_le (val_lt hy) (Nat.pow_le_pow_right (by omega) (by omega))
    have e : i = M + 1 := by omega
    rw [e, Nat.pow_succ] at hv
    have hc0 : c = 0 := by
      rcases (show c = 0 ∨ c = 1 by omega) with h | h
      · exact h
      · subst h; rw [Nat.mul_one] at hv; omega
    subst hc0
    rw [Nat.mul_zero, Nat.add_zero] at hv
    rw [hv]
  | succ m ih =>
    intro i k c z hz hi hzl hk hc hv
    obtain ⟨k, rfl⟩ : ∃ m, k = m + 2 := ⟨k - 2, by omega⟩
    obtain ⟨e1, e2⟩ := radd_step (lim_lt hx i) (lim_lt hy i) hc
    have hl1 := lim_lt hx i
    have hl2 := lim_lt hy i
    have body : zigguratref01_Add.j1 (k + 1) x y z (c : Int) (i : Int) true = some (toL (val x + val y)) := by
      simp only [zigguratref01_Add.j1]
      rw [if_pos trivial, limb_f hx, Option.bind_some, limb_f hy, Option.bind_some, if_pos (by omega), e1, e2, show wrap64 ((i : Int) + 1) = ((i + 1 : Nat) : Int) by unfold wrap64; omega]
      refine ih (i + 1) k _ _ (limbs_snoc hz (by omega) (by omega)) (by omega) (by rw [List.length_append, List.length_singleton]; omega) (by omega) (by omega) ?_
      rw [val_snoc, val_take_succ hx, val_take_succ hy, hzl, Int.toNat_natCast, Nat.pow_succ]
      exact add_val _ _ _ _ _ _ _ _ _ hv (by omega)
    show (if (i : Int) ≤ (x.length : Int) then (zigguratref01_Add.j1 (k + 1) x y z (c : Int) (i : Int) true) else (zigguratref01_Add.j1 (k + 1) x y z (c : Int) (i : Int) (decide ((i : Int) ≤ (y.length : Int))))) = _
    by_cases h : i ≤ x.length
    · rw [if_pos (by omega)]; exact body
    · rw [if_neg (by omega), decide_eq_true (by omega)]; exact body
theorem radd_f {a b k m : Nat} (ha : (toL a).length ≤ m) (hb : (toL b).length ≤ m) (hm : m < 1099511627776) (hk : 3 * m + 8 < k) : zigguratref01_Add.f k (toL a) (toL b) = some (toL (a + b)) := by
  unfold zigguratref01_Add.f
  have := radd_l0 (limbs_toL a) (limbs_toL b) rfl (by omega) (max (toL a).length (toL b).length + 1) 0 k 0 [] limbs_nil (by omega) rfl (by omega) (by omega) (by simp [val])
  rw [val_toL, val_toL] at this
  exact this

/-! ### Bits -/
theorem bl_half {w : Nat} (h : 0 < w) : bl w = 1 + bl (w / 2) := by
  by_cases h1 : w = 1
  · subst h1; rfl
  · have := @bl_div w 1 (by rw [Nat.pow_one]; omega)
    rwa [Nat.pow_one] at this
theorem rbits_l0 {x : List Int} (hlen : x.length < 1099511627776) : ∀ (n k w c : Nat), bl w ≤ n → n < k → w < 4294967296 → c + n ≤ 1000 → 0 < x.length → zigguratref01_Bits.l0 k x (c : Int) (w : Int) = some ((32 * (x.length - 1) + c + bl w : Nat) : Int) := by
  intro n
  induction n with
  | zero =>
    intro k w c hw hk hlt hc hx
    obtain ⟨k, rfl⟩ : ∃ m, k = m + 1 := ⟨k - 1, by omega⟩
    have h0 : bl w = 0 := by omega
    have hw0 : w = 0 := by
      have := (@bl_le w 0).1 (by omega)
      omega
    subst hw0
    simp only [zigguratref01_Bits.l0]
    rw [if_neg (by omega), w64 (z := (x.length : Int) - 1) (by omega) (by omega), w64 (z := 32 * ((x.length : Int) - 1)) (by omega) (by omega), w64 (by omega) (by omega), h0]
    congr 1
    omega
  | succ n ih =>
    intro k w c hw hk hlt hc hx
    obtain ⟨k, rfl⟩ : ∃ m, k = m + 1 := ⟨k - 1, by omega⟩
    by_cases h : 0 < w
    · have e := bl_half h
      have e1 : ∀ _ : Unit, (Int.tdiv (w : Int) 2) % 4294967296 = ((w / 2 : Nat) : Int) := fun _ => by rw [Int.tdiv_eq_ediv_of_nonneg (by omega)]; omega
      have e2 : wrap64 ((c : Int) + 1) = ((c + 1 : Nat) : Int) := by rw [w64 (by omega) (by omega)]; omega
      simp only [zigguratref01_Bits.l0]
      rw [if_pos (by omega), e1 (), e2, ih k (w / 2) (c + 1) (by omega) (by omega) (by omega) (by omega) hx]
      congr 2
      omega
    · have hw0 : w = 0 := by omega
      subst hw0
      have h0 : bl 0 = 0 := rfl
      simp only [zigguratref01_Bits.l0]
      rw [if_neg (by omega), w64 (z := (x.length : Int) - 1) (by omega) (by omega), w64 (z := 32 * ((x.length : Int) - 1)) (by omega) (by omega), w64 (by omega) (by omega), h0]
      congr 1
      omega
theorem rbits_f {n k : Nat} (hl : (toL n).length < 1099511627776) (hk : 33 < k) : zigguratref01_Bits.f k (toL n) = some (bl n : Int) := by
  unfold zigguratref01_Bits.f
  by_cases h0 : n = 0
  · subst h0
    rw [toL_zero, if_pos (by rfl)]
    rfl
  · have hne : (toL n).length ≠ 0 := fun h1 => h0 (toL_nil.1 (List.length_eq_zero_iff.1 h1))
    have e : wrap64 (((toL n).length : Int) - 1) = (((toL n).length - 1 : Nat) : Int) := by unfold wrap64; omega
    have hx := lim_lt (limbs_toL n) ((toL n).length - 1)
    rw [if_neg (by omega), e, if_pos (by omega), if_pos (by omega), rd_nat (limbs_toL n)]
    have := rbits_l0 (x := toL n) hl 32 k (lim (toL n) ((toL n).length - 1)) 0 (bl32 hx) (by omega) hx (by omega) (by omega)
    rw [bl_toL h0]
    exact this

/-! ### A bit -/
theorem rbit_l0 {r : Nat} (hr : r < 32) (a1 : Int) (h1 : ∀ _ : Unit, Int.tmod a1 32 = (r : Int)) (v : Nat) (hv : v < 4294967296) : ∀ (m i k : Nat), i + m = r → m < k → zigguratref01_Bit.l0 k a1 ((v / 2 ^ i : Nat) : Int) (i : Int) = some ((v / 2 ^ r % 2 : Nat) : Int) := by
  intro m
  induction m with
  | zero =>
    intro i k hi hk
    obtain ⟨k, rfl⟩ : ∃ m, k = m + 1 := ⟨k - 1, by omega⟩
    simp only [zigguratref01_Bit.l0]
    rw [h1 (), if_neg (by omega), Int.tmod_eq_emod_of_nonneg (Int.natCast_nonneg _), show i = r by omega, Int.natCast_emod]
    rfl
  | succ m ih =>
    intro i k hi hk
    obtain ⟨k, rfl⟩ : ∃ m, k = m + 1 := ⟨k - 1, by omega⟩
    have hle : v / 2 ^ i ≤ v := Nat.div_le_self _ _
    have e1 : ∀ _ : Unit, (Int.tdiv ((v / 2 ^ i : Nat) : Int) 2) % 4294967296 = ((v / 2 ^ (i + 1) : Nat) : Int) := fun _ => by
      rw [Int.tdiv_eq_ediv_of_nonneg (Int.natCast_nonneg _), Nat.pow_succ, ← Nat.div_div_eq_div_mul]
      generalize v / 2 ^ i = q at *
      omega
    have e2 : wrap64 ((i : Int) + 1) = ((i + 1 : Nat) : Int) := by rw [w64 (by omega) (by omega)]; omega
    simp only [zigguratref01_Bit.l0]
    rw [h1 (), if_pos (by omega), e1 (), e2]
    exact ih (i + 1) k (by omega) (by omega)
theorem rbit_f {n i k : Nat} (hi : i < 2147483648) (hk : 40 < k) : zigguratref01_Bit.f k (toL n) (i : Int) = some ((n / 2 ^ i % 2 : Nat) : Int) := by
  obtain ⟨k, rfl⟩ : ∃ m, k = m + 1 := ⟨k - 1, by omega⟩
  unfold zigguratref01_Bit.f
  have e : ∀ _ : Unit, wrap64 (Int.tdiv (i : Int) 32) = ((i / 32 : Nat) : Int) := fun _ => by
    rw [Int.tdiv_eq_ediv_of_nonneg (by omega)]; unfold wrap64; omega
  have e2 : ∀ _ : Unit, Int.tmod (i : Int) 32 = ((i % 32 : Nat) : Int) := fun _ => by
    rw [Int.tmod_eq_emod_of_nonneg (by omega)]; omega
  have hb := bit_lim n (i / 32) (i % 32) (by omega)
  rw [Nat.div_add_mod, ← lim_toL] at hb
  rw [if_neg (by omega), e ()]
  by_cases h : i / 32 < (toL n).length
  · rw [decide_eq_false (by omega)]
    simp only [zigguratref01_Bit.j0]
    rw [if_neg (by decide), e (), if_pos (by omega), if_pos (by omega), rd_nat (limbs_toL n), ← hb]
    have := rbit_l0 (r := i % 32) (by omega) (i : Int) e2 (lim (toL n) (i / 32)) (lim_lt (limbs_toL n) _) (i % 32) 0 k (by omega) (by omega)
    rw [Nat.pow_zero, Nat.div_one] at this
    exact this
  · rw [decide_eq_true (by omega)]
    simp only [zigguratref01_Bit.j0]
    have h0 : lim (toL n) (i / 32) = 0 := by simp [lim, List.getD_eq_getElem?_getD, List.getElem?_eq_none (by omega : (toL n).length ≤ i / 32)]
    rw [if_pos trivial, ← hb, h0, Nat.zero_div]
    rfl
theorem rbit_neg {l : List Int} {i : Int} {k : Nat} (hi : i < 0) (hk : 0 < k) : zigguratref01_Bit.f k l i = some 0 := by
  obtain ⟨k, rfl⟩ : ∃ m, k = m + 1 := ⟨k - 1, by omega⟩
  unfold zigguratref01_Bit.f
  rw [if_pos hi]
  simp only [zigguratref01_Bit.j0]
  rw [if_pos trivial]
end Go.Proofs.Ytplkofflhacehaa.NF
