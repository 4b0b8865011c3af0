/- The bits, a bit and the shifts of naturals: plain Lean over the printed functions. -/
import Derived.Test.YtplkofflhacehaaNFun2
import Derived.Test.YtplkofflhacehaaQ9
import Derived.Test.YtplkofflhacehaaQ10
namespace Go.Proofs.Ytplkofflhacehaa.NF
open Go.RowKit Go.Proofs.Ytplkofflhacehaa.Q Go.Proofs.Ytplkofflhacehaa.NC Go.Proofs.YtplkofflhacehaaW.PrintWords Go.Proofs.YtplkofflhacehaaW.PrintLast Go.Proofs.YtplkofflhacehaaW.PrintMore
set_option linter.unusedVariables false
set_option linter.unusedSimpArgs false

theorem of_f {n k : Nat} (h : n < 18446744073709551616) (hk : 2 < k) : nat_Of.f k (n : Int) = some (toL n) := by
  unfold nat_Of.f
  have hl : Limbs ([(n : Int) % 4294967296, ((n : Int) / 4294967296) % 4294967296] : List Int) := limbs_mk (by omega) (by omega) (limbs_mk (by omega) (by omega) limbs_nil)
  rw [make_f hl (by simp) (by simpa using hk), Option.bind_some]
  congr 2
  simp only [val]
  omega

theorem bl_div {n s : Nat} (h : 2 ^ s ≤ n) : bl n = s + bl (n / 2 ^ s) := by
  have h1 : n / 2 ^ s < 2 ^ bl (n / 2 ^ s) := bl_le.1 (Nat.le_refl _)
  have hp : 0 < 2 ^ s := Nat.pow_pos (by omega)
  have hq : 1 ≤ n / 2 ^ s := (Nat.le_div_iff_mul_le hp).2 (by omega)
  have hb : 0 < bl (n / 2 ^ s) := lt_bl.2 (by simpa using hq)
  have h2 : 2 ^ (bl (n / 2 ^ s) - 1) ≤ n / 2 ^ s := lt_bl.1 (by omega)
  apply bl_eq
  · rw [Nat.pow_add, Nat.mul_comm]
    exact (Nat.div_lt_iff_lt_mul hp).1 h1
  · right
    rw [show s + bl (n / 2 ^ s) - 1 = s + (bl (n / 2 ^ s) - 1) by omega, Nat.pow_add, Nat.mul_comm]
    exact (Nat.le_div_iff_mul_le hp).1 h2
def tab8 : ByteArray := ⟨#[0, 1, 2, 2, 3, 3, 3, 3, 4, 4, 4, 4, 4, 4, 4, 4, 5, 5, 5, 5, 5, 5, 5, 5, 5, 5, 5, 5, 5, 5, 5, 5, 6, 6, 6, 6, 6, 6, 6, 6, 6, 6, 6, 6, 6, 6, 6, 6, 6, 6, 6, 6, 6, 6, 6, 6, 6, 6, 6, 6, 6, 6, 6, 6, 7, 7, 7, 7, 7, 7, 7, 7, 7, 7, 7, 7, 7, 7, 7, 7, 7, 7, 7, 7, 7, 7, 7, 7, 7, 7, 7, 7, 7, 7, 7, 7, 7, 7, 7, 7, 7, 7, 7, 7, 7, 7, 7, 7, 7, 7, 7, 7, 7, 7, 7, 7, 7, 7, 7, 7, 7, 7, 7, 7, 7, 7, 7, 7, 8, 8, 8, 8, 8, 8, 8, 8, 8, 8, 8, 8, 8, 8, 8, 8, 8, 8, 8, 8, 8, 8, 8, 8, 8, 8, 8, 8, 8, 8, 8, 8, 8, 8, 8, 8, 8, 8, 8, 8, 8, 8, 8, 8, 8, 8, 8, 8, 8, 8, 8, 8, 8, 8, 8, 8, 8, 8, 8, 8, 8, 8, 8, 8, 8, 8, 8, 8, 8, 8, 8, 8, 8, 8, 8, 8, 8, 8, 8, 8, 8, 8, 8, 8, 8, 8, 8, 8, 8, 8, 8, 8, 8, 8, 8, 8, 8, 8, 8, 8, 8, 8, 8, 8, 8, 8, 8, 8, 8, 8, 8, 8, 8, 8, 8, 8, 8, 8, 8, 8, 8, 8, 8, 8, 8, 8, 8, 8]⟩
theorem tab8_all : ∀ i : Nat, i < 256 → bt tab8 (i : Int) = (bl i : Int) := by
  have h : (List.range 256).all (fun i => decide (bt tab8 (i : Int) = (bl i : Int))) = true := by decide +kernel
  intro i hi
  exact of_decide_eq_true (List.all_eq_true.1 h i (List.mem_range.2 hi))
theorem bl32 {x : Nat} (h : x < 4294967296) : bl x ≤ 32 := bl_le.2 h
theorem len32_f {x : Nat} (h : x < 4294967296) : bits_Len32.f (x : Int) = some (bl x : Int) := by
  unfold bits_Len32.f
  have e : ∀ a0 : Int, (if a0 ≥ 65536 then (if (a0 / 65536) ≥ 256 then (if 0 ≤ (((a0 / 65536) / 256) % 256) then (if (((a0 / 65536) / 256) % 256) < 256 then (some (wrap64 ((16 + 8) + (wrap64 (bt tab8 (((a0 / 65536) / 256) % 256)))))) else (none)) else (none)) else (if 0 ≤ ((a0 / 65536) % 256) then (if ((a0 / 65536) % 256) < 256 then (some (wrap64 (16 + (wrap64 (bt tab8 ((a0 / 65536) % 256)))))) else (none)) else (none))) else (if a0 ≥ 256 then (if 0 ≤ ((a0 / 256) % 256) then (if ((a0 / 256) % 256) < 256 then (some (wrap64 ((0 + 8) + (wrap64 (bt tab8 ((a0 / 256) % 256)))))) else (none)) else (none)) else (if 0 ≤ ((a0) % 256) then (if ((a0) % 256) < 256 then (some (wrap64 (0 + (wrap64 (bt tab8 ((a0) % 256)))))) else (none)) else (none)))) = bits_Len32.f a0 := fun a0 => rfl
  have e := e (x : Int)
  unfold bits_Len32.f at e
  rw [← e]
  have c1 : ((x : Int) / 65536) = ((x / 65536 : Nat) : Int) := by omega
  have c2 : ((x : Int) / 256) = ((x / 256 : Nat) : Int) := by omega
  have c3 : ((((x / 65536 : Nat) : Int)) / 256) = ((x / 65536 / 256 : Nat) : Int) := by omega
  rw [c1, c2, c3]
  have g1 := @bl_div x 16
  have g2 := @bl_div x 8
  have g3 := @bl_div (x / 65536) 8
  have hb := bl32 h
  simp only [show (2 : Nat) ^ 16 = 65536 by decide, show (2 : Nat) ^ 8 = 256 by decide] at g1 g2 g3
  by_cases h1 : 65536 ≤ x
  · rw [if_pos (by omega)]
    by_cases h2 : 256 ≤ x / 65536
    · rw [if_pos (by omega), if_pos (by omega), if_pos (by omega)]
      have g1 := g1 h1
      have g3 := g3 h2
      have hm : ((x / 65536 / 256 : Nat) : Int) % 256 = ((x / 65536 / 256 : Nat) : Int) := by omega
      rw [hm, tab8_all _ (by omega), w64 (z := ((bl _ : Nat) : Int)) (by omega) (by omega), w64 (by omega) (by omega)]
      congr 1
      omega
    · rw [if_neg (by omega), if_pos (by omega), if_pos (by omega)]
      have g1 := g1 h1
      have hm : ((x / 65536 : Nat) : Int) % 256 = ((x / 65536 : Nat) : Int) := by omega
      rw [hm, tab8_all _ (by omega), w64 (z := ((bl _ : Nat) : Int)) (by omega) (by omega), w64 (by omega) (by omega)]
      congr 1
      omega
  · rw [if_neg (by omega)]
    by_cases h2 : 256 ≤ x
    · rw [if_pos (by omega), if_pos (by omega), if_pos (by omega)]
      have g2 := g2 h2
      have hm : ((x / 256 : Nat) : Int) % 256 = ((x / 256 : Nat) : Int) := by omega
      rw [hm, tab8_all _ (by omega), w64 (z := ((bl _ : Nat) : Int)) (by omega) (by omega), w64 (by omega) (by omega)]
      congr 1
      omega
    · rw [if_neg (by omega), if_pos (by omega), if_pos (by omega)]
      have hm : (x : Int) % 256 = (x : Int) := by omega
      rw [hm, tab8_all _ (by omega), w64 (z := ((bl _ : Nat) : Int)) (by omega) (by omega), w64 (by omega) (by omega)]
      congr 1
      omega
theorem bits_f {n : Nat} (hl : (toL n).length < 1099511627776) : nat_Bits.f (toL n) = some (bl n : Int) := by
  unfold nat_Bits.f
  by_cases h0 : n = 0
  · subst h0
    rw [toL_zero, if_pos (by rfl)]
    rfl
  · have hne : (toL n).length ≠ 0 := fun h1 => h0 (toL_nil.1 (List.length_eq_zero_iff.1 h1))
    have e : wrap64 (((toL n).length : Int) - 1) = (((toL n).length - 1 : Nat) : Int) := by unfold wrap64; omega
    have hx := lim_lt (limbs_toL n) ((toL n).length - 1)
    rw [if_neg (by omega), e, if_pos (by omega), if_pos (by omega), rd_nat (limbs_toL n), len32_f hx, Option.bind_some]
    have hb := bl32 hx
    rw [w64 (z := 32 * _) (by omega) (by omega), w64 (by omega) (by omega), bl_toL h0]
    first | rfl | (congr 1; omega)

/-! ### A bit -/
theorem bit_lim (n q r : Nat) (hr : r < 32) : n / 4294967296 ^ q % 4294967296 / 2 ^ r % 2 = n / 2 ^ (32 * q + r) % 2 := by
  rw [pow32, ← Nat.toNat_testBit, ← Nat.toNat_testBit, show (4294967296 : Nat) = 2 ^ 32 by decide, Nat.testBit_mod_two_pow, Nat.testBit_div_two_pow]
  simp [hr, Nat.add_comm]
theorem bit_f {n i : Nat} (hi : i < 2147483648) : nat_Bit.f (toL n) (i : Int) = some ((n / 2 ^ i % 2 : Nat) : Int) := by
  unfold nat_Bit.f
  have e : wrap64 (Int.tdiv (i : Int) 32) = ((i / 32 : Nat) : Int) := by
    rw [Int.tdiv_eq_ediv_of_nonneg (by omega)]; unfold wrap64; omega
  have e2 : Int.tmod (i : Int) 32 = ((i % 32 : Nat) : Int) := by
    rw [Int.tmod_eq_emod_of_nonneg (by omega)]; omega
  rw [if_neg (by omega), e, e2, at_f (limbs_toL n) (by omega), Option.bind_some, if_pos (by omega), Int.toNat_natCast]
  unfold shr
  have e3 : min ((i % 32 : Nat) : Int).toNat IntKind.u32.bits = i % 32 := by
    rw [Int.toNat_natCast]
    exact Nat.min_eq_left (by show i % 32 ≤ 32; omega)
  rw [e3]
  have hlt := lim_lt (limbs_toL n) (i / 32)
  have e4 : ((lim (toL n) (i / 32) : Nat) : Int) / 2 ^ (i % 32) = ((lim (toL n) (i / 32) / 2 ^ (i % 32) : Nat) : Int) := by
    rw [Int.natCast_ediv, Int.natCast_pow]; rfl
  rw [e4, show (1 : Int) = ((1 : Nat) : Int) from rfl, bits_and32 (Nat.lt_of_le_of_lt (Nat.div_le_self _ _) hlt) (by omega), Nat.and_one_is_mod, lim_toL, bit_lim n _ _ (by omega), Nat.div_add_mod]
theorem bit_neg {l : List Int} {i : Int} (hi : i < 0) : nat_Bit.f l i = some 0 := by
  unfold nat_Bit.f
  rw [if_pos hi]

/-! ### Shl -/
theorem val_drop {l : List Int} (h : Limbs l) (j : Nat) : val (l.drop j) = val l / 4294967296 ^ j := by
  induction j generalizing l with
  | zero => simp
  | succ j ih =>
    cases l with
    | nil => simp [val]
    | cons x l =>
      obtain ⟨h0, h1, h2⟩ := limbs_cons h
      rw [List.drop_succ_cons, ih h2, Nat.pow_succ, Nat.mul_comm (4294967296 ^ j), ← Nat.div_div_eq_div_mul]
      congr 1
      simp only [val]
      omega
theorem val_step {l : List Int} (h : Limbs l) {i : Nat} : val (l.drop i) = lim l i + 4294967296 * val (l.drop (i + 1)) := by
  rw [val_drop h, val_drop h, lim_val h, Nat.pow_succ, ← Nat.div_div_eq_div_mul]
  omega
theorem pow_le32 {s : Nat} (hs : s < 32) : 2 ^ s * 2 ^ (32 - s) = 4294967296 := by
  rw [← Nat.pow_add, show s + (32 - s) = 32 by omega]
theorem min32 {s : Nat} (hs : s < 32) : min ((s : Nat) : Int).toNat IntKind.u32.bits = s := by
  rw [Int.toNat_natCast]
  exact Nat.min_eq_left (by show s ≤ 32; omega)
theorem min64 {s : Nat} (hs : s < 64) : min ((s : Nat) : Int).toNat IntKind.u64.bits = s := by
  rw [Int.toNat_natCast]
  exact Nat.min_eq_left (by show s ≤ 64; omega)
theorem shl_limb {x s c : Nat} (hx : x < 4294967296) (hs : s < 32) (hc : c < 2 ^ s) :
    Go.bits .or .u32 (shl .u32 (x : Int) (s : Int)) (c : Int) = ((x * 2 ^ s % 4294967296 + c : Nat) : Int) ∧ x * 2 ^ s % 4294967296 + c < 4294967296 ∧
    ((shl .u64 (IntKind.u64.wrap (x : Int)) (s : Int)) / 4294967296) % 4294967296 = ((x * 2 ^ s / 4294967296 : Nat) : Int) ∧ x * 2 ^ s / 4294967296 < 2 ^ s ∧
    x * 2 ^ s + c = (x * 2 ^ s % 4294967296 + c) + 4294967296 * (x * 2 ^ s / 4294967296) := by
  have hp := pow_le32 hs
  have hpos : 0 < 2 ^ s := Nat.pow_pos (by omega)
  have hq : 0 < 2 ^ (32 - s) := Nat.pow_pos (by omega)
  have hs32 : 2 ^ s ≤ 4294967296 := by rw [← hp]; exact Nat.le_mul_of_pos_right _ hq
  have em : x * 2 ^ s % 4294967296 = 2 ^ s * (x % 2 ^ (32 - s)) := by
    rw [← hp, Nat.mul_comm x, Nat.mul_mod_mul_left]
  have hlt : x * 2 ^ s % 4294967296 < 4294967296 := Nat.mod_lt _ (by omega)
  have hor : x * 2 ^ s % 4294967296 ||| c = x * 2 ^ s % 4294967296 + c := by rw [em]; exact or_add hc
  have hol : x * 2 ^ s % 4294967296 ||| c < 2 ^ 32 := Nat.or_lt_two_pow hlt (by omega)
  have hmul : x * 2 ^ s < 4294967296 * 2 ^ s := (Nat.mul_lt_mul_right hpos).2 hx
  have hcast : ((x : Int) * 2 ^ s) = ((x * 2 ^ s : Nat) : Int) := by rw [Int.natCast_mul, Int.natCast_pow]; rfl
  refine ⟨?_, ?_, ?_, ?_, ?_⟩
  · unfold shl
    rw [min32 hs, hcast, IntKind.wrap_u32]
    have : ((x * 2 ^ s : Nat) : Int) % 4294967296 = ((x * 2 ^ s % 4294967296 : Nat) : Int) := by omega
    rw [this, bits_or32 hlt (by omega), hor]
  · rw [← hor]; exact hol
  · unfold shl
    have hm2 : x * 2 ^ s < 18446744073709551616 := by
      have : 4294967296 * 2 ^ s ≤ 4294967296 * 4294967296 := Nat.mul_le_mul_left _ hs32
      omega
    rw [u64w (z := (x : Int)) (by omega) (by omega), min64 (by omega), hcast, u64w (by omega) (by omega)]
    omega
  · exact (Nat.div_lt_iff_lt_mul (by omega)).2 (by rw [Nat.mul_comm (2 ^ s)]; exact hmul)
  · omega
theorem shl_val (p b x s2 c limb c2 v y : Nat) (h : x * s2 + c = limb + 4294967296 * c2) : v + p * limb + p * 4294967296 * (c2 + s2 * y) = v + p * (c + s2 * (x + 4294967296 * y)) := by
  have : s2 * (x + 4294967296 * y) + c = limb + 4294967296 * c2 + 4294967296 * (s2 * y) := by rw [← h, Nat.mul_add, Nat.mul_comm s2 x, ← Nat.mul_assoc s2, Nat.mul_comm s2 4294967296, Nat.mul_assoc]; omega
  rw [Nat.add_comm c, this, Nat.mul_assoc p, Nat.add_assoc v, ← Nat.mul_add]
  congr 2
  rw [Nat.mul_add]
  omega
theorem shl_l0 {l : List Int} (h : Limbs l) (hlen : l.length < 1099511627776) {s : Nat} (hs : s < 32) : ∀ (m i k c : Nat) (x : List Int), Limbs x → i + m = l.length → x.length < 1099511627776 + i → x.length + 2 * m + 2 < k → c < 2 ^ s →
    nat_Shl.l0 k x (s : Int) (c : Int) l (l.length : Int) (i : Int) = some (toL (val x + 4294967296 ^ x.length * (c + 2 ^ s * val (l.drop i)))) := by
  intro m
  have hs32 : 2 ^ s ≤ 4294967296 := by rw [← pow_le32 hs]; exact Nat.le_mul_of_pos_right _ (Nat.pow_pos (by omega))
  induction m with
  | zero =>
    intro i k c x hx hi hxl hk hc
    obtain ⟨k, rfl⟩ : ∃ m, k = m + 1 := ⟨k - 1, by omega⟩
    simp only [nat_Shl.l0]
    rw [if_neg (by omega), if_pos (by omega), make_f (limbs_snoc hx (by omega) (by omega)) (by rw [List.length_append, List.length_singleton]; omega) (by rw [List.length_append, List.length_singleton]; omega), Option.bind_some]
    have e : l.drop i = [] := List.drop_eq_nil_of_le (by omega)
    rw [e, val_snoc, Int.toNat_natCast]
    simp [val]
  | succ m ih =>
    intro i k c x hx hi hxl hk hc
    obtain ⟨k, rfl⟩ : ∃ m, k = m + 1 := ⟨k - 1, by omega⟩
    obtain ⟨a1, a2, a3, a4, a5⟩ := shl_limb (lim_lt h i) hs hc
    simp only [nat_Shl.l0]
    rw [if_pos (by omega), if_pos (by omega), if_pos (by omega), if_pos (by omega), if_pos (by omega), rd_nat h, a1, a3, show wrap64 ((i : Int) + 1) = ((i + 1 : Nat) : Int) by unfold wrap64; omega]
    have hll : (x ++ [((lim l i * 2 ^ s % 4294967296 + c : Nat) : Int)]).length = x.length + 1 := by simp
    rw [ih (i + 1) k _ _ (limbs_snoc hx (by omega) (by omega)) (by omega) (by omega) (by omega) a4, val_snoc, hll, Int.toNat_natCast, val_step h (i := i), Nat.pow_succ]
    rw [shl_val _ 0 (lim l i) (2 ^ s) c _ _ (val x) (val (l.drop (i + 1))) a5]
theorem val_zeros (m : Nat) : val (List.replicate m (0 : Int)) = 0 := by
  induction m with
  | zero => rfl
  | succ m ih => rw [List.replicate_succ]; simp [val, ih]
theorem limbs_zeros (m : Nat) : Limbs (List.replicate m (0 : Int)) := fun x hx => by rw [List.eq_of_mem_replicate hx]; omega
theorem shl_f {n s k : Nat} (hl : (toL n).length < 1099511627776) (hs : s < 2147483648) (hk : s / 32 + 2 * (toL n).length + 2 < k) : nat_Shl.f k (toL n) (s : Int) = some (toL (n * 2 ^ s)) := by
  unfold nat_Shl.f
  by_cases h0 : n = 0
  · subst h0
    rw [if_pos (by rw [toL_zero]; rfl), Nat.zero_mul, toL_zero]
  · have hne : (toL n).length ≠ 0 := fun h1 => h0 (toL_nil.1 (List.length_eq_zero_iff.1 h1))
    have e : wrap64 (Int.tdiv (s : Int) 32) = ((s / 32 : Nat) : Int) := by
      rw [Int.tdiv_eq_ediv_of_nonneg (by omega)]; unfold wrap64; omega
    have e2 : Int.tmod (s : Int) 32 = ((s % 32 : Nat) : Int) := by
      rw [Int.tmod_eq_emod_of_nonneg (by omega)]; omega
    have e3 : wrap64 (wrap64 (((s / 32 : Nat) : Int) + ((toL n).length : Int)) + 1) = ((s / 32 + (toL n).length + 1 : Nat) : Int) := by unfold wrap64; omega
    rw [if_neg (by omega), e, e2, e3, if_pos (by omega), if_pos (by omega), if_pos (by omega), Int.toNat_natCast]
    have hz : (List.replicate (s / 32) (0 : Int)).length = s / 32 := List.length_replicate
    have := shl_l0 (limbs_toL n) hl (s := s % 32) (by omega) (toL n).length 0 k 0 (List.replicate (s / 32) 0) (limbs_zeros _) (by omega) (by omega) (by omega) (Nat.pow_pos (by omega))
    have this : nat_Shl.l0 k (List.replicate (s / 32) 0) ((s % 32 : Nat) : Int) 0 (toL n) ((toL n).length : Int) 0 = _ := this
    rw [this, val_zeros, List.drop_zero, val_toL, hz, pow32, Nat.zero_add, Nat.zero_add, ← Nat.mul_assoc, ← Nat.pow_add, Nat.div_add_mod, Nat.mul_comm]

/-! ### Shr -/
theorem shr_limb {x w s : Nat} (hx : x < 4294967296) (hw : w < 4294967296) (hs : s < 32) :
    Go.bits .or .u32 (shr .u32 (x : Int) (s : Int)) (((shr .u64 (IntKind.u64.wrap ((IntKind.u64.wrap (w : Int)) * 4294967296)) (s : Int))) % 4294967296) = ((x / 2 ^ s + 2 ^ (32 - s) * (w % 2 ^ s) : Nat) : Int) ∧
    x / 2 ^ s + 2 ^ (32 - s) * (w % 2 ^ s) < 4294967296 := by
  have hp := pow_le32 hs
  have hpos : 0 < 2 ^ s := Nat.pow_pos (by omega)
  have hq : 0 < 2 ^ (32 - s) := Nat.pow_pos (by omega)
  have hxs : x / 2 ^ s < 2 ^ (32 - s) := (Nat.div_lt_iff_lt_mul hpos).2 (by rw [Nat.mul_comm, hp]; exact hx)
  have hm : w % 2 ^ s < 2 ^ s := Nat.mod_lt _ hpos
  have hb : 2 ^ (32 - s) * (w % 2 ^ s) + 2 ^ (32 - s) ≤ 4294967296 := by
    have : 2 ^ (32 - s) * (w % 2 ^ s + 1) ≤ 2 ^ (32 - s) * 2 ^ s := Nat.mul_le_mul_left _ hm
    rw [Nat.mul_comm _ (2 ^ s), hp, Nat.mul_add] at this
    omega
  have ew : w * 4294967296 / 2 ^ s = 2 ^ (32 - s) * w := by
    rw [← hp, Nat.mul_comm w, Nat.mul_assoc, Nat.mul_div_cancel_left _ hpos]
  have em : 2 ^ (32 - s) * w % 4294967296 = 2 ^ (32 - s) * (w % 2 ^ s) := by
    rw [show (4294967296 : Nat) = 2 ^ (32 - s) * 2 ^ s by rw [Nat.mul_comm, hp], Nat.mul_mod_mul_left]
  refine ⟨?_, by omega⟩
  unfold shr
  rw [min32 hs, min64 (by omega), u64w (z := (w : Int)) (by omega) (by omega), u64w (z := (w : Int) * 4294967296) (by omega) (by omega)]
  have c1 : (x : Int) / 2 ^ s = ((x / 2 ^ s : Nat) : Int) := by rw [Int.natCast_ediv, Int.natCast_pow]; rfl
  have c2 : ((w : Int) * 4294967296) / 2 ^ s = ((w * 4294967296 / 2 ^ s : Nat) : Int) := by rw [Int.natCast_ediv, Int.natCast_pow, Int.natCast_mul]; rfl
  have c3 : ((2 ^ (32 - s) * w : Nat) : Int) % 4294967296 = ((2 ^ (32 - s) * (w % 2 ^ s) : Nat) : Int) := by rw [← em]; omega
  rw [c1, c2, ew, c3, bits_or32 (by omega) (by omega), Nat.or_comm, or_add hxs]
  congr 1
  omega
theorem shr_val {v s x : Nat} (hs : s < 32) (hx : x = v % 4294967296) : v / 2 ^ s = (x / 2 ^ s + 2 ^ (32 - s) * (v / 4294967296 % 4294967296 % 2 ^ s)) + 4294967296 * (v / 4294967296 / 2 ^ s) := by
  have hp := pow_le32 hs
  have hpos : 0 < 2 ^ s := Nat.pow_pos (by omega)
  have e1 : v / 4294967296 % 4294967296 % 2 ^ s = v / 4294967296 % 2 ^ s := by
    rw [← hp, Nat.mod_mul_right_mod]
  have e2 : v = x + 2 ^ s * (2 ^ (32 - s) * (v / 4294967296)) := by
    rw [← Nat.mul_assoc, hp]; omega
  have e3 := Nat.div_add_mod (v / 4294967296) (2 ^ s)
  rw [e1]
  conv => lhs; rw [e2, Nat.add_mul_div_left _ _ hpos]
  conv => lhs; rw [← e3]
  rw [Nat.mul_add, ← Nat.mul_assoc, Nat.mul_comm _ (2 ^ s), hp]
  omega
theorem shr_l0 {l : List Int} (h : Limbs l) (hlen : l.length < 1099511627776) {s f : Nat} (hs : s < 32) : ∀ (m i k : Nat) (x : List Int), Limbs x → f + i + m = l.length → x.length ≤ i → x.length + 2 * m + 1 < k →
    nat_Shr.l0 k l (f : Int) (s : Int) x ((i + m : Nat) : Int) (i : Int) = some (toL (val x + 4294967296 ^ x.length * (val (l.drop (f + i)) / 2 ^ s))) := by
  intro m
  induction m with
  | zero =>
    intro i k x hx hi hxl hk
    obtain ⟨k, rfl⟩ : ∃ m, k = m + 1 := ⟨k - 1, by omega⟩
    simp only [nat_Shr.l0]
    rw [if_neg (by omega), make_f hx (by omega) (by omega), Option.bind_some]
    have e : l.drop (f + i) = [] := List.drop_eq_nil_of_le (by omega)
    rw [e]
    simp [val]
  | succ m ih =>
    intro i k x hx hi hxl hk
    obtain ⟨k, rfl⟩ : ∃ m, k = m + 1 := ⟨k - 1, by omega⟩
    have e1 : wrap64 ((f : Int) + (i : Int)) = ((f + i : Nat) : Int) := by unfold wrap64; omega
    have e2 : wrap64 (((f + i : Nat) : Int) + 1) = ((f + i + 1 : Nat) : Int) := by unfold wrap64; omega
    have e3 : wrap64 ((i : Int) + 1) = ((i + 1 : Nat) : Int) := by unfold wrap64; omega
    obtain ⟨a1, a2⟩ := shr_limb (lim_lt h (f + i)) (lim_lt h (f + i + 1)) hs
    simp only [nat_Shr.l0]
    rw [if_pos (by omega), e1, if_pos (by omega), if_pos (by omega), if_pos (by omega), e2, at_f h (by omega), Option.bind_some, if_pos (by omega), rd_nat h, Int.toNat_natCast, a1, e3]
    rw [show ((i + (m + 1) : Nat) : Int) = ((i + 1 + m : Nat) : Int) by omega]
    have hll : ∀ z : Int, (x ++ [z]).length = x.length + 1 := fun z => by simp
    rw [ih (i + 1) k _ (limbs_snoc hx (Int.natCast_nonneg _) (Int.ofNat_lt.2 a2)) (by omega) (by rw [hll]; omega) (by rw [hll]; omega), val_snoc, hll, Int.toNat_natCast]
    have hv := @shr_val (val (l.drop (f + i))) s (lim l (f + i)) hs (by rw [lim_val h, val_drop h])
    have hd : val (l.drop (f + i)) / 4294967296 = val (l.drop (f + i + 1)) := by rw [val_drop h, val_drop h, Nat.div_div_eq_div_mul, Nat.pow_succ]
    have hw : val (l.drop (f + i + 1)) % 4294967296 = lim l (f + i + 1) := by rw [lim_val h, val_drop h]
    rw [hd, hw] at hv
    rw [hv, Nat.pow_succ, Nat.mul_add _ (_ + _) (4294967296 * _), ← Nat.mul_assoc _ 4294967296, Nat.add_assoc (val x)]
    rfl
theorem shr_f {n s k : Nat} (hl : (toL n).length < 1099511627776) (hs : s < 2147483648) (hk : 2 * (toL n).length + 1 < k) : nat_Shr.f k (toL n) (s : Int) = some (toL (n / 2 ^ s)) := by
  unfold nat_Shr.f
  have e : wrap64 (Int.tdiv (s : Int) 32) = ((s / 32 : Nat) : Int) := by
    rw [Int.tdiv_eq_ediv_of_nonneg (by omega)]; unfold wrap64; omega
  have e2 : Int.tmod (s : Int) 32 = ((s % 32 : Nat) : Int) := by
    rw [Int.tmod_eq_emod_of_nonneg (by omega)]; omega
  rw [e, e2]
  have hsplit : 2 ^ s = 4294967296 ^ (s / 32) * 2 ^ (s % 32) := by rw [pow32, ← Nat.pow_add, Nat.div_add_mod]
  by_cases h1 : (toL n).length ≤ s / 32
  · rw [if_pos (by omega)]
    have h2 : n < 4294967296 ^ (s / 32) := toL_length_le.1 h1
    rw [hsplit, ← Nat.div_div_eq_div_mul, Nat.div_eq_of_lt h2, Nat.zero_div, toL_zero]
  · rw [if_neg (by omega)]
    have e3 : wrap64 (((toL n).length : Int) - ((s / 32 : Nat) : Int)) = ((0 + ((toL n).length - s / 32) : Nat) : Int) := by unfold wrap64; omega
    have := shr_l0 (limbs_toL n) hl (s := s % 32) (f := s / 32) (by omega) ((toL n).length - s / 32) 0 k [] limbs_nil (by omega) (by simp) (by simp only [List.length_nil]; omega)
    rw [e3]
    refine this.trans ?_
    rw [val_drop (limbs_toL n), val_toL, Nat.add_zero, List.length_nil, Nat.pow_zero, Nat.one_mul, hsplit, Nat.div_div_eq_div_mul]
    simp [val]
end Go.Proofs.Ytplkofflhacehaa.NF
