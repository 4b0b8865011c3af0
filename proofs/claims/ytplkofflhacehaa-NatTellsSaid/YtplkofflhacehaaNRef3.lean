/- The statement's own reference of naturals, third part: shifts. -/
import Derived.Test.YtplkofflhacehaaNRef2
namespace Go.Proofs.Ytplkofflhacehaa.NF
open Go.RowKit Go.Proofs.Ytplkofflhacehaa.Q Go.Proofs.Ytplkofflhacehaa.NC Go.Proofs.YtplkofflhacehaaW.PrintWords Go.Proofs.YtplkofflhacehaaW.PrintLast Go.Proofs.YtplkofflhacehaaW.PrintMore
set_option linter.unusedVariables false
set_option linter.unusedSimpArgs false

theorem snoc_zeros (i : Nat) : List.replicate i (0 : Int) ++ [0] = List.replicate (i + 1) 0 := by rw [List.replicate_succ']
theorem step64 {i : Nat} (h : i < 1099511627776) : wrap64 ((i : Int) + 1) = ((i + 1 : Nat) : Int) := by rw [w64 (by omega) (by omega)]; omega
theorem rshl_l0 {x : List Int} {a1 : Int} {q : Nat} (hq : ∀ _ : Unit, wrap64 (Int.tdiv a1 32) = (q : Int)) (hql : q < 1099511627776) : ∀ (m i k : Nat), i + m = q →
    zigguratref01_Shl.l0 (k + m + 1) x a1 (List.replicate i 0) 0 1 (i : Int) = zigguratref01_Shl.l1 k x a1 (List.replicate q 0) 0 1 0 := by
  intro m
  induction m with
  | zero =>
    intro i k hi
    simp only [zigguratref01_Shl.l0, Nat.add_zero]
    rw [hq (), if_neg (by omega), show i = q by omega]
  | succ m ih =>
    intro i k hi
    have hl : (List.replicate i (0 : Int)).length = i := List.length_replicate
    obtain ⟨K, hK⟩ : ∃ K, K = k + m + 1 := ⟨_, rfl⟩
    rw [show k + (m + 1) + 1 = K + 1 by omega]
    simp only [zigguratref01_Shl.l0]
    rw [hq (), if_pos (by omega), if_pos (by omega), snoc_zeros, step64 (by omega)]
    rw [hK]
    exact ih (i + 1) k (by omega)
theorem dbl64 {i : Nat} (h : i < 32) : IntKind.u64.wrap (2 * ((2 ^ i : Nat) : Int)) = ((2 ^ (i + 1) : Nat) : Int) := by
  have hp := pow_le32 h
  have hq : 0 < 2 ^ (32 - i) := Nat.pow_pos (by omega)
  have h2 : 2 ^ i ≤ 4294967296 := by rw [← hp]; exact Nat.le_mul_of_pos_right _ hq
  rw [Nat.pow_succ]
  generalize 2 ^ i = p at h2
  rw [u64w (by omega) (by omega)]
  omega
theorem rshl_l1 {x z : List Int} {a1 : Int} {r : Nat} (hr : ∀ _ : Unit, Int.tmod a1 32 = (r : Int)) (hrl : r < 32) : ∀ (m i k : Nat), i + m = r →
    zigguratref01_Shl.l1 (k + m + 1) x a1 z 0 ((2 ^ i : Nat) : Int) (i : Int) = zigguratref01_Shl.l2 k x z 0 ((2 ^ r : Nat) : Int) 0 := by
  intro m
  induction m with
  | zero =>
    intro i k hi
    simp only [zigguratref01_Shl.l1, Nat.add_zero]
    rw [hr (), if_neg (by omega), show i = r by omega]
  | succ m ih =>
    intro i k hi
    obtain ⟨K, hK⟩ : ∃ K, K = k + m + 1 := ⟨_, rfl⟩
    rw [show k + (m + 1) + 1 = K + 1 by omega]
    simp only [zigguratref01_Shl.l1]
    rw [hr (), if_pos (by omega), dbl64 (by omega), step64 (by omega)]
    rw [hK]
    exact ih (i + 1) k (by omega)
theorem shl2_step {l r c : Nat} (hl : l < 4294967296) (hr : r < 32) (hc : c < 2 ^ r) : ∃ d c' : Nat, d < 4294967296 ∧ c' < 2 ^ r ∧ d + 4294967296 * c' = l * 2 ^ r + c ∧
    (Int.tmod (IntKind.u64.wrap ((IntKind.u64.wrap ((l : Int) * ((2 ^ r : Nat) : Int))) + (c : Int))) 4294967296) % 4294967296 = (d : Int) ∧
    IntKind.u64.wrap (Int.tdiv (IntKind.u64.wrap ((IntKind.u64.wrap ((l : Int) * ((2 ^ r : Nat) : Int))) + (c : Int))) 4294967296) = (c' : Int) := by
  have hp := pow_le32 hr
  have hq : 0 < 2 ^ (32 - r) := Nat.pow_pos (by omega)
  have h2 : 2 ^ r ≤ 4294967296 := by rw [← hp]; exact Nat.le_mul_of_pos_right _ hq
  have h3 : l * 2 ^ r + 2 ^ r ≤ 4294967296 * 2 ^ r := by rw [← Nat.succ_mul]; exact Nat.mul_le_mul_right _ hl
  rw [← Int.natCast_mul]
  generalize l * 2 ^ r = v at *
  generalize 2 ^ r = p at *
  have h4 : v + c < 18446744073709551616 := by omega
  rw [u64w (z := (v : Int)) (by omega) (by omega), u64w (z := (v : Int) + (c : Int)) (by omega) (by omega), Int.tmod_eq_emod_of_nonneg (by omega), Int.tdiv_eq_ediv_of_nonneg (by omega), u64w (by omega) (by omega)]
  exact ⟨(v + c) % 4294967296, (v + c) / 4294967296, by omega, by omega, by omega, by omega, by omega⟩
theorem shl2_val (Q P v V c d c' l S : Nat) (h : v + Q * P * c = Q * (S * V)) (e : d + 4294967296 * c' = l * S + c) : v + Q * P * d + Q * P * 4294967296 * c' = Q * (S * (V + P * l)) := by
  have e2 : Q * P * (d + 4294967296 * c') = Q * P * (l * S + c) := by rw [e]
  rw [Nat.mul_add, Nat.mul_add, ← Nat.mul_assoc] at e2
  have e3 : Q * (S * (V + P * l)) = Q * (S * V) + Q * P * (l * S) := by
    rw [Nat.mul_add, Nat.mul_add]
    congr 1
    simp only [Nat.mul_comm, Nat.mul_left_comm, Nat.mul_assoc]
  rw [e3]
  omega
theorem rshl_l2 {x : List Int} (hx : Limbs x) {q r : Nat} (hr : r < 32) (hlen : q + x.length < 1099511627776) : ∀ (m i k c : Nat) (z : List Int), Limbs z → i + m = x.length + 1 → z.length = q + i → q + x.length + m + 4 < k → c < 2 ^ r →
    val z + 4294967296 ^ q * 4294967296 ^ i * c = 4294967296 ^ q * (2 ^ r * val (x.take i)) → zigguratref01_Shl.l2 k x z (c : Int) ((2 ^ r : Nat) : Int) (i : Int) = some (toL (4294967296 ^ q * (2 ^ r * val x))) := by
  intro m
  induction m with
  | zero =>
    intro i k c z hz hi hzl hk hc hv
    obtain ⟨k, rfl⟩ : ∃ m, k = m + 1 := ⟨k - 1, by omega⟩
    simp only [zigguratref01_Shl.l2]
    rw [if_neg (by omega), rmake_f hz (by omega) (by omega), Option.bind_some]
    rw [List.take_of_length_le (by omega)] at hv
    have hp := pow_le32 hr
    have hpp : 0 < 2 ^ (32 - r) := Nat.pow_pos (by omega)
    have h2 : 2 ^ r ≤ 4294967296 := by rw [← hp]; exact Nat.le_mul_of_pos_right _ hpp
    have h3 : 2 ^ r * val x < 4294967296 ^ i := by
      rw [show i = x.length + 1 by omega, Nat.pow_succ, Nat.mul_comm (4294967296 ^ x.length)]
      exact Nat.mul_lt_mul_of_le_of_lt h2 (val_lt hx) (by omega)
    have h4 : 4294967296 ^ q * (2 ^ r * val x) < 4294967296 ^ q * 4294967296 ^ i := (Nat.mul_lt_mul_left (Nat.pow_pos (by omega))).2 h3
    have hc0 : c = 0 := by
      rcases Nat.eq_zero_or_pos c with h | h
      · exact h
      · have : 4294967296 ^ q * 4294967296 ^ i * 1 ≤ 4294967296 ^ q * 4294967296 ^ i * c := Nat.mul_le_mul_left _ h
        omega
    subst hc0
    rw [Nat.mul_zero, Nat.add_zero] at hv
    rw [hv]
  | succ m ih =>
    intro i k c z hz hi hzl hk hc hv
    obtain ⟨k, rfl⟩ : ∃ m, k = m + 1 := ⟨k - 1, by omega⟩
    obtain ⟨d, c', hd, hc', he, e1, e2⟩ := shl2_step (lim_lt hx i) hr hc
    have hkk : z.length < 35184372088832 := by omega
    have hii : i < 1099511627776 := by omega
    have hle : (i : Int) ≤ (x.length : Int) := by omega
    simp only [zigguratref01_Shl.l2]
    rw [if_pos hle, limb_f hx, Option.bind_some, if_pos hkk, e1, e2, step64 hii]
    refine ih (i + 1) k c' _ (limbs_snoc hz (Int.natCast_nonneg _) (Int.ofNat_lt.2 hd)) (by clear hv e1 e2 he; omega) (by rw [List.length_append, List.length_singleton]; clear hv e1 e2 he; omega) (by clear hv e1 e2 he; omega) hc' ?_
    rw [val_snoc, val_take_succ hx, hzl, Int.toNat_natCast, Nat.pow_succ, Nat.pow_add, ← Nat.mul_assoc (4294967296 ^ q)]
    exact shl2_val _ _ _ _ _ _ _ _ _ hv he
theorem rshl_f {n s k m : Nat} (hl : (toL n).length ≤ m) (hm : m < 100000) (hs : s < 100000) (hk : 3 * s + 3 * m + 100 < k) : zigguratref01_Shl.f k (toL n) (s : Int) = some (toL (n * 2 ^ s)) := by
  unfold zigguratref01_Shl.f
  have e : ∀ _ : Unit, wrap64 (Int.tdiv (s : Int) 32) = ((s / 32 : Nat) : Int) := fun _ => by
    rw [Int.tdiv_eq_ediv_of_nonneg (by omega)]; unfold wrap64; omega
  have e2 : ∀ _ : Unit, Int.tmod (s : Int) 32 = ((s % 32 : Nat) : Int) := fun _ => by
    rw [Int.tmod_eq_emod_of_nonneg (by omega)]; omega
  obtain ⟨k2, rfl⟩ : ∃ k2, k = (k2 + s % 32 + 1) + s / 32 + 1 := ⟨k - (s % 32 + 1 + s / 32 + 1), by omega⟩
  have a1 := rshl_l0 (x := toL n) e (by omega) (s / 32) 0 (k2 + s % 32 + 1) (by omega)
  have a2 := rshl_l1 (x := toL n) (z := List.replicate (s / 32) 0) e2 (by omega) (s % 32) 0 k2 (by omega)
  have a3 := rshl_l2 (limbs_toL n) (q := s / 32) (r := s % 32) (by omega) (by omega) ((toL n).length + 1) 0 k2 0 (List.replicate (s / 32) 0) (limbs_zeros _) (by omega) (by rw [List.length_replicate]; omega) (by omega) (Nat.pow_pos (by omega)) (by rw [val_zeros]; simp [val])
  refine (a1.trans a2).trans (a3.trans ?_)
  rw [val_toL, pow32, ← Nat.mul_assoc, ← Nat.pow_add, Nat.div_add_mod, Nat.mul_comm]

/-! ### Shr -/
theorem rshr_l0 {x z : List Int} {a1 : Int} {q r : Nat} (hq : ∀ _ : Unit, wrap64 (Int.tdiv a1 32) = (q : Int)) (hr : ∀ _ : Unit, Int.tmod a1 32 = (r : Int)) (hrl : r < 32) : ∀ (m i k : Nat), i + m = r →
    zigguratref01_Shr.l0 (k + m + 1) x a1 z ((2 ^ i : Nat) : Int) (i : Int) = zigguratref01_Shr.l1 k x z ((2 ^ r : Nat) : Int) (q : Int) := by
  intro m
  induction m with
  | zero =>
    intro i k hi
    simp only [zigguratref01_Shr.l0, Nat.add_zero]
    rw [hr (), hq (), if_neg (by omega), show i = r by omega]
  | succ m ih =>
    intro i k hi
    obtain ⟨K, hK⟩ : ∃ K, K = k + m + 1 := ⟨_, rfl⟩
    rw [show k + (m + 1) + 1 = K + 1 by omega]
    simp only [zigguratref01_Shr.l0]
    rw [hr (), if_pos (by omega), dbl64 (by omega), step64 (by omega)]
    rw [hK]
    exact ih (i + 1) k (by omega)
theorem shr2_step {l w r : Nat} (hl : l < 4294967296) (hw : w < 4294967296) (hr : r < 32) :
    (Int.tmod (IntKind.u64.wrap (Int.tdiv (IntKind.u64.wrap ((l : Int) + (IntKind.u64.wrap (4294967296 * (Int.tmod (w : Int) ((2 ^ r : Nat) : Int)))))) ((2 ^ r : Nat) : Int))) 4294967296) % 4294967296 = ((l / 2 ^ r + 2 ^ (32 - r) * (w % 2 ^ r) : Nat) : Int) ∧
    l / 2 ^ r + 2 ^ (32 - r) * (w % 2 ^ r) < 4294967296 := by
  have hp := pow_le32 hr
  have hpos : 0 < 2 ^ r := Nat.pow_pos (by omega)
  have hlt := (shr_limb hl hw hr).2
  refine ⟨?_, hlt⟩
  have hm : w % 2 ^ r < 2 ^ r := Nat.mod_lt _ hpos
  have h2 : 2 ^ r ≤ 4294967296 := by rw [← hp]; exact Nat.le_mul_of_pos_right _ (Nat.pow_pos (by omega))
  have h5 : (l + 4294967296 * (w % 2 ^ r)) / 2 ^ r = l / 2 ^ r + 2 ^ (32 - r) * (w % 2 ^ r) := by
    conv => lhs; rw [← hp, Nat.mul_assoc, Nat.add_mul_div_left _ _ hpos]
  have h6 : l + 4294967296 * (w % 2 ^ r) < 18446744073709551616 := by
    generalize w % 2 ^ r = y at hm
    omega
  rw [Int.tmod_eq_emod_of_nonneg (a := (w : Int)) (Int.natCast_nonneg _), ← Int.natCast_emod]
  rw [← h5] at hlt ⊢
  generalize w % 2 ^ r = y at *
  rw [u64w (z := 4294967296 * (y : Int)) (by omega) (by omega), u64w (z := (l : Int) + 4294967296 * (y : Int)) (by omega) (by omega)]
  rw [show (l : Int) + 4294967296 * (y : Int) = ((l + 4294967296 * y : Nat) : Int) by omega, Int.tdiv_eq_ediv_of_nonneg (Int.natCast_nonneg _), ← Int.natCast_ediv]
  generalize (l + 4294967296 * y) / 2 ^ r = g at *
  rw [u64w (by omega) (by omega), Int.tmod_eq_emod_of_nonneg (Int.natCast_nonneg _)]
  omega
theorem rshr_l1 {x : List Int} (hx : Limbs x) {r : Nat} (hr : r < 32) (hlen : x.length < 1099511627776) : ∀ (m j k : Nat) (z : List Int), Limbs z → x.length - j = m → z.length ≤ j → z.length + 2 * m + 2 < k → z.length < 1099511627776 →
    zigguratref01_Shr.l1 k x z ((2 ^ r : Nat) : Int) (j : Int) = some (toL (val z + 4294967296 ^ z.length * (val (x.drop j) / 2 ^ r))) := by
  have hpos : 0 < 2 ^ r := Nat.pow_pos (by omega)
  intro m
  induction m with
  | zero =>
    intro j k z hz hj hzl hk hzz
    obtain ⟨k, rfl⟩ : ∃ m, k = m + 1 := ⟨k - 1, by omega⟩
    simp only [zigguratref01_Shr.l1]
    rw [if_neg (by omega), rmake_f hz (by omega) (by omega), Option.bind_some]
    have e : x.drop j = [] := List.drop_eq_nil_of_le (by omega)
    rw [e]
    simp [val]
  | succ m ih =>
    intro j k z hz hj hzl hk hzz
    obtain ⟨k, rfl⟩ : ∃ m, k = m + 1 := ⟨k - 1, by omega⟩
    obtain ⟨a1, a2⟩ := shr2_step (lim_lt hx j) (lim_lt hx (j + 1)) hr
    have hne : ¬ (((2 ^ r : Nat) : Int) = 0) := by omega
    have hj1 : (j : Int) < (x.length : Int) := by omega
    have hj2 : j < 1099511627776 := by omega
    have hz2 : z.length < 35184372088832 := by omega
    have hm1 : x.length - (j + 1) = m := by omega
    have hm2 : z.length + 1 ≤ j + 1 := by omega
    have hm3 : z.length + 1 + 2 * m + 2 < k := by omega
    have hm4 : z.length + 1 < 1099511627776 := by omega
    simp only [zigguratref01_Shr.l1]
    rw [if_pos hj1, limb_f hx, Option.bind_some, step64 hj2, limb_f hx, Option.bind_some, if_neg hne, if_pos hz2, a1]
    have hll : ∀ u : Int, (z ++ [u]).length = z.length + 1 := fun u => by simp
    rw [ih (j + 1) k _ (limbs_snoc hz (Int.natCast_nonneg _) (Int.ofNat_lt.2 a2)) hm1 (by rw [hll]; exact hm2) (by rw [hll]; exact hm3) (by rw [hll]; exact hm4), val_snoc, hll, Int.toNat_natCast]
    have hv := @shr_val (val (x.drop j)) r (lim x j) hr (by rw [lim_val hx, val_drop hx])
    have hd : val (x.drop j) / 4294967296 = val (x.drop (j + 1)) := by rw [val_drop hx, val_drop hx, Nat.div_div_eq_div_mul, Nat.pow_succ]
    have hw : val (x.drop (j + 1)) % 4294967296 = lim x (j + 1) := by rw [lim_val hx, val_drop hx]
    rw [hd, hw] at hv
    rw [hv, Nat.pow_succ, Nat.mul_add _ (_ + _) (4294967296 * _), ← Nat.mul_assoc _ 4294967296, Nat.add_assoc (val z)]
theorem rshr_f {n s k m : Nat} (hl : (toL n).length ≤ m) (hm : m < 100000) (hs : s < 100000) (hk : 3 * m + 100 < k) : zigguratref01_Shr.f k (toL n) (s : Int) = some (toL (n / 2 ^ s)) := by
  unfold zigguratref01_Shr.f
  have e : ∀ _ : Unit, wrap64 (Int.tdiv (s : Int) 32) = ((s / 32 : Nat) : Int) := fun _ => by
    rw [Int.tdiv_eq_ediv_of_nonneg (by omega)]; unfold wrap64; omega
  have e2 : ∀ _ : Unit, Int.tmod (s : Int) 32 = ((s % 32 : Nat) : Int) := fun _ => by
    rw [Int.tmod_eq_emod_of_nonneg (by omega)]; omega
  obtain ⟨k2, rfl⟩ : ∃ k2, k = k2 + s % 32 + 1 := ⟨k - (s % 32 + 1), by omega⟩
  have a1 := rshr_l0 (x := toL n) (z := []) e e2 (by omega) (s % 32) 0 k2 (by omega)
  have a2 := rshr_l1 (limbs_toL n) (r := s % 32) (by omega) (by omega) ((toL n).length - s / 32) (s / 32) k2 [] limbs_nil (by omega) (by simp) (by simp only [List.length_nil]; omega) (by simp)
  refine a1.trans (a2.trans ?_)
  rw [val_drop (limbs_toL n), val_toL, List.length_nil, Nat.pow_zero, Nat.one_mul, Nat.div_div_eq_div_mul, pow32, ← Nat.pow_add, Nat.div_add_mod]
  simp [val]
end Go.Proofs.Ytplkofflhacehaa.NF
