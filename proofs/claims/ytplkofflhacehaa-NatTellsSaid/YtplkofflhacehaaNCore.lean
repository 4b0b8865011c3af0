/- Naturals as rows of limbs: plain Lean, no program. -/
import Derived.Below
namespace Go.Proofs.Ytplkofflhacehaa.NC
set_option linter.unusedVariables false
set_option linter.unusedSimpArgs false

def val : List Int → Nat
  | [] => 0
  | x :: xs => x.toNat + 4294967296 * val xs
def Limbs (l : List Int) : Prop := ∀ x ∈ l, 0 ≤ x ∧ x < 4294967296
def toL (n : Nat) : List Int := if h : n = 0 then [] else ((n % 4294967296 : Nat) : Int) :: toL (n / 4294967296)
termination_by n
decreasing_by omega
theorem toL_zero : toL 0 = [] := by rw [toL]; simp
theorem toL_pos {n : Nat} (h : n ≠ 0) : toL n = ((n % 4294967296 : Nat) : Int) :: toL (n / 4294967296) := by
  rw [toL]; simp [h]
theorem val_toL (n : Nat) : val (toL n) = n := by
  induction n using Nat.strongRecOn with
  | _ n ih =>
    by_cases h : n = 0
    · subst h; rw [toL_zero]; rfl
    · rw [toL_pos h]
      simp only [val, Int.toNat_natCast]
      rw [ih (n / 4294967296) (by omega)]
      omega
theorem limbs_nil : Limbs [] := fun x h => by cases h
theorem limbs_cons {x : Int} {l : List Int} (h : Limbs (x :: l)) : 0 ≤ x ∧ x < 4294967296 ∧ Limbs l := ⟨(h x List.mem_cons_self).1, (h x List.mem_cons_self).2, fun y hy => h y (List.mem_cons_of_mem _ hy)⟩
theorem limbs_mk {x : Int} {l : List Int} (h0 : 0 ≤ x) (h1 : x < 4294967296) (h : Limbs l) : Limbs (x :: l) := fun y hy => by
  rcases List.mem_cons.1 hy with rfl | hy
  · exact ⟨h0, h1⟩
  · exact h y hy
theorem limbs_append {l m : List Int} (h : Limbs l) (k : Limbs m) : Limbs (l ++ m) := fun y hy => by
  rcases List.mem_append.1 hy with hy | hy
  · exact h y hy
  · exact k y hy
theorem limbs_snoc {x : Int} {l : List Int} (h : Limbs l) (h0 : 0 ≤ x) (h1 : x < 4294967296) : Limbs (l ++ [x]) := limbs_append h (limbs_mk h0 h1 limbs_nil)
theorem limbs_take {l : List Int} (h : Limbs l) (n : Nat) : Limbs (l.take n) := fun y hy => h y (List.mem_of_mem_take hy)
theorem limbs_drop {l : List Int} (h : Limbs l) (n : Nat) : Limbs (l.drop n) := fun y hy => h y (List.mem_of_mem_drop hy)
theorem limbs_toL (n : Nat) : Limbs (toL n) := by
  induction n using Nat.strongRecOn with
  | _ n ih =>
    by_cases h : n = 0
    · subst h; rw [toL_zero]; exact limbs_nil
    · rw [toL_pos h]
      exact limbs_mk (by omega) (by omega) (ih _ (by omega))
theorem toL_inj {a b : Nat} (h : toL a = toL b) : a = b := by rw [← val_toL a, ← val_toL b, h]
theorem toL_nil {n : Nat} : toL n = [] ↔ n = 0 := ⟨fun h => by rw [← val_toL n, h]; rfl, fun h => by rw [h]; exact toL_zero⟩
theorem val_append (l m : List Int) : val (l ++ m) = val l + 4294967296 ^ l.length * val m := by
  induction l with
  | nil => simp [val]
  | cons x l ih =>
    simp only [List.cons_append, val, ih, List.length_cons, Nat.pow_succ]
    rw [Nat.mul_add]
    have : 4294967296 * (4294967296 ^ l.length * val m) = 4294967296 ^ l.length * 4294967296 * val m := by
      rw [Nat.mul_comm (4294967296 ^ l.length) 4294967296, Nat.mul_assoc]
    omega
theorem val_snoc (l : List Int) (x : Int) : val (l ++ [x]) = val l + 4294967296 ^ l.length * x.toNat := by
  rw [val_append]; simp [val]
theorem val_lt {l : List Int} (h : Limbs l) : val l < 4294967296 ^ l.length := by
  induction l with
  | nil => simp [val]
  | cons x l ih =>
    obtain ⟨h0, h1, h2⟩ := limbs_cons h
    have := ih h2
    simp only [val, List.length_cons, Nat.pow_succ]
    have hx : x.toNat < 4294967296 := by omega
    have : (val l + 1) * 4294967296 ≤ 4294967296 ^ l.length * 4294967296 := Nat.mul_le_mul_right _ (by omega)
    omega
/-- A row whose last limb is not 0 is its number's. -/
theorem canon {l : List Int} (h : Limbs l) (hl : ∀ hn : l ≠ [], l.getLast hn ≠ 0) : toL (val l) = l := by
  induction l with
  | nil => simp [val, toL_zero]
  | cons x l ih =>
    obtain ⟨h0, h1, h2⟩ := limbs_cons h
    have hx : x.toNat < 4294967296 := by omega
    by_cases hn : l = []
    · subst hn
      have h3 := hl (by simp)
      simp only [List.getLast_singleton] at h3
      have h4 : x.toNat ≠ 0 := by omega
      simp only [val, Nat.mul_zero, Nat.add_zero]
      rw [toL_pos h4, Nat.mod_eq_of_lt hx, Nat.div_eq_of_lt hx, toL_zero]
      congr 1
      omega
    · have h3 := ih h2 (fun hn' => by have := hl (by simp); rwa [List.getLast_cons hn'] at this)
      have h5 : val l ≠ 0 := by
        intro h6
        rw [h6, toL_zero] at h3
        exact hn h3.symm
      have h4 : x.toNat + 4294967296 * val l ≠ 0 := by omega
      simp only [val]
      rw [toL_pos h4, Nat.add_mul_mod_self_left, Nat.mod_eq_of_lt hx, Nat.add_mul_div_left _ _ (by omega), Nat.div_eq_of_lt hx, Nat.zero_add, h3]
      congr 1
      omega
theorem toL_last {n : Nat} (hn : toL n ≠ []) : (toL n).getLast hn ≠ 0 := by
  induction n using Nat.strongRecOn with
  | _ n ih =>
    have h : n ≠ 0 := fun h => hn (toL_nil.2 h)
    have he := toL_pos h
    by_cases h1 : toL (n / 4294967296) = []
    · have h2 := toL_nil.1 h1
      have : (toL n).getLast hn = ((n % 4294967296 : Nat) : Int) := by
        simp only [he, h1, List.getLast_singleton]
      rw [this]
      omega
    · have : (toL n).getLast hn = (toL (n / 4294967296)).getLast h1 := by
        simp only [he, List.getLast_cons h1]
      rw [this]
      exact ih _ (by omega) h1
theorem toL_length_le {n m : Nat} : (toL n).length ≤ m ↔ n < 4294967296 ^ m := by
  induction m generalizing n with
  | zero =>
    rw [Nat.pow_zero]
    constructor
    · intro h
      have : toL n = [] := List.length_eq_zero_iff.1 (by omega)
      rw [toL_nil.1 this]
      omega
    · intro h
      rw [toL_nil.2 (by omega)]
      simp
  | succ m ih =>
    by_cases h : n = 0
    · subst h
      rw [toL_zero]
      simp only [List.length_nil, Nat.zero_le, true_iff]
      exact Nat.pow_pos (by omega)
    · rw [toL_pos h, List.length_cons, Nat.add_le_add_iff_right, ih, Nat.pow_succ, Nat.div_lt_iff_lt_mul (by omega)]
theorem pow_le_val {n : Nat} (h : n ≠ 0) : 4294967296 ^ ((toL n).length - 1) ≤ n := by
  have h1 : (toL n).length ≠ 0 := fun h1 => h (toL_nil.1 (List.length_eq_zero_iff.1 h1))
  rcases Nat.lt_or_ge n (4294967296 ^ ((toL n).length - 1)) with h2 | h2
  · have := toL_length_le.2 h2
    omega
  · exact h2
theorem val_lt_toL (n : Nat) : n < 4294967296 ^ (toL n).length := toL_length_le.1 (Nat.le_refl _)
/-- A limb of a row: 0 beyond. -/
def lim (l : List Int) (i : Nat) : Nat := (l.getD i 0).toNat
theorem lim_val {l : List Int} (h : Limbs l) (i : Nat) : lim l i = val l / 4294967296 ^ i % 4294967296 := by
  induction l generalizing i with
  | nil => simp [lim, val]
  | cons x l ih =>
    obtain ⟨h0, h1, h2⟩ := limbs_cons h
    have hx : x.toNat < 4294967296 := by omega
    cases i with
    | zero => simp [lim, val]; omega
    | succ i =>
      have := ih h2 i
      have e : lim (x :: l) (i + 1) = lim l i := by simp [lim]
      rw [e, this]
      simp only [val]
      rw [Nat.pow_succ, Nat.mul_comm (4294967296 ^ i), ← Nat.div_div_eq_div_mul, Nat.add_mul_div_left _ _ (by omega), Nat.div_eq_of_lt hx, Nat.zero_add]
theorem lim_toL (n i : Nat) : lim (toL n) i = n / 4294967296 ^ i % 4294967296 := by rw [lim_val (limbs_toL n), val_toL]
theorem lim_lt {l : List Int} (h : Limbs l) (i : Nat) : lim l i < 4294967296 := by rw [lim_val h]; omega
theorem getD_lim {l : List Int} (h : Limbs l) (i : Nat) : l.getD i 0 = (lim l i : Int) := by
  unfold lim
  have : 0 ≤ l.getD i 0 := by
    rcases Nat.lt_or_ge i l.length with hi | hi
    · rw [List.getD_eq_getElem?_getD, List.getElem?_eq_getElem hi]
      exact (h _ (List.getElem_mem hi)).1
    · rw [List.getD_eq_getElem?_getD, List.getElem?_eq_none hi]
      simp
  omega
theorem val_take_succ {l : List Int} (h : Limbs l) (n : Nat) : val (l.take (n + 1)) = val (l.take n) + 4294967296 ^ n * lim l n := by
  rcases Nat.lt_or_ge n l.length with hn | hn
  · rw [List.take_succ_eq_append_getElem hn, val_snoc, List.length_take, Nat.min_eq_left (by omega)]
    congr 2
    simp [lim, List.getD_eq_getElem?_getD, List.getElem?_eq_getElem hn]
  · rw [List.take_of_length_le (by omega), List.take_of_length_le hn]
    have : lim l n = 0 := by simp [lim, List.getD_eq_getElem?_getD, List.getElem?_eq_none hn]
    rw [this]
    simp
theorem val_take_lt {l : List Int} (h : Limbs l) (n : Nat) : val (l.take n) < 4294967296 ^ n := by
  have h1 := val_lt (limbs_take h n)
  have h2 : (l.take n).length ≤ n := by rw [List.length_take]; omega
  exact Nat.lt_of_lt_of_le h1 (Nat.pow_le_pow_right (by omega) h2)
/-- The first n limbs of what a function tells. -/
def upV (f : Nat → Nat) : Nat → Nat
  | 0 => 0
  | n + 1 => upV f n + 4294967296 ^ n * f n
theorem upV_lim {l : List Int} (h : Limbs l) (n : Nat) : upV (lim l) n = val (l.take n) := by
  induction n with
  | zero => simp [upV, val]
  | succ n ih => rw [upV, ih, val_take_succ h]
theorem upV_all {l : List Int} (h : Limbs l) {n : Nat} (hn : l.length ≤ n) : upV (lim l) n = val l := by rw [upV_lim h, List.take_of_length_le hn]

/-- How many bits. -/
def bl (n : Nat) : Nat := if n = 0 then 0 else n.log2 + 1
theorem bl_le {n m : Nat} : bl n ≤ m ↔ n < 2 ^ m := by
  unfold bl
  by_cases h : n = 0
  · subst h; simp; exact Nat.pow_pos (by omega)
  · rw [if_neg h, ← Nat.log2_lt h]; omega
theorem lt_bl {n m : Nat} : m < bl n ↔ 2 ^ m ≤ n := by
  have := @bl_le n m
  omega
theorem bl_zero : bl 0 = 0 := rfl
theorem bl_eq {n m : Nat} (h1 : n < 2 ^ m) (h2 : m = 0 ∨ 2 ^ (m - 1) ≤ n) : bl n = m := by
  have h3 := bl_le.2 h1
  rcases h2 with h2 | h2
  · omega
  · have := lt_bl.2 h2
    omega
theorem pow32 (n : Nat) : 4294967296 ^ n = 2 ^ (32 * n) := by rw [Nat.pow_mul]
/-- The bits of a row: those of its last limb, and 32 for each other. -/
theorem bl_toL {n : Nat} (h : n ≠ 0) : bl n = 32 * ((toL n).length - 1) + bl (lim (toL n) ((toL n).length - 1)) := by
  have h1 := pow_le_val h
  have h2 := val_lt_toL n
  have h0 : (toL n).length ≠ 0 := fun h1 => h (toL_nil.1 (List.length_eq_zero_iff.1 h1))
  obtain ⟨m, hm⟩ : ∃ m, (toL n).length = m + 1 := ⟨(toL n).length - 1, by omega⟩
  rw [hm] at h1 h2 ⊢
  simp only [Nat.add_sub_cancel] at h1 h2 ⊢
  rw [lim_toL]
  have h3 : n / 4294967296 ^ m < 4294967296 := by
    rw [Nat.div_lt_iff_lt_mul (Nat.pow_pos (by omega)), Nat.mul_comm, ← Nat.pow_succ]; exact h2
  have h4 : 0 < n / 4294967296 ^ m := Nat.div_pos h1 (Nat.pow_pos (by omega))
  rw [Nat.mod_eq_of_lt h3]
  generalize hq : n / 4294967296 ^ m = q at *
  have h5 : q * 4294967296 ^ m ≤ n := by rw [← hq]; exact Nat.div_mul_le_self _ _
  have h6 : n < (q + 1) * 4294967296 ^ m := by
    rw [← Nat.div_lt_iff_lt_mul (Nat.pow_pos (by omega)), hq]; omega
  have e : bl q ≠ 0 := fun h => by have := (bl_le (n := q) (m := 0)).1 (by omega); simp at this; omega
  have b1 := (bl_le (n := q) (m := bl q)).1 (Nat.le_refl _)
  have b2 := (lt_bl (n := q) (m := bl q - 1)).1 (by omega)
  rw [pow32] at h5 h6
  refine bl_eq ?_ (.inr ?_)
  · refine Nat.lt_of_lt_of_le h6 ?_
    rw [Nat.pow_add, Nat.mul_comm]
    exact Nat.mul_le_mul_left _ b1
  · refine Nat.le_trans ?_ h5
    rw [show 32 * m + bl q - 1 = 32 * m + (bl q - 1) by omega, Nat.pow_add, Nat.mul_comm]
    exact Nat.mul_le_mul_right _ b2
end Go.Proofs.Ytplkofflhacehaa.NC
