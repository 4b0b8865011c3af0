/- What the laws are fed with: made rows, lengths, the head. -/
import Derived.Test.YtplkofflhacehaaNFun3
import Derived.Test.YtplkofflhacehaaQ10
import Derived.Test.YtplkofflhacehaaQ12
namespace Go.Proofs.Ytplkofflhacehaa.NF
open Go.RowKit Go.Proofs.Ytplkofflhacehaa.Q Go.Proofs.Ytplkofflhacehaa.NC Go.Proofs.YtplkofflhacehaaW.PrintWords Go.Proofs.YtplkofflhacehaaW.PrintLast Go.Proofs.YtplkofflhacehaaW.PrintMore
set_option linter.unusedVariables false
set_option linter.unusedSimpArgs false

theorem limbs_wf {l : List Int} (h : ∀ x ∈ l, (Lit.int .u32 x).wf = true) : Limbs l := fun x hx => by
  have h1 := h x hx
  simp only [Lit.wf] at h1
  have h2 : IntKind.u32.min ≤ x ∧ x ≤ IntKind.u32.max := by simpa using h1
  have m1 : IntKind.u32.min = 0 := rfl
  have m2 : IntKind.u32.max = 4294967295 := rfl
  omega
theorem wf16 {x : Int} (h : (Lit.int .u16 x).wf = true) : ∃ n : Nat, x = (n : Int) ∧ n < 65536 := by
  simp only [Lit.wf] at h
  have h2 : IntKind.u16.min ≤ x ∧ x ≤ IntKind.u16.max := by simpa using h
  have m1 : IntKind.u16.min = 0 := rfl
  have m2 : IntKind.u16.max = 65535 := rfl
  exact ⟨x.toNat, by omega, by omega⟩
theorem wf8 {x : Int} (h : (Lit.int .u8 x).wf = true) : ∃ n : Nat, x = (n : Int) ∧ n < 256 := by
  simp only [Lit.wf] at h
  have h2 : IntKind.u8.min ≤ x ∧ x ≤ IntKind.u8.max := by simpa using h
  have m1 : IntKind.u8.min = 0 := rfl
  have m2 : IntKind.u8.max = 255 := rfl
  exact ⟨x.toNat, by omega, by omega⟩
theorem wf64 {x : Int} (h : (Lit.int .u64 x).wf = true) : ∃ n : Nat, x = (n : Int) ∧ n < 18446744073709551616 := by
  simp only [Lit.wf] at h
  have h2 : IntKind.u64.min ≤ x ∧ x ≤ IntKind.u64.max := by simpa using h
  have m1 : IntKind.u64.min = 0 := rfl
  have m2 : IntKind.u64.max = 18446744073709551615 := rfl
  exact ⟨x.toNat, by omega, by omega⟩

theorem rmake_l0 {x0 : List Int} (hl : Limbs x0) (hlen : x0.length < 35184372088832) : ∀ (n k : Nat), n < k → n ≤ x0.length → val (x0.take n) = val x0 → zigguratref01_Make.l0 k x0 (n : Int) = some (toL (val x0)) := by
  intro n
  induction n with
  | zero =>
    intro k hk hn hv
    obtain ⟨k, rfl⟩ : ∃ m, k = m + 1 := ⟨k - 1, by omega⟩
    have h0 : val x0 = 0 := by rw [← hv]; simp [val]
    simp only [zigguratref01_Make.l0]
    rw [if_neg (by omega), Option.bind_some, if_pos (by omega), if_pos (by omega), h0, toL_zero]
    simp
  | succ n ih =>
    intro k hk hn hv
    obtain ⟨k, rfl⟩ : ∃ m, k = m + 1 := ⟨k - 1, by omega⟩
    have e : wrap64 (((n + 1 : Nat) : Int) - 1) = (n : Int) := by unfold wrap64; omega
    simp only [zigguratref01_Make.l0]
    rw [if_pos (by omega), e, if_pos (by omega), if_pos (by omega), rd_nat hl]
    by_cases hz : lim x0 n = 0
    · rw [hz, if_pos (by rfl)]
      refine ih k (by omega) (by omega) ?_
      rw [← hv, val_take_succ hl, hz]
      simp
    · rw [if_neg (by omega), Option.bind_some, if_pos (by omega), if_pos (by omega)]
      have e2 : (((n + 1 : Nat) : Int)).toNat = n + 1 := by omega
      rw [e2]
      have hlt : ([] : List Int).length + (x0.take (n + 1)).length < 35184372088832 := by rw [List.length_take, List.length_nil]; omega
      rw [if_pos hlt, List.nil_append, ← hv, canon (limbs_take hl _)]
      intro hne
      rw [List.getLast_eq_getElem]
      have hl1 : (x0.take (n + 1)).length = n + 1 := by rw [List.length_take]; omega
      simp only [hl1, Nat.add_sub_cancel, List.getElem_take]
      intro h0
      apply hz
      have hnl : n < x0.length := by omega
      simp [lim, List.getD_eq_getElem?_getD, List.getElem?_eq_getElem hnl, h0]
theorem rmake_f {l : List Int} (hl : Limbs l) (hlen : l.length < 35184372088832) {k : Nat} (hk : l.length < k) : zigguratref01_Make.f k l = some (toL (val l)) :=
  rmake_l0 hl hlen l.length k hk (Nat.le_refl _) (by rw [List.take_length])
theorem made_f {l : List Int} (hl : Limbs l) {m k : Nat} (hm : m < 1099511627776) (hk : m < k) : zigguratref01_Made.f k l (m : Int) = some (toL (val (l.take m))) := by
  unfold zigguratref01_Made.f
  have e : mn (l.length : Int) (m : Int) = ((min m l.length : Nat) : Int) := by unfold mn; split <;> omega
  have e2 : l.take (min m l.length) = l.take m := by
    by_cases h : m ≤ l.length
    · rw [Nat.min_eq_left h]
    · rw [Nat.min_eq_right (by omega), List.take_of_length_le (by omega), List.take_of_length_le (by omega)]
  rw [e, if_pos (by omega), if_pos (by omega), Int.toNat_natCast, e2, rmake_f (limbs_take hl _) (by rw [List.length_take]; omega) (by rw [List.length_take]; omega), Option.bind_some]
theorem made_len {l : List Int} (hl : Limbs l) (m : Nat) : (toL (val (l.take m))).length ≤ m := toL_length_le.2 (val_take_lt hl m)

theorem len_add {a b m : Nat} (ha : (toL a).length ≤ m) (hb : (toL b).length ≤ m) : (toL (a + b)).length ≤ m + 1 := by
  rw [toL_length_le] at *
  rw [Nat.pow_succ]
  omega
theorem len_mono {a b m : Nat} (h : a ≤ b) (hb : (toL b).length ≤ m) : (toL a).length ≤ m := by
  rw [toL_length_le] at *
  omega
theorem len_shl {a m s q : Nat} (ha : (toL a).length ≤ m) (hs : s ≤ 32 * q) : (toL (a * 2 ^ s)).length ≤ m + q := by
  rw [toL_length_le] at *
  rw [Nat.pow_add, pow32 q]
  exact Nat.mul_lt_mul_of_lt_of_le ha (Nat.pow_le_pow_right (by omega) hs) (Nat.pow_pos (by omega))
theorem head_60 : zigguratlaw01_head.f 60 = some true := by kernel_rfl
theorem head_k {k : Nat} (h : 60 ≤ k) : zigguratlaw01_head.f k = some true := by
  obtain ⟨d, rfl⟩ : ∃ d, k = 60 + d := ⟨k - 60, by omega⟩
  induction d with
  | zero => exact head_60
  | succ d ih => exact zigguratlaw01_head.mono (60 + d) _ (ih (by omega))
theorem add_nil {a k : Nat} (ha : (toL a).length < 1099511627776) (hk : (toL a).length + 1 < k) : nat_Add.f k (toL a) [] = some (toL a) := by
  have h := add_f (a := a) (b := 0) (k := k) ha (by rw [toL_zero]; decide) (by rw [toL_zero, List.length_nil]; omega)
  rw [toL_zero] at h
  exact h
end Go.Proofs.Ytplkofflhacehaa.NF
