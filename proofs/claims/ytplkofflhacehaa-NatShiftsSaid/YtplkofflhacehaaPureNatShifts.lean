import Derived.Test.YtplkofflhacehaaNFun4
import Derived.Test.YtplkofflhacehaaQS
namespace Go.Proofs.Ytplkofflhacehaa.Pure
open Go.RowKit Go.Proofs.Ytplkofflhacehaa.Q Go.Proofs.YtplkofflhacehaaW.PrintWords Go.Proofs.YtplkofflhacehaaW.PrintLast Go.Proofs.YtplkofflhacehaaW.PrintMore
open Go.Proofs.Ytplkofflhacehaa.NC Go.Proofs.Ytplkofflhacehaa.NF
set_option linter.unusedVariables false
set_option linter.unusedSimpArgs false
theorem NatShifts (l0 : List Int) (b0 b1 : Int) (h0 : ∀ x ∈ l0, (Lit.int .u32 x).wf = true) (h1 : (Lit.int .u16 b0).wf = true) (h2 : (Lit.int .u16 b1).wf = true) : ∃ k, zigguratlaw01_NatShifts.f k l0 [b0, b1] = some true := by
  obtain ⟨n, rfl, hn⟩ := wf16 h1
  obtain ⟨m, rfl, hm⟩ := wf16 h2
  refine ⟨5000, ?_⟩
  unfold zigguratlaw01_NatShifts.f
  have la := made_len (limbs_wf h0) 40
  have m0 := made_f (limbs_wf h0) (m := 40) (k := 5000) (by omega) (by omega)
  rw [show ((40 : Nat) : Int) = 40 from rfl] at m0
  have r0 : rd [(n : Int), (m : Int)] 0 = (n : Int) := rfl
  have r1 : rd [(n : Int), (m : Int)] 1 = (m : Int) := rfl
  have w1 : wrap64 (n : Int) = (n : Int) := w64 (by omega) (by omega)
  have w2 : wrap64 (m : Int) = (m : Int) := w64 (by omega) (by omega)
  have e1 : Int.tmod (n : Int) 501 = ((n % 501 : Nat) : Int) := by rw [Int.tmod_eq_emod_of_nonneg (by omega)]; omega
  have e2 : Int.tmod (m : Int) 501 = ((m % 501 : Nat) : Int) := by rw [Int.tmod_eq_emod_of_nonneg (by omega)]; omega
  have hs : n % 501 < 501 := Nat.mod_lt _ (by omega)
  have hu : m % 501 < 501 := Nat.mod_lt _ (by omega)
  rw [head_k (by omega), Option.bind_some, m0, Option.bind_some, r0, r1, w1, w2, e1, e2]
  clear e1 e2 w1 w2 m0 r0 r1
  generalize n % 501 = s at hs
  generalize m % 501 = u at hu
  generalize val (l0.take 40) = a at la
  have e3 : wrap64 ((s : Int) + (u : Int)) = ((s + u : Nat) : Int) := by rw [w64 (by omega) (by omega)]; omega
  have s1 : s < 2147483648 := by omega
  have s2 : u < 2147483648 := by omega
  have s3 : s + u < 2147483648 := by omega
  have lsh := len_shl (s := s) (q := 16) la (by omega)
  have lsu := len_shl (s := u) (q := 16) lsh (by omega)
  have lq : (toL (a / 2 ^ s)).length ≤ 40 := len_mono (Nat.div_le_self _ _) la
  have lq2 : (toL (a / 2 ^ s / 2 ^ u)).length ≤ 40 := len_mono (Nat.div_le_self _ _) lq
  have sh1 := shl_f (n := a) (s := 1) (k := 5000) (by omega) (by omega) (by omega)
  have sh0 := shl_f (n := a) (s := 0) (k := 5000) (by omega) (by omega) (by omega)
  have sr0 := shr_f (n := a) (s := 0) (k := 5000) (by omega) (by omega) (by omega)
  have e4 : a * 2 ^ 1 = a + a := by omega
  rw [show ((1 : Nat) : Int) = 1 from rfl, e4] at sh1
  rw [show ((0 : Nat) : Int) = 0 from rfl, Nat.pow_zero, Nat.mul_one] at sh0
  rw [show ((0 : Nat) : Int) = 0 from rfl, Nat.pow_zero, Nat.div_one] at sr0
  clear e4
  have laa := len_add la la
  have A1 : (toL a).length < 1099511627776 := by omega
  have L : ∀ n : Nat, (toL n).length ≤ 40 + 16 + 16 → (toL n).length < 1099511627776 ∧ (toL n).length < 4611686018427387904 ∧ (toL n).length < 5000 ∧ 2 * (toL n).length + 1 < 5000 ∧ (toL n).length ≤ 65536 := fun n h => by omega
  have L2 : ∀ v n : Nat, v ≤ 1000 → (toL n).length ≤ 40 + 16 + 16 → v / 32 + 2 * (toL n).length + 2 < 5000 := fun v n h1 h2 => by omega
  have la' : (toL a).length ≤ 40 + 16 + 16 := by omega
  have lsh' : (toL (a * 2 ^ s)).length ≤ 40 + 16 + 16 := by omega
  have lq' : (toL (a / 2 ^ s)).length ≤ 40 + 16 + 16 := by omega
  have lq2' : (toL (a / 2 ^ s / 2 ^ u)).length ≤ 40 + 16 + 16 := by omega
  have laa' : (toL (a + a)).length ≤ 40 + 16 + 16 := by omega
  have hk2 : max (toL a).length (toL a).length + 1 < 5000 := by omega
  have v1 : s ≤ 1000 := by omega
  have v2 : u ≤ 1000 := by omega
  have v3 : s + u ≤ 1000 := by omega
  have hp : 0 < 2 ^ s := Nat.pow_pos (by decide)
  rw [if_pos (by simp), if_pos (by simp), shl_f A1 s1 (L2 _ _ v1 la'), Option.bind_some, shr_f (L _ lsh').1 s1 (L _ lsh').2.2.2.1, Option.bind_some, Nat.mul_div_cancel _ hp, same_toL (L _ la').2.1 (L _ la').2.2.1, Option.bind_some, if_pos (decide_eq_true rfl),
    shl_f (L _ lsh').1 s2 (L2 _ _ v2 lsh'), Option.bind_some, e3, shl_f A1 s3 (L2 _ _ v3 la'), Option.bind_some, same_toL (L _ lsu).2.1 (L _ lsu).2.2.1, Option.bind_some, if_pos (decide_eq_true (by rw [Nat.pow_add, Nat.mul_assoc])),
    shr_f A1 s1 (L _ la').2.2.2.1, Option.bind_some, shr_f (L _ lq').1 s2 (L _ lq').2.2.2.1, Option.bind_some, shr_f A1 s3 (L _ la').2.2.2.1, Option.bind_some, same_toL (L _ lq2').2.1 (L _ lq2').2.2.1, Option.bind_some, if_pos (decide_eq_true (by rw [Nat.pow_add, Nat.div_div_eq_div_mul])),
    sh1, Option.bind_some, add_f A1 A1 hk2, Option.bind_some, same_toL (L _ laa').2.1 (L _ laa').2.2.1, Option.bind_some, if_pos (decide_eq_true rfl),
    sh0, Option.bind_some, same_toL (L _ la').2.1 (L _ la').2.2.1, Option.bind_some, if_pos (decide_eq_true rfl), sr0, Option.bind_some, same_toL (L _ la').2.1 (L _ la').2.2.1, Option.bind_some, if_pos (decide_eq_true rfl),
    right_f (L _ lsh').2.2.2.2, Option.bind_some, if_pos rfl]
end Go.Proofs.Ytplkofflhacehaa.Pure
