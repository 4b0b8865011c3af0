import Derived.Test.YtplkofflhacehaaNRef3
import Derived.Test.YtplkofflhacehaaQT
namespace Go.Proofs.Ytplkofflhacehaa.Pure
open Go.RowKit Go.Proofs.Ytplkofflhacehaa.Q Go.Proofs.YtplkofflhacehaaW.PrintWords Go.Proofs.YtplkofflhacehaaW.PrintLast Go.Proofs.YtplkofflhacehaaW.PrintMore
open Go.Proofs.Ytplkofflhacehaa.NC Go.Proofs.Ytplkofflhacehaa.NF
set_option linter.unusedVariables false
set_option linter.unusedSimpArgs false
theorem tmodN (n c : Nat) : Int.tmod (n : Int) (c : Int) = ((n % c : Nat) : Int) := by rw [Int.tmod_eq_emod_of_nonneg (Int.natCast_nonneg _), Int.natCast_emod]
theorem right_some {x : List Int} (h : x.length ≤ 60) : ∃ b, nat_Right.f x = some b := by
  unfold nat_Right.f
  by_cases h0 : x.length = 0
  · exact ⟨true, by rw [if_pos (by omega)]⟩
  · have e : wrap64 ((x.length : Int) - 1) = (x.length : Int) - 1 := w64 (by omega) (by omega)
    exact ⟨_, by rw [if_neg (by omega), if_pos (by omega), e, if_pos (by omega), if_pos (by omega)]⟩
theorem mn60 (l : List Int) : ∃ m : Nat, mn (l.length : Int) 60 = (m : Int) ∧ m ≤ l.length ∧ m ≤ 60 := by
  unfold mn
  by_cases h : (60 : Int) < (l.length : Int)
  · exact ⟨60, by rw [if_pos h]; rfl, by omega, by omega⟩
  · exact ⟨l.length, by rw [if_neg h], by omega, by omega⟩
theorem sub_pair (a b : Nat) : (if a < b then (([] : List Int), false) else (toL (a - b), true)) = (toL (a - b), decide (b ≤ a)) := by
  by_cases h : a < b
  · rw [if_pos h, show a - b = 0 by omega, toL_zero, decide_eq_false (by omega)]
  · rw [if_neg h, decide_eq_true (by omega)]
theorem NatTells (l0 l1 : List Int) (b0 b1 : Int) (h0 : ∀ x ∈ l0, (Lit.int .u32 x).wf = true) (h1 : ∀ x ∈ l1, (Lit.int .u32 x).wf = true) (w0 : (Lit.int .u16 b0).wf = true) (w1 : (Lit.int .u16 b1).wf = true) : ∃ k, zigguratlaw01_NatTells.f k l0 l1 [b0, b1] = some true := by
  obtain ⟨n, rfl, hn⟩ := wf16 w0
  obtain ⟨m, rfl, hm⟩ := wf16 w1
  refine ⟨10000, ?_⟩
  unfold zigguratlaw01_NatTells.f
  obtain ⟨q0, e0, hq0, hq60⟩ := mn60 l0
  obtain ⟨q1, e1, hq1, hq61⟩ := mn60 l1
  have hx0 : Limbs (l0.take q0) := limbs_take (limbs_wf h0) _
  have hx1 : Limbs (l1.take q1) := limbs_take (limbs_wf h1) _
  have hl0 : (l0.take q0).length ≤ 60 := by rw [List.length_take]; omega
  have hl1 : (l1.take q1).length ≤ 60 := by rw [List.length_take]; omega
  have la : (toL (val (l0.take q0))).length ≤ 60 := toL_length_le.2 (Nat.lt_of_lt_of_le (val_take_lt (limbs_wf h0) q0) (Nat.pow_le_pow_right (by omega) hq60))
  have lb : (toL (val (l1.take q1))).length ≤ 60 := toL_length_le.2 (Nat.lt_of_lt_of_le (val_take_lt (limbs_wf h1) q1) (Nat.pow_le_pow_right (by omega) hq61))
  have r0 : rd [(n : Int), (m : Int)] 0 = (n : Int) := rfl
  have r1 : rd [(n : Int), (m : Int)] 1 = (m : Int) := rfl
  have w1 : wrap64 (n : Int) = (n : Int) := w64 (by omega) (by omega)
  have w2 : wrap64 (m : Int) = (m : Int) := w64 (by omega) (by omega)
  have f1 : ∀ _ : Unit, Int.tmod (n : Int) 2001 = ((n % 2001 : Nat) : Int) := fun _ => tmodN n 2001
  have f2 : ∀ _ : Unit, Int.tmod (m : Int) 2100 = ((m % 2100 : Nat) : Int) := fun _ => tmodN m 2100
  have hs : n % 2001 < 2001 := Nat.mod_lt _ (by omega)
  have hu : m % 2100 < 2100 := Nat.mod_lt _ (by omega)
  rw [head_k (by omega), Option.bind_some, e0, e1, if_pos (by omega), if_pos (by omega), if_pos (by omega), if_pos (by omega), Int.toNat_natCast, Int.toNat_natCast, r0, r1, w1, w2, f1 (), f2 ()]
  clear r0 r1 w1 w2 f1 f2 e0 e1
  generalize n % 2001 = s at hs
  generalize m % 2100 = u at hu
  have hlen2 : ([(n : Int), (m : Int)] : List Int).length = 2 := rfl
  rw [hlen2]
  clear hlen2
  generalize l0.take q0 = x at *
  generalize l1.take q1 = y at *
  obtain ⟨b, hb⟩ := right_some hl0
  have mk1 := make_f hx0 (k := 10000) (by omega) (by omega)
  have mk2 := rmake_f hx0 (k := 10000) (by omega) (by omega)
  have mk3 := rmake_f hx1 (k := 10000) (by omega) (by omega)
  rw [rright_f, hb, Option.bind_some, Option.bind_some, if_neg (by simp), mk1, Option.bind_some, mk2, Option.bind_some, mk3]
  clear mk1 mk2 mk3 hb
  generalize val x = a at la
  generalize val y = c at lb
  have l1' : (toL a).length < 1099511627776 := by omega
  have l1c : (toL c).length < 1099511627776 := by omega
  have l2' : (toL a).length < 4611686018427387904 := by omega
  have l2c : (toL c).length < 4611686018427387904 := by omega
  have l3' : (toL a).length < 10000 := by omega
  have l4' : max (toL a).length (toL c).length + 1 < 10000 := by omega
  have l5' : s / 32 + 2 * (toL a).length + 2 < 10000 := by omega
  have l6' : 2 * (toL a).length + 1 < 10000 := by omega
  have lsum := len_add la lb
  have lsub := len_mono (Nat.sub_le a c) la
  have lsh := len_shl (s := s) (q := 63) la (by omega)
  have lq : (toL (a / 2 ^ s)).length ≤ 60 := len_mono (Nat.div_le_self _ _) la
  have L : ∀ n : Nat, (toL n).length ≤ 60 + 63 → (toL n).length < 4611686018427387904 ∧ (toL n).length < 10000 := fun n h => by omega
  have k1 : 3 * 60 + 100 < 10000 := by omega
  have k2 : 3 * s + 3 * 60 + 100 < 10000 := by omega
  have k3 : s < 100000 := by omega
  have k4 : s < 2147483648 := by omega
  have rs : zigguratref01_Same.f 10000 (toL a) (toL a) = some true := by rw [same_toL l2' l3', decide_eq_true rfl]
  have rs2 : zigguratref01_Same.f 10000 (toL (a - c)) (toL (a - c)) = some true := by rw [same_toL (L _ (by omega)).1 (L _ (by omega)).2, decide_eq_true rfl]
  have rs3 : zigguratref01_Same.f 10000 (toL (a + c)) (toL (a + c)) = some true := by rw [same_toL (L _ (by omega)).1 (L _ (by omega)).2, decide_eq_true rfl]
  have rs4 : zigguratref01_Same.f 10000 (toL (a * 2 ^ s)) (toL (a * 2 ^ s)) = some true := by rw [same_toL (L _ lsh).1 (L _ lsh).2, decide_eq_true rfl]
  have rs5 : zigguratref01_Same.f 10000 (toL (a / 2 ^ s)) (toL (a / 2 ^ s)) = some true := by rw [same_toL (L _ (Nat.le_trans lq (by decide))).1 (L _ (Nat.le_trans lq (by decide))).2, decide_eq_true rfl]
  have bits : ∃ v : Int, nat_Bit.f (toL a) (wrap64 ((u : Int) - 50)) = some v ∧ zigguratref01_Bit.f 10000 (toL a) (wrap64 ((u : Int) - 50)) = some v := by
    rw [w64 (by omega) (by omega)]
    by_cases h : u < 50
    · exact ⟨0, bit_neg (by omega), rbit_neg (by omega) (by omega)⟩
    · rw [show (u : Int) - 50 = ((u - 50 : Nat) : Int) by omega]
      exact ⟨_, bit_f (by omega), rbit_f (by omega) (by omega)⟩
  obtain ⟨v, hv1, hv2⟩ := bits
  have rcmp := rcmp_f (k := 10000) la lb (by omega) (by omega)
  have rsub := rsub_f (k := 10000) la lb (by omega) (by omega)
  have rlow := rlow_f (n := a) (k := 10000) (by omega) l2'
  have radd := radd_f (k := 10000) la lb (by omega) (by omega)
  have rbits := rbits_f (n := a) (k := 10000) l1' (by omega)
  have rshl := rshl_f (s := s) la (by omega) k3 k2
  have rshr := rshr_f (s := s) la (by omega) k3 k1
  rw [sub_pair] at rsub
  rw [rs, Option.bind_some, if_pos rfl, Option.bind_some, Option.bind_some, if_pos (by decide), if_pos (by decide), sub_f l1' l1c l3', sub_pair, Option.bind_some, rsub, Option.bind_some, low_f (by decide), Option.bind_some, rlow, Option.bind_some]
  generalize (if a < 18446744073709551616 then ((a : Int), true) else (0, false)) = P
  dsimp only
  rw [rs2, Option.bind_some, if_pos rfl, if_pos (beq_self_eq_true _), if_pos rfl, if_pos (beq_self_eq_true _), add_f l1' l1c l4', Option.bind_some, radd, Option.bind_some, rs3, Option.bind_some, if_pos rfl,
    cmp_f l2' l2c l3', Option.bind_some, rcmp, Option.bind_some, if_pos rfl, bits_f l1', Option.bind_some, rbits, Option.bind_some, if_pos rfl, hv1, Option.bind_some, hv2, Option.bind_some, if_pos rfl,
    shl_f l1' k4 l5', Option.bind_some, rshl, Option.bind_some, rs4, Option.bind_some, if_pos rfl, shr_f l1' k4 l6', Option.bind_some, rshr, Option.bind_some, rs5, Option.bind_some, if_pos rfl]
end Go.Proofs.Ytplkofflhacehaa.Pure
