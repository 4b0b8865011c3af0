/-
  ModpReduce: what is made of polynomials with whole coefficients, and then taken modulo a prime, is made alike of what they are modulo it (the row, the walk and the plain words), part 3 of 13 (packed by pack.py from texts of this session).
-/
import Derived.Test.YtjbcnppbcomaiaaGreatDoorPR1
import Derived.Test.YtjbcnppbcomaiaaGreatDoorPR2
set_option maxRecDepth 100000
set_option maxHeartbeats 8000000
set_option linter.unusedVariables false
namespace Go.Proofs.YtjbcnppbcomaiaaGreatDoor.Q
open Go.RowKit Go.Proofs.YtjbcnppbcomaiaaGreatDoorW.PrintWords Go.Proofs.YtjbcnppbcomaiaaGreatDoorW.PrintLast Go.Proofs.YtjbcnppbcomaiaaGreatDoorW.PrintMore
attribute [local go_sem] max2_int min2_int max_two min_two max_three min_three max_four min_four   -- for this text's walks alone
set_option linter.unusedVariables false
set_option linter.unusedSimpArgs false
theorem modp_kernel.calls (k : Nat) (A0 : Option Addr) (c0 : Nat) (l0 : List Int) (a1 : Int) (r : List (List Int)) (w : World) (hr0 : Kd.C (Kd.int .u32) w A0 l0.length l0) (hc0 : l0.length ≤ c0) (h : modp_kernel.f k l0 a1 = some r) :
  Calls Tryz.prog 132 #[.slice A0 l0.length c0, .int .u32 a1] w fun e w' => ∃ v0_ : Value, e = .returned (v0_) ∧ Kd.N (Kd.slice 23 (Kd.int .u32)) 27 w' w.heap.size (fun k_ => (w.heap.size ≤ k_)) v0_ r ∧ Below w.heap.size w w' := by
 have HR0 := am hr0
 have HC0 := am hc0
 clear hr0 hc0
 have HB := am (Below.refl w.heap.size w)
 have H := h; unfold modp_kernel.f at H
 clear h
 obtain ⟨ji3, hji3⟩ : ∃ j_ : Int, (wrap64 ((l0.length : Int) - 1)) = j_ := ⟨_, rfl⟩
 replace H : (if 0 ≤ (ji3) then (if (ji3 : Int).toNat ≤ 11728124029610 then ((some (List.replicate (ji3 : Int).toNat [] : List (List Int))).bind fun y168 => ((modp_up.f k (([0, 1] : List Int)) a1 l0 a1).bind fun t174 => (modp_kernel.l0 k l0 a1 ji3 (IntKind.u64.wrap (a1)) y168 t174 (([1] : List Int)) (y168.length : Int) 0))) else (none)) else (none)) = some r := by first | (rw [hji3] at H; exact H) | (simp only [hji3] at H ⊢; exact H)
 have hji3w : (IntKind.i64.wrap ((l0.length : Int) - 1)) = ji3 := (i64_w _).trans hji3
 by_cases c4 : 0 ≤ (ji3)
 case neg => exact nn c4 H
 rw [if_pos c4] at H
 have c4b0 := eq_true c4
 have c4b1 : decide (0 ≤ (ji3)) = true := decide_eq_true c4
 clear c4
 by_cases c5 : (ji3 : Int).toNat ≤ 11728124029610
 case neg => exact nn c5 H
 rw [if_pos c5] at H
 have c5b0 := eq_true c5
 have c5b1 : decide ((ji3 : Int).toNat ≤ 11728124029610) = true := decide_eq_true c5
 clear c5
 obtain ⟨y168, hy168⟩ : ∃ y_ : List (List Int), y_ = (List.replicate (ji3 : Int).toNat []) := ⟨_, rfl⟩
 replace H : ((modp_up.f k (([0, 1] : List Int)) a1 l0 a1).bind fun t174 => (modp_kernel.l0 k l0 a1 ji3 (IntKind.u64.wrap (a1)) y168 t174 (([1] : List Int)) (y168.length : Int) 0)) = some r := by first | (rw [hy168]; exact H) | exact H
 have Ny168 := am hy168
 clear hy168
 obtain ⟨y171, hy171⟩ : ∃ y_ : List Int, y_ = (([0, 1] : List Int)) := ⟨_, rfl⟩
 replace H : ((modp_up.f k y171 a1 l0 a1).bind fun t174 => (modp_kernel.l0 k l0 a1 ji3 (IntKind.u64.wrap (a1)) y168 t174 (([1] : List Int)) (y168.length : Int) 0)) = some r := by first | (rw [hy171]; exact H) | exact H
 have Ny171 := am hy171
 clear hy171
 obtain ⟨t174, A60, H⟩ := Option.bind_eq_some_iff.mp H
 try dsimp only at H
 have A6 := am A60
 clear A60
 obtain ⟨y177, hy177⟩ : ∃ y_ : List Int, y_ = (([1] : List Int)) := ⟨_, rfl⟩
 replace H : (modp_kernel.l0 k l0 a1 ji3 (IntKind.u64.wrap (a1)) y168 t174 y177 (y168.length : Int) 0) = some r := by first | (rw [hy177]; exact H) | exact H
 have Ny177 := am hy177
 clear hy177
 have H' := am H
 clear H
 go_enter Tryz.func132, Tryz.ntmps132
 go_wp2_with (first | ((with_reducible refine gate_dst (N := 33) rfl ?_); refine Kd.S_make (Kd.slice 55 (Kd.int .u64)) _ 62 rfl (N := 33) rfl 155 _ _ rfl ji3 rfl rfl Tryz.underlying155 (.slice none 0 0) 24 info62 rfl (by decide) (by omega) [] (ok := fun _ => True) (okp := fun _ => True) ⟨_, rfl, Kd.R_nil _ _ _ _ _⟩ (fun _ hk => hk) trivial (of_decide_eq_true as_) (Nat.le_trans (Nat.mul_le_mul_right _ (of_decide_eq_true as_ : ji3.toNat ≤ 11728124029610)) (by omega)) (Below.refl _ _) (Nat.le_refl _) ?_; intro v169 w7 ho8 hb hg_ hnew_; clear hg_ hnew_; (first | rw [← Ny168.out] at ho8 | (simp only [Int.reduceToNat] at ho8; rw [← Ny168.out] at ho8)); have n0_ := am (Kd.S_lower ho8 (below_size bB)); have n1_ := am (below_step bB hb); clear HB; have HO170 := n0_; have HB := n1_; clear n0_ n1_; clear hb ho8) | ((with_reducible refine gate_dst (N := 34) rfl ?_); refine Kd.R_lit (Kd.int .u32) _ 23 rF (N := 34) rF (xs := ([0, 1] : List Int)) (inner := [.int .u32 0, .int .u32 1]) (ok := fun _ => True) (okp := fun _ => True) gF ?hp (fun _ hk => hk) trivial (Below.refl _ _) (Nat.le_refl _) (by simp) ?_; (case hp => exact (Reps.one (show Kd.M (Kd.int .u32) _ _ _ 0 [.int .u32 0] from rfl) (Reps.one (show Kd.M (Kd.int .u32) _ _ _ 1 [.int .u32 1] from rfl) (Reps.none _ _)))); intro v172 w9 ho10 hb hg_ hnew_; clear hg_ hnew_; (first | rw [← Ny171.out] at ho10 | (simp only [Int.reduceToNat] at ho10; rw [← Ny171.out] at ho10)); replace ho10 := CV_of (Kd.R_V (base' := w.heap.size) ho10); have n0_ := am (Kd.S_below (rS (HO170.out)) hb); have n1_ := am (ho10); have n2_ := am (below_step bB hb); clear HO170; clear HB; have HO170 := n0_; have HO173 := n1_; have HB := n2_; clear n0_ n1_ n2_; clear hb ho10; obtain ⟨Ao11, co11, eo11⟩ := CV_slice HO173.out; subst eo11) | ((with_reducible refine gate_callee (f := 134) rfl ?_); refine goesA (some 38) Tryz.func134 #[.slice Ao11 y171.length co11, .int .u32 a1, .slice A0 l0.length c0, .int .u32 a1] ?_; (with_reducible refine (modp_up.calls k _ _ y171 a1 _ _ l0 a1 t174 _ ?side1 ?side2 ?side3 ?side4 A6.out).mono ?_); (case side1 => exact kC2 ((CV_reads' HO173.out).2.2)); (case side2 => exact (CV_reads' HO173.out).2.1); (case side3 => exact kC2 ((Kd.C_below HR0.out HB.out))); (case side4 => exact HC0.out); rintro e w12 ⟨v175, rfl, ho0, hb⟩; refine ⟨_, rfl, ?_⟩; have n0_ := am (Kd.S_below (rS (HO170.out)) hb); have n1_ := am ((CV_below (rC HO173.out) hb)); have n2_ := am ((ho0)); have n3_ := am (below_step bB hb); clear HO170; clear HO173; clear HB; have HO170 := n0_; have HO173 := n1_; have HO176 := n2_; have HB := n3_; clear n0_ n1_ n2_ n3_; (try clear hb); (try clear hb2); (try clear hk); (try clear hi); (try clear ho0)) | ((with_reducible refine gate_dst (N := 39) rfl ?_); refine Kd.R_lit (Kd.int .u32) _ 23 rF (N := 39) rF (xs := ([1] : List Int)) (inner := [.int .u32 1]) (ok := fun _ => True) (okp := fun _ => True) gF ?hp (fun _ hk => hk) trivial (Below.refl _ _) (Nat.le_refl _) (by simp) ?_; (case hp => exact (Reps.one (show Kd.M (Kd.int .u32) _ _ _ 1 [.int .u32 1] from rfl) (Reps.none _ _))); intro v178 w13 ho14 hb hg_ hnew_; clear hg_ hnew_; (first | rw [← Ny177.out] at ho14 | (simp only [Int.reduceToNat] at ho14; rw [← Ny177.out] at ho14)); replace ho14 := CV_of (Kd.R_V (base' := w.heap.size) ho14); have n0_ := am (Kd.S_below (rS (HO170.out)) hb); have n1_ := am ((CV_below (rC HO173.out) hb)); have n2_ := am ((CV_below (rC HO176.out) hb)); have n3_ := am (((ho14))); have n4_ := am (below_step bB hb); clear HO170; clear HO173; clear HO176; clear HB; have HO170 := n0_; have HO173 := n1_; have HO176 := n2_; have HO179 := n3_; have HB := n4_; clear n0_ n1_ n2_ n3_ n4_; clear hb ho14; obtain ⟨Ao15, co15, eo15⟩ := Kd.S_slice HO170.out; subst eo15))
 go_loopg [9, 42] k (fun kq v9 v42 w' => ∃ (x7_1 : List (List Int)) (x9_1 : List Int) (x42_1 : Int), v42 = .int .i64 x42_1 ∧ Aside0 (modp_kernel.l0 kq l0 a1 ji3 (IntKind.u64.wrap (a1)) x7_1 t174 x9_1 (y168.length : Int) x42_1 = some r) ∧ Aside0 (kq ≤ k) ∧ Aside0 (Kd.S (Kd.slice 55 (Kd.int .u64)) 62 w' w.heap.size (fun _ => True) (.slice Ao15 y168.length co15) x7_1) ∧ Aside0 (CV w' v175 t174) ∧ Aside0 (CV w' v9 x9_1) ∧ Aside0 (Below w.heap.size w w'))
 case atStart => exact ⟨(y168), (y177), (0), eqS, H', ⟨Nat.le_refl _⟩, ⟨rS (HO170.out)⟩, ⟨(rC HO176.out)⟩, ⟨(rC HO179.out)⟩, ⟨bB⟩⟩
 case round => as_aux_lemma =>
  clear H'
  clear c4b0 c4b1 c5b0 c5b1
  obtain ⟨x7_1, x9_1, x42_1, rfl, HA, HK1, HO_7, HO_8, HO_9, HB⟩ := hrel
  have hl7_1 := (Kd.S_reads' HO_7.out).1
  rw [hl7_1] at HO_7
  (try simp only [hl7_1])
  (try simp only [hl7_1] at HO_8)
  (try simp only [hl7_1] at HO_9)
  rcases gk with _ | k1
  · exact absurd HA.out (by simp [modp_kernel.l0])
  have H := HA.out
  clear HA
  simp only [modp_kernel.l0] at H
  by_cases c16 : x42_1 < (y168.length : Int)
  ·
   rw [if_pos c16] at H
   have c16b0 : decide (x42_1 < (y168.length : Int)) = true := decide_eq_true c16
   clear c16
   obtain ⟨ji17, hji17⟩ : ∃ j_ : Int, (wrap64 (2 * ji3)) = j_ := ⟨_, rfl⟩
   replace H : (if 0 ≤ (ji17) then (if (ji17 : Int).toNat ≤ 35184372088832 then (if 0 ≤ x42_1 then (if x42_1 < (x7_1.length : Int) then (modp_kernel.l1 k1 l0 a1 ji3 (IntKind.u64.wrap (a1)) (x7_1.set (x42_1 : Int).toNat (List.replicate (ji17 : Int).toNat 0)) t174 x9_1 x42_1 (y168.length : Int) x42_1 x9_1 (x9_1.length : Int) 0) else (none)) else (none)) else (none)) else (none)) = some r := by first | (rw [hji17] at H; exact H) | (simp only [hji17] at H ⊢; exact H)
   have hji17w : (IntKind.i64.wrap (2 * ji3)) = ji17 := (i64_w _).trans hji17
   by_cases c18 : 0 ≤ (ji17)
   case neg => exact nn c18 H
   rw [if_pos c18] at H
   have c18b0 := eq_true c18
   have c18b1 : decide (0 ≤ (ji17)) = true := decide_eq_true c18
   clear c18
   by_cases c19 : (ji17 : Int).toNat ≤ 35184372088832
   case neg => exact nn c19 H
   rw [if_pos c19] at H
   have c19b0 := eq_true c19
   have c19b1 : decide ((ji17 : Int).toNat ≤ 35184372088832) = true := decide_eq_true c19
   clear c19
   obtain ⟨y180, hy180⟩ : ∃ y_ : List Int, y_ = (List.replicate (ji17 : Int).toNat 0) := ⟨_, rfl⟩
   replace H : (if 0 ≤ x42_1 then (if x42_1 < (x7_1.length : Int) then (modp_kernel.l1 k1 l0 a1 ji3 (IntKind.u64.wrap (a1)) (x7_1.set (x42_1 : Int).toNat y180) t174 x9_1 x42_1 (y168.length : Int) x42_1 x9_1 (x9_1.length : Int) 0) else (none)) else (none)) = some r := by first | (rw [hy180]; exact H) | exact H
   have Ny180 := am hy180
   clear hy180
   by_cases c20 : 0 ≤ x42_1
   case neg => exact nn c20 H
   rw [if_pos c20] at H
   have c20b0 : decide (0 ≤ x42_1) = true := decide_eq_true c20
   clear c20
   by_cases c21 : x42_1 < (x7_1.length : Int)
   case neg => exact nn c21 H
   rw [if_pos c21] at H
   have c21b0 : decide (x42_1 < (x7_1.length : Int)) = true := decide_eq_true c21
   clear c21
   obtain ⟨y183, hy183⟩ : ∃ y_ : List (List Int), y_ = (x7_1.set (x42_1 : Int).toNat y180) := ⟨_, rfl⟩
   replace H : (modp_kernel.l1 k1 l0 a1 ji3 (IntKind.u64.wrap (a1)) y183 t174 x9_1 x42_1 (y168.length : Int) x42_1 x9_1 (x9_1.length : Int) 0) = some r := by first | (rw [hy183]; exact H) | exact H
   have Ny183 := am hy183
   clear hy183
   have H' := am H
   clear H
   go_wp2_with (first | ((with_reducible refine gate_dst (N := 49) rfl ?_); refine Kd.R_make (Kd.int .u64) _ 55 rfl (N := 49) rfl 62 _ _ rfl ji17 rfl rfl Tryz.underlying62 (.int .u64 0) 8 info55 rfl (by decide) (by omega) 0 (ok := fun _ => True) (okp := fun _ => True) rfl (fun _ hk => hk) trivial (of_decide_eq_true as_) (Nat.le_trans (Nat.mul_le_mul_right _ (of_decide_eq_true as_ : ji17.toNat ≤ 35184372088832)) (by omega)) (Below.refl _ _) (Nat.le_refl _) ?_; intro v181 w23 ho24 hb hg_ hnew_; clear hg_ hnew_; (first | rw [← Ny180.out] at ho24 | (simp only [Int.reduceToNat] at ho24; rw [← Ny180.out] at ho24)); have n0_ := am (Kd.S_elder' (rS (HO_7.out)) (Kd.R_base ho24) hb); have n1_ := am ((CV_below (rC HO_8.out) hb)); have n2_ := am ((CV_below (rC HO_9.out) hb)); have n3_ := am (Kd.R_lower ho24 (below_size bB)); have n4_ := am (below_step bB hb); clear HO_7; clear HO_8; clear HO_9; clear HB; have HO_7 := n0_; have HO_8 := n1_; have HO_9 := n2_; have HO182 := n3_; have HB := n4_; clear n0_ n1_ n2_ n3_ n4_; clear hb ho24; have p22 : 0 ≤ (x42_1 : Int) := of_decide_eq_true as_; have q22 : (x42_1 : Int) < ((x7_1.length : Int) : Int) := of_decide_eq_true as_; obtain ⟨go22, co22, eo22, gb22, gl22, cl22, HG22⟩ := Kd.S_form HO_7.out (by omega); (first | cases eo22 | (injection eo22 with ea_ en_ ec_; (first | subst ea_ | (injection ea_ with ea_; subst ea_)); subst ec_; clear en_)); have GB22 := am gb22; have GG22 := am HG22; clear gb22 gl22 HG22; obtain ⟨_, ce22, hcl22, hM22, hcc22, hfr22, _, _⟩ := Kd.S_elem HO_7.out [] (x42_1 : Int) p22 q22; obtain ⟨ve22_0, rfl, ge22_0⟩ := hM22; have hx22_0 := hcc22 0 _ rfl; have hf22_0 := hfr22 0; (try simp only [show ((Kd.slice 55 (Kd.int .u64))).sz = 1 from rfl, Nat.mul_one, Nat.add_zero] at hx22_0); (try simp only [show ((Kd.slice 55 (Kd.int .u64))).sz = 1 from rfl, Nat.mul_one, Nat.add_zero] at hf22_0); (try clear hM22); clear hcl22 hcc22 hfr22; replace p22 := eq_true p22; replace q22 := eq_true q22; have n_ := am (Kd.S_mono (ok' := (fun k_ => some k_ ≠ (v181 : Value).ownBlock)) HO_7.out (fun k_ hk => hk.2)); clear HO_7; have HO_7 := n_; clear n_; have HX25 := am (show Kd.S (Kd.slice 55 (Kd.int .u64)) 62 w23 w.heap.size (fun k_ => ((fun _ => True)) k_ ∧ ¬ ((fun k_ => some k_ = (v181 : Value).ownBlock)) k_) (.slice (some ⟨go22, 0, none⟩) x7_1.length co15) x7_1 from (by (with_reducible repeat (first | apply Kd.S_alloc | apply Kd.S_drewN | apply Kd.S_drew)); exact Kd.S_mono HO_7.out (fun k_ hk => ⟨trivial, fun e_ => hk e_⟩))); obtain ⟨oki25, ce25, hcl25, hM25, hcc25, hfr25, hoki25, hH25⟩ := Kd.S_elem HX25.out [] (x42_1 : Int) (of_decide_eq_true as_) (by have h_ : (x42_1 : Int) < ((x7_1.length : Int) : Int) := of_decide_eq_true as_; first | exact h_ | (have e_ := (Kd.S_reads' HO_7.out).1; omega) | simpa using h_); obtain ⟨ve25_0, rfl, ge25_0⟩ := hM25; have HP25 := Kd.S_seg hH25 (of_decide_eq_true as_) (by have h_ : (x42_1 : Int) < ((x7_1.length : Int) : Int) := of_decide_eq_true as_; first | exact h_ | (have e_ := (Kd.S_reads' HO_7.out).1; omega) | simpa using h_) (seg := [v181]) (j := 0) (show 1 ≤ 1 from by decide) (x' := y180) (Kd.M_row (Kd.R_mono (Kd.R_tight rfl (Kd.R_mono (ok' := fun k_ => ((fun _ => True)) k_ ∧ k_ ≠ go22) (Kd.R_apart' (HO182.out) (Kd.S_typed HO_7.out) (by decide)) (fun k_ hk => ⟨trivial, fun e_ => (hk.2) (by rw [e_]; rfl)⟩))) (fun _ h_ => Or.inr (h_)))) (fun _ hk => hk) (fun k_ hk_ => ((Kd.R_mono (ok' := fun k_ => ((fun _ => True)) k_ ∧ k_ ≠ go22) (Kd.R_apart' (HO182.out) (Kd.S_typed HO_7.out) (by decide)) (fun k_ hk => ⟨trivial, fun e_ => (hk.2) (by rw [e_]; rfl)⟩))).1 k_ hk_.symm); have hx25_0 := hcc25 0 _ rfl; (try simp only [show ((Kd.slice 55 (Kd.int .u64))).sz = 1 from rfl, Nat.mul_one, Nat.add_zero] at hx25_0); have hf25_0 := hfr25 0; (try simp only [show ((Kd.slice 55 (Kd.int .u64))).sz = 1 from rfl, Nat.mul_one, Nat.add_zero] at hf25_0); (try clear hM25); clear hcl25 hcc25 hfr25 hoki25 hH25; (try simp only [show ((Kd.slice 55 (Kd.int .u64))).sz = 1 from rfl, Nat.mul_one, Nat.add_zero] at HP25); obtain ⟨Aov181, cov181, eov181⟩ := Kd.R_slice HO182.out; subst eov181) | ((with_reducible refine gate_store (t := 62) (p := 50) rfl ?_); refine store_event (t := 62) (p := 50) (v := ?vo_w26) (w1 := (w23.setCell ⟨go22, (x42_1 : Int).toNat, none⟩ (.slice Aov181 y180.length cov181))) ?hg ?ho ?hn ?hr ?_; (case ho => rfl); (case hg => rfl); (case hn => rfl); (case hr => first | (go_simp; done) | (go_simp; rfl)); intro w26 hw; have hg : w23.grownBy w26 (some go22) := (by rw [hw]; exact HP25.2); have hp_ : Kd.S (Kd.slice 55 (Kd.int .u64)) 62 w26 w.heap.size (fun _ => True) (.slice (some ⟨go22, 0, none⟩) x7_1.length co15) y183 := (by rw [hw, Ny183.out]; exact HP25.1); clear HP25; have n0_ := am (hp_); have n1_ := am (CV_puts hw (rC HO_8.out) hx22_0 (by obtain ⟨_, _, e_⟩ := Kd.R_slice ge22_0; rw [e_]; intro _ h_; cases h_)); have n2_ := am (CV_puts hw (rC HO_9.out) hx22_0 (by obtain ⟨_, _, e_⟩ := Kd.R_slice ge22_0; rw [e_]; intro _ h_; cases h_)); have n3_ := am ((by rw [hw]; exact below_set (HB.out) GB22.out : Below w.heap.size w w26)); clear HO_7; clear HO_8; clear HO_9; clear HB; clear HO182; have HO_7 := n0_; have HO_8 := n1_; have HO_9 := n2_; have HB := n3_; clear n0_ n1_ n2_ n3_; clear hg hw hp_; obtain ⟨Ao27, co27, eo27⟩ := CV_slice HO_9.out; subst eo27))
   go_loopg [53] k1 (fun kq v53 w' => ∃ (x7_2 : List (List Int)) (x53_2 : Int), v53 = .int .i64 x53_2 ∧ Aside0 (modp_kernel.l1 kq l0 a1 ji3 (IntKind.u64.wrap (a1)) x7_2 t174 x9_1 x42_1 (y168.length : Int) x42_1 x9_1 (x9_1.length : Int) x53_2 = some r) ∧ Aside0 (kq ≤ k1) ∧ Aside0 (Kd.S (Kd.slice 55 (Kd.int .u64)) 62 w' w.heap.size (fun _ => True) (.slice (some ⟨go22, 0, none⟩) x7_1.length co15) x7_2) ∧ Aside0 (CV w' v175 t174) ∧ Aside0 (CV w' (.slice Ao27 x9_1.length co27) x9_1) ∧ Aside0 (CV w' (.slice Ao27 x9_1.length co27) x9_1) ∧ Aside0 (Below w.heap.size w w'))
   case atStart => exact ⟨(y183), (0), eqS, H', ⟨Nat.le_refl _⟩, ⟨by (try simp only [hl7_1]); (with_reducible repeat (first | apply Kd.S_alloc | apply Kd.S_drewN | apply Kd.S_drew)); exact HO_7.out⟩, ⟨by (try simp only [hl7_1]); exact (rC HO_8.out)⟩, ⟨by (try simp only [hl7_1]); exact (rC HO_9.out)⟩, ⟨by (try simp only [hl7_1]); exact (rC HO_9.out)⟩, ⟨bB⟩⟩
   case round => as_aux_lemma =>
    clear H'
    clear c16b0 c18b0 c18b1 c19b0 c19b1 c20b0 c21b0 p22 q22 hx22_0 hx25_0
    obtain ⟨x7_2, x53_2, rfl, HA, HK2, HO_7, HO_8, HO_9, HO_51, HB⟩ := hrel
    have hl7_2 := (Kd.S_reads' HO_7.out).1
    rw [hl7_2] at HO_7
    (try simp only [hl7_2])
    (try simp only [hl7_2] at HO_8)
    (try simp only [hl7_2] at HO_9)
    (try simp only [hl7_2] at HO_51)
    rcases gk with _ | k2
    · exact absurd HA.out (by simp [modp_kernel.l1])
    have H := HA.out
    clear HA
    simp only [modp_kernel.l1] at H
    by_cases c28 : x53_2 < (x9_1.length : Int)
    ·
     rw [if_pos c28] at H
     have c28b0 : decide (x53_2 < (x9_1.length : Int)) = true := decide_eq_true c28
     clear c28
     by_cases c29 : 0 ≤ x53_2
     case neg => exact nn c29 H
     rw [if_pos c29] at H
     have c29b0 : decide (0 ≤ x53_2) = true := decide_eq_true c29
     clear c29
     by_cases c30 : x53_2 < (x9_1.length : Int)
     case neg => exact nn c30 H
     rw [if_pos c30] at H
     have c30b0 : decide (x53_2 < (x9_1.length : Int)) = true := decide_eq_true c30
     clear c30
     by_cases c31 : 0 ≤ x42_1
     case neg => exact nn c31 H
     rw [if_pos c31] at H
     have c31b0 : decide (0 ≤ x42_1) = true := decide_eq_true c31
     clear c31
     by_cases c32 : x42_1 < (x7_2.length : Int)
     case neg => exact nn c32 H
     rw [if_pos c32] at H
     have c32b0 : decide (x42_1 < (x7_2.length : Int)) = true := decide_eq_true c32
     clear c32
     by_cases c33 : x53_2 < ((rd_L2 x7_2 x42_1).length : Int)
     case neg => exact nn c33 H
     rw [if_pos c33] at H
     have c33b0 : decide (x53_2 < ((rd_L2 x7_2 x42_1).length : Int)) = true := decide_eq_true c33
     clear c33
     obtain ⟨y186, hy186⟩ : ∃ y_ : List Int, y_ = ((rd_L2 x7_2 x42_1).set (x53_2 : Int).toNat (IntKind.u64.wrap (rd x9_1 x53_2))) := ⟨_, rfl⟩
     replace H : (modp_kernel.l1 k2 l0 a1 ji3 (IntKind.u64.wrap (a1)) (x7_2.set (x42_1 : Int).toNat y186) t174 x9_1 x42_1 (y168.length : Int) x42_1 x9_1 (x9_1.length : Int) (wrap64 (x53_2 + 1))) = some r := by first | (rw [hy186]; exact H) | exact H
     have Ny186 := am hy186
     clear hy186
     obtain ⟨y188, hy188⟩ : ∃ y_ : List (List Int), y_ = (x7_2.set (x42_1 : Int).toNat y186) := ⟨_, rfl⟩
     replace H : (modp_kernel.l1 k2 l0 a1 ji3 (IntKind.u64.wrap (a1)) y188 t174 x9_1 x42_1 (y168.length : Int) x42_1 x9_1 (x9_1.length : Int) (wrap64 (x53_2 + 1))) = some r := by first | (rw [hy188]; exact H) | exact H
     have Ny188 := am hy188
     clear hy188
     have H' := am H
     clear H
     have p184 : 0 ≤ (x53_2 : Int) := of_decide_eq_true as_
     have q184 : x53_2 < (x9_1.length : Int) := of_decide_eq_true as_
     obtain ⟨ad184, e184, hx184_0⟩ := Kd.at_int (CV_reads' HO_51.out).2.2 x53_2 p184 q184
     cases e184
     replace p184 := eq_true p184
     replace q184 := eq_true q184
     have p185 : 0 ≤ (x42_1 : Int) := of_decide_eq_true as_
     have q185 : x42_1 < (x7_2.length : Int) := of_decide_eq_true as_
     obtain ⟨ad185, A185_0, c185_0, e185, hx185_0, hl185_0, hi185_0⟩ := at_K2 (Kd.S_reads' HO_7.out).2.2 x42_1 p185 q185
     obtain rfl : (⟨go22, 0, none⟩ : Addr) = ad185 := (by injection e185)
     obtain ⟨ce185, hce185, hMe185, hcc185⟩ := Kd.S_get HO_7.out [] x42_1 p185 (by first | exact q185 | exact of_decide_eq_true as_ | (have e_ := (Kd.S_reads' HO_7.out).1; omega))
     obtain ⟨ve185_0, rfl, ge185_0⟩ := hMe185
     have hv185_0 := hcc185 0 _ rfl
     rw [Nat.add_zero, show ((Kd.slice 55 (Kd.int .u64))).sz = 1 from rfl, Nat.mul_one] at hv185_0
     replace hv185_0 := Option.some.inj (hv185_0.symm.trans hx185_0)
     rw [hv185_0] at ge185_0
     have HL185_0 := am (show Kd.R (Kd.int .u64) 55 _ _ _ _ (rd_L2 x7_2 x42_1) from ge185_0)
     clear hv185_0 ge185_0
     have HX185_0 := am hx185_0
     clear hcc185 hce185
     (first | simp only [add_plain] at hx185_0 | simp only [add_at] at hx185_0 | simp only [Addr.add, Nat.zero_add] at hx185_0 | skip)
     have HR185_0 := am hi185_0
     have HC185_0 := am hl185_0
     clear hi185_0 hl185_0
     replace p185 := eq_true p185
     replace q185 := eq_true q185
     have p34 : 0 ≤ (x53_2 : Int) := of_decide_eq_true as_
     have q34 : (x53_2 : Int) < (((rd_L2 x7_2 x42_1).length : Int) : Int) := of_decide_eq_true as_
     obtain ⟨go34, co34, eo34, gb34, gl34, cl34, HG34⟩ := Kd.R_form HL185_0.out (by omega)
     (first | cases eo34 | (injection eo34 with ea_ en_ ec_; (first | subst ea_ | (injection ea_ with ea_; subst ea_)); subst ec_; clear en_))
     have GB34 := am gb34
     have GG34 := am HG34
     clear gb34 gl34 HG34
     obtain ⟨hx34_0, hf34_0⟩ := Kd.R_celln 0 HL185_0.out (x53_2 : Int) p34 q34
     replace p34 := eq_true p34
     replace q34 := eq_true q34
     have hq35 : (x42_1 : Int) < (x7_2.length : Int) := (by have h_ : (x42_1 : Int) < ((x7_2.length : Int) : Int) := of_decide_eq_true as_; first | exact h_ | (have e_ := (Kd.S_reads' HO_7.out).1; omega) | simpa only [List.length_set, List.length_set] using h_)
     obtain ⟨oki35, ce35, hcl35, hM35, hcc35, hok35, hbk35⟩ := Kd.S_borrow HO_7.out [] (x42_1 : Int) (of_decide_eq_true as_) (by first | exact hq35 | (have h_ := hq35; have e_ := (Kd.S_reads' HO_7.out).1; omega))
     obtain ⟨ve35_0, rfl, ge35_0⟩ := hM35
     have hv35 := hcc35 0 _ rfl
     rw [Nat.add_zero, show ((Kd.slice 55 (Kd.int .u64))).sz = 1 from rfl, Nat.mul_one] at hv35
     replace hv35 := Option.some.inj (hv35.symm.trans HX185_0.out)
     subst hv35
     clear hcc35 hcl35
     replace ge35_0 := (show Kd.R (Kd.int .u64) 55 _ _ _ _ (rd_L2 x7_2 x42_1) from ge35_0)
     have HP35 := Kd.R_putg ge35_0 (x53_2 : Int) (IntKind.u64.wrap (rd x9_1 x53_2))
     go_wp2_with (first | ((with_reducible refine gate_store (t := 55) (p := 65) rfl ?_); refine store_event (t := 55) (p := 65) (v := ?vo_w36) (w1 := (wr.setCell ⟨go34, (x53_2 : Int).toNat, none⟩ (.int .u64 (IntKind.u64.wrap (rd x9_1 x53_2))))) ?hg ?ho ?hn ?hr ?_; (case ho => rfl); (case hg => rfl); (case hn => rfl); (case hr => first | (go_simp; done) | (go_simp; rfl)); intro w36 hw; have hg : wr.grownBy w36 (some go34) := (by rw [hw]; exact HP35.2); have hz_ : Kd.R (Kd.int .u64) 55 w36 w.heap.size oki35 (.slice (some ⟨go34, 0, none⟩) (rd_L2 x7_2 x42_1).length c185_0) y186 := (by rw [hw, Ny186.out]; exact HP35.1); have hp_ : Kd.S (Kd.slice 55 (Kd.int .u64)) 62 w36 w.heap.size (fun _ => True) (.slice (some ⟨go22, 0, none⟩) x7_2.length co15) y188 := (by rw [Ny188.out]; exact hbk35 hg (fun k_ e_ => by injection e_ with e_; subst e_; exact ge35_0.1 _ rfl) (Kd.M_row hz_)); have hm_ := Kd.R_mono hz_ hok35; clear HP35 hbk35; have n0_ := am (hp_); have n1_ := am (CV_puts hw (rC HO_8.out) hx34_0 (fun _ h_ => by cases h_)); have n2_ := am (CV_puts hw (rC HO_9.out) hx34_0 (fun _ h_ => by cases h_)); have n3_ := am (CV_puts hw (rC HO_51.out) hx34_0 (fun _ h_ => by cases h_)); have n4_ := am ((by rw [hw]; exact below_set (HB.out) GB34.out : Below w.heap.size w w36)); have n5_ := am (hm_); have n6_ := am ((Kd.R_reads' hm_).2.1); clear HO_7; clear HO_8; clear HO_9; clear HO_51; clear HB; clear HL185_0; have HO_7 := n0_; have HO_8 := n1_; have HO_9 := n2_; have HO_51 := n3_; have HB := n4_; have HL234 := n5_; have HC187 := n6_; clear n0_ n1_ n2_ n3_ n4_ n5_ n6_; clear hg hw hp_ hz_ hm_ hok35))
     (try simp only [← hl7_2])
     first | go_roundg k2 | (subst hji3; go_roundg k2) | (subst hji17; go_roundg k2)
     case measure => have := HK1.out; have := HK2.out; omega
     case rel => exact ⟨(y188), (wrap64 (x53_2 + 1)), eqS, (by first | exact H' | (subst_vars; exact H')), ⟨by have := HK1.out; have := HK2.out; omega⟩, ⟨by (try simp only [hl7_1]); (try simp only [hl7_2]); (with_reducible repeat (first | apply Kd.S_alloc | apply Kd.S_drewN | apply Kd.S_drew)); exact HO_7.out⟩, ⟨by (try simp only [hl7_1]); (try simp only [hl7_2]); exact (rC HO_8.out)⟩, ⟨by (try simp only [hl7_1]); (try simp only [hl7_2]); exact (rC HO_9.out)⟩, ⟨by (try simp only [hl7_1]); (try simp only [hl7_2]); exact (rC HO_51.out)⟩, ⟨bB⟩⟩
    rw [if_neg c28] at H
    have c28b0 : decide (x53_2 < (x9_1.length : Int)) = false := decide_eq_false c28
    clear c28
    by_cases c37 : 0 ≤ x42_1
    case neg => exact nn c37 H
    rw [if_pos c37] at H
    have c37b0 : decide (0 ≤ x42_1) = true := decide_eq_true c37
    clear c37
    by_cases c38 : x42_1 < (x7_2.length : Int)
    case neg => exact nn c38 H
    rw [if_pos c38] at H
    have c38b0 : decide (x42_1 < (x7_2.length : Int)) = true := decide_eq_true c38
    clear c38
    by_cases c39 : x42_1 < ((rd_L2 x7_2 x42_1).length : Int)
    case neg => exact nn c39 H
    rw [if_pos c39] at H
    have c39b0 : decide (x42_1 < ((rd_L2 x7_2 x42_1).length : Int)) = true := decide_eq_true c39
    clear c39
    by_cases c40 : (IntKind.u64.wrap (a1)) = 0
    ·
     rw [if_pos c40] at H
     exact absurd H (by simp)
    rw [if_neg c40] at H
    have c40b0 : ((IntKind.u64.wrap (a1)) == 0) = false := beq_eq_false_iff_ne.mpr c40
    have c40b1 : ((IntKind.u64.wrap (a1)) != 0) = true := bne_iff_ne.mpr c40
    obtain ⟨y192, hy192⟩ : ∃ y_ : List Int, y_ = ((rd_L2 x7_2 x42_1).set (x42_1 : Int).toNat (Int.tmod (IntKind.u64.wrap ((IntKind.u64.wrap ((rd (rd_L2 x7_2 x42_1) x42_1) + (IntKind.u64.wrap (a1)))) - 1)) (IntKind.u64.wrap (a1)))) := ⟨_, rfl⟩
    replace H : ((some (x7_2.set (x42_1 : Int).toNat y192 : List (List Int))).bind fun y194 => (if 0 ≤ (wrap64 (ji3 + x42_1)) then (if (wrap64 (ji3 + x42_1)) < ((rd_L2 y194 x42_1).length : Int) then ((modp_Mul.f k2 x9_1 t174 a1).bind fun t199 => ((modp_rest.f k2 t199 l0 a1).bind fun t202 => (modp_kernel.l0 k2 l0 a1 ji3 (IntKind.u64.wrap (a1)) (y194.set (x42_1 : Int).toNat ((rd_L2 y194 x42_1).set ((wrap64 (ji3 + x42_1)) : Int).toNat 1)) t174 t202 (y168.length : Int) (wrap64 (x42_1 + 1))))) else (none)) else (none))) = some r := by first | (rw [hy192]; exact H) | exact H
    have Ny192 := am hy192
    clear hy192
    obtain ⟨y194, hy194⟩ : ∃ y_ : List (List Int), y_ = (x7_2.set (x42_1 : Int).toNat y192) := ⟨_, rfl⟩
    replace H : (if 0 ≤ (wrap64 (ji3 + x42_1)) then (if (wrap64 (ji3 + x42_1)) < ((rd_L2 y194 x42_1).length : Int) then ((modp_Mul.f k2 x9_1 t174 a1).bind fun t199 => ((modp_rest.f k2 t199 l0 a1).bind fun t202 => (modp_kernel.l0 k2 l0 a1 ji3 (IntKind.u64.wrap (a1)) (y194.set (x42_1 : Int).toNat ((rd_L2 y194 x42_1).set ((wrap64 (ji3 + x42_1)) : Int).toNat 1)) t174 t202 (y168.length : Int) (wrap64 (x42_1 + 1))))) else (none)) else (none)) = some r := by first | (rw [hy194]; exact H) | exact H
    have Ny194 := am hy194
    clear hy194
    obtain ⟨ji42, hji42⟩ : ∃ j_ : Int, (wrap64 (ji3 + x42_1)) = j_ := ⟨_, rfl⟩
    replace H : (if 0 ≤ (ji42) then (if (ji42) < ((rd_L2 y194 x42_1).length : Int) then ((modp_Mul.f k2 x9_1 t174 a1).bind fun t199 => ((modp_rest.f k2 t199 l0 a1).bind fun t202 => (modp_kernel.l0 k2 l0 a1 ji3 (IntKind.u64.wrap (a1)) (y194.set (x42_1 : Int).toNat ((rd_L2 y194 x42_1).set ((ji42) : Int).toNat 1)) t174 t202 (y168.length : Int) (wrap64 (x42_1 + 1))))) else (none)) else (none)) = some r := by first | (rw [hji42] at H; exact H) | (simp only [hji42] at H ⊢; exact H)
    have hji42w : (IntKind.i64.wrap (ji3 + x42_1)) = ji42 := (i64_w _).trans hji42
    by_cases c43 : 0 ≤ (ji42)
    case neg => exact nn c43 H
    rw [if_pos c43] at H
    have c43b0 : decide (0 ≤ (ji42)) = true := decide_eq_true c43
    clear c43
    by_cases c44 : (ji42) < ((rd_L2 y194 x42_1).length : Int)
    case neg => exact nn c44 H
    rw [if_pos c44] at H
    have c44b0 : decide ((ji42) < ((rd_L2 y194 x42_1).length : Int)) = true := decide_eq_true c44
    clear c44
    obtain ⟨y196, hy196⟩ : ∃ y_ : List Int, y_ = ((rd_L2 y194 x42_1).set ((ji42) : Int).toNat 1) := ⟨_, rfl⟩
    replace H : ((modp_Mul.f k2 x9_1 t174 a1).bind fun t199 => ((modp_rest.f k2 t199 l0 a1).bind fun t202 => (modp_kernel.l0 k2 l0 a1 ji3 (IntKind.u64.wrap (a1)) (y194.set (x42_1 : Int).toNat y196) t174 t202 (y168.length : Int) (wrap64 (x42_1 + 1))))) = some r := by first | (rw [hy196]; exact H) | exact H
    have Ny196 := am hy196
    clear hy196
    obtain ⟨y198, hy198⟩ : ∃ y_ : List (List Int), y_ = (y194.set (x42_1 : Int).toNat y196) := ⟨_, rfl⟩
    replace H : ((modp_Mul.f k2 x9_1 t174 a1).bind fun t199 => ((modp_rest.f k2 t199 l0 a1).bind fun t202 => (modp_kernel.l0 k2 l0 a1 ji3 (IntKind.u64.wrap (a1)) y198 t174 t202 (y168.length : Int) (wrap64 (x42_1 + 1))))) = some r := by first | (rw [hy198]; exact H) | exact H
    have Ny198 := am hy198
    clear hy198
    obtain ⟨t199, A460, H⟩ := Option.bind_eq_some_iff.mp H
    try dsimp only at H
    have A46 := am A460
    clear A460
    obtain ⟨t202, A470, H⟩ := Option.bind_eq_some_iff.mp H
    try dsimp only at H
    have A47 := am A470
    clear A470
    have H' := am H
    clear H
    try go_wp2
    have n0_ := am (Kd.S_drew HO_7.out)
    have n1_ := am (CV_drew HO_8.out)
    have n2_ := am (CV_drew HO_9.out)
    have n3_ := am (CV_drew HO_51.out)
    have n4_ := am (below_drew1 HB.out)
    clear HO_7
    clear HO_8
    clear HO_9
    clear HO_51
    clear HB
    have HO_7 := n0_
    have HO_8 := n1_
    have HO_9 := n2_
    have HO_51 := n3_
    have HB := n4_
    clear n0_ n1_ n2_ n3_ n4_
    have p189 : 0 ≤ (x42_1 : Int) := of_decide_eq_true as_
    have q189 : x42_1 < (x7_2.length : Int) := of_decide_eq_true as_
    obtain ⟨ad189, A189_0, c189_0, e189, hx189_0, hl189_0, hi189_0⟩ := at_K2 (Kd.S_reads' HO_7.out).2.2 x42_1 p189 q189
    obtain rfl : (⟨go22, 0, none⟩ : Addr) = ad189 := (by injection e189)
    obtain ⟨ce189, hce189, hMe189, hcc189⟩ := Kd.S_get HO_7.out [] x42_1 p189 (by first | exact q189 | exact of_decide_eq_true as_ | (have e_ := (Kd.S_reads' HO_7.out).1; omega))
    obtain ⟨ve189_0, rfl, ge189_0⟩ := hMe189
    have hv189_0 := hcc189 0 _ rfl
    rw [Nat.add_zero, show ((Kd.slice 55 (Kd.int .u64))).sz = 1 from rfl, Nat.mul_one] at hv189_0
    replace hv189_0 := Option.some.inj (hv189_0.symm.trans hx189_0)
    rw [hv189_0] at ge189_0
    have HL189_0 := am (show Kd.R (Kd.int .u64) 55 _ _ _ _ (rd_L2 x7_2 x42_1) from ge189_0)
    clear hv189_0 ge189_0
    have HX189_0 := am hx189_0
    clear hcc189 hce189
    (first | simp only [add_plain] at hx189_0 | simp only [add_at] at hx189_0 | simp only [Addr.add, Nat.zero_add] at hx189_0 | skip)
    have HR189_0 := am hi189_0
    have HC189_0 := am hl189_0
    clear hi189_0 hl189_0
    replace p189 := eq_true p189
    replace q189 := eq_true q189
    have p190 : 0 ≤ (x42_1 : Int) := of_decide_eq_true as_
    have q190 : x42_1 < (x7_2.length : Int) := of_decide_eq_true as_
    obtain ⟨ad190, A190_0, c190_0, e190, hx190_0, hl190_0, hi190_0⟩ := at_K2 (Kd.S_reads' HO_7.out).2.2 x42_1 p190 q190
    obtain rfl : (⟨go22, 0, none⟩ : Addr) = ad190 := (by injection e190)
    obtain ⟨ce190, hce190, hMe190, hcc190⟩ := Kd.S_get HO_7.out [] x42_1 p190 (by first | exact q190 | exact of_decide_eq_true as_ | (have e_ := (Kd.S_reads' HO_7.out).1; omega))
    obtain ⟨ve190_0, rfl, ge190_0⟩ := hMe190
    have hv190_0 := hcc190 0 _ rfl
    rw [Nat.add_zero, show ((Kd.slice 55 (Kd.int .u64))).sz = 1 from rfl, Nat.mul_one] at hv190_0
    replace hv190_0 := Option.some.inj (hv190_0.symm.trans hx190_0)
    rw [hv190_0] at ge190_0
    have HL190_0 := am (show Kd.R (Kd.int .u64) 55 _ _ _ _ (rd_L2 x7_2 x42_1) from ge190_0)
    clear hv190_0 ge190_0
    have HX190_0 := am hx190_0
    clear hcc190 hce190
    (first | simp only [add_plain] at hx190_0 | simp only [add_at] at hx190_0 | simp only [Addr.add, Nat.zero_add] at hx190_0 | skip)
    have HR190_0 := am hi190_0
    have HC190_0 := am hl190_0
    clear hi190_0 hl190_0
    replace p190 := eq_true p190
    replace q190 := eq_true q190
    have ea_ := Option.some.inj (hx189_0.symm.trans hx190_0)
    injection ea_ with ea_ en_ ec_
    subst ea_
    subst ec_
    clear en_
    have p191 : 0 ≤ (x42_1 : Int) := of_decide_eq_true as_
    have q191 : x42_1 < ((rd_L2 x7_2 x42_1).length : Int) := of_decide_eq_true as_
    obtain ⟨ad191, e191, hx191_0⟩ := Kd.at_int (kC HR190_0.out) x42_1 p191 q191
    cases e191
    replace p191 := eq_true p191
    replace q191 := eq_true q191
    have p41 : 0 ≤ (x42_1 : Int) := of_decide_eq_true as_
    have q41 : (x42_1 : Int) < (((rd_L2 x7_2 x42_1).length : Int) : Int) := of_decide_eq_true as_
    obtain ⟨go41, co41, eo41, gb41, gl41, cl41, HG41⟩ := Kd.R_form HL189_0.out (by omega)
    (first | cases eo41 | (injection eo41 with ea_ en_ ec_; (first | subst ea_ | (injection ea_ with ea_; subst ea_)); subst ec_; clear en_))
    have GB41 := am gb41
    have GG41 := am HG41
    clear gb41 gl41 HG41
    (first | simp only [add_plain] at hx191_0 | skip)
    obtain ⟨hx41_0, hf41_0⟩ := Kd.R_celln 0 HL189_0.out (x42_1 : Int) p41 q41
    replace p41 := eq_true p41
    replace q41 := eq_true q41
    have hq49 : (x42_1 : Int) < (x7_2.length : Int) := (by have h_ : (x42_1 : Int) < ((x7_2.length : Int) : Int) := of_decide_eq_true as_; first | exact h_ | (have e_ := (Kd.S_reads' HO_7.out).1; omega) | simpa only [List.length_set, List.length_set] using h_)
    obtain ⟨oki49, ce49, hcl49, hM49, hcc49, hok49, hbk49⟩ := Kd.S_borrow HO_7.out [] (x42_1 : Int) (of_decide_eq_true as_) (by first | exact hq49 | (have h_ := hq49; have e_ := (Kd.S_reads' HO_7.out).1; omega))
    obtain ⟨ve49_0, rfl, ge49_0⟩ := hM49
    have hv49 := hcc49 0 _ rfl
    rw [Nat.add_zero, show ((Kd.slice 55 (Kd.int .u64))).sz = 1 from rfl, Nat.mul_one] at hv49
    replace hv49 := Option.some.inj (hv49.symm.trans HX189_0.out)
    subst hv49
    clear hcc49 hcl49
    replace ge49_0 := (show Kd.R (Kd.int .u64) 55 _ _ _ _ (rd_L2 x7_2 x42_1) from ge49_0)
    have HP49 := Kd.R_putg ge49_0 (x42_1 : Int) (Int.tmod (IntKind.u64.wrap ((IntKind.u64.wrap ((rd (rd_L2 x7_2 x42_1) x42_1) + (IntKind.u64.wrap (a1)))) - 1)) (IntKind.u64.wrap (a1)))
    rw [← Ny192.out] at HP49
    have HS49 := hbk49 HP49.2 (fun k_ e_ => by injection e_ with e_; subst e_; exact ge49_0.1 _ rfl) (x' := y192) (Kd.M_row HP49.1)
    rw [← Ny194.out] at HS49
    have HQ49 := am HS49
    clear HP49 HS49 hbk49 hok49
    refine start_ (n := 19) (S := fun w' => w'.cell? ⟨go22, (x42_1).toNat, none⟩ = some (.slice (some ⟨go41, 0, none⟩) (rd_L2 x7_2 x42_1).length c189_0) ∧ w'.cell? ⟨go22, (x42_1).toNat, none⟩ = some (.slice (some ⟨go41, 0, none⟩) (rd_L2 x7_2 x42_1).length c189_0) ∧ w'.cell? ⟨go41, (x42_1).toNat, none⟩ = some (.int .u64 (rd (rd_L2 x7_2 x42_1) x42_1))) (ds := [18]) (bm 19 0) (by kernel_rfl) rfl rfl ⟨hx189_0, hx190_0, hx191_0⟩ (fun hHeld => ?_); refine with_tabW modp_kernel.tab14 modp_kernel.bits14 (fun HT_ HW_ => ?_)
    generalize wr.drew = w48 at HO_7 HO_8 HO_9 HO_51 HB GG41 HL189_0 HL190_0 HQ49 HR189_0 HR190_0 HX189_0 HX190_0 hf41_0 hx189_0 hx190_0 hx191_0 hx41_0 hHeld ⊢
    refine pureB (N := some 67) 0 (bm 19 1) ?_
    refine pureB (N := some 68) 1 (bm 19 3) ?_
    refine pureB (N := some 69) 2 (bm 19 7) ?_
    refine pureB (N := some 71) 4 (bm 19 23) ?_
    refine pureB (N := some 72) 5 (bm 19 55) ?_
    refine pureB (N := some 73) 6 (bm 19 119) ?_
    refine pureB (N := some 74) 7 (bm 19 247) ?_
    refine pureB (N := some 76) 9 (bm 19 759) ?_
    refine pureB (N := some 79) 12 (bm 19 4855) ?_
    refine pureB (N := some 82) 15 (bm 19 37623) ?_
    refine takeB3 (N := some 70) 3 (bm 19 37631) hHeld ?_
    refine takeB3 (N := some 75) 8 (bm 19 37887) hHeld ?_
    refine pureB (N := some 77) 10 (bm 19 38911) ?_
    refine takeB3 (N := some 78) 11 (bm 19 40959) hHeld ?_
    refine pureB (N := some 80) 13 (bm 19 49151) ?_
    refine pureB (N := some 81) 14 (bm 19 65535) ?_
    refine pureB (N := some 83) 16 (bm 19 131071) ?_
    refine pureB (N := some 84) 17 (bm 19 262143) ?_
    refine last_ (i := 18) (N := none) (bm 19 524287) rfl rfl (one_of HT_.out (by kernel_rfl)) (by decide) (fun K hK => ?_)
    refine skip_ (w1 := ?_) (by rfl) rfl ?_ ?_
    rotate_left
    ·
     go_simp
     rfl
    refine hK.out _ _ ?_
    clear hK K
    refine done_ (done_of HT_.out (by kernel_rfl)) ?_
    have n0_ : Aside0 (Kd.S (Kd.slice 55 (Kd.int .u64)) 62 (w48.setCell ⟨go41, (x42_1 : Int).toNat, none⟩ (.int .u64 (Int.tmod (IntKind.u64.wrap ((IntKind.u64.wrap ((rd (rd_L2 x7_2 x42_1) x42_1) + (IntKind.u64.wrap (a1)))) - 1)) (IntKind.u64.wrap (a1))))) w.heap.size (fun _ => True) (.slice (some ⟨go22, 0, none⟩) x7_2.length co15) y194) := ⟨rS (HQ49.out)⟩
    have n1_ : Aside0 (CV (w48.setCell ⟨go41, (x42_1 : Int).toNat, none⟩ (.int .u64 (Int.tmod (IntKind.u64.wrap ((IntKind.u64.wrap ((rd (rd_L2 x7_2 x42_1) x42_1) + (IntKind.u64.wrap (a1)))) - 1)) (IntKind.u64.wrap (a1))))) v175 t174) := ⟨by exact CV_put HO_8.out hx41_0 (fun _ h_ => by cases h_) _⟩
    have n2_ : Aside0 (CV (w48.setCell ⟨go41, (x42_1 : Int).toNat, none⟩ (.int .u64 (Int.tmod (IntKind.u64.wrap ((IntKind.u64.wrap ((rd (rd_L2 x7_2 x42_1) x42_1) + (IntKind.u64.wrap (a1)))) - 1)) (IntKind.u64.wrap (a1))))) (.slice Ao27 x9_1.length co27) x9_1) := ⟨by exact CV_put HO_9.out hx41_0 (fun _ h_ => by cases h_) _⟩
    have n3_ : Aside0 (CV (w48.setCell ⟨go41, (x42_1 : Int).toNat, none⟩ (.int .u64 (Int.tmod (IntKind.u64.wrap ((IntKind.u64.wrap ((rd (rd_L2 x7_2 x42_1) x42_1) + (IntKind.u64.wrap (a1)))) - 1)) (IntKind.u64.wrap (a1))))) (.slice Ao27 x9_1.length co27) x9_1) := ⟨by exact CV_put HO_51.out hx41_0 (fun _ h_ => by cases h_) _⟩
    have n4_ : Aside0 (Below w.heap.size w (w48.setCell ⟨go41, (x42_1 : Int).toNat, none⟩ (.int .u64 (Int.tmod (IntKind.u64.wrap ((IntKind.u64.wrap ((rd (rd_L2 x7_2 x42_1) x42_1) + (IntKind.u64.wrap (a1)))) - 1)) (IntKind.u64.wrap (a1)))))) := ⟨by repeat (first | (with_reducible first | exact HB.out | apply below_alloc | apply pw_below_drewN | apply below_drew1 | refine below_set ?_ GB41.out) | exact HB.out)⟩
    (try clear HO_7)
    (try clear HO_8)
    (try clear HO_9)
    (try clear HO_51)
    (try clear HB)
    generalize (w48.setCell ⟨go41, (x42_1 : Int).toNat, none⟩ (.int .u64 (Int.tmod (IntKind.u64.wrap ((IntKind.u64.wrap ((rd (rd_L2 x7_2 x42_1) x42_1) + (IntKind.u64.wrap (a1)))) - 1)) (IntKind.u64.wrap (a1))))) = w51 at n0_ n1_ n2_ n3_ n4_ ⊢
    have HO_7 := n0_
    have HO_8 := n1_
    have HO_9 := n2_
    have HO_51 := n3_
    have HB := n4_
    clear n0_ n1_ n2_ n3_ n4_
    have p195 : 0 ≤ (x42_1 : Int) := of_decide_eq_true as_
    have q195 : x42_1 < (y194.length : Int) := (by have h_ : (x42_1 : Int) < ((x7_2.length : Int) : Int) := of_decide_eq_true as_; first | (have e_ := (Kd.S_reads' HO_7.out).1; omega) | simpa only [Ny194.out, List.length_set] using h_)
    have ql195 : ((x42_1 : Int) < ((x7_2.length : Int) : Int)) = True := eq_true (of_decide_eq_true as_)
    obtain ⟨ad195, A195_0, c195_0, e195, hx195_0, hl195_0, hi195_0⟩ := at_K2 (Kd.S_reads' HO_7.out).2.2 x42_1 p195 q195
    obtain rfl : (⟨go22, 0, none⟩ : Addr) = ad195 := (by injection e195)
    obtain ⟨ce195, hce195, hMe195, hcc195⟩ := Kd.S_get HO_7.out [] x42_1 p195 (by first | exact q195 | exact of_decide_eq_true as_ | (have e_ := (Kd.S_reads' HO_7.out).1; omega))
    obtain ⟨ve195_0, rfl, ge195_0⟩ := hMe195
    have hv195_0 := hcc195 0 _ rfl
    rw [Nat.add_zero, show ((Kd.slice 55 (Kd.int .u64))).sz = 1 from rfl, Nat.mul_one] at hv195_0
    replace hv195_0 := Option.some.inj (hv195_0.symm.trans hx195_0)
    rw [hv195_0] at ge195_0
    have HL195_0 := am (show Kd.R (Kd.int .u64) 55 _ _ _ _ (rd_L2 y194 x42_1) from ge195_0)
    clear hv195_0 ge195_0
    have HX195_0 := am hx195_0
    clear hcc195 hce195
    (first | simp only [add_plain] at hx195_0 | simp only [add_at] at hx195_0 | simp only [Addr.add, Nat.zero_add] at hx195_0 | skip)
    have HR195_0 := am hi195_0
    have HC195_0 := am hl195_0
    clear hi195_0 hl195_0
    replace p195 := eq_true p195
    replace q195 := eq_true q195
    have p45 : 0 ≤ ((ji42) : Int) := of_decide_eq_true as_
    have q45 : ((ji42) : Int) < (((rd_L2 y194 x42_1).length : Int) : Int) := of_decide_eq_true as_
    obtain ⟨go45, co45, eo45, gb45, gl45, cl45, HG45⟩ := Kd.R_form HL195_0.out (by omega)
    (first | cases eo45 | (injection eo45 with ea_ en_ ec_; (first | subst ea_ | (injection ea_ with ea_; subst ea_)); subst ec_; clear en_))
    have GB45 := am gb45
    have GG45 := am HG45
    clear gb45 gl45 HG45
    obtain ⟨hx45_0, hf45_0⟩ := Kd.R_celln 0 HL195_0.out ((ji42) : Int) p45 q45
    replace p45 := eq_true p45
    replace q45 := eq_true q45
    have hq52 : (x42_1 : Int) < (y194.length : Int) := (by have h_ : (x42_1 : Int) < ((x7_2.length : Int) : Int) := of_decide_eq_true as_; first | exact h_ | (have e_ := (Kd.S_reads' HO_7.out).1; omega) | simpa only [Ny194.out, List.length_set] using h_)
    obtain ⟨oki52, ce52, hcl52, hM52, hcc52, hok52, hbk52⟩ := Kd.S_borrow HO_7.out [] (x42_1 : Int) (of_decide_eq_true as_) (by first | exact hq52 | (have h_ := hq52; have e_ := (Kd.S_reads' HO_7.out).1; omega))
    obtain ⟨ve52_0, rfl, ge52_0⟩ := hM52
    have hv52 := hcc52 0 _ rfl
    rw [Nat.add_zero, show ((Kd.slice 55 (Kd.int .u64))).sz = 1 from rfl, Nat.mul_one] at hv52
    replace hv52 := Option.some.inj (hv52.symm.trans HX195_0.out)
    subst hv52
    clear hcc52 hcl52
    replace ge52_0 := (show Kd.R (Kd.int .u64) 55 _ _ _ _ (rd_L2 y194 x42_1) from ge52_0)
    have HP52 := Kd.R_putg ge52_0 ((ji42) : Int) 1
    try go_wp2_with (first | ((with_reducible refine gate_store (t := 55) (p := 92) rfl ?_); refine store_event (t := 55) (p := 92) (v := ?vo_w53) (w1 := (w51.setCell ⟨go45, ((ji42) : Int).toNat, none⟩ (.int .u64 1))) ?hg ?ho ?hn ?hr ?_; (case ho => rfl); (case hg => rfl); (case hn => rfl); (case hr => first | (go_simp; done) | (go_simp; rfl)); intro w53 hw; have hg : w51.grownBy w53 (some go45) := (by rw [hw]; exact HP52.2); have hz_ : Kd.R (Kd.int .u64) 55 w53 w.heap.size oki52 (.slice (some ⟨go45, 0, none⟩) (rd_L2 y194 x42_1).length c195_0) y196 := (by rw [hw, Ny196.out]; exact HP52.1); have hp_ : Kd.S (Kd.slice 55 (Kd.int .u64)) 62 w53 w.heap.size (fun _ => True) (.slice (some ⟨go22, 0, none⟩) x7_2.length co15) y198 := (by rw [Ny198.out]; exact hbk52 hg (fun k_ e_ => by injection e_ with e_; subst e_; exact ge52_0.1 _ rfl) (Kd.M_row hz_)); have hm_ := Kd.R_mono hz_ hok52; clear HP52 hbk52; have n0_ := am (hp_); have n1_ := am (CV_puts hw (rC HO_8.out) hx45_0 (fun _ h_ => by cases h_)); have n2_ := am (CV_puts hw (rC HO_9.out) hx45_0 (fun _ h_ => by cases h_)); have n3_ := am (CV_puts hw (rC HO_51.out) hx45_0 (fun _ h_ => by cases h_)); have n4_ := am ((by rw [hw]; exact below_set (HB.out) GB45.out : Below w.heap.size w w53)); have n5_ := am (hm_); have n6_ := am ((Kd.R_reads' hm_).2.1); clear HO_7; clear HO_8; clear HO_9; clear HO_51; clear HB; clear HL195_0; have HO_7 := n0_; have HO_8 := n1_; have HO_9 := n2_; have HO_51 := n3_; have HB := n4_; have HL235 := n5_; have HC197 := n6_; clear n0_ n1_ n2_ n3_ n4_ n5_ n6_; clear hg hw hp_ hz_ hm_ hok52; obtain ⟨Ao54, co54, eo54⟩ := CV_slice HO_8.out; subst eo54) | ((with_reducible refine gate_callee (f := 13) rfl ?_); refine goesA (some 96) Tryz.func13 #[.slice Ao27 x9_1.length co27, .slice Ao54 t174.length co54, .int .u32 a1] ?_; (with_reducible refine (modp_Mul.calls k2 _ _ x9_1 _ _ t174 a1 t199 _ ?side1 ?side2 ?side3 ?side4 A46.out).mono ?_); (case side1 => exact kC2 ((CV_reads' HO_9.out).2.2)); (case side2 => exact (CV_reads' HO_9.out).2.1); (case side3 => exact kC2 ((CV_reads' HO_8.out).2.2)); (case side4 => exact (CV_reads' HO_8.out).2.1); rintro e w55 ⟨v200, rfl, ho0, hb⟩; replace ho0 := CV_of ho0; refine ⟨_, rfl, ?_⟩; have n0_ := am (Kd.S_below (rS (HO_7.out)) hb); have n1_ := am ((CV_below (rC HO_8.out) hb)); have n2_ := am ((CV_below (rC HO_9.out) hb)); have n3_ := am ((CV_below (rC HO_51.out) hb)); have n4_ := am (Kd.R_below (rR HL235.out) hb); have n5_ := am ((ho0)); have n6_ := am (below_step bB hb); clear HO_7; clear HO_8; clear HO_9; clear HO_51; clear HL235; clear HB; have HO_7 := n0_; have HO_8 := n1_; have HO_9 := n2_; have HO_51 := n3_; have HL235 := n4_; have HO201 := n5_; have HB := n6_; clear n0_ n1_ n2_ n3_ n4_ n5_ n6_; (try clear hb); (try clear hb2); (try clear hk); (try clear hi); (try clear ho0); obtain ⟨Ao56, co56, eo56⟩ := CV_slice HO201.out; subst eo56) | ((with_reducible refine gate_callee (f := 45) rfl ?_); refine goesA (some 99) Tryz.func45 #[.slice Ao56 t199.length co56, .slice A0 l0.length c0, .int .u32 a1] ?_; (with_reducible refine (modp_rest.calls k2 _ _ t199 _ _ l0 a1 t202 _ ?side1 ?side2 ?side3 ?side4 A47.out).mono ?_); (case side1 => exact kC2 ((CV_reads' HO201.out).2.2)); (case side2 => exact (CV_reads' HO201.out).2.1); (case side3 => exact kC2 ((Kd.C_below HR0.out HB.out))); (case side4 => exact HC0.out); rintro e w57 ⟨v203, rfl, ho0, hb⟩; refine ⟨_, rfl, ?_⟩; have n0_ := am (Kd.S_below (rS (HO_7.out)) hb); have n1_ := am ((CV_below (rC HO_8.out) hb)); have n2_ := am ((CV_below (rC HO_9.out) hb)); have n3_ := am ((CV_below (rC HO_51.out) hb)); have n4_ := am (Kd.R_below (rR HL235.out) hb); have n5_ := am ((CV_below (rC HO201.out) hb)); have n6_ := am ((((ho0)))); have n7_ := am (below_step bB hb); clear HO_7; clear HO_8; clear HO_9; clear HO_51; clear HL235; clear HO201; clear HB; have HO_7 := n0_; have HO_8 := n1_; have HO_9 := n2_; have HO_51 := n3_; have HL235 := n4_; have HO201 := n5_; have HO204 := n6_; have HB := n7_; clear n0_ n1_ n2_ n3_ n4_ n5_ n6_ n7_; (try clear hb); (try clear hb2); (try clear hk); (try clear hi); (try clear ho0)))
    (try simp only [← hl7_1, ← hl7_2])
    first | go_roundg k2 | (subst hji3; go_roundg k2) | (subst hji17; go_roundg k2) | (subst hji42; go_roundg k2)
    case measure => have := HK1.out; have := HK2.out; omega
    case rel => exact ⟨(y198), (t202), (wrap64 (x42_1 + 1)), eqS, (by first | exact H' | (subst_vars; exact H')), ⟨by have := HK1.out; have := HK2.out; omega⟩, ⟨by (try simp only [hl7_1]); (try simp only [hl7_2]); (with_reducible repeat (first | apply Kd.S_alloc | apply Kd.S_drewN | apply Kd.S_drew)); exact HO_7.out⟩, ⟨by (try simp only [hl7_1]); (try simp only [hl7_2]); exact (rC HO_8.out)⟩, ⟨by (try simp only [hl7_1]); (try simp only [hl7_2]); exact (rC HO204.out)⟩, ⟨bB⟩⟩
  rw [if_neg c16] at H
  have c16b0 : decide (x42_1 < (y168.length : Int)) = false := decide_eq_false c16
  have c16b0_ := c16b0
  (try simp only [hl7_1] at c16b0_)
  clear c16
  have H' := am H
  clear H
  go_wp2
  obtain ⟨V7, hV7⟩ : ∃ v_, v_ = (Value.slice Ao15 x7_1.length co15) := ⟨_, rfl⟩
  simp only [← hV7]
  rw [← hV7] at HO_7
  clear hV7
  go_loopg [13, 14] k1 (fun kq v13 v14 w' => ∃ (x7_2 : List (List Int)) (x13_2 : Int) (x14_2 : Int), v13 = .int .i64 x13_2 ∧ v14 = .int .i64 x14_2 ∧ Aside0 (modp_kernel.l2 kq a1 ji3 (IntKind.u64.wrap (a1)) x7_2 x13_2 x14_2 = some r) ∧ Aside0 (kq ≤ k1) ∧ Aside0 (Kd.S (Kd.slice 55 (Kd.int .u64)) 62 w' w.heap.size (fun _ => True) V7 x7_2) ∧ Aside0 (Below w.heap.size w w'))
  case atStart => exact ⟨(x7_1), (0), (0), eqS, eqS, H', ⟨Nat.le_refl _⟩, ⟨by (try simp only [hl7_1]); (with_reducible repeat (first | apply Kd.S_alloc | apply Kd.S_drewN | apply Kd.S_drew)); exact HO_7.out⟩, ⟨bB⟩⟩
  case round => as_aux_lemma =>
   clear H'
   clear c16b0
   obtain ⟨x7_2, x13_2, x14_2, rfl, rfl, HA, HK2, HO_7, HB⟩ := hrel
   rcases gk with _ | k2
   · exact absurd HA.out (by simp [modp_kernel.l2])
   have H := HA.out
   clear HA
   simp only [modp_kernel.l2] at H
   by_cases c58 : x14_2 < ji3
   case neg =>
     rw [if_neg c58] at H
     have c58b0 : decide (x14_2 < ji3) = false := decide_eq_false c58
     clear c58
     obtain ⟨t205, A1110, H⟩ := Option.bind_eq_some_iff.mp H
     replace H : (some t205) = some r := H
     have A111 := am A1110
     clear A1110
     obtain rfl := Option.some.inj H
     obtain ⟨Ao112, co112, eo112⟩ := Kd.S_slice HO_7.out
     subst eo112
     have HBk := HB
     clear HB
     have HR0 : Aside0 (Kd.C (Kd.slice 55 (Kd.int .u64)) wr Ao112 x7_2.length x7_2) := ⟨(Kd.S_reads' HO_7.out).2.2⟩
     have HC0 : Aside0 (x7_2.length ≤ co112) := ⟨(Kd.S_reads' HO_7.out).2.1⟩
     clear HO_7
     generalize wr = wt at HR0 HBk ⊢
     obtain ⟨kt0, hkt0⟩ : ∃ k_, k_ = k2 := ⟨_, rfl⟩
     rw [← hkt0] at A111
     clear hkt0
     have HB := am (Below.refl wt.heap.size wt)
     have H : (if 0 ≤ x13_2 then (if x13_2 ≤ (x7_2.length : Int) then ((some (x7_2.drop (x13_2 : Int).toNat : List (List Int))).bind fun y107 => (modp_ktail.l0 kt0 ji3 ([] : List (List Int)) y107 (y107.length : Int) 0)) else (none)) else (none)) = some t205 := A111.out
     by_cases c4 : 0 ≤ x13_2
     case neg => exact nn c4 H
     rw [if_pos c4] at H
     have c4b0 := eq_true c4
     have c4b1 : decide (0 ≤ x13_2) = true := decide_eq_true c4
     clear c4
     by_cases c5 : x13_2 ≤ (x7_2.length : Int)
     case neg => exact nn c5 H
     rw [if_pos c5] at H
     have c5b0 := eq_true c5
     have c5b1 : decide (x13_2 ≤ (x7_2.length : Int)) = true := decide_eq_true c5
     clear c5
     obtain ⟨y107, hy107⟩ : ∃ y_ : List (List Int), y_ = (x7_2.drop (x13_2 : Int).toNat) := ⟨_, rfl⟩
     replace H : (modp_ktail.l0 kt0 ji3 ([] : List (List Int)) y107 (y107.length : Int) 0) = some t205 := by first | (rw [hy107]; exact H) | exact H
     have Ny107 := am hy107
     clear hy107
     have H' := am H
     clear H
     have q6 : (x13_2 : Int) ≤ ((x7_2.length : Int) : Int) := of_decide_eq_true as_
     obtain ⟨i06, hi06, _, hsz6, _⟩ := info_parts info62
     have hroom6 : x7_2.length ≤ co112 := HC0.out
     have hC6 : Kd.C (Kd.slice 55 (Kd.int .u64)) _ Ao112 x7_2.length x7_2 := HR0.out
     have q06 : (0 : Int) ≤ (x13_2 : Int) := of_decide_eq_true as_
     have hcut6 := cut_from (P := Tryz.prog) 155 62 .i64 Tryz.underlying155 hi06 1 hsz6 Ao112 x7_2.length co112 x13_2 q06 q6
     have hr6 := Kd.C_drop (m := (x13_2 : Int).toNat) (c := co112) hC6 (by omega) hroom6
     obtain ⟨A6, hA6⟩ : ∃ A1, A1 = (if co112 = (x13_2 : Int).toNat then Ao112 else (Ao112 : Option Addr).map (·.add ((x13_2 : Int).toNat * 1))) := ⟨_, rfl⟩
     obtain ⟨c6, hc6⟩ : ∃ c1, c1 = co112 - (x13_2 : Int).toNat := ⟨_, rfl⟩
     have hy6 : y107.length = x7_2.length - (x13_2 : Int).toNat := (by rw [Ny107.out, List.length_drop] <;> omega)
     rw [show (x7_2).drop (x13_2 : Int).toNat = y107 from Ny107.out.symm] at hr6
     replace hr6 : Kd.C (Kd.slice 55 (Kd.int .u64)) _ A6 y107.length y107 := (by rw [hA6]; exact hr6)
     rw [← hy6, ← hA6, ← hc6] at hcut6
     have HR110 := am hr6
     have HC110 := am (show y107.length ≤ c6 from by rw [hy6, hc6]; exact Nat.sub_le_sub_right hroom6 _)
     clear hr6 hC6 hroom6 hi06 hsz6 hc6
     have KY6 := am hy6
     have KA6 := am hA6
     clear hy6 hA6
     replace q6 := eq_true q6
     go_wp2
     go_loopg [21, 236] kt0 (fun kq v21 v236 w' => ∃ (x21_1 : List (List Int)) (x236_1 : Int), v236 = .int .i64 x236_1 ∧ Aside0 (modp_ktail.l0 kq ji3 x21_1 y107 (y107.length : Int) x236_1 = some t205) ∧ Aside0 (kq ≤ kt0) ∧ Aside0 (Kd.N (Kd.slice 23 (Kd.int .u32)) 27 w' wt.heap.size (fun k_ => (wt.heap.size ≤ k_)) v21 x21_1) ∧ Aside0 (Below wt.heap.size wt w'))
     case atStart => exact ⟨(([] : List (List Int))), (0), eqS, H', ⟨Nat.le_refl _⟩, ⟨by first | exact Kd.S_nil _ _ _ _ _ | exact Kd.N_nil _ _ _ _ _ | exact Kd.V_nil _ _ _ _ _ | exact Kd.Q_nil _ _ _ _ _ | exact Kd.R_nil _ _ _ _ _⟩, ⟨bB⟩⟩
     case round => as_aux_lemma =>
      clear H'
      clear c4b0 c4b1 c5b0 c5b1 q6 q06
      obtain ⟨x21_1, x236_1, rfl, HA, HK1, HO_21, HB⟩ := hrel
      rcases gk with _ | kt1
      · exact absurd HA.out (by simp [modp_ktail.l0])
      have H := HA.out
      clear HA
      simp only [modp_ktail.l0] at H
      by_cases c7 : x236_1 < (y107.length : Int)
      case neg =>
        rw [if_neg c7] at H
        have c7b0 : decide (x236_1 < (y107.length : Int)) = false := decide_eq_false c7
        clear c7
        obtain rfl := Option.some.inj H
        go_wp2
        go_ret
        exact ⟨_, eqR, Kd.N_mono (Kd.N_lower HO_21.out (below_size HBk.out)) (fun k_ hk_ => Nat.le_trans (below_size HBk.out) hk_), below_step HBk.out HB.out⟩
      rw [if_pos c7] at H
      have c7b0 : decide (x236_1 < (y107.length : Int)) = true := decide_eq_true c7
      clear c7
      by_cases c8 : 0 ≤ x236_1
      case neg => exact nn c8 H
      rw [if_pos c8] at H
      have c8b0 : decide (0 ≤ x236_1) = true := decide_eq_true c8
      clear c8
      by_cases c9 : x236_1 < (y107.length : Int)
      case neg => exact nn c9 H
      rw [if_pos c9] at H
      have c9b0 : decide (x236_1 < (y107.length : Int)) = true := decide_eq_true c9
      clear c9
      by_cases c10 : 0 ≤ ji3
      case neg => exact nn c10 H
      rw [if_pos c10] at H
      have c10b0 := eq_true c10
      have c10b1 : decide (0 ≤ ji3) = true := decide_eq_true c10
      clear c10
      by_cases c11 : (ji3 : Int).toNat ≤ 70368744177664
      case neg => exact nn c11 H
      rw [if_pos c11] at H
      have c11b0 := eq_true c11
      have c11b1 : decide ((ji3 : Int).toNat ≤ 70368744177664) = true := decide_eq_true c11
      clear c11
      obtain ⟨y112, hy112⟩ : ∃ y_ : List Int, y_ = (List.replicate (ji3 : Int).toNat 0) := ⟨_, rfl⟩
      replace H : (if ji3 ≤ ((rd_L2 y107 x236_1).length : Int) then (modp_ktail.l1 kt1 ji3 x21_1 y112 y107 (y107.length : Int) x236_1 ((rd_L2 y107 x236_1).drop (ji3 : Int).toNat) (((rd_L2 y107 x236_1).drop (ji3 : Int).toNat).length : Int) 0) else (none)) = some t205 := by first | (rw [hy112]; exact H) | exact H
      have Ny112 := am hy112
      clear hy112
      have c12b0 := eq_true (of_decide_eq_true as_ : 0 ≤ ji3)
      by_cases c13 : ji3 ≤ ((rd_L2 y107 x236_1).length : Int)
      case neg => exact nn c13 H
      rw [if_pos c13] at H
      have c13b0 := eq_true c13
      have c13b1 : decide (ji3 ≤ ((rd_L2 y107 x236_1).length : Int)) = true := decide_eq_true c13
      clear c13
      have H' := am H
      clear H
      have p111 : 0 ≤ (x236_1 : Int) := of_decide_eq_true as_
      have q111 : x236_1 < (y107.length : Int) := of_decide_eq_true as_
      obtain ⟨ad111, A111_0, c111_0, e111, hx111_0, hl111_0, hi111_0⟩ := at_K2 HR110.out x236_1 p111 q111
      cases e111
      replace hx111_0 := (HB.out.cell (World.block_lt_of_cell? wt _ hx111_0)).trans hx111_0
      have HR111_0 := am hi111_0
      have HC111_0 := am hl111_0
      clear hi111_0 hl111_0
      replace p111 := eq_true p111
      replace q111 := eq_true q111
      go_wp2_with (first | ((with_reducible refine gate_dst (N := 241) rfl ?_); refine Kd.R_make (Kd.int .u32) _ 23 rfl (N := 241) rfl 27 _ _ rfl ji3 rfl rfl Tryz.underlying27 (.int .u32 0) 4 info23 rfl (by decide) (by omega) 0 (ok := fun _ => True) (okp := fun _ => True) rfl (fun _ hk => hk) trivial (of_decide_eq_true as_) (Nat.le_trans (Nat.mul_le_mul_right _ (of_decide_eq_true as_ : ji3.toNat ≤ 70368744177664)) (by omega)) (Below.refl _ _) (Nat.le_refl _) ?_; intro v113 w14 ho15 hb hg_ hnew_; clear hg_ hnew_; (first | rw [← Ny112.out] at ho15 | (simp only [Int.reduceToNat] at ho15; rw [← Ny112.out] at ho15)); have n0_ := am (Kd.N_elder' (rN HO_21.out) (Kd.R_base ho15) hb); have n1_ := am (Kd.R_lower (Kd.R_newM (M := fun k_ => (wt.heap.size ≤ k_)) ho15 (below_size bB) (fun k_ h_ => h_)) (below_size bB)); have n2_ := am (below_step bB hb); clear HO_21; clear HB; have HO_21 := n0_; have HO114 := n1_; have HB := n2_; clear n0_ n1_ n2_; clear hb ho15; obtain ⟨i016, hi016, _, hsz16, _⟩ := info_parts info55; obtain ⟨A16, hcut16, hA16, hC16⟩ := print_drop_of (P := Tryz.prog) (Value.int .u64) 0 62 55 .i64 Tryz.underlying62 hi016 hsz16 A111_0 c111_0 (rd_L2 y107 x236_1) ji3 (of_decide_eq_true as_) (of_decide_eq_true as_) HC111_0.out; have HR115 := am (Kd.C_of_reads (h1 := fun _ => rfl) (hA16 _ (Kd.reads_of_C HR111_0.out))); have HC115 := am hC16; clear hA16 hC16 hi016 hsz16))
      go_loopg [246] kt1 (fun kq v246 w' => ∃ (x24_2 : List Int) (x246_2 : Int), v246 = .int .i64 x246_2 ∧ Aside0 (modp_ktail.l1 kq ji3 x21_1 x24_2 y107 (y107.length : Int) x236_1 ((rd_L2 y107 x236_1).drop (ji3 : Int).toNat) (((rd_L2 y107 x236_1).drop (ji3 : Int).toNat).length : Int) x246_2 = some t205) ∧ Aside0 (kq ≤ kt1) ∧ Aside0 (Kd.N (Kd.slice 23 (Kd.int .u32)) 27 w' wt.heap.size (fun k_ => (wt.heap.size ≤ k_) ∧ some k_ ≠ (v113 : Value).ownBlock) u21 x21_1) ∧ Aside0 (Kd.R (Kd.int .u32) 23 w' wt.heap.size (fun k_ => (wt.heap.size ≤ k_)) v113 x24_2) ∧ Aside0 (Below wt.heap.size wt w'))
      case atStart => exact ⟨(y112), (0), eqS, H', ⟨Nat.le_refl _⟩, ⟨rN (HO_21.out)⟩, ⟨by (with_reducible repeat (first | apply Kd.R_alloc | apply Kd.R_drewN | apply Kd.R_drew)); exact Kd.R_mono HO114.out (fun _ hk => hk.1)⟩, ⟨bB⟩⟩
      case round => as_aux_lemma =>
       clear H'
       clear c7b0 c8b0 c9b0 c10b0 c10b1 c11b0 c11b1 c12b0 c13b0 c13b1 hx111_0 p111 q111
       obtain ⟨x24_2, x246_2, rfl, HA, HK2, HO_21, HO_24, HB⟩ := hrel
       rcases gk with _ | kt2
       · exact absurd HA.out (by simp [modp_ktail.l1])
       have H := HA.out
       clear HA
       simp only [modp_ktail.l1] at H
       by_cases c17 : x246_2 < (((rd_L2 y107 x236_1).drop (ji3 : Int).toNat).length : Int)
       case neg =>
         rw [if_neg c17] at H
         have c17b0 : decide (x246_2 < (((rd_L2 y107 x236_1).drop (ji3 : Int).toNat).length : Int)) = false := decide_eq_false c17
         have c17b0_ := c17b0
         (try rw [List.length_drop] at c17b0_)
         clear c17
         obtain ⟨t118, A240, H⟩ := Option.bind_eq_some_iff.mp H
         try dsimp only at H
         have A24 := am A240
         clear A240
         by_cases c25 : x21_1.length < 5864062014805
         case neg => exact nn c25 H
         rw [if_pos c25] at H
         have LMc25 := am c25
         clear c25
         obtain ⟨y121, hy121⟩ : ∃ y_ : List (List Int), y_ = (x21_1 ++ [t118]) := ⟨_, rfl⟩
         replace H : (modp_ktail.l0 kt2 ji3 y121 y107 (y107.length : Int) (wrap64 (x236_1 + 1))) = some t205 := by first | (rw [hy121]; exact H) | exact H
         have Ny121 := am hy121
         clear hy121
         have H' := am H
         clear H
         obtain ⟨Ao26, co26, eo26⟩ := Kd.R_slice HO_24.out
         subst eo26
         go_wp2_with (first | ((with_reducible refine gate_callee (f := 29) rfl ?_); refine goesA (some 259) Tryz.func29 #[.slice Ao26 x24_2.length co26] ?_; (with_reducible refine (modp_trim.calls kt2 (fun k_ => some k_ = (.slice Ao26 x24_2.length co26 : Value).ownBlock) _ _ x24_2 t118 _ ?side1 A24.out).mono ?_); (case side1 => exact Kd.R_V (Kd.R_tight rfl (Kd.R_apart' (HO_24.out) (Kd.N_typed HO_21.out) (by decide)))); rintro e w27 ⟨v119, rfl, ho0, hb⟩; refine ⟨_, rfl, ?_⟩; have n0_ := am (Kd.N_below (rN HO_21.out) hb); have n1_ := am (Kd.R_below (rR HO_24.out) hb); have n2_ := am (Kd.V_lower (Kd.V_mono (ok' := fun k_ => (wt.heap.size ≤ k_) ∧ some k_ ≠ (u21 : Value).ownBlock) ho0 (fun k_ hk_ => ⟨Or.elim hk_ (fun hs_ => ((Kd.R_apart' (HO_24.out) (Kd.N_typed HO_21.out) (by decide)).1 k_ hs_.symm).1) (fun hn_ => (Nat.le_trans (below_size bB) hn_)), Or.elim hk_ (fun hs_ => ((Kd.R_apart' (HO_24.out) (Kd.N_typed HO_21.out) (by decide)).1 k_ hs_.symm).2) (fun hn_ => (Kd.fresh' (Kd.N_lt (rN HO_21.out)) k_ hn_))⟩)) (below_size bB)); have n3_ := am (below_step bB hb); clear HO_21; clear HO_24; clear HB; have HO_21 := n0_; have HO_24 := n1_; have HO120 := n2_; have HB := n3_; clear n0_ n1_ n2_ n3_; (try clear hb); (try clear hb2); (try clear hk); (try clear hi); (try clear ho0); obtain ⟨Ao29, co29, eo29⟩ := Kd.V_slice HO120.out; subst eo29) | ((with_reducible refine gate_builtin (b := .append) (xs := #[.tmp 257, .tmp 260]) rfl ?_); at_builtin; refine Kd.N_append (Kd.slice 23 (Kd.int .u32)) (w0 := wt) wt.heap.size rfl (.tmp 257) (.tmp 260) 71 27 (.slice none 0 0) 24 rfl Tryz.underlying71 info27 rfl (by decide) (by omega) u21 x21_1 t118 [.slice Ao29 t118.length co29] (fun k_ => (wt.heap.size ≤ k_)) (fun k_ => ((fun k_ => (wt.heap.size ≤ k_))) k_ ∧ some k_ ≠ (u21 : Value).ownBlock) rfl rfl ?aP (fun _ hk => hk) ?aF ?aO ?aB ?aS ?aL ?_; (case aP => exact (Kd.FK_slice_mk (Kd.V_reads' (Kd.V_mono (ok' := (fun k_ => ((fun k_ => (wt.heap.size ≤ k_))) k_ ∧ some k_ ≠ (u21 : Value).ownBlock)) (HO120.out) (fun k_ hk => ⟨hk.1, hk.2⟩))).2.1 (Kd.V_F (Kd.V_mono (ok' := (fun k_ => ((fun k_ => (wt.heap.size ≤ k_))) k_ ∧ some k_ ≠ (u21 : Value).ownBlock)) (HO120.out) (fun k_ hk => ⟨hk.1, hk.2⟩))))); (case aB => exact bB); (case aF => exact (fun k_ hk => (Nat.le_trans (below_size bB) hk))); (case aO => exact (by (with_reducible repeat (first | apply Kd.N_alloc | apply Kd.N_drewN | apply Kd.N_drew)); exact Kd.N_mono HO_21.out (fun _ hk => hk.1))); (case aS => exact (below_size bB)); (case aL => have := LMc25.out; omega); intro v122 w28 ho hb hg hat; rw [← Ny121.out] at ho; have n0_ := am (Kd.R_over' (rR HO_24.out) (Kd.N_typed (rN HO_21.out)) (by decide) hg); have n1_ := am (Kd.V_afterv (ok := (fun k_ => (wt.heap.size ≤ k_))) (rV HO120.out) hg hat); have n2_ := am (hb); have n3_ := am (ho); clear HO_24; clear HO120; clear HB; clear HO_21; have HO_24 := n0_; have HO120 := n1_; have HB := n2_; have HO123 := n3_; clear n0_ n1_ n2_ n3_; clear ho hb hg hat))
         go_roundg kt2
         case measure => have := HK1.out; have := HK2.out; omega
         case rel => exact ⟨(y121), (wrap64 (x236_1 + 1)), eqS, (by first | exact H' | (subst_vars; exact H')), ⟨by have := HK1.out; have := HK2.out; omega⟩, ⟨rN (HO123.out)⟩, ⟨bB⟩⟩
       rw [if_pos c17] at H
       have c17b0 : decide (x246_2 < (((rd_L2 y107 x236_1).drop (ji3 : Int).toNat).length : Int)) = true := decide_eq_true c17
       have c17b0_ := c17b0
       (try rw [List.length_drop] at c17b0_)
       clear c17
       by_cases c18 : 0 ≤ x246_2
       case neg => exact nn c18 H
       rw [if_pos c18] at H
       have c18b0 : decide (0 ≤ x246_2) = true := decide_eq_true c18
       clear c18
       by_cases c19 : x246_2 < (((rd_L2 y107 x236_1).drop (ji3 : Int).toNat).length : Int)
       case neg => exact nn c19 H
       rw [if_pos c19] at H
       have c19b0 : decide (x246_2 < (((rd_L2 y107 x236_1).drop (ji3 : Int).toNat).length : Int)) = true := decide_eq_true c19
       have c19b0_ := c19b0
       (try rw [List.length_drop] at c19b0_)
       clear c19
       by_cases c20 : x246_2 < (x24_2.length : Int)
       case neg => exact nn c20 H
       rw [if_pos c20] at H
       have c20b0 : decide (x246_2 < (x24_2.length : Int)) = true := decide_eq_true c20
       clear c20
       obtain ⟨y117, hy117⟩ : ∃ y_ : List Int, y_ = (x24_2.set (x246_2 : Int).toNat ((rd ((rd_L2 y107 x236_1).drop (ji3 : Int).toNat) x246_2) % 4294967296)) := ⟨_, rfl⟩
       replace H : (modp_ktail.l1 kt2 ji3 x21_1 y117 y107 (y107.length : Int) x236_1 ((rd_L2 y107 x236_1).drop (ji3 : Int).toNat) (((rd_L2 y107 x236_1).drop (ji3 : Int).toNat).length : Int) (wrap64 (x246_2 + 1))) = some t205 := by first | (rw [hy117]; exact H) | exact H
       have Ny117 := am hy117
       clear hy117
       have H' := am H
       clear H
       have p116 : 0 ≤ (x246_2 : Int) := of_decide_eq_true as_
       have q116 : x246_2 < (((rd_L2 y107 x236_1).drop (ji3 : Int).toNat).length : Int) := of_decide_eq_true as_
       obtain ⟨ad116, e116, hx116_0⟩ := Kd.at_int HR115.out x246_2 p116 q116
       cases e116
       replace hx116_0 := (HB.out.cell (World.block_lt_of_cell? wt _ hx116_0)).trans hx116_0
       replace p116 := eq_true p116
       replace q116 := eq_true q116
       have q116_ := q116
       (try rw [List.length_drop] at q116_)
       have p21 : 0 ≤ (x246_2 : Int) := of_decide_eq_true as_
       have q21 : (x246_2 : Int) < ((x24_2.length : Int) : Int) := of_decide_eq_true as_
       obtain ⟨go21, co21, eo21, gb21, gl21, cl21, HG21⟩ := Kd.R_form HO_24.out (by omega)
       (first | cases eo21 | (injection eo21 with ea_ en_ ec_; (first | subst ea_ | (injection ea_ with ea_; subst ea_)); subst ec_; clear en_))
       have GB21 := am gb21
       have GG21 := am HG21
       clear gb21 gl21 HG21
       obtain ⟨hx21_0, hf21_0⟩ := Kd.R_celln 0 HO_24.out (x246_2 : Int) p21 q21
       replace p21 := eq_true p21
       replace q21 := eq_true q21
       have HP22 := Kd.R_putg HO_24.out (x246_2 : Int) ((rd ((rd_L2 y107 x236_1).drop (ji3 : Int).toNat) x246_2) % 4294967296)
       go_wp2_with (first | ((with_reducible refine gate_store (t := 23) (p := 255) rfl ?_); refine store_event (t := 23) (p := 255) (v := ?vo_w23) (w1 := (wr.setCell ⟨go21, (x246_2 : Int).toNat, none⟩ (.int .u32 ((rd ((rd_L2 y107 x236_1).drop (ji3 : Int).toNat) x246_2) % 4294967296)))) ?hg ?ho ?hn ?hr ?_; (case ho => rfl); (case hg => rfl); (case hn => rfl); (case hr => first | (go_simp; done) | (go_simp; rfl)); intro w23 hw; have hg : wr.grownBy w23 (some go21) := (by rw [hw]; exact HP22.2); have hp_ : Kd.R (Kd.int .u32) 23 w23 wt.heap.size (fun k_ => (wt.heap.size ≤ k_)) (.slice (some ⟨go21, 0, none⟩) x24_2.length co21) y117 := (by rw [hw, Ny117.out]; exact HP22.1); clear HP22; have n0_ := am (Kd.N_afterv (v := (.slice (some ⟨go21, 0, none⟩) x24_2.length co21)) (v1 := (.slice (some ⟨go21, 0, none⟩) x24_2.length co21)) (ok := (fun k_ => (wt.heap.size ≤ k_))) (rN HO_21.out) hg (.inl rfl)); have n1_ := am (hp_); have n2_ := am ((by rw [hw]; exact below_set (HB.out) GB21.out : Below wt.heap.size wt w23)); clear HO_21; clear HO_24; clear HB; have HO_21 := n0_; have HO_24 := n1_; have HB := n2_; clear n0_ n1_ n2_; clear hg hw hp_))
       go_roundg kt2
       case measure => have := HK1.out; have := HK2.out; omega
       case rel => exact ⟨(y117), (wrap64 (x246_2 + 1)), eqS, (by first | exact H' | (subst_vars; exact H')), ⟨by have := HK1.out; have := HK2.out; omega⟩, ⟨rN (HO_21.out)⟩, ⟨rR (HO_24.out)⟩, ⟨bB⟩⟩
   rw [if_pos c58] at H
   have c58b0 : decide (x14_2 < ji3) = true := decide_eq_true c58
   clear c58
   have HC59 := am H
   clear H
   go_upto_block 6 with (fail)
   go_cut [15] (fun v15 wc => ∃ (kq : Nat) (x15_58 : Int), v15 = .int .i64 x15_58 ∧ Aside0 (modp_kernel.j4 kq a1 ji3 (IntKind.u64.wrap (a1)) x7_2 x13_2 x14_2 x15_58 = some r) ∧ Aside0 (kq ≤ k2) ∧ Aside0 (Kd.S (Kd.slice 55 (Kd.int .u64)) 62 wc w.heap.size (fun _ => True) V7 x7_2) ∧ Aside0 (Below w.heap.size w wc))
   case first =>
    have H := HC59.out
    clear HC59
    have H' := am H
    clear H
    go_wp2
    go_loopg [15] k2 (fun kq v15 w' => ∃ (x15_3 : Int), v15 = .int .i64 x15_3 ∧ Aside0 (modp_kernel.l3 kq a1 ji3 (IntKind.u64.wrap (a1)) x7_2 x13_2 x14_2 x15_3 = some r) ∧ Aside0 (kq ≤ k2) ∧ Aside0 (Kd.S (Kd.slice 55 (Kd.int .u64)) 62 w' w.heap.size (fun _ => True) V7 x7_2) ∧ Aside0 (Below w.heap.size w w'))
    case atStart => exact ⟨(x13_2), eqS, H', ⟨Nat.le_refl _⟩, ⟨by (try simp only [hl7_1]); (with_reducible repeat (first | apply Kd.S_alloc | apply Kd.S_drewN | apply Kd.S_drew)); exact HO_7.out⟩, ⟨bB⟩⟩
    case round => as_aux_lemma =>
     clear H'
     clear c58b0
     obtain ⟨x15_3, rfl, HA, HK3, HO_7, HB⟩ := hrel
     rcases gk with _ | k3
     · exact absurd HA.out (by simp [modp_kernel.l3])
     have H := HA.out
     clear HA
     simp only [modp_kernel.l3] at H
     by_cases c60 : x15_3 < ji3
     case neg =>
       rw [if_neg c60] at H
       have c60b0 : decide (x15_3 < ji3) = false := decide_eq_false c60
       clear c60
       (first | rw [c60b0] | (simp only [i64_w, i32_w]; rw [c60b0]) | skip)
       have H' := am H
       clear H
       go_wp2
       go_meet
       case rel => exact ⟨_, (x15_3), eqS, (by first | exact H' | (subst_vars; exact H')), ⟨by have := HK1.out; have := HK2.out; have := HK3.out; first | omega | exact Nat.le_refl _⟩, ⟨by (try simp only [hl7_1]); (with_reducible repeat (first | apply Kd.S_alloc | apply Kd.S_drewN | apply Kd.S_drew)); exact HO_7.out⟩, ⟨bB⟩⟩
     rw [if_pos c60] at H
     have c60b0 : decide (x15_3 < ji3) = true := decide_eq_true c60
     clear c60
     (first | rw [c60b0] | (simp only [i64_w, i32_w]; rw [c60b0]) | skip)
     by_cases c61 : 0 ≤ x15_3
     case neg => exact nn c61 H
     rw [if_pos c61] at H
     have c61b0 : decide (0 ≤ x15_3) = true := decide_eq_true c61
     clear c61
     by_cases c62 : x15_3 < (x7_2.length : Int)
     case neg => exact nn c62 H
     rw [if_pos c62] at H
     have c62b0 : decide (x15_3 < (x7_2.length : Int)) = true := decide_eq_true c62
     clear c62
     by_cases c63 : 0 ≤ x14_2
     case neg => exact nn c63 H
     rw [if_pos c63] at H
     have c63b0 : decide (0 ≤ x14_2) = true := decide_eq_true c63
     clear c63
     by_cases c64 : x14_2 < ((rd_L2 x7_2 x15_3).length : Int)
     case neg => exact nn c64 H
     rw [if_pos c64] at H
     have c64b0 : decide (x14_2 < ((rd_L2 x7_2 x15_3).length : Int)) = true := decide_eq_true c64
     clear c64
     by_cases c65 : (rd (rd_L2 x7_2 x15_3) x14_2) = 0
     case neg =>
       rw [if_neg c65] at H
       have c65b0 : ((rd (rd_L2 x7_2 x15_3) x14_2) == 0) = false := beq_eq_false_iff_ne.mpr c65
       have c65b1 : ((rd (rd_L2 x7_2 x15_3) x14_2) != 0) = true := bne_iff_ne.mpr c65
       have H' := am H
       clear H
       obtain ⟨Ao67, co67, eo67⟩ := Kd.S_slice HO_7.out
       subst eo67
       have p208 : 0 ≤ (x15_3 : Int) := of_decide_eq_true as_
       have q208 : x15_3 < (x7_2.length : Int) := of_decide_eq_true as_
       obtain ⟨ad208, A208_0, c208_0, e208, hx208_0, hl208_0, hi208_0⟩ := at_K2 (Kd.S_reads' HO_7.out).2.2 x15_3 p208 q208
       cases e208
       obtain ⟨ce208, hce208, hMe208, hcc208⟩ := Kd.S_get HO_7.out [] x15_3 p208 (by first | exact q208 | exact of_decide_eq_true as_ | (have e_ := (Kd.S_reads' HO_7.out).1; omega))
       obtain ⟨ve208_0, rfl, ge208_0⟩ := hMe208
       have hv208_0 := hcc208 0 _ rfl
       rw [Nat.add_zero, show ((Kd.slice 55 (Kd.int .u64))).sz = 1 from rfl, Nat.mul_one] at hv208_0
       replace hv208_0 := Option.some.inj (hv208_0.symm.trans hx208_0)
       rw [hv208_0] at ge208_0
       have HL208_0 := am (show Kd.R (Kd.int .u64) 55 _ _ _ _ (rd_L2 x7_2 x15_3) from ge208_0)
       clear hv208_0 ge208_0
       have HX208_0 := am hx208_0
       clear hcc208 hce208
       have HR208_0 := am hi208_0
       have HC208_0 := am hl208_0
       clear hi208_0 hl208_0
       replace p208 := eq_true p208
       replace q208 := eq_true q208
       have p209 : 0 ≤ (x14_2 : Int) := of_decide_eq_true as_
       have q209 : x14_2 < ((rd_L2 x7_2 x15_3).length : Int) := of_decide_eq_true as_
       obtain ⟨ad209, e209, hx209_0⟩ := Kd.at_int (kC HR208_0.out) x14_2 p209 q209
       cases e209
       replace p209 := eq_true p209
       replace q209 := eq_true q209
       go_wp2
       go_meet
       case rel => exact ⟨_, (x15_3), eqS, (by first | exact H' | (subst_vars; exact H')), ⟨by have := HK1.out; have := HK2.out; have := HK3.out; first | omega | exact Nat.le_refl _⟩, ⟨by (try simp only [hl7_1]); (with_reducible repeat (first | apply Kd.S_alloc | apply Kd.S_drewN | apply Kd.S_drew)); exact HO_7.out⟩, ⟨bB⟩⟩
     rw [if_pos c65] at H
     have c65b0 : ((rd (rd_L2 x7_2 x15_3) x14_2) == 0) = true := beq_iff_eq.mpr c65
     have c65b1 : ((rd (rd_L2 x7_2 x15_3) x14_2) != 0) = false := bne_eq_false_iff_eq.mpr c65
     clear c65
     have H' := am H
     clear H
     obtain ⟨Ao66, co66, eo66⟩ := Kd.S_slice HO_7.out
     subst eo66
     have p208 : 0 ≤ (x15_3 : Int) := of_decide_eq_true as_
     have q208 : x15_3 < (x7_2.length : Int) := of_decide_eq_true as_
     obtain ⟨ad208, A208_0, c208_0, e208, hx208_0, hl208_0, hi208_0⟩ := at_K2 (Kd.S_reads' HO_7.out).2.2 x15_3 p208 q208
     cases e208
     obtain ⟨ce208, hce208, hMe208, hcc208⟩ := Kd.S_get HO_7.out [] x15_3 p208 (by first | exact q208 | exact of_decide_eq_true as_ | (have e_ := (Kd.S_reads' HO_7.out).1; omega))
     obtain ⟨ve208_0, rfl, ge208_0⟩ := hMe208
     have hv208_0 := hcc208 0 _ rfl
     rw [Nat.add_zero, show ((Kd.slice 55 (Kd.int .u64))).sz = 1 from rfl, Nat.mul_one] at hv208_0
     replace hv208_0 := Option.some.inj (hv208_0.symm.trans hx208_0)
     rw [hv208_0] at ge208_0
     have HL208_0 := am (show Kd.R (Kd.int .u64) 55 _ _ _ _ (rd_L2 x7_2 x15_3) from ge208_0)
     clear hv208_0 ge208_0
     have HX208_0 := am hx208_0
     clear hcc208 hce208
     have HR208_0 := am hi208_0
     have HC208_0 := am hl208_0
     clear hi208_0 hl208_0
     replace p208 := eq_true p208
     replace q208 := eq_true q208
     have p209 : 0 ≤ (x14_2 : Int) := of_decide_eq_true as_
     have q209 : x14_2 < ((rd_L2 x7_2 x15_3).length : Int) := of_decide_eq_true as_
     obtain ⟨ad209, e209, hx209_0⟩ := Kd.at_int (kC HR208_0.out) x14_2 p209 q209
     cases e209
     replace p209 := eq_true p209
     replace q209 := eq_true q209
     go_wp2
     first | go_roundg k3 | (subst hji3; go_roundg k3)
     case measure => have := HK1.out; have := HK2.out; have := HK3.out; omega
     case rel => exact ⟨(wrap64 (x15_3 + 1)), eqS, (by first | exact H' | (subst_vars; exact H')), ⟨by have := HK1.out; have := HK2.out; have := HK3.out; omega⟩, ⟨by (try simp only [hl7_1]); (with_reducible repeat (first | apply Kd.S_alloc | apply Kd.S_drewN | apply Kd.S_drew)); exact HO_7.out⟩, ⟨bB⟩⟩
   case rest =>
    clear HC59
    clear c58b0
    obtain ⟨kq, x15_58, rfl, HA, HJ58, HO_7, HB⟩ := hcut
    rcases kq with _ | kj58
    · exact absurd HA.out (by simp [modp_kernel.j4])
    have H := HA.out
    clear HA
    simp only [modp_kernel.j4] at H
    by_cases c68 : x15_58 = ji3
    ·
     rw [if_pos c68] at H
     have c68b0 : (x15_58 == ji3) = true := beq_iff_eq.mpr c68
     have c68b1 : (x15_58 != ji3) = false := bne_eq_false_iff_eq.mpr c68
     clear c68
     have H' := am H
     clear H
     go_wp2
     first | go_roundg kj58 | (subst hji3; go_roundg kj58)
     case measure => have := HK1.out; have := HK2.out; have := HJ58.out; omega
     case rel => exact ⟨(x7_2), (x13_2), (wrap64 (x14_2 + 1)), eqS, eqS, (by first | exact H' | (subst_vars; exact H')), ⟨by have := HK1.out; have := HK2.out; have := HJ58.out; omega⟩, ⟨by (try simp only [hl7_1]); (with_reducible repeat (first | apply Kd.S_alloc | apply Kd.S_drewN | apply Kd.S_drew)); exact HO_7.out⟩, ⟨bB⟩⟩
    rw [if_neg c68] at H
    have c68b0 : (x15_58 == ji3) = false := beq_eq_false_iff_ne.mpr c68
    have c68b1 : (x15_58 != ji3) = true := bne_iff_ne.mpr c68
    obtain ⟨t210, A690, H⟩ := Option.bind_eq_some_iff.mp H
    try dsimp only at H
    have A69 := am A690
    clear A690
    by_cases c70 : 0 ≤ x13_2
    case neg => exact nn c70 H
    rw [if_pos c70] at H
    have c70b0 : decide (0 ≤ x13_2) = true := decide_eq_true c70
    clear c70
    by_cases c71 : x13_2 < (t210.length : Int)
    case neg => exact nn c71 H
    rw [if_pos c71] at H
    have c71b0 : decide (x13_2 < (t210.length : Int)) = true := decide_eq_true c71
    clear c71
    by_cases c72 : 0 ≤ x14_2
    case neg => exact nn c72 H
    rw [if_pos c72] at H
    have c72b0 : decide (0 ≤ x14_2) = true := decide_eq_true c72
    clear c72
    by_cases c73 : x14_2 < ((rd_L2 t210 x13_2).length : Int)
    case neg => exact nn c73 H
    rw [if_pos c73] at H
    have c73b0 : decide (x14_2 < ((rd_L2 t210 x13_2).length : Int)) = true := decide_eq_true c73
    clear c73
    obtain ⟨t215, A740, H⟩ := Option.bind_eq_some_iff.mp H
    try dsimp only at H
    have A74 := am A740
    clear A740
    have H' := am H
    clear H
    have q26_13 : x13_2 < (x7_2.length : Int) := (swapx_bounds A69.out).2.1
    have p26_13 : 0 ≤ x13_2 := (swapx_bounds A69.out).1
    have q26_15 : x15_58 < (x7_2.length : Int) := (swapx_bounds A69.out).2.2.2
    have p26_15 : 0 ≤ x15_58 := (swapx_bounds A69.out).2.2.1
    have e26 := swapx_eq A69.out
    have HLEN26 : Aside0 (x7_2.length = t210.length) := ⟨by rw [← e26, List.length_set, List.length_set]⟩
    have E26 := am e26
    clear e26
    obtain ⟨go75, co75, eo75, gb75, gl75, cl75, HG75⟩ := Kd.S_form HO_7.out (by omega)
    subst eo75
    have GB75 := am gb75
    obtain ⟨ad26_13, A26_13, c26_13, e26_13, hx26_13, _, _⟩ := at_K2 (Kd.S_reads' HO_7.out).2.2 x13_2 p26_13 q26_13
    obtain rfl : (⟨go75, 0, none⟩ : Addr) = ad26_13 := (by injection e26_13)
    (first | simp only [add_plain] at hx26_13 | simp only [add_at] at hx26_13 | simp only [Addr.add, Nat.zero_add] at hx26_13 | skip)
    have hf26_13 : wc.frozen? ⟨go75, (x13_2).toNat, none⟩ = false := blk_frozen HG75 _
    obtain ⟨ad26_15, A26_15, c26_15, e26_15, hx26_15, _, _⟩ := at_K2 (Kd.S_reads' HO_7.out).2.2 x15_58 p26_15 q26_15
    obtain rfl : (⟨go75, 0, none⟩ : Addr) = ad26_15 := (by injection e26_15)
    (first | simp only [add_plain] at hx26_15 | simp only [add_at] at hx26_15 | simp only [Addr.add, Nat.zero_add] at hx26_15 | skip)
    have hf26_15 : wc.frozen? ⟨go75, (x15_58).toNat, none⟩ = false := blk_frozen HG75 _
    have hp26 := S_swap (d := Kd.slice 55 (Kd.int .u64)) rfl HO_7.out [] (x13_2).toNat (x15_58).toNat (by omega) (by omega) hx26_13 hx26_15
    have HP26 := am hp26
    clear hp26
    have b26_13 : decide (0 ≤ x13_2) = true := decide_eq_true p26_13
    have b26_13b : decide (x13_2 < (x7_2.length : Int)) = true := decide_eq_true q26_13
    have b26_13c := eq_true p26_13
    have b26_13d := eq_true q26_13
    have b26_15 : decide (0 ≤ x15_58) = true := decide_eq_true p26_15
    have b26_15b : decide (x15_58 < (x7_2.length : Int)) = true := decide_eq_true q26_15
    have b26_15c := eq_true p26_15
    have b26_15d := eq_true q26_15
    have HX26 := am (And.intro hx26_13 hx26_15)
    clear p26_13 q26_13 p26_15 q26_15 gb75 gl75 cl75 HG75
    go_wp2
    refine start_ (n := 16) (S := fun w' => w'.cell? ⟨go75, (x13_2).toNat, none⟩ = some (.slice A26_13 (rd_L2 x7_2 x13_2).length c26_13) ∧ w'.cell? ⟨go75, (x15_58).toNat, none⟩ = some (.slice A26_15 (rd_L2 x7_2 x15_58).length c26_15)) (ds := [13, 15]) (bm 16 0) (by kernel_rfl) rfl rfl ⟨hx26_13, hx26_15⟩ (fun hHeld => ?_); refine with_tabW modp_kernel.tab26 modp_kernel.bits26 (fun HT_ HW_ => ?_)
    replace HP26 : Aside0 (Kd.S (Kd.slice 55 (Kd.int .u64)) 62 ((wc.drew.setCell ⟨go75, (x13_2).toNat, none⟩ (.slice A26_15 (rd_L2 x7_2 x15_58).length c26_15)).setCell ⟨go75, (x15_58).toNat, none⟩ (.slice A26_13 (rd_L2 x7_2 x13_2).length c26_13)) w.heap.size (fun _ => True) (.slice (some ⟨go75, 0, none⟩) x7_2.length co75) t210) := ⟨by have h_ := Kd.S_drew HP26.out.1; rw [← E26.out]; exact h_⟩
    replace HB : Aside0 (Below w.heap.size w wc.drew) := ⟨below_drew1 HB.out⟩
    replace hf26_13 : wc.drew.frozen? ⟨go75, (x13_2).toNat, none⟩ = false := hf26_13
    replace hf26_15 : wc.drew.frozen? ⟨go75, (x15_58).toNat, none⟩ = false := hf26_15
    replace hx26_13 : wc.drew.cell? ⟨go75, (x13_2).toNat, none⟩ = some (.slice A26_13 (rd_L2 x7_2 x13_2).length c26_13) := hx26_13
    replace hx26_15 : wc.drew.cell? ⟨go75, (x15_58).toNat, none⟩ = some (.slice A26_15 (rd_L2 x7_2 x15_58).length c26_15) := hx26_15
    clear HO_7 HX26
    generalize wc.drew = w76 at HP26 HB hf26_13 hf26_15 hx26_13 hx26_15 hHeld ⊢
    refine pureB (N := some 125) 0 (bm 16 1) ?_
    refine pureB (N := some 126) 1 (bm 16 3) ?_
    refine pureB (N := some 127) 2 (bm 16 7) ?_
    refine pureB (N := some 128) 3 (bm 16 15) ?_
    refine pureB (N := some 129) 4 (bm 16 31) ?_
    refine pureB (N := some 130) 5 (bm 16 63) ?_
    refine pureB (N := some 131) 6 (bm 16 127) ?_
    refine pureB (N := some 133) 8 (bm 16 383) ?_
    refine pureB (N := some 134) 9 (bm 16 895) ?_
    refine pureB (N := some 135) 10 (bm 16 1919) ?_
    refine takeB2 (N := some 132) 7 (bm 16 2047) hHeld ?_
    refine takeB2 (N := some 136) 11 (bm 16 4095) hHeld ?_
    refine pureB (N := some 137) 12 (bm 16 8191) ?_
    refine last_ (i := 13) (N := none) (bm 16 16383) rfl rfl (one_of HT_.out (by kernel_rfl)) (by decide) (fun K hK => ?_)
    refine skip_ (w1 := ?_) (by rfl) rfl ?_ ?_
    rotate_left
    ·
     go_simp
     rfl
    refine hK.out _ _ ?_
    clear hK K
    obtain ⟨v26, hv26⟩ : ∃ v_, (w76.setCell ⟨go75, (x13_2).toNat, none⟩ (.slice A26_15 (rd_L2 x7_2 x15_58).length c26_15)).cell? ⟨go75, (x15_58).toNat, none⟩ = some v_ := cell?_setCell_some hx26_15
    have hg26 : (w76.setCell ⟨go75, (x13_2).toNat, none⟩ (.slice A26_15 (rd_L2 x7_2 x15_58).length c26_15)).frozen? ⟨go75, (x15_58).toNat, none⟩ = false := by rw [← hf26_15]; go_simp
    replace HB : Aside0 (Below w.heap.size w (w76.setCell ⟨go75, (x13_2).toNat, none⟩ (.slice A26_15 (rd_L2 x7_2 x15_58).length c26_15))) := ⟨below_set HB.out GB75.out⟩
    clear hHeld hx26_13 hx26_15 hf26_13 hf26_15
    generalize (w76.setCell ⟨go75, (x13_2).toNat, none⟩ (.slice A26_15 (rd_L2 x7_2 x15_58).length c26_15)) = w77 at HP26 HB hv26 hg26 ⊢
    refine pureB (N := some 138) 14 (bm 16 32767) ?_
    refine last_ (i := 15) (N := none) (bm 16 65535) rfl rfl (one_of HT_.out (by kernel_rfl)) (by decide) (fun K hK => ?_)
    refine skip_ (w1 := ?_) (by rfl) rfl ?_ ?_
    rotate_left
    ·
     go_simp
     rfl
    refine hK.out _ _ ?_
    clear hK K
    refine done_ (done_of HT_.out (by kernel_rfl)) ?_
    replace HB : Aside0 (Below w.heap.size w (w77.setCell ⟨go75, (x15_58).toNat, none⟩ (.slice A26_13 (rd_L2 x7_2 x13_2).length c26_13))) := ⟨below_set HB.out GB75.out⟩
    clear hv26 hg26
    generalize (w77.setCell ⟨go75, (x15_58).toNat, none⟩ (.slice A26_13 (rd_L2 x7_2 x13_2).length c26_13)) = w76 at HP26 HB ⊢
    have hlen26 := HLEN26.out
    rw [hlen26] at HP26
    simp only [hlen26]
    generalize hAo : (some (⟨go75, 0, none⟩ : Addr)) = Ao77 at HP26 ⊢
    obtain ⟨co77, hco77⟩ : ∃ c_, c_ = co75 := ⟨_, rfl⟩
    rw [← hco77] at HP26 ⊢
    have E7 : Aside0 ((Value.slice (some ⟨go75, 0, none⟩) x7_2.length co75) = .slice Ao77 t210.length co77) := ⟨by rw [hAo, hco77, HLEN26.out]⟩
    have HO212 := HP26
    clear hlen26 HLEN26 E26
    clear HP26 hAo hco77 GB75 b26_13 b26_13b b26_13c b26_13d b26_15 b26_15b b26_15c b26_15d
    (have p213 : 0 ≤ (x13_2 : Int) := of_decide_eq_true as_; have q213 : x13_2 < (t210.length : Int) := of_decide_eq_true as_; obtain ⟨ad213, A213_0, c213_0, e213, hx213_0, hl213_0, hi213_0⟩ := at_K2 (Kd.S_reads' HO212.out).2.2 x13_2 p213 q213; cases e213; obtain ⟨ce213, hce213, hMe213, hcc213⟩ := Kd.S_get HO212.out [] x13_2 p213 (by first | exact q213 | exact of_decide_eq_true as_ | (have e_ := (Kd.S_reads' HO212.out).1; omega)); obtain ⟨ve213_0, rfl, ge213_0⟩ := hMe213; have hv213_0 := hcc213 0 _ rfl; rw [Nat.add_zero, show ((Kd.slice 55 (Kd.int .u64))).sz = 1 from rfl, Nat.mul_one] at hv213_0; replace hv213_0 := Option.some.inj (hv213_0.symm.trans hx213_0); rw [hv213_0] at ge213_0; have HL213_0 := am (show Kd.R (Kd.int .u64) 55 _ _ _ _ (rd_L2 t210 x13_2) from ge213_0); clear hv213_0 ge213_0; have HX213_0 := am hx213_0; clear hcc213 hce213; have HR213_0 := am hi213_0; have HC213_0 := am hl213_0; clear hi213_0 hl213_0; replace p213 := eq_true p213; replace q213 := eq_true q213; have p214 : 0 ≤ (x14_2 : Int) := of_decide_eq_true as_; have q214 : x14_2 < ((rd_L2 t210 x13_2).length : Int) := of_decide_eq_true as_; obtain ⟨ad214, e214, hx214_0⟩ := Kd.at_int (kC HR213_0.out) x14_2 p214 q214; cases e214; replace p214 := eq_true p214; replace q214 := eq_true q214)
    go_wp2_with (first | ((with_reducible refine gate_callee (f := 44) rfl ?_); refine goesA (some 147) Tryz.func44 #[.int .u64 (rd (rd_L2 t210 x13_2) x14_2), .int .u32 a1] ?_; (with_reducible refine (modp_inverse.calls kj58 (rd (rd_L2 t210 x13_2) x14_2) a1 t215 _ A74.out).mono ?_); rintro e w' ⟨rfl, ⟨nd, rfl⟩⟩; refine ⟨_, rfl, ?_⟩; have p216 : 0 ≤ (x13_2 : Int) := of_decide_eq_true as_; have q216 : x13_2 < (t210.length : Int) := of_decide_eq_true as_; obtain ⟨ad216, A216_0, c216_0, e216, hx216_0, hl216_0, hi216_0⟩ := at_K2 (Kd.S_reads' HO212.out).2.2 x13_2 p216 q216; obtain rfl : ad213 = ad216 := (by injection e216); obtain ⟨ce216, hce216, hMe216, hcc216⟩ := Kd.S_get HO212.out [] x13_2 p216 (by first | exact q216 | exact of_decide_eq_true as_ | (have e_ := (Kd.S_reads' HO212.out).1; omega)); obtain ⟨ve216_0, rfl, ge216_0⟩ := hMe216; have hv216_0 := hcc216 0 _ rfl; rw [Nat.add_zero, show ((Kd.slice 55 (Kd.int .u64))).sz = 1 from rfl, Nat.mul_one] at hv216_0; replace hv216_0 := Option.some.inj (hv216_0.symm.trans hx216_0); rw [hv216_0] at ge216_0; have HL216_0 := am (show Kd.R (Kd.int .u64) 55 _ _ _ _ (rd_L2 t210 x13_2) from ge216_0); clear hv216_0 ge216_0; have HX216_0 := am hx216_0; clear hcc216 hce216; have HR216_0 := am hi216_0; have HC216_0 := am hl216_0; clear hi216_0 hl216_0; replace p216 := eq_true p216; replace q216 := eq_true q216; have ea_ := Option.some.inj (hx213_0.symm.trans hx216_0); injection ea_ with ea_ en_ ec_; subst ea_; subst ec_; clear en_))
    go_loopg [153] kj58 (fun kq v153 w' => ∃ (x7_4 : List (List Int)) (x153_4 : Int), v153 = .int .i64 x153_4 ∧ Aside0 (modp_kernel.l4 kq a1 ji3 (IntKind.u64.wrap (a1)) x7_4 x13_2 x14_2 t215 ((rd_L2 t210 x13_2).length : Int) x153_4 = some r) ∧ Aside0 (kq ≤ kj58) ∧ Aside0 (Kd.S (Kd.slice 55 (Kd.int .u64)) 62 w' w.heap.size (fun _ => True) (.slice (some ad213) t210.length co77) x7_4) ∧ Aside0 (Below w.heap.size w w'))
    case atStart => exact ⟨(t210), (0), eqS, H', ⟨Nat.le_refl _⟩, ⟨by (try simp only [hl7_1]); (with_reducible repeat (first | apply Kd.S_alloc | apply Kd.S_drewN | apply Kd.S_drew)); exact Kd.S_mono HO212.out (fun _ hk => trivial)⟩, ⟨bB⟩⟩
    case round => as_aux_lemma =>
     clear H'
     clear c68 c68b0 c68b1 c70b0 c71b0 c72b0 c73b0 hx213_0 hx214_0 hx216_0 p213 p214 p216 q213 q214 q216
     obtain ⟨x7_4, x153_4, rfl, HA, HK4, HO_7, HB⟩ := hrel
     have hl7_4 := (Kd.S_reads' HO_7.out).1
     rw [hl7_4] at HO_7
     (try simp only [hl7_4])
     rcases gk with _ | k4
     · exact absurd HA.out (by simp [modp_kernel.l4])
     have H := HA.out
     clear HA
     simp only [modp_kernel.l4] at H
     by_cases c78 : x153_4 < ((rd_L2 t210 x13_2).length : Int)
     ·
      rw [if_pos c78] at H
      have c78b0 : decide (x153_4 < ((rd_L2 t210 x13_2).length : Int)) = true := decide_eq_true c78
      clear c78
      by_cases c79 : 0 ≤ x13_2
      case neg => exact nn c79 H
      rw [if_pos c79] at H
      have c79b0 : decide (0 ≤ x13_2) = true := decide_eq_true c79
      clear c79
      by_cases c80 : x13_2 < (x7_4.length : Int)
      case neg => exact nn c80 H
      rw [if_pos c80] at H
      have c80b0 : decide (x13_2 < (x7_4.length : Int)) = true := decide_eq_true c80
      clear c80
      by_cases c81 : 0 ≤ x153_4
      case neg => exact nn c81 H
      rw [if_pos c81] at H
      have c81b0 : decide (0 ≤ x153_4) = true := decide_eq_true c81
      clear c81
      by_cases c82 : x153_4 < ((rd_L2 x7_4 x13_2).length : Int)
      case neg => exact nn c82 H
      rw [if_pos c82] at H
      have c82b0 : decide (x153_4 < ((rd_L2 x7_4 x13_2).length : Int)) = true := decide_eq_true c82
      clear c82
      by_cases c83 : (IntKind.u64.wrap (a1)) = 0
      ·
       rw [if_pos c83] at H
       exact absurd H (by simp)
      rw [if_neg c83] at H
      have c83b0 : ((IntKind.u64.wrap (a1)) == 0) = false := beq_eq_false_iff_ne.mpr c83
      have c83b1 : ((IntKind.u64.wrap (a1)) != 0) = true := bne_iff_ne.mpr c83
      obtain ⟨y220, hy220⟩ : ∃ y_ : List Int, y_ = ((rd_L2 x7_4 x13_2).set (x153_4 : Int).toNat (Int.tmod (IntKind.u64.wrap ((rd (rd_L2 x7_4 x13_2) x153_4) * t215)) (IntKind.u64.wrap (a1)))) := ⟨_, rfl⟩
      replace H : (modp_kernel.l4 k4 a1 ji3 (IntKind.u64.wrap (a1)) (x7_4.set (x13_2 : Int).toNat y220) x13_2 x14_2 t215 ((rd_L2 t210 x13_2).length : Int) (wrap64 (x153_4 + 1))) = some r := by first | (rw [hy220]; exact H) | exact H
      have Ny220 := am hy220
      clear hy220
      obtain ⟨y222, hy222⟩ : ∃ y_ : List (List Int), y_ = (x7_4.set (x13_2 : Int).toNat y220) := ⟨_, rfl⟩
      replace H : (modp_kernel.l4 k4 a1 ji3 (IntKind.u64.wrap (a1)) y222 x13_2 x14_2 t215 ((rd_L2 t210 x13_2).length : Int) (wrap64 (x153_4 + 1))) = some r := by first | (rw [hy222]; exact H) | exact H
      have Ny222 := am hy222
      clear hy222
      have H' := am H
      clear H
      try go_wp2
      have n0_ := am (Kd.S_drew HO_7.out)
      have n1_ := am (below_drew1 HB.out)
      clear HO_7
      clear HB
      have HO_7 := n0_
      have HB := n1_
      clear n0_ n1_
      have p217 : 0 ≤ (x13_2 : Int) := of_decide_eq_true as_
      have q217 : x13_2 < (x7_4.length : Int) := of_decide_eq_true as_
      obtain ⟨ad217, A217_0, c217_0, e217, hx217_0, hl217_0, hi217_0⟩ := at_K2 (Kd.S_reads' HO_7.out).2.2 x13_2 p217 q217
      obtain rfl : ad213 = ad217 := (by injection e217)
      obtain ⟨ce217, hce217, hMe217, hcc217⟩ := Kd.S_get HO_7.out [] x13_2 p217 (by first | exact q217 | exact of_decide_eq_true as_ | (have e_ := (Kd.S_reads' HO_7.out).1; omega))
      obtain ⟨ve217_0, rfl, ge217_0⟩ := hMe217
      have hv217_0 := hcc217 0 _ rfl
      rw [Nat.add_zero, show ((Kd.slice 55 (Kd.int .u64))).sz = 1 from rfl, Nat.mul_one] at hv217_0
      replace hv217_0 := Option.some.inj (hv217_0.symm.trans hx217_0)
      rw [hv217_0] at ge217_0
      have HL217_0 := am (show Kd.R (Kd.int .u64) 55 _ _ _ _ (rd_L2 x7_4 x13_2) from ge217_0)
      clear hv217_0 ge217_0
      have HX217_0 := am hx217_0
      clear hcc217 hce217
      have HR217_0 := am hi217_0
      have HC217_0 := am hl217_0
      clear hi217_0 hl217_0
      replace p217 := eq_true p217
      replace q217 := eq_true q217
      have p218 : 0 ≤ (x13_2 : Int) := of_decide_eq_true as_
      have q218 : x13_2 < (x7_4.length : Int) := of_decide_eq_true as_
      obtain ⟨ad218, A218_0, c218_0, e218, hx218_0, hl218_0, hi218_0⟩ := at_K2 (Kd.S_reads' HO_7.out).2.2 x13_2 p218 q218
      obtain rfl : ad213 = ad218 := (by injection e218)
      obtain ⟨ce218, hce218, hMe218, hcc218⟩ := Kd.S_get HO_7.out [] x13_2 p218 (by first | exact q218 | exact of_decide_eq_true as_ | (have e_ := (Kd.S_reads' HO_7.out).1; omega))
      obtain ⟨ve218_0, rfl, ge218_0⟩ := hMe218
      have hv218_0 := hcc218 0 _ rfl
      rw [Nat.add_zero, show ((Kd.slice 55 (Kd.int .u64))).sz = 1 from rfl, Nat.mul_one] at hv218_0
      replace hv218_0 := Option.some.inj (hv218_0.symm.trans hx218_0)
      rw [hv218_0] at ge218_0
      have HL218_0 := am (show Kd.R (Kd.int .u64) 55 _ _ _ _ (rd_L2 x7_4 x13_2) from ge218_0)
      clear hv218_0 ge218_0
      have HX218_0 := am hx218_0
      clear hcc218 hce218
      have HR218_0 := am hi218_0
      have HC218_0 := am hl218_0
      clear hi218_0 hl218_0
      replace p218 := eq_true p218
      replace q218 := eq_true q218
      have ea_ := Option.some.inj (hx217_0.symm.trans hx218_0)
      injection ea_ with ea_ en_ ec_
      subst ea_
      subst ec_
      clear en_
      have p219 : 0 ≤ (x153_4 : Int) := of_decide_eq_true as_
      have q219 : x153_4 < ((rd_L2 x7_4 x13_2).length : Int) := of_decide_eq_true as_
      obtain ⟨ad219, e219, hx219_0⟩ := Kd.at_int (kC HR218_0.out) x153_4 p219 q219
      cases e219
      replace p219 := eq_true p219
      replace q219 := eq_true q219
      have p84 : 0 ≤ (x153_4 : Int) := of_decide_eq_true as_
      have q84 : (x153_4 : Int) < (((rd_L2 x7_4 x13_2).length : Int) : Int) := of_decide_eq_true as_
      obtain ⟨go84, co84, eo84, gb84, gl84, cl84, HG84⟩ := Kd.R_form HL217_0.out (by omega)
      (first | cases eo84 | (injection eo84 with ea_ en_ ec_; (first | subst ea_ | (injection ea_ with ea_; subst ea_)); subst ec_; clear en_))
      have GB84 := am gb84
      have GG84 := am HG84
      clear gb84 gl84 HG84
      (first | simp only [add_plain] at hx219_0 | skip)
      obtain ⟨hx84_0, hf84_0⟩ := Kd.R_celln 0 HL217_0.out (x153_4 : Int) p84 q84
      replace p84 := eq_true p84
      replace q84 := eq_true q84
      have hq86 : (x13_2 : Int) < (x7_4.length : Int) := (by have h_ : (x13_2 : Int) < ((x7_4.length : Int) : Int) := of_decide_eq_true as_; first | exact h_ | (have e_ := (Kd.S_reads' HO_7.out).1; omega) | simpa only [List.length_set, List.length_set] using h_)
      obtain ⟨oki86, ce86, hcl86, hM86, hcc86, hok86, hbk86⟩ := Kd.S_borrow HO_7.out [] (x13_2 : Int) (of_decide_eq_true as_) (by first | exact hq86 | (have h_ := hq86; have e_ := (Kd.S_reads' HO_7.out).1; omega))
      obtain ⟨ve86_0, rfl, ge86_0⟩ := hM86
      have hv86 := hcc86 0 _ rfl
      rw [Nat.add_zero, show ((Kd.slice 55 (Kd.int .u64))).sz = 1 from rfl, Nat.mul_one] at hv86
      replace hv86 := Option.some.inj (hv86.symm.trans HX217_0.out)
      subst hv86
      clear hcc86 hcl86
      replace ge86_0 := (show Kd.R (Kd.int .u64) 55 _ _ _ _ (rd_L2 x7_4 x13_2) from ge86_0)
      have HP86 := Kd.R_putg ge86_0 (x153_4 : Int) (Int.tmod (IntKind.u64.wrap ((rd (rd_L2 x7_4 x13_2) x153_4) * t215)) (IntKind.u64.wrap (a1)))
      rw [← Ny220.out] at HP86
      have HS86 := hbk86 HP86.2 (fun k_ e_ => by injection e_ with e_; subst e_; exact ge86_0.1 _ rfl) (x' := y220) (Kd.M_row HP86.1)
      rw [← Ny222.out] at HS86
      have HQ86 := am HS86
      clear HP86 HS86 hbk86 hok86
      refine start_ (n := 18) (S := fun w' => w'.cell? (ad213.add (x13_2).toNat) = some (.slice (some ⟨go84, 0, none⟩) (rd_L2 x7_4 x13_2).length c217_0) ∧ w'.cell? (ad213.add (x13_2).toNat) = some (.slice (some ⟨go84, 0, none⟩) (rd_L2 x7_4 x13_2).length c217_0) ∧ w'.cell? ⟨go84, (x153_4).toNat, none⟩ = some (.int .u64 (rd (rd_L2 x7_4 x13_2) x153_4))) (ds := [17]) (bm 18 0) (by kernel_rfl) rfl rfl ⟨hx217_0, hx218_0, hx219_0⟩ (fun hHeld => ?_); refine with_tabW modp_kernel.tab31 modp_kernel.bits31 (fun HT_ HW_ => ?_)
      generalize wr.drew = w85 at HO_7 HB GG84 HL217_0 HL218_0 HQ86 HR217_0 HR218_0 HX217_0 HX218_0 hf84_0 hx217_0 hx218_0 hx219_0 hx84_0 hHeld ⊢
      refine pureB (N := some 156) 0 (bm 18 1) ?_
      refine pureB (N := some 157) 1 (bm 18 3) ?_
      refine pureB (N := some 158) 2 (bm 18 7) ?_
      refine pureB (N := some 160) 4 (bm 18 23) ?_
      refine pureB (N := some 161) 5 (bm 18 55) ?_
      refine pureB (N := some 162) 6 (bm 18 119) ?_
      refine pureB (N := some 163) 7 (bm 18 247) ?_
      refine pureB (N := some 165) 9 (bm 18 759) ?_
      refine pureB (N := some 168) 12 (bm 18 4855) ?_
      refine pureB (N := some 170) 14 (bm 18 21239) ?_
      refine takeB3 (N := some 159) 3 (bm 18 21247) hHeld ?_
      refine takeB3 (N := some 164) 8 (bm 18 21503) hHeld ?_
      refine pureB (N := some 166) 10 (bm 18 22527) ?_
      refine takeB3 (N := some 167) 11 (bm 18 24575) hHeld ?_
      refine pureB (N := some 169) 13 (bm 18 32767) ?_
      refine pureB (N := some 171) 15 (bm 18 65535) ?_
      refine pureB (N := some 172) 16 (bm 18 131071) ?_
      refine last_ (i := 17) (N := none) (bm 18 262143) rfl rfl (one_of HT_.out (by kernel_rfl)) (by decide) (fun K hK => ?_)
      refine skip_ (w1 := ?_) (by rfl) rfl ?_ ?_
      rotate_left
      ·
       go_simp
       rfl
      refine hK.out _ _ ?_
      clear hK K
      refine done_ (done_of HT_.out (by kernel_rfl)) ?_
      try go_wp2
      (try simp only [← hl7_4])
      first | go_roundg k4 | (subst hji3; go_roundg k4)
      case measure => have := HK1.out; have := HK2.out; have := HJ58.out; have := HK4.out; omega
      case rel => exact ⟨(y222), (wrap64 (x153_4 + 1)), eqS, (by first | exact H' | (subst_vars; exact H')), ⟨by have := HK1.out; have := HK2.out; have := HJ58.out; have := HK4.out; omega⟩, ⟨by (try simp only [hl7_1]); (try simp only [hl7_4]); (with_reducible repeat (first | apply Kd.S_alloc | apply Kd.S_drewN | apply Kd.S_drew)); exact HQ86.out⟩, ⟨by repeat (first | (with_reducible first | exact HB.out | apply below_alloc | apply pw_below_drewN | apply below_drew1 | refine below_set ?_ GB84.out) | exact HB.out)⟩⟩
     rw [if_neg c78] at H
     have c78b0 : decide (x153_4 < ((rd_L2 t210 x13_2).length : Int)) = false := decide_eq_false c78
     clear c78
     have H' := am H
     clear H
     go_wp2
     go_loopg [176] k4 (fun kq v176 w' => ∃ (x7_5 : List (List Int)) (x176_5 : Int), v176 = .int .i64 x176_5 ∧ Aside0 (modp_kernel.l5 kq a1 ji3 (IntKind.u64.wrap (a1)) x7_5 x13_2 x14_2 (x7_4.length : Int) x176_5 = some r) ∧ Aside0 (kq ≤ k4) ∧ Aside0 (Kd.S (Kd.slice 55 (Kd.int .u64)) 62 w' w.heap.size (fun _ => True) (.slice (some ad213) x7_4.length co77) x7_5) ∧ Aside0 (Below w.heap.size w w'))
     case atStart => exact ⟨(x7_4), (0), eqS, H', ⟨Nat.le_refl _⟩, ⟨by (try simp only [hl7_1]); (try simp only [hl7_4]); (with_reducible repeat (first | apply Kd.S_alloc | apply Kd.S_drewN | apply Kd.S_drew)); exact HO_7.out⟩, ⟨bB⟩⟩
     case round => as_aux_lemma =>
      clear H'
      clear c78b0
      obtain ⟨x7_5, x176_5, rfl, HA, HK5, HO_7, HB⟩ := hrel
      have hl7_5 := (Kd.S_reads' HO_7.out).1
      rw [hl7_5] at HO_7
      (try simp only [hl7_5])
      rcases gk with _ | k5
      · exact absurd HA.out (by simp [modp_kernel.l5])
      have H := HA.out
      clear HA
      simp only [modp_kernel.l5] at H
      by_cases c88 : x176_5 < (x7_4.length : Int)
      case neg =>
        rw [if_neg c88] at H
        have c88b0 : decide (x176_5 < (x7_4.length : Int)) = false := decide_eq_false c88
        have c88b0_ := c88b0
        (try simp only [hl7_5] at c88b0_)
        clear c88
        have H' := am H
        clear H
        go_wp2
        (try simp only [← hl7_4, ← hl7_5])
        (try simp only [← E7.out])
        first | go_roundg k5 | (subst hji3; go_roundg k5)
        case measure => have := HK1.out; have := HK2.out; have := HJ58.out; have := HK4.out; have := HK5.out; omega
        case rel => exact ⟨(x7_5), (wrap64 (x13_2 + 1)), (wrap64 (x14_2 + 1)), eqS, eqS, (by first | exact H' | (subst_vars; exact H')), ⟨by have := HK1.out; have := HK2.out; have := HJ58.out; have := HK4.out; have := HK5.out; omega⟩, ⟨by rw [E7.out]; (try simp only [hl7_4]); (try simp only [hl7_5]); (with_reducible repeat (first | apply Kd.S_alloc | apply Kd.S_drewN | apply Kd.S_drew)); exact HO_7.out⟩, ⟨bB⟩⟩
      rw [if_pos c88] at H
      have c88b0 : decide (x176_5 < (x7_4.length : Int)) = true := decide_eq_true c88
      clear c88
      by_cases c89 : 0 ≤ x176_5
      case neg => exact nn c89 H
      rw [if_pos c89] at H
      have c89b0 : decide (0 ≤ x176_5) = true := decide_eq_true c89
      clear c89
      by_cases c90 : x176_5 < (x7_5.length : Int)
      case neg => exact nn c90 H
      rw [if_pos c90] at H
      have c90b0 : decide (x176_5 < (x7_5.length : Int)) = true := decide_eq_true c90
      clear c90
      by_cases c91 : 0 ≤ x14_2
      case neg => exact nn c91 H
      rw [if_pos c91] at H
      have c91b0 : decide (0 ≤ x14_2) = true := decide_eq_true c91
      clear c91
      by_cases c92 : x14_2 < ((rd_L2 x7_5 x176_5).length : Int)
      case neg => exact nn c92 H
      rw [if_pos c92] at H
      have c92b0 : decide (x14_2 < ((rd_L2 x7_5 x176_5).length : Int)) = true := decide_eq_true c92
      clear c92
      have HC93 := am H
      clear H
      have p223 : 0 ≤ (x176_5 : Int) := of_decide_eq_true as_
      have q223 : x176_5 < (x7_5.length : Int) := of_decide_eq_true as_
      obtain ⟨ad223, A223_0, c223_0, e223, hx223_0, hl223_0, hi223_0⟩ := at_K2 (Kd.S_reads' HO_7.out).2.2 x176_5 p223 q223
      obtain rfl : ad213 = ad223 := (by injection e223)
      obtain ⟨ce223, hce223, hMe223, hcc223⟩ := Kd.S_get HO_7.out [] x176_5 p223 (by first | exact q223 | exact of_decide_eq_true as_ | (have e_ := (Kd.S_reads' HO_7.out).1; omega))
      obtain ⟨ve223_0, rfl, ge223_0⟩ := hMe223
      have hv223_0 := hcc223 0 _ rfl
      rw [Nat.add_zero, show ((Kd.slice 55 (Kd.int .u64))).sz = 1 from rfl, Nat.mul_one] at hv223_0
      replace hv223_0 := Option.some.inj (hv223_0.symm.trans hx223_0)
      rw [hv223_0] at ge223_0
      have HL223_0 := am (show Kd.R (Kd.int .u64) 55 _ _ _ _ (rd_L2 x7_5 x176_5) from ge223_0)
      clear hv223_0 ge223_0
      have HX223_0 := am hx223_0
      clear hcc223 hce223
      have HR223_0 := am hi223_0
      have HC223_0 := am hl223_0
      clear hi223_0 hl223_0
      replace p223 := eq_true p223
      replace q223 := eq_true q223
      have p224 : 0 ≤ (x14_2 : Int) := of_decide_eq_true as_
      have q224 : x14_2 < ((rd_L2 x7_5 x176_5).length : Int) := of_decide_eq_true as_
      obtain ⟨ad224, e224, hx224_0⟩ := Kd.at_int (kC HR223_0.out) x14_2 p224 q224
      cases e224
      replace p224 := eq_true p224
      replace q224 := eq_true q224
      go_upto_region 37 with (fail)
      go_cut [192] (fun v192 wc => ∃ (kq : Nat) (x192_92 : Bool), v192 = .bool x192_92 ∧ Aside0 (modp_kernel.j7 kq a1 ji3 (IntKind.u64.wrap (a1)) x7_5 x13_2 x14_2 x176_5 (rd (rd_L2 x7_5 x176_5) x14_2) (x7_4.length : Int) x176_5 x192_92 = some r) ∧ Aside0 (kq ≤ k5) ∧ Aside0 (Kd.S (Kd.slice 55 (Kd.int .u64)) 62 wc w.heap.size (fun _ => True) (.slice (some ad213) x7_5.length co77) x7_5) ∧ Aside0 (Kd.C (Kd.int .u64) wc (some ad224) (rd_L2 x7_5 x176_5).length (rd_L2 x7_5 x176_5)) ∧ Aside0 (Below w.heap.size w wc))
      case first =>
       have H := HC93.out
       clear HC93
       by_cases c94 : x176_5 = x13_2
       case neg =>
         rw [if_neg c94] at H
         have c94b0 : (x176_5 == x13_2) = false := beq_eq_false_iff_ne.mpr c94
         have c94b1 : (x176_5 != x13_2) = true := bne_iff_ne.mpr c94
         (first | rw [c94b0] | (simp only [i64_w, i32_w]; rw [c94b0]) | skip)
         have H' := am H
         clear H
         go_wp2
         go_meet
         case rel => exact ⟨_, (((rd (rd_L2 x7_5 x176_5) x14_2) != 0)), eqS, (by first | exact H' | (subst_vars; exact H')), ⟨by have := HK1.out; have := HK2.out; have := HJ58.out; have := HK4.out; have := HK5.out; first | omega | exact Nat.le_refl _⟩, ⟨by (try simp only [hl7_1]); (try simp only [hl7_4]); (try simp only [hl7_5]); (with_reducible repeat (first | apply Kd.S_alloc | apply Kd.S_drewN | apply Kd.S_drew)); exact HO_7.out⟩, ⟨by repeat (first | (with_reducible exact HR223_0.out) | (with_reducible refine Kd.C_alloc ?_ _) | (with_reducible refine Kd.C_drewN ?_ _) | (with_reducible refine Kd.C_drew ?_) | exact HR223_0.out)⟩, ⟨bB⟩⟩
       rw [if_pos c94] at H
       have c94b0 : (x176_5 == x13_2) = true := beq_iff_eq.mpr c94
       have c94b1 : (x176_5 != x13_2) = false := bne_eq_false_iff_eq.mpr c94
       clear c94
       (first | rw [c94b0] | (simp only [i64_w, i32_w]; rw [c94b0]) | skip)
       have H' := am H
       clear H
       go_wp2
       go_meet
       case rel => exact ⟨_, (false), eqS, (by first | exact H' | (subst_vars; exact H')), ⟨by have := HK1.out; have := HK2.out; have := HJ58.out; have := HK4.out; have := HK5.out; first | omega | exact Nat.le_refl _⟩, ⟨by (try simp only [hl7_1]); (try simp only [hl7_4]); (try simp only [hl7_5]); (with_reducible repeat (first | apply Kd.S_alloc | apply Kd.S_drewN | apply Kd.S_drew)); exact HO_7.out⟩, ⟨by repeat (first | (with_reducible exact HR223_0.out) | (with_reducible refine Kd.C_alloc ?_ _) | (with_reducible refine Kd.C_drewN ?_ _) | (with_reducible refine Kd.C_drew ?_) | exact HR223_0.out)⟩, ⟨bB⟩⟩
      case rest =>
       clear HC93
       clear c88b0 c89b0 c90b0 c91b0 c92b0 hx223_0 hx224_0 p223 p224 q223 q224
       obtain ⟨kq, x192_92, rfl, HA, HJ92, HO_7, HR223_0, HB⟩ := hcut
       rcases kq with _ | kj92
       · exact absurd HA.out (by simp [modp_kernel.j7])
       have H := HA.out
       clear HA
       simp only [modp_kernel.j7] at H
       by_cases c95 : x192_92 = true
       case neg =>
         replace c95 := Bool.eq_false_iff.mpr c95
         subst c95
         have H1 : (modp_kernel.l5 kj92 a1 ji3 (IntKind.u64.wrap (a1)) x7_5 x13_2 x14_2 (x7_4.length : Int) (wrap64 (x176_5 + 1))) = some r := by rw [if_neg (show ¬ (false = true) by decide)] at H; exact H
         clear H
         have H := H1
         clear H1
         have H' := am H
         clear H
         go_wp2
         (try simp only [← hl7_5])
         first | go_roundg kj92 | (subst hji3; go_roundg kj92)
         case measure => have := HK1.out; have := HK2.out; have := HJ58.out; have := HK4.out; have := HK5.out; have := HJ92.out; omega
         case rel => exact ⟨(x7_5), (wrap64 (x176_5 + 1)), eqS, (by first | exact H' | (subst_vars; exact H')), ⟨by have := HK1.out; have := HK2.out; have := HJ58.out; have := HK4.out; have := HK5.out; have := HJ92.out; omega⟩, ⟨by (try simp only [hl7_1]); (try simp only [hl7_4]); (try simp only [hl7_5]); (with_reducible repeat (first | apply Kd.S_alloc | apply Kd.S_drewN | apply Kd.S_drew)); exact HO_7.out⟩, ⟨bB⟩⟩
       subst c95
       have H1 : (if 0 ≤ x176_5 then (if x176_5 < (x7_5.length : Int) then (modp_kernel.l6 kj92 a1 ji3 (IntKind.u64.wrap (a1)) x7_5 x13_2 x14_2 x176_5 (rd (rd_L2 x7_5 x176_5) x14_2) (x7_4.length : Int) x176_5 ((rd_L2 x7_5 x176_5).length : Int) 0) else (none)) else (none)) = some r := by rw [if_pos rfl] at H; exact H
       clear H
       have H := H1
       clear H1
       by_cases c96 : 0 ≤ x176_5
       case neg => exact nn c96 H
       rw [if_pos c96] at H
       have c96b0 : decide (0 ≤ x176_5) = true := decide_eq_true c96
       clear c96
       by_cases c97 : x176_5 < (x7_5.length : Int)
       case neg => exact nn c97 H
       rw [if_pos c97] at H
       have c97b0 : decide (x176_5 < (x7_5.length : Int)) = true := decide_eq_true c97
       clear c97
       have H' := am H
       clear H
       have p225 : 0 ≤ (x176_5 : Int) := of_decide_eq_true as_
       have q225 : x176_5 < (x7_5.length : Int) := of_decide_eq_true as_
       obtain ⟨ad225, A225_0, c225_0, e225, hx225_0, hl225_0, hi225_0⟩ := at_K2 (Kd.S_reads' HO_7.out).2.2 x176_5 p225 q225
       obtain rfl : ad213 = ad225 := (by injection e225)
       obtain ⟨ce225, hce225, hMe225, hcc225⟩ := Kd.S_get HO_7.out [] x176_5 p225 (by first | exact q225 | exact of_decide_eq_true as_ | (have e_ := (Kd.S_reads' HO_7.out).1; omega))
       obtain ⟨ve225_0, rfl, ge225_0⟩ := hMe225
       have hv225_0 := hcc225 0 _ rfl
       rw [Nat.add_zero, show ((Kd.slice 55 (Kd.int .u64))).sz = 1 from rfl, Nat.mul_one] at hv225_0
       replace hv225_0 := Option.some.inj (hv225_0.symm.trans hx225_0)
       rw [hv225_0] at ge225_0
       have HL225_0 := am (show Kd.R (Kd.int .u64) 55 _ _ _ _ (rd_L2 x7_5 x176_5) from ge225_0)
       clear hv225_0 ge225_0
       have HX225_0 := am hx225_0
       clear hcc225 hce225
       have HR225_0 := am hi225_0
       have HC225_0 := am hl225_0
       clear hi225_0 hl225_0
       replace p225 := eq_true p225
       replace q225 := eq_true q225
       go_wp2
       go_loopg [198] kj92 (fun kq v198 w' => ∃ (x7_7 : List (List Int)) (x198_7 : Int), v198 = .int .i64 x198_7 ∧ Aside0 (modp_kernel.l6 kq a1 ji3 (IntKind.u64.wrap (a1)) x7_7 x13_2 x14_2 x176_5 (rd (rd_L2 x7_5 x176_5) x14_2) (x7_4.length : Int) x176_5 ((rd_L2 x7_5 x176_5).length : Int) x198_7 = some r) ∧ Aside0 (kq ≤ kj92) ∧ Aside0 (Kd.S (Kd.slice 55 (Kd.int .u64)) 62 w' w.heap.size (fun _ => True) (.slice (some ad213) x7_5.length co77) x7_7) ∧ Aside0 (Below w.heap.size w w'))
       case atStart => exact ⟨(x7_5), (0), eqS, H', ⟨Nat.le_refl _⟩, ⟨by (try simp only [hl7_1]); (try simp only [hl7_4]); (try simp only [hl7_5]); (with_reducible repeat (first | apply Kd.S_alloc | apply Kd.S_drewN | apply Kd.S_drew)); exact HO_7.out⟩, ⟨bB⟩⟩
       case round => as_aux_lemma =>
        clear H'
        clear c96b0 c97b0 hx225_0 p225 q225
        obtain ⟨x7_7, x198_7, rfl, HA, HK7, HO_7, HB⟩ := hrel
        have hl7_7 := (Kd.S_reads' HO_7.out).1
        rw [hl7_7] at HO_7
        (try simp only [hl7_7])
        rcases gk with _ | k7
        · exact absurd HA.out (by simp [modp_kernel.l6])
        have H := HA.out
        clear HA
        simp only [modp_kernel.l6] at H
        by_cases c98 : x198_7 < ((rd_L2 x7_5 x176_5).length : Int)
        case neg =>
          rw [if_neg c98] at H
          have c98b0 : decide (x198_7 < ((rd_L2 x7_5 x176_5).length : Int)) = false := decide_eq_false c98
          clear c98
          have H' := am H
          clear H
          go_wp2
          (try simp only [← hl7_5, ← hl7_7])
          first | go_roundg k7 | (subst hji3; go_roundg k7)
          case measure => have := HK1.out; have := HK2.out; have := HJ58.out; have := HK4.out; have := HK5.out; have := HJ92.out; have := HK7.out; omega
          case rel => exact ⟨(x7_7), (wrap64 (x176_5 + 1)), eqS, (by first | exact H' | (subst_vars; exact H')), ⟨by have := HK1.out; have := HK2.out; have := HJ58.out; have := HK4.out; have := HK5.out; have := HJ92.out; have := HK7.out; omega⟩, ⟨by (try simp only [hl7_1]); (try simp only [hl7_4]); (try simp only [hl7_5]); (try simp only [hl7_7]); (with_reducible repeat (first | apply Kd.S_alloc | apply Kd.S_drewN | apply Kd.S_drew)); exact HO_7.out⟩, ⟨bB⟩⟩
        rw [if_pos c98] at H
        have c98b0 : decide (x198_7 < ((rd_L2 x7_5 x176_5).length : Int)) = true := decide_eq_true c98
        clear c98
        by_cases c99 : 0 ≤ x176_5
        case neg => exact nn c99 H
        rw [if_pos c99] at H
        have c99b0 : decide (0 ≤ x176_5) = true := decide_eq_true c99
        clear c99
        by_cases c100 : x176_5 < (x7_7.length : Int)
        case neg => exact nn c100 H
        rw [if_pos c100] at H
        have c100b0 : decide (x176_5 < (x7_7.length : Int)) = true := decide_eq_true c100
        clear c100
        by_cases c101 : 0 ≤ x198_7
        case neg => exact nn c101 H
        rw [if_pos c101] at H
        have c101b0 : decide (0 ≤ x198_7) = true := decide_eq_true c101
        clear c101
        by_cases c102 : x198_7 < ((rd_L2 x7_7 x176_5).length : Int)
        case neg => exact nn c102 H
        rw [if_pos c102] at H
        have c102b0 : decide (x198_7 < ((rd_L2 x7_7 x176_5).length : Int)) = true := decide_eq_true c102
        clear c102
        by_cases c103 : 0 ≤ x13_2
        case neg => exact nn c103 H
        rw [if_pos c103] at H
        have c103b0 : decide (0 ≤ x13_2) = true := decide_eq_true c103
        clear c103
        by_cases c104 : x13_2 < (x7_7.length : Int)
        case neg => exact nn c104 H
        rw [if_pos c104] at H
        have c104b0 : decide (x13_2 < (x7_7.length : Int)) = true := decide_eq_true c104
        clear c104
        by_cases c105 : x198_7 < ((rd_L2 x7_7 x13_2).length : Int)
        case neg => exact nn c105 H
        rw [if_pos c105] at H
        have c105b0 : decide (x198_7 < ((rd_L2 x7_7 x13_2).length : Int)) = true := decide_eq_true c105
        clear c105
        by_cases c106 : (IntKind.u64.wrap (a1)) = 0
        ·
         rw [if_pos c106] at H
         exact absurd H (by simp)
        rw [if_neg c106] at H
        have c106b0 : ((IntKind.u64.wrap (a1)) == 0) = false := beq_eq_false_iff_ne.mpr c106
        have c106b1 : ((IntKind.u64.wrap (a1)) != 0) = true := bne_iff_ne.mpr c106
        obtain ⟨y231, hy231⟩ : ∃ y_ : List Int, y_ = ((rd_L2 x7_7 x176_5).set (x198_7 : Int).toNat (Int.tmod (IntKind.u64.wrap ((rd (rd_L2 x7_7 x176_5) x198_7) + (IntKind.u64.wrap ((IntKind.u64.wrap ((IntKind.u64.wrap (a1)) - (rd (rd_L2 x7_5 x176_5) x14_2))) * (rd (rd_L2 x7_7 x13_2) x198_7))))) (IntKind.u64.wrap (a1)))) := ⟨_, rfl⟩
        replace H : (modp_kernel.l6 k7 a1 ji3 (IntKind.u64.wrap (a1)) (x7_7.set (x176_5 : Int).toNat y231) x13_2 x14_2 x176_5 (rd (rd_L2 x7_5 x176_5) x14_2) (x7_4.length : Int) x176_5 ((rd_L2 x7_5 x176_5).length : Int) (wrap64 (x198_7 + 1))) = some r := by first | (rw [hy231]; exact H) | exact H
        have Ny231 := am hy231
        clear hy231
        obtain ⟨y233, hy233⟩ : ∃ y_ : List (List Int), y_ = (x7_7.set (x176_5 : Int).toNat y231) := ⟨_, rfl⟩
        replace H : (modp_kernel.l6 k7 a1 ji3 (IntKind.u64.wrap (a1)) y233 x13_2 x14_2 x176_5 (rd (rd_L2 x7_5 x176_5) x14_2) (x7_4.length : Int) x176_5 ((rd_L2 x7_5 x176_5).length : Int) (wrap64 (x198_7 + 1))) = some r := by first | (rw [hy233]; exact H) | exact H
        have Ny233 := am hy233
        clear hy233
        have H' := am H
        clear H
        try go_wp2
        have n0_ := am (Kd.S_drew HO_7.out)
        have n1_ := am (below_drew1 HB.out)
        clear HO_7
        clear HB
        have HO_7 := n0_
        have HB := n1_
        clear n0_ n1_
        have p226 : 0 ≤ (x176_5 : Int) := of_decide_eq_true as_
        have q226 : x176_5 < (x7_7.length : Int) := of_decide_eq_true as_
        obtain ⟨ad226, A226_0, c226_0, e226, hx226_0, hl226_0, hi226_0⟩ := at_K2 (Kd.S_reads' HO_7.out).2.2 x176_5 p226 q226
        obtain rfl : ad213 = ad226 := (by injection e226)
        obtain ⟨ce226, hce226, hMe226, hcc226⟩ := Kd.S_get HO_7.out [] x176_5 p226 (by first | exact q226 | exact of_decide_eq_true as_ | (have e_ := (Kd.S_reads' HO_7.out).1; omega))
        obtain ⟨ve226_0, rfl, ge226_0⟩ := hMe226
        have hv226_0 := hcc226 0 _ rfl
        rw [Nat.add_zero, show ((Kd.slice 55 (Kd.int .u64))).sz = 1 from rfl, Nat.mul_one] at hv226_0
        replace hv226_0 := Option.some.inj (hv226_0.symm.trans hx226_0)
        rw [hv226_0] at ge226_0
        have HL226_0 := am (show Kd.R (Kd.int .u64) 55 _ _ _ _ (rd_L2 x7_7 x176_5) from ge226_0)
        clear hv226_0 ge226_0
        have HX226_0 := am hx226_0
        clear hcc226 hce226
        have HR226_0 := am hi226_0
        have HC226_0 := am hl226_0
        clear hi226_0 hl226_0
        replace p226 := eq_true p226
        replace q226 := eq_true q226
        have p227 : 0 ≤ (x176_5 : Int) := of_decide_eq_true as_
        have q227 : x176_5 < (x7_7.length : Int) := of_decide_eq_true as_
        obtain ⟨ad227, A227_0, c227_0, e227, hx227_0, hl227_0, hi227_0⟩ := at_K2 (Kd.S_reads' HO_7.out).2.2 x176_5 p227 q227
        obtain rfl : ad213 = ad227 := (by injection e227)
        obtain ⟨ce227, hce227, hMe227, hcc227⟩ := Kd.S_get HO_7.out [] x176_5 p227 (by first | exact q227 | exact of_decide_eq_true as_ | (have e_ := (Kd.S_reads' HO_7.out).1; omega))
        obtain ⟨ve227_0, rfl, ge227_0⟩ := hMe227
        have hv227_0 := hcc227 0 _ rfl
        rw [Nat.add_zero, show ((Kd.slice 55 (Kd.int .u64))).sz = 1 from rfl, Nat.mul_one] at hv227_0
        replace hv227_0 := Option.some.inj (hv227_0.symm.trans hx227_0)
        rw [hv227_0] at ge227_0
        have HL227_0 := am (show Kd.R (Kd.int .u64) 55 _ _ _ _ (rd_L2 x7_7 x176_5) from ge227_0)
        clear hv227_0 ge227_0
        have HX227_0 := am hx227_0
        clear hcc227 hce227
        have HR227_0 := am hi227_0
        have HC227_0 := am hl227_0
        clear hi227_0 hl227_0
        replace p227 := eq_true p227
        replace q227 := eq_true q227
        have ea_ := Option.some.inj (hx226_0.symm.trans hx227_0)
        injection ea_ with ea_ en_ ec_
        subst ea_
        subst ec_
        clear en_
        have p228 : 0 ≤ (x198_7 : Int) := of_decide_eq_true as_
        have q228 : x198_7 < ((rd_L2 x7_7 x176_5).length : Int) := of_decide_eq_true as_
        obtain ⟨ad228, e228, hx228_0⟩ := Kd.at_int (kC HR227_0.out) x198_7 p228 q228
        cases e228
        replace p228 := eq_true p228
        replace q228 := eq_true q228
        have p229 : 0 ≤ (x13_2 : Int) := of_decide_eq_true as_
        have q229 : x13_2 < (x7_7.length : Int) := of_decide_eq_true as_
        obtain ⟨ad229, A229_0, c229_0, e229, hx229_0, hl229_0, hi229_0⟩ := at_K2 (Kd.S_reads' HO_7.out).2.2 x13_2 p229 q229
        obtain rfl : ad213 = ad229 := (by injection e229)
        obtain ⟨ce229, hce229, hMe229, hcc229⟩ := Kd.S_get HO_7.out [] x13_2 p229 (by first | exact q229 | exact of_decide_eq_true as_ | (have e_ := (Kd.S_reads' HO_7.out).1; omega))
        obtain ⟨ve229_0, rfl, ge229_0⟩ := hMe229
        have hv229_0 := hcc229 0 _ rfl
        rw [Nat.add_zero, show ((Kd.slice 55 (Kd.int .u64))).sz = 1 from rfl, Nat.mul_one] at hv229_0
        replace hv229_0 := Option.some.inj (hv229_0.symm.trans hx229_0)
        rw [hv229_0] at ge229_0
        have HL229_0 := am (show Kd.R (Kd.int .u64) 55 _ _ _ _ (rd_L2 x7_7 x13_2) from ge229_0)
        clear hv229_0 ge229_0
        have HX229_0 := am hx229_0
        clear hcc229 hce229
        have HR229_0 := am hi229_0
        have HC229_0 := am hl229_0
        clear hi229_0 hl229_0
        replace p229 := eq_true p229
        replace q229 := eq_true q229
        have p230 : 0 ≤ (x198_7 : Int) := of_decide_eq_true as_
        have q230 : x198_7 < ((rd_L2 x7_7 x13_2).length : Int) := of_decide_eq_true as_
        obtain ⟨ad230, e230, hx230_0⟩ := Kd.at_int (kC HR229_0.out) x198_7 p230 q230
        cases e230
        replace p230 := eq_true p230
        replace q230 := eq_true q230
        have p107 : 0 ≤ (x198_7 : Int) := of_decide_eq_true as_
        have q107 : (x198_7 : Int) < (((rd_L2 x7_7 x176_5).length : Int) : Int) := of_decide_eq_true as_
        obtain ⟨go107, co107, eo107, gb107, gl107, cl107, HG107⟩ := Kd.R_form HL226_0.out (by omega)
        (first | cases eo107 | (injection eo107 with ea_ en_ ec_; (first | subst ea_ | (injection ea_ with ea_; subst ea_)); subst ec_; clear en_))
        have GB107 := am gb107
        have GG107 := am HG107
        clear gb107 gl107 HG107
        (first | simp only [add_plain] at hx228_0 | skip)
        obtain ⟨hx107_0, hf107_0⟩ := Kd.R_celln 0 HL226_0.out (x198_7 : Int) p107 q107
        replace p107 := eq_true p107
        replace q107 := eq_true q107
        have hq109 : (x176_5 : Int) < (x7_7.length : Int) := (by have h_ : (x176_5 : Int) < ((x7_7.length : Int) : Int) := of_decide_eq_true as_; first | exact h_ | (have e_ := (Kd.S_reads' HO_7.out).1; omega) | simpa only [List.length_set, List.length_set] using h_)
        obtain ⟨oki109, ce109, hcl109, hM109, hcc109, hok109, hbk109⟩ := Kd.S_borrow HO_7.out [] (x176_5 : Int) (of_decide_eq_true as_) (by first | exact hq109 | (have h_ := hq109; have e_ := (Kd.S_reads' HO_7.out).1; omega))
        obtain ⟨ve109_0, rfl, ge109_0⟩ := hM109
        have hv109 := hcc109 0 _ rfl
        rw [Nat.add_zero, show ((Kd.slice 55 (Kd.int .u64))).sz = 1 from rfl, Nat.mul_one] at hv109
        replace hv109 := Option.some.inj (hv109.symm.trans HX226_0.out)
        subst hv109
        clear hcc109 hcl109
        replace ge109_0 := (show Kd.R (Kd.int .u64) 55 _ _ _ _ (rd_L2 x7_7 x176_5) from ge109_0)
        have HP109 := Kd.R_putg ge109_0 (x198_7 : Int) (Int.tmod (IntKind.u64.wrap ((rd (rd_L2 x7_7 x176_5) x198_7) + (IntKind.u64.wrap ((IntKind.u64.wrap ((IntKind.u64.wrap (a1)) - (rd (rd_L2 x7_5 x176_5) x14_2))) * (rd (rd_L2 x7_7 x13_2) x198_7))))) (IntKind.u64.wrap (a1)))
        rw [← Ny231.out] at HP109
        have HS109 := hbk109 HP109.2 (fun k_ e_ => by injection e_ with e_; subst e_; exact ge109_0.1 _ rfl) (x' := y231) (Kd.M_row HP109.1)
        rw [← Ny233.out] at HS109
        have HQ109 := am HS109
        clear HP109 HS109 hbk109 hok109
        refine start_ (n := 28) (S := fun w' => w'.cell? (ad213.add (x176_5).toNat) = some (.slice (some ⟨go107, 0, none⟩) (rd_L2 x7_7 x176_5).length c226_0) ∧ w'.cell? (ad213.add (x176_5).toNat) = some (.slice (some ⟨go107, 0, none⟩) (rd_L2 x7_7 x176_5).length c226_0) ∧ w'.cell? ⟨go107, (x198_7).toNat, none⟩ = some (.int .u64 (rd (rd_L2 x7_7 x176_5) x198_7)) ∧ w'.cell? (ad213.add (x13_2).toNat) = some (.slice (some ad230) (rd_L2 x7_7 x13_2).length c229_0) ∧ w'.cell? (ad230.add (x198_7).toNat) = some (.int .u64 (rd (rd_L2 x7_7 x13_2) x198_7))) (ds := [27]) (bm 28 0) (by kernel_rfl) rfl rfl ⟨hx226_0, hx227_0, hx228_0, hx229_0, hx230_0⟩ (fun hHeld => ?_); refine with_tabW modp_kernel.tab41 modp_kernel.bits41 (fun HT_ HW_ => ?_)
        generalize wr.drew = w108 at HO_7 HB GG107 HL226_0 HL227_0 HL229_0 HQ109 HR226_0 HR227_0 HR229_0 HX226_0 HX227_0 HX229_0 hf107_0 hx107_0 hx226_0 hx227_0 hx228_0 hx229_0 hx230_0 hHeld ⊢
        refine pureB (N := some 201) 0 (bm 28 1) ?_
        refine pureB (N := some 202) 1 (bm 28 3) ?_
        refine pureB (N := some 203) 2 (bm 28 7) ?_
        refine pureB (N := some 205) 4 (bm 28 23) ?_
        refine pureB (N := some 206) 5 (bm 28 55) ?_
        refine pureB (N := some 207) 6 (bm 28 119) ?_
        refine pureB (N := some 208) 7 (bm 28 247) ?_
        refine pureB (N := some 210) 9 (bm 28 759) ?_
        refine pureB (N := some 213) 12 (bm 28 4855) ?_
        refine pureB (N := some 214) 13 (bm 28 13047) ?_
        refine pureB (N := some 215) 14 (bm 28 29431) ?_
        refine pureB (N := some 216) 15 (bm 28 62199) ?_
        refine pureB (N := some 217) 16 (bm 28 127735) ?_
        refine pureB (N := some 218) 17 (bm 28 258807) ?_
        refine pureB (N := some 220) 19 (bm 28 783095) ?_
        refine pureB (N := some 225) 24 (bm 28 17560311) ?_
        refine takeB5 (N := some 204) 3 (bm 28 17560319) hHeld ?_
        refine takeB5 (N := some 209) 8 (bm 28 17560575) hHeld ?_
        refine pureB (N := some 211) 10 (bm 28 17561599) ?_
        refine takeB5 (N := some 212) 11 (bm 28 17563647) hHeld ?_
        refine takeB5 (N := some 219) 18 (bm 28 17825791) hHeld ?_
        refine pureB (N := some 221) 20 (bm 28 18874367) ?_
        refine takeB5 (N := some 222) 21 (bm 28 20971519) hHeld ?_
        refine pureB (N := some 223) 22 (bm 28 25165823) ?_
        refine pureB (N := some 224) 23 (bm 28 33554431) ?_
        refine pureB (N := some 226) 25 (bm 28 67108863) ?_
        refine pureB (N := some 227) 26 (bm 28 134217727) ?_
        refine last_ (i := 27) (N := none) (bm 28 268435455) rfl rfl (one_of HT_.out (by kernel_rfl)) (by decide) (fun K hK => ?_)
        refine skip_ (w1 := ?_) (by rfl) rfl ?_ ?_
        rotate_left
        ·
         go_simp
         rfl
        refine hK.out _ _ ?_
        clear hK K
        refine done_ (done_of HT_.out (by kernel_rfl)) ?_
        try go_wp2
        (try simp only [← hl7_7])
        first | go_roundg k7 | (subst hji3; go_roundg k7)
        case measure => have := HK1.out; have := HK2.out; have := HJ58.out; have := HK4.out; have := HK5.out; have := HJ92.out; have := HK7.out; omega
        case rel => exact ⟨(y233), (wrap64 (x198_7 + 1)), eqS, (by first | exact H' | (subst_vars; exact H')), ⟨by have := HK1.out; have := HK2.out; have := HJ58.out; have := HK4.out; have := HK5.out; have := HJ92.out; have := HK7.out; omega⟩, ⟨by (try simp only [hl7_1]); (try simp only [hl7_4]); (try simp only [hl7_5]); (try simp only [hl7_7]); (with_reducible repeat (first | apply Kd.S_alloc | apply Kd.S_drewN | apply Kd.S_drew)); exact HQ109.out⟩, ⟨by repeat (first | (with_reducible first | exact HB.out | apply below_alloc | apply pw_below_drewN | apply below_drew1 | refine below_set ?_ GB107.out) | exact HB.out)⟩⟩
def bits_Len64.j0 : Nat → Int → Int → Option (Int)
 | 0, _, _ => none
 | k + 1, x0, x2 => if x0 ≥ 65536 then (if (x0 / 65536) ≥ 256 then (if 0 ≤ (((x0 / 65536) / 256) % 256) then (if (((x0 / 65536) / 256) % 256) < 256 then (some (wrap64 ((wrap64 ((wrap64 (x2 + 16)) + 8)) + (wrap64 (bt lenT (((x0 / 65536) / 256) % 256)))))) else (none)) else (none)) else (if 0 ≤ ((x0 / 65536) % 256) then (if ((x0 / 65536) % 256) < 256 then (some (wrap64 ((wrap64 (x2 + 16)) + (wrap64 (bt lenT ((x0 / 65536) % 256)))))) else (none)) else (none))) else (if x0 ≥ 256 then (if 0 ≤ ((x0 / 256) % 256) then (if ((x0 / 256) % 256) < 256 then (some (wrap64 ((wrap64 (x2 + 8)) + (wrap64 (bt lenT ((x0 / 256) % 256)))))) else (none)) else (none)) else (if 0 ≤ ((x0) % 256) then (if ((x0) % 256) < 256 then (some (wrap64 (x2 + (wrap64 (bt lenT ((x0) % 256)))))) else (none)) else (none)))
def bits_Len64.f (k : Nat) (a0 : Int) : Option (Int) := if a0 ≥ 4294967296 then (bits_Len64.j0 k (a0 / 4294967296) 32) else (bits_Len64.j0 k a0 0)
theorem bits_Len64.calls (k : Nat) (a0 : Int) (r : Int) (w : World) (h : bits_Len64.f k a0 = some r) :
   Calls Tryz.prog 95 #[.int .u64 a0] w fun e w' => e = .returned (.int .i64 r) ∧ Drawn0 w w' := by
 have H := h; unfold bits_Len64.f at H
 clear h
 have HC2 := am H
 clear H
 go_enter Tryz.func95, Tryz.ntmps95
 go_upto_if 4 with (fail)
 go_cut [0, 2] (fun v0 v2 wc => ∃ (kq : Nat) (x0_1 : Int) (x2_1 : Int), v0 = .int .u64 x0_1 ∧ v2 = .int .i64 x2_1 ∧ Aside0 (bits_Len64.j0 kq x0_1 x2_1 = some r) ∧ Aside0 (kq ≤ k) ∧ Drawn0 w wc)
 case first =>
   have H := HC2.out
   clear HC2
   by_cases c3 : a0 ≥ 4294967296
   case neg =>
     rw [if_neg c3] at H
     have c3b0 : decide (4294967296 ≤ a0) = false := decide_eq_false c3
     clear c3
     (first | rw [c3b0] | (simp only [i64_w, i32_w]; rw [c3b0]) | skip)
     have H' := am H
     clear H
     go_wp2
     go_meet
     case rel => exact ⟨_, (a0), (0), eqS, eqS, (by first | exact H' | (subst_vars; exact H')), ⟨by first | omega | exact Nat.le_refl _⟩, by repeat (first | exact Drawn0.refl _ | apply Drawn0.step)⟩
   rw [if_pos c3] at H
   have c3b0 : decide (4294967296 ≤ a0) = true := decide_eq_true c3
   clear c3
   (first | rw [c3b0] | (simp only [i64_w, i32_w]; rw [c3b0]) | skip)
   have H' := am H
   clear H
   go_wp2
   go_meet
   case rel => exact ⟨_, (a0 / 4294967296), (32), eqS, eqS, (by first | exact H' | (subst_vars; exact H')), ⟨by first | omega | exact Nat.le_refl _⟩, by repeat (first | exact Drawn0.refl _ | apply Drawn0.step)⟩
 case rest =>
   clear HC2
   obtain ⟨kq, x0_1, x2_1, rfl, rfl, HA, HJ1, ⟨mc1, rfl⟩⟩ := hcut
   rcases kq with _ | kj1
   · exact absurd HA.out (by simp [bits_Len64.j0])
   have H := HA.out
   clear HA
   simp only [bits_Len64.j0] at H
   by_cases c4 : x0_1 ≥ 65536
   case neg =>
     rw [if_neg c4] at H
     have c4b0 : decide (65536 ≤ x0_1) = false := decide_eq_false c4
     clear c4
     by_cases c14 : x0_1 ≥ 256
     case neg =>
       rw [if_neg c14] at H
       have c14b0 : decide (256 ≤ x0_1) = false := decide_eq_false c14
       clear c14
       obtain ⟨ji19, hji19⟩ : ∃ j_ : Int, ((x0_1) % 256) = j_ := ⟨_, rfl⟩
       replace H : (if 0 ≤ (ji19) then (if (ji19) < 256 then (some (wrap64 (x2_1 + (wrap64 (bt lenT (ji19)))))) else (none)) else (none)) = some r := by first | (rw [hji19] at H; exact H) | (simp only [hji19] at H ⊢; exact H)
       by_cases c20 : 0 ≤ (ji19)
       case neg => exact nn c20 H
       rw [if_pos c20] at H
       have c20b0 : decide (0 ≤ (ji19)) = true := decide_eq_true c20
       clear c20
       by_cases c21 : (ji19) < 256
       case neg => exact nn c21 H
       rw [if_pos c21] at H
       have c21b0 : decide ((ji19) < 256) = true := decide_eq_true c21
       clear c21
       obtain rfl := Option.some.inj H
       have p22 : 0 ≤ ((ji19) : Int) := of_decide_eq_true as_
       have q22 : (ji19) < (256 : Int) := of_decide_eq_true as_
       have hx22 := bt_at lenT (ji19)
       replace p22 := eq_true p22
       replace q22 := eq_true q22
       go_wp2
       go_ret
       exact ⟨by first | rfl | (simp; done) | (simp only [← hji19] <;> (first | rfl | simp)) | (simp [*]; done), by repeat (first | exact Drawn0.refl _ | apply Drawn0.step)⟩
     rw [if_pos c14] at H
     have c14b0 : decide (256 ≤ x0_1) = true := decide_eq_true c14
     clear c14
     obtain ⟨ji15, hji15⟩ : ∃ j_ : Int, ((x0_1 / 256) % 256) = j_ := ⟨_, rfl⟩
     replace H : (if 0 ≤ (ji15) then (if (ji15) < 256 then (some (wrap64 ((wrap64 (x2_1 + 8)) + (wrap64 (bt lenT (ji15)))))) else (none)) else (none)) = some r := by first | (rw [hji15] at H; exact H) | (simp only [hji15] at H ⊢; exact H)
     by_cases c16 : 0 ≤ (ji15)
     case neg => exact nn c16 H
     rw [if_pos c16] at H
     have c16b0 : decide (0 ≤ (ji15)) = true := decide_eq_true c16
     clear c16
     by_cases c17 : (ji15) < 256
     case neg => exact nn c17 H
     rw [if_pos c17] at H
     have c17b0 : decide ((ji15) < 256) = true := decide_eq_true c17
     clear c17
     obtain rfl := Option.some.inj H
     have p18 : 0 ≤ ((ji15) : Int) := of_decide_eq_true as_
     have q18 : (ji15) < (256 : Int) := of_decide_eq_true as_
     have hx18 := bt_at lenT (ji15)
     replace p18 := eq_true p18
     replace q18 := eq_true q18
     go_wp2
     go_ret
     exact ⟨by first | rfl | (simp; done) | (simp only [← hji15] <;> (first | rfl | simp)) | (simp [*]; done), by repeat (first | exact Drawn0.refl _ | apply Drawn0.step)⟩
   rw [if_pos c4] at H
   have c4b0 : decide (65536 ≤ x0_1) = true := decide_eq_true c4
   clear c4
   by_cases c5 : (x0_1 / 65536) ≥ 256
   case neg =>
     rw [if_neg c5] at H
     have c5b0 : decide (256 ≤ (x0_1 / 65536)) = false := decide_eq_false c5
     clear c5
     obtain ⟨ji10, hji10⟩ : ∃ j_ : Int, ((x0_1 / 65536) % 256) = j_ := ⟨_, rfl⟩
     replace H : (if 0 ≤ (ji10) then (if (ji10) < 256 then (some (wrap64 ((wrap64 (x2_1 + 16)) + (wrap64 (bt lenT (ji10)))))) else (none)) else (none)) = some r := by first | (rw [hji10] at H; exact H) | (simp only [hji10] at H ⊢; exact H)
     by_cases c11 : 0 ≤ (ji10)
     case neg => exact nn c11 H
     rw [if_pos c11] at H
     have c11b0 : decide (0 ≤ (ji10)) = true := decide_eq_true c11
     clear c11
     by_cases c12 : (ji10) < 256
     case neg => exact nn c12 H
     rw [if_pos c12] at H
     have c12b0 : decide ((ji10) < 256) = true := decide_eq_true c12
     clear c12
     obtain rfl := Option.some.inj H
     have p13 : 0 ≤ ((ji10) : Int) := of_decide_eq_true as_
     have q13 : (ji10) < (256 : Int) := of_decide_eq_true as_
     have hx13 := bt_at lenT (ji10)
     replace p13 := eq_true p13
     replace q13 := eq_true q13
     go_wp2
     go_ret
     exact ⟨by first | rfl | (simp; done) | (simp only [← hji10] <;> (first | rfl | simp)) | (simp [*]; done), by repeat (first | exact Drawn0.refl _ | apply Drawn0.step)⟩
   rw [if_pos c5] at H
   have c5b0 : decide (256 ≤ (x0_1 / 65536)) = true := decide_eq_true c5
   clear c5
   obtain ⟨ji6, hji6⟩ : ∃ j_ : Int, (((x0_1 / 65536) / 256) % 256) = j_ := ⟨_, rfl⟩
   replace H : (if 0 ≤ (ji6) then (if (ji6) < 256 then (some (wrap64 ((wrap64 ((wrap64 (x2_1 + 16)) + 8)) + (wrap64 (bt lenT (ji6)))))) else (none)) else (none)) = some r := by first | (rw [hji6] at H; exact H) | (simp only [hji6] at H ⊢; exact H)
   by_cases c7 : 0 ≤ (ji6)
   case neg => exact nn c7 H
   rw [if_pos c7] at H
   have c7b0 : decide (0 ≤ (ji6)) = true := decide_eq_true c7
   clear c7
   by_cases c8 : (ji6) < 256
   case neg => exact nn c8 H
   rw [if_pos c8] at H
   have c8b0 : decide ((ji6) < 256) = true := decide_eq_true c8
   clear c8
   obtain rfl := Option.some.inj H
   have p9 : 0 ≤ ((ji6) : Int) := of_decide_eq_true as_
   have q9 : (ji6) < (256 : Int) := of_decide_eq_true as_
   have hx9 := bt_at lenT (ji6)
   replace p9 := eq_true p9
   replace q9 := eq_true q9
   go_wp2
   go_ret
   exact ⟨by first | rfl | (simp; done) | (simp only [← hji6] <;> (first | rfl | simp)) | (simp [*]; done), by repeat (first | exact Drawn0.refl _ | apply Drawn0.step)⟩
def bits_Len.f (k : Nat) (a0 : Int) : Option (Int) := (bits_Len64.f k a0).bind fun t241 => (some t241)
theorem bits_Len.calls (k : Nat) (a0 : Int) (r : Int) (w : World) (h : bits_Len.f k a0 = some r) :
   Calls Tryz.prog 65 #[.int .u64 a0] w fun e w' => e = .returned (.int .i64 r) ∧ Drawn0 w w' := by
 have H := h; unfold bits_Len.f at H
 clear h
 obtain ⟨t241, A20, H⟩ := Option.bind_eq_some_iff.mp H
 replace H : (some t241) = some r := H
 have A2 := am A20
 clear A20
 obtain rfl := Option.some.inj H
 go_enter Tryz.func65, Tryz.ntmps65
 go_wp2_with (first | ((with_reducible refine gate_callee (f := 95) rfl ?_); refine goesA (some 7) Tryz.func95 #[.int .u64 a0] ?_; (with_reducible refine (bits_Len64.calls k a0 t241 _ A2.out).mono ?_); rintro e w' ⟨rfl, ⟨nd, rfl⟩⟩; refine ⟨_, rfl, ?_⟩))
 go_ret
 exact ⟨eqS, dR⟩
def zigguratref14_SameAll.l0 : Nat → List (S52) → List (S52) → Int → Option (Bool)
 | 0, _, _, _ => none
 | k + 1, x0, x1, x5 => if x5 < (x0.length : Int) then (if 0 ≤ x5 then (if x5 < (x1.length : Int) then ((zigguratref14_Same.f k ((rd_T52 x0 x5).f0) ((rd_T52 x1 x5).f0)).bind fun t245 => (if t245 = true then (if ((rd_T52 x0 x5).f1) = ((rd_T52 x1 x5).f1) then (zigguratref14_SameAll.l0 k x0 x1 (wrap64 (x5 + 1))) else (some false)) else (some false))) else (none)) else (none)) else (some true)
def zigguratref14_SameAll.f (k : Nat) (l0 : List (S52)) (l1 : List (S52)) : Option (Bool) := if (l0.length : Int) = (l1.length : Int) then (zigguratref14_SameAll.l0 k l0 l1 0) else (some false)
theorem zigguratref14_SameAll.calls (k : Nat) (A0 : Option Addr) (c0 : Nat) (l0 : List (S52)) (A1 : Option Addr) (c1 : Nat) (l1 : List (S52)) (r : Bool) (w : World) (hr0 : Kd.C k52 w A0 l0.length l0) (hc0 : l0.length ≤ c0) (hr1 : Kd.C k52 w A1 l1.length l1) (hc1 : l1.length ≤ c1) (h : zigguratref14_SameAll.f k l0 l1 = some r) :
   Calls Tryz.prog 18 #[.slice A0 l0.length c0, .slice A1 l1.length c1] w fun e w' => e = .returned (.bool r) ∧ Drawn0 w w' := by
 have HR0 := am hr0
 have HC0 := am hc0
 clear hr0 hc0
 have HR1 := am hr1
 have HC1 := am hc1
 clear hr1 hc1
 have H := h; unfold zigguratref14_SameAll.f at H
 clear h
 by_cases c3 : (l0.length : Int) = (l1.length : Int)
 case neg =>
   rw [if_neg c3] at H
   have c3b0 : ((l0.length : Int) == (l1.length : Int)) = false := beq_eq_false_iff_ne.mpr c3
   have c3b1 : ((l0.length : Int) != (l1.length : Int)) = true := bne_iff_ne.mpr c3
   have c3b2 : (l0.length == l1.length) = false := by first | simpa using c3 | (simp at c3 ⊢; omega)
   obtain rfl := Option.some.inj H
   go_enter Tryz.func18, Tryz.ntmps18
   go_wp2
   repeat (go_quiet (fail); try go_wp2)
   go_ret
   exact ⟨eqS, dR⟩
 rw [if_pos c3] at H
 have c3b0 : ((l0.length : Int) == (l1.length : Int)) = true := beq_iff_eq.mpr c3
 have c3b1 : ((l0.length : Int) != (l1.length : Int)) = false := bne_eq_false_iff_eq.mpr c3
 have c3b2 : (l0.length == l1.length) = true := by first | simpa using c3 | (simp at c3 ⊢; omega)
 clear c3
 have H' := am H
 clear H
 go_enter Tryz.func18, Tryz.ntmps18
 go_wp2
 repeat (go_quiet (fail); try go_wp2)
 go_loopg [5] k (fun kq v5 w' => ∃ (x5_1 : Int), v5 = .int .i64 x5_1 ∧ Aside0 (zigguratref14_SameAll.l0 kq l0 l1 x5_1 = some r) ∧ Aside0 (kq ≤ k) ∧ Drawn0 w w')
 case atStart => exact ⟨(0), eqS, H', ⟨Nat.le_refl _⟩, by repeat (first | exact Drawn0.refl _ | apply Drawn0.step)⟩
 clear H'
 clear c3b0 c3b1 c3b2
 obtain ⟨x5_1, rfl, HA, HK1, ⟨m1, rfl⟩⟩ := hrel
 rcases gk with _ | k1
 · exact absurd HA.out (by simp [zigguratref14_SameAll.l0])
 have H := HA.out
 clear HA
 simp only [zigguratref14_SameAll.l0] at H
 by_cases c4 : x5_1 < (l0.length : Int)
 case neg =>
   rw [if_neg c4] at H
   have c4b0 : decide (x5_1 < (l0.length : Int)) = false := decide_eq_false c4
   clear c4
   obtain rfl := Option.some.inj H
   go_wp2
   repeat (go_quiet (fail); try go_wp2)
   go_ret
   exact ⟨eqS, dR⟩
 rw [if_pos c4] at H
 have c4b0 : decide (x5_1 < (l0.length : Int)) = true := decide_eq_true c4
 clear c4
 by_cases c5 : 0 ≤ x5_1
 case neg => exact nn c5 H
 rw [if_pos c5] at H
 have c5b0 : decide (0 ≤ x5_1) = true := decide_eq_true c5
 clear c5
 by_cases c6 : x5_1 < (l1.length : Int)
 case neg => exact nn c6 H
 rw [if_pos c6] at H
 have c6b0 : decide (x5_1 < (l1.length : Int)) = true := decide_eq_true c6
 clear c6
 obtain ⟨t245, A70, H⟩ := Option.bind_eq_some_iff.mp H
 try dsimp only at H
 have A7 := am A70
 clear A70
 by_cases c8 : t245 = true
 case neg =>
   replace c8 := Bool.eq_false_iff.mpr c8
   subst c8
   have H1 : (some false) = some r := by rw [if_neg (show ¬ (false = true) by decide)] at H; exact H
   clear H
   have H := H1
   clear H1
   obtain rfl := Option.some.inj H
   have p243 : 0 ≤ (x5_1 : Int) := of_decide_eq_true as_
   have q243 : x5_1 < (l0.length : Int) := of_decide_eq_true as_
   obtain ⟨ad243, A243_0, c243_0, e243, hx243_0, hx243_1, hl243_0, hi243_0⟩ := at_T52 HR0.out x5_1 p243 q243
   cases e243
   have HR243_0 := am hi243_0
   have HC243_0 := am hl243_0
   clear hi243_0 hl243_0
   replace p243 := eq_true p243
   replace q243 := eq_true q243
   have p244 : 0 ≤ (x5_1 : Int) := of_decide_eq_true as_
   have q244 : x5_1 < (l1.length : Int) := of_decide_eq_true as_
   obtain ⟨ad244, A244_0, c244_0, e244, hx244_0, hx244_1, hl244_0, hi244_0⟩ := at_T52 HR1.out x5_1 p244 q244
   cases e244
   have HR244_0 := am hi244_0
   have HC244_0 := am hl244_0
   clear hi244_0 hl244_0
   replace p244 := eq_true p244
   replace q244 := eq_true q244
   go_wp2_with (first | (go_at_call 9; (with_reducible refine (zigguratref14_Same.calls k1 _ _ ((rd_T52 l0 x5_1).f0) _ _ ((rd_T52 l1 x5_1).f0) false _ ?side1 ?side2 ?side3 ?side4 A7.out).mono ?_); (case side1 => exact kC2 (HR243_0.out)); (case side2 => exact HC243_0.out); (case side3 => exact kC2 (HR244_0.out)); (case side4 => exact HC244_0.out); rintro e w' ⟨rfl, ⟨nd, rfl⟩⟩; (try first | exact ⟨rfl, _, World.drewN_drewN _ _ _⟩ | exact ⟨rfl, _, Eq.trans (World.drewN_drewN _ _ _) (congrArg (World.drewN _) (Nat.add_assoc _ _ _))⟩)))
   repeat (go_quiet (first | (go_at_call 9; (with_reducible refine (zigguratref14_Same.calls k1 _ _ ((rd_T52 l0 x5_1).f0) _ _ ((rd_T52 l1 x5_1).f0) false _ ?side1 ?side2 ?side3 ?side4 A7.out).mono ?_); (case side1 => exact kC2 (HR243_0.out)); (case side2 => exact HC243_0.out); (case side3 => exact kC2 (HR244_0.out)); (case side4 => exact HC244_0.out); rintro e w' ⟨rfl, ⟨nd, rfl⟩⟩; (try first | exact ⟨rfl, _, World.drewN_drewN _ _ _⟩ | exact ⟨rfl, _, Eq.trans (World.drewN_drewN _ _ _) (congrArg (World.drewN _) (Nat.add_assoc _ _ _))⟩))); try go_wp2_with (first | (go_at_call 9; (with_reducible refine (zigguratref14_Same.calls k1 _ _ ((rd_T52 l0 x5_1).f0) _ _ ((rd_T52 l1 x5_1).f0) false _ ?side1 ?side2 ?side3 ?side4 A7.out).mono ?_); (case side1 => exact kC2 (HR243_0.out)); (case side2 => exact HC243_0.out); (case side3 => exact kC2 (HR244_0.out)); (case side4 => exact HC244_0.out); rintro e w' ⟨rfl, ⟨nd, rfl⟩⟩; (try first | exact ⟨rfl, _, World.drewN_drewN _ _ _⟩ | exact ⟨rfl, _, Eq.trans (World.drewN_drewN _ _ _) (congrArg (World.drewN _) (Nat.add_assoc _ _ _))⟩))))
   go_ret
   exact ⟨eqS, dR⟩
 subst c8
 have H1 : (if ((rd_T52 l0 x5_1).f1) = ((rd_T52 l1 x5_1).f1) then (zigguratref14_SameAll.l0 k1 l0 l1 (wrap64 (x5_1 + 1))) else (some false)) = some r := by rw [if_pos rfl] at H; exact H
 clear H
 have H := H1
 clear H1
 by_cases c9 : ((rd_T52 l0 x5_1).f1) = ((rd_T52 l1 x5_1).f1)
 case neg =>
   rw [if_neg c9] at H
   have c9b0 : (((rd_T52 l0 x5_1).f1) == ((rd_T52 l1 x5_1).f1)) = false := beq_eq_false_iff_ne.mpr c9
   have c9b1 : (((rd_T52 l0 x5_1).f1) != ((rd_T52 l1 x5_1).f1)) = true := bne_iff_ne.mpr c9
   obtain rfl := Option.some.inj H
   have p243 : 0 ≤ (x5_1 : Int) := of_decide_eq_true as_
   have q243 : x5_1 < (l0.length : Int) := of_decide_eq_true as_
   obtain ⟨ad243, A243_0, c243_0, e243, hx243_0, hx243_1, hl243_0, hi243_0⟩ := at_T52 HR0.out x5_1 p243 q243
   cases e243
   have HR243_0 := am hi243_0
   have HC243_0 := am hl243_0
   clear hi243_0 hl243_0
   replace p243 := eq_true p243
   replace q243 := eq_true q243
   have p244 : 0 ≤ (x5_1 : Int) := of_decide_eq_true as_
   have q244 : x5_1 < (l1.length : Int) := of_decide_eq_true as_
   obtain ⟨ad244, A244_0, c244_0, e244, hx244_0, hx244_1, hl244_0, hi244_0⟩ := at_T52 HR1.out x5_1 p244 q244
   cases e244
   have HR244_0 := am hi244_0
   have HC244_0 := am hl244_0
   clear hi244_0 hl244_0
   replace p244 := eq_true p244
   replace q244 := eq_true q244
   go_wp2_with (first | (go_at_call 9; (with_reducible refine (zigguratref14_Same.calls k1 _ _ ((rd_T52 l0 x5_1).f0) _ _ ((rd_T52 l1 x5_1).f0) true _ ?side1 ?side2 ?side3 ?side4 A7.out).mono ?_); (case side1 => exact kC2 (HR243_0.out)); (case side2 => exact HC243_0.out); (case side3 => exact kC2 (HR244_0.out)); (case side4 => exact HC244_0.out); rintro e w' ⟨rfl, ⟨nd, rfl⟩⟩; (try first | exact ⟨rfl, _, World.drewN_drewN _ _ _⟩ | exact ⟨rfl, _, Eq.trans (World.drewN_drewN _ _ _) (congrArg (World.drewN _) (Nat.add_assoc _ _ _))⟩); have p246 : 0 ≤ (x5_1 : Int) := of_decide_eq_true as_; have q246 : x5_1 < (l0.length : Int) := of_decide_eq_true as_; obtain ⟨ad246, A246_0, c246_0, e246, hx246_0, hx246_1, hl246_0, hi246_0⟩ := at_T52 HR0.out x5_1 p246 q246; obtain rfl : ad243 = ad246 := (by injection e246); have HR246_0 := am hi246_0; have HC246_0 := am hl246_0; clear hi246_0 hl246_0; replace p246 := eq_true p246; replace q246 := eq_true q246; have ea_ := Option.some.inj (hx243_0.symm.trans hx246_0); injection ea_ with ea_ en_ ec_; subst ea_; subst ec_; clear en_; have p247 : 0 ≤ (x5_1 : Int) := of_decide_eq_true as_; have q247 : x5_1 < (l1.length : Int) := of_decide_eq_true as_; obtain ⟨ad247, A247_0, c247_0, e247, hx247_0, hx247_1, hl247_0, hi247_0⟩ := at_T52 HR1.out x5_1 p247 q247; obtain rfl : ad244 = ad247 := (by injection e247); have HR247_0 := am hi247_0; have HC247_0 := am hl247_0; clear hi247_0 hl247_0; replace p247 := eq_true p247; replace q247 := eq_true q247; have ea_ := Option.some.inj (hx244_0.symm.trans hx247_0); injection ea_ with ea_ en_ ec_; subst ea_; subst ec_; clear en_))
   repeat (go_quiet (first | (go_at_call 9; (with_reducible refine (zigguratref14_Same.calls k1 _ _ ((rd_T52 l0 x5_1).f0) _ _ ((rd_T52 l1 x5_1).f0) true _ ?side1 ?side2 ?side3 ?side4 A7.out).mono ?_); (case side1 => exact kC2 (HR243_0.out)); (case side2 => exact HC243_0.out); (case side3 => exact kC2 (HR244_0.out)); (case side4 => exact HC244_0.out); rintro e w' ⟨rfl, ⟨nd, rfl⟩⟩; (try first | exact ⟨rfl, _, World.drewN_drewN _ _ _⟩ | exact ⟨rfl, _, Eq.trans (World.drewN_drewN _ _ _) (congrArg (World.drewN _) (Nat.add_assoc _ _ _))⟩); have p246 : 0 ≤ (x5_1 : Int) := of_decide_eq_true as_; have q246 : x5_1 < (l0.length : Int) := of_decide_eq_true as_; obtain ⟨ad246, A246_0, c246_0, e246, hx246_0, hx246_1, hl246_0, hi246_0⟩ := at_T52 HR0.out x5_1 p246 q246; obtain rfl : ad243 = ad246 := (by injection e246); have HR246_0 := am hi246_0; have HC246_0 := am hl246_0; clear hi246_0 hl246_0; replace p246 := eq_true p246; replace q246 := eq_true q246; have ea_ := Option.some.inj (hx243_0.symm.trans hx246_0); injection ea_ with ea_ en_ ec_; subst ea_; subst ec_; clear en_; have p247 : 0 ≤ (x5_1 : Int) := of_decide_eq_true as_; have q247 : x5_1 < (l1.length : Int) := of_decide_eq_true as_; obtain ⟨ad247, A247_0, c247_0, e247, hx247_0, hx247_1, hl247_0, hi247_0⟩ := at_T52 HR1.out x5_1 p247 q247; obtain rfl : ad244 = ad247 := (by injection e247); have HR247_0 := am hi247_0; have HC247_0 := am hl247_0; clear hi247_0 hl247_0; replace p247 := eq_true p247; replace q247 := eq_true q247; have ea_ := Option.some.inj (hx244_0.symm.trans hx247_0); injection ea_ with ea_ en_ ec_; subst ea_; subst ec_; clear en_)); try go_wp2_with (first | (go_at_call 9; (with_reducible refine (zigguratref14_Same.calls k1 _ _ ((rd_T52 l0 x5_1).f0) _ _ ((rd_T52 l1 x5_1).f0) true _ ?side1 ?side2 ?side3 ?side4 A7.out).mono ?_); (case side1 => exact kC2 (HR243_0.out)); (case side2 => exact HC243_0.out); (case side3 => exact kC2 (HR244_0.out)); (case side4 => exact HC244_0.out); rintro e w' ⟨rfl, ⟨nd, rfl⟩⟩; (try first | exact ⟨rfl, _, World.drewN_drewN _ _ _⟩ | exact ⟨rfl, _, Eq.trans (World.drewN_drewN _ _ _) (congrArg (World.drewN _) (Nat.add_assoc _ _ _))⟩); have p246 : 0 ≤ (x5_1 : Int) := of_decide_eq_true as_; have q246 : x5_1 < (l0.length : Int) := of_decide_eq_true as_; obtain ⟨ad246, A246_0, c246_0, e246, hx246_0, hx246_1, hl246_0, hi246_0⟩ := at_T52 HR0.out x5_1 p246 q246; obtain rfl : ad243 = ad246 := (by injection e246); have HR246_0 := am hi246_0; have HC246_0 := am hl246_0; clear hi246_0 hl246_0; replace p246 := eq_true p246; replace q246 := eq_true q246; have ea_ := Option.some.inj (hx243_0.symm.trans hx246_0); injection ea_ with ea_ en_ ec_; subst ea_; subst ec_; clear en_; have p247 : 0 ≤ (x5_1 : Int) := of_decide_eq_true as_; have q247 : x5_1 < (l1.length : Int) := of_decide_eq_true as_; obtain ⟨ad247, A247_0, c247_0, e247, hx247_0, hx247_1, hl247_0, hi247_0⟩ := at_T52 HR1.out x5_1 p247 q247; obtain rfl : ad244 = ad247 := (by injection e247); have HR247_0 := am hi247_0; have HC247_0 := am hl247_0; clear hi247_0 hl247_0; replace p247 := eq_true p247; replace q247 := eq_true q247; have ea_ := Option.some.inj (hx244_0.symm.trans hx247_0); injection ea_ with ea_ en_ ec_; subst ea_; subst ec_; clear en_)))
   go_ret
   exact ⟨eqS, dR⟩
 rw [if_pos c9] at H
 have c9b0 : (((rd_T52 l0 x5_1).f1) == ((rd_T52 l1 x5_1).f1)) = true := beq_iff_eq.mpr c9
 have c9b1 : (((rd_T52 l0 x5_1).f1) != ((rd_T52 l1 x5_1).f1)) = false := bne_eq_false_iff_eq.mpr c9
 clear c9
 have H' := am H
 clear H
 have p243 : 0 ≤ (x5_1 : Int) := of_decide_eq_true as_
 have q243 : x5_1 < (l0.length : Int) := of_decide_eq_true as_
 obtain ⟨ad243, A243_0, c243_0, e243, hx243_0, hx243_1, hl243_0, hi243_0⟩ := at_T52 HR0.out x5_1 p243 q243
 cases e243
 have HR243_0 := am hi243_0
 have HC243_0 := am hl243_0
 clear hi243_0 hl243_0
 replace p243 := eq_true p243
 replace q243 := eq_true q243
 have p244 : 0 ≤ (x5_1 : Int) := of_decide_eq_true as_
 have q244 : x5_1 < (l1.length : Int) := of_decide_eq_true as_
 obtain ⟨ad244, A244_0, c244_0, e244, hx244_0, hx244_1, hl244_0, hi244_0⟩ := at_T52 HR1.out x5_1 p244 q244
 cases e244
 have HR244_0 := am hi244_0
 have HC244_0 := am hl244_0
 clear hi244_0 hl244_0
 replace p244 := eq_true p244
 replace q244 := eq_true q244
 go_wp2_with (first | (go_at_call 9; (with_reducible refine (zigguratref14_Same.calls k1 _ _ ((rd_T52 l0 x5_1).f0) _ _ ((rd_T52 l1 x5_1).f0) true _ ?side1 ?side2 ?side3 ?side4 A7.out).mono ?_); (case side1 => exact kC2 (HR243_0.out)); (case side2 => exact HC243_0.out); (case side3 => exact kC2 (HR244_0.out)); (case side4 => exact HC244_0.out); rintro e w' ⟨rfl, ⟨nd, rfl⟩⟩; (try first | exact ⟨rfl, _, World.drewN_drewN _ _ _⟩ | exact ⟨rfl, _, Eq.trans (World.drewN_drewN _ _ _) (congrArg (World.drewN _) (Nat.add_assoc _ _ _))⟩); have p246 : 0 ≤ (x5_1 : Int) := of_decide_eq_true as_; have q246 : x5_1 < (l0.length : Int) := of_decide_eq_true as_; obtain ⟨ad246, A246_0, c246_0, e246, hx246_0, hx246_1, hl246_0, hi246_0⟩ := at_T52 HR0.out x5_1 p246 q246; obtain rfl : ad243 = ad246 := (by injection e246); have HR246_0 := am hi246_0; have HC246_0 := am hl246_0; clear hi246_0 hl246_0; replace p246 := eq_true p246; replace q246 := eq_true q246; have ea_ := Option.some.inj (hx243_0.symm.trans hx246_0); injection ea_ with ea_ en_ ec_; subst ea_; subst ec_; clear en_; have p247 : 0 ≤ (x5_1 : Int) := of_decide_eq_true as_; have q247 : x5_1 < (l1.length : Int) := of_decide_eq_true as_; obtain ⟨ad247, A247_0, c247_0, e247, hx247_0, hx247_1, hl247_0, hi247_0⟩ := at_T52 HR1.out x5_1 p247 q247; obtain rfl : ad244 = ad247 := (by injection e247); have HR247_0 := am hi247_0; have HC247_0 := am hl247_0; clear hi247_0 hl247_0; replace p247 := eq_true p247; replace q247 := eq_true q247; have ea_ := Option.some.inj (hx244_0.symm.trans hx247_0); injection ea_ with ea_ en_ ec_; subst ea_; subst ec_; clear en_))
 repeat (go_quiet (first | (go_at_call 9; (with_reducible refine (zigguratref14_Same.calls k1 _ _ ((rd_T52 l0 x5_1).f0) _ _ ((rd_T52 l1 x5_1).f0) true _ ?side1 ?side2 ?side3 ?side4 A7.out).mono ?_); (case side1 => exact kC2 (HR243_0.out)); (case side2 => exact HC243_0.out); (case side3 => exact kC2 (HR244_0.out)); (case side4 => exact HC244_0.out); rintro e w' ⟨rfl, ⟨nd, rfl⟩⟩; (try first | exact ⟨rfl, _, World.drewN_drewN _ _ _⟩ | exact ⟨rfl, _, Eq.trans (World.drewN_drewN _ _ _) (congrArg (World.drewN _) (Nat.add_assoc _ _ _))⟩); have p246 : 0 ≤ (x5_1 : Int) := of_decide_eq_true as_; have q246 : x5_1 < (l0.length : Int) := of_decide_eq_true as_; obtain ⟨ad246, A246_0, c246_0, e246, hx246_0, hx246_1, hl246_0, hi246_0⟩ := at_T52 HR0.out x5_1 p246 q246; obtain rfl : ad243 = ad246 := (by injection e246); have HR246_0 := am hi246_0; have HC246_0 := am hl246_0; clear hi246_0 hl246_0; replace p246 := eq_true p246; replace q246 := eq_true q246; have ea_ := Option.some.inj (hx243_0.symm.trans hx246_0); injection ea_ with ea_ en_ ec_; subst ea_; subst ec_; clear en_; have p247 : 0 ≤ (x5_1 : Int) := of_decide_eq_true as_; have q247 : x5_1 < (l1.length : Int) := of_decide_eq_true as_; obtain ⟨ad247, A247_0, c247_0, e247, hx247_0, hx247_1, hl247_0, hi247_0⟩ := at_T52 HR1.out x5_1 p247 q247; obtain rfl : ad244 = ad247 := (by injection e247); have HR247_0 := am hi247_0; have HC247_0 := am hl247_0; clear hi247_0 hl247_0; replace p247 := eq_true p247; replace q247 := eq_true q247; have ea_ := Option.some.inj (hx244_0.symm.trans hx247_0); injection ea_ with ea_ en_ ec_; subst ea_; subst ec_; clear en_)); try go_wp2_with (first | (go_at_call 9; (with_reducible refine (zigguratref14_Same.calls k1 _ _ ((rd_T52 l0 x5_1).f0) _ _ ((rd_T52 l1 x5_1).f0) true _ ?side1 ?side2 ?side3 ?side4 A7.out).mono ?_); (case side1 => exact kC2 (HR243_0.out)); (case side2 => exact HC243_0.out); (case side3 => exact kC2 (HR244_0.out)); (case side4 => exact HC244_0.out); rintro e w' ⟨rfl, ⟨nd, rfl⟩⟩; (try first | exact ⟨rfl, _, World.drewN_drewN _ _ _⟩ | exact ⟨rfl, _, Eq.trans (World.drewN_drewN _ _ _) (congrArg (World.drewN _) (Nat.add_assoc _ _ _))⟩); have p246 : 0 ≤ (x5_1 : Int) := of_decide_eq_true as_; have q246 : x5_1 < (l0.length : Int) := of_decide_eq_true as_; obtain ⟨ad246, A246_0, c246_0, e246, hx246_0, hx246_1, hl246_0, hi246_0⟩ := at_T52 HR0.out x5_1 p246 q246; obtain rfl : ad243 = ad246 := (by injection e246); have HR246_0 := am hi246_0; have HC246_0 := am hl246_0; clear hi246_0 hl246_0; replace p246 := eq_true p246; replace q246 := eq_true q246; have ea_ := Option.some.inj (hx243_0.symm.trans hx246_0); injection ea_ with ea_ en_ ec_; subst ea_; subst ec_; clear en_; have p247 : 0 ≤ (x5_1 : Int) := of_decide_eq_true as_; have q247 : x5_1 < (l1.length : Int) := of_decide_eq_true as_; obtain ⟨ad247, A247_0, c247_0, e247, hx247_0, hx247_1, hl247_0, hi247_0⟩ := at_T52 HR1.out x5_1 p247 q247; obtain rfl : ad244 = ad247 := (by injection e247); have HR247_0 := am hi247_0; have HC247_0 := am hl247_0; clear hi247_0 hl247_0; replace p247 := eq_true p247; replace q247 := eq_true q247; have ea_ := Option.some.inj (hx244_0.symm.trans hx247_0); injection ea_ with ea_ en_ ec_; subst ea_; subst ec_; clear en_)))
 go_roundg k1
 case measure => have := HK1.out; omega
 case rel => exact ⟨(wrap64 (x5_1 + 1)), eqS, (by first | exact H' | (subst_vars; exact H')), ⟨by have := HK1.out; omega⟩, by repeat (first | exact Drawn0.refl _ | apply Drawn0.step)⟩
mutual
def modp_Prime.j0 : Nat → Int → Bool → Option (Bool)
 | 0, _, _ => none
 | k + 1, x0, x18 => if x18 = true then (some false) else (modp_Prime.l0 k x0 3)
def modp_Prime.l0 : Nat → Int → Int → Option (Bool)
 | 0, _, _ => none
 | k + 1, x0, x3 => if ((x3 * x3) % 4294967296) ≤ x0 then (if x3 = 0 then (none) else (if (Int.tmod x0 x3) = 0 then (some false) else (modp_Prime.l0 k x0 ((x3 + 2) % 4294967296)))) else (some true)
end
def modp_Prime.f (k : Nat) (a0 : Int) : Option (Bool) := if a0 < 2 then (modp_Prime.j0 k a0 true) else (if a0 > 65521 then (modp_Prime.j0 k a0 true) else (if a0 > 2 then (modp_Prime.j0 k a0 ((Int.tmod a0 2) == 0)) else (modp_Prime.j0 k a0 false)))
theorem modp_Prime.calls (k : Nat) (a0 : Int) (r : Bool) (w : World) (h : modp_Prime.f k a0 = some r) :
   Calls Tryz.prog 20 #[.int .u32 a0] w fun e w' => e = .returned (.bool r) ∧ Drawn0 w w' := by
 have H := h; unfold modp_Prime.f at H
 clear h
 have HC2 := am H
 clear H
 go_enter Tryz.func20, Tryz.ntmps20
 go_upto_region 1 with (fail)
 go_cut [18] (fun v18 wc => ∃ (kq : Nat) (x18_1 : Bool), v18 = .bool x18_1 ∧ Aside0 (modp_Prime.j0 kq a0 x18_1 = some r) ∧ Aside0 (kq ≤ k) ∧ Drawn0 w wc)
 case first =>
   have H := HC2.out
   clear HC2
   by_cases c3 : a0 < 2
   · rw [if_pos c3] at H
     have c3b0 : decide (a0 < 2) = true := decide_eq_true c3
     clear c3
     (first | rw [c3b0] | (simp only [i64_w, i32_w]; rw [c3b0]) | skip)
     have H' := am H
     clear H
     go_wp2
     go_meet
     case rel => exact ⟨_, (true), eqS, (by first | exact H' | (subst_vars; exact H')), ⟨by first | omega | exact Nat.le_refl _⟩, by repeat (first | exact Drawn0.refl _ | apply Drawn0.step)⟩
   rw [if_neg c3] at H
   have c3b0 : decide (a0 < 2) = false := decide_eq_false c3
   clear c3
   (first | rw [c3b0] | (simp only [i64_w, i32_w]; rw [c3b0]) | skip)
   by_cases c4 : a0 > 65521
   · rw [if_pos c4] at H
     have c4b0 : decide (65521 < a0) = true := decide_eq_true c4
     clear c4
     have H' := am H
     clear H
     go_wp2
     go_meet
     case rel => exact ⟨_, (true), eqS, (by first | exact H' | (subst_vars; exact H')), ⟨by first | omega | exact Nat.le_refl _⟩, by repeat (first | exact Drawn0.refl _ | apply Drawn0.step)⟩
   rw [if_neg c4] at H
   have c4b0 : decide (65521 < a0) = false := decide_eq_false c4
   clear c4
   by_cases c5 : a0 > 2
   case neg =>
     rw [if_neg c5] at H
     have c5b0 : decide (2 < a0) = false := decide_eq_false c5
     clear c5
     have H' := am H
     clear H
     go_wp2
     go_meet
     case rel => exact ⟨_, (false), eqS, (by first | exact H' | (subst_vars; exact H')), ⟨by first | omega | exact Nat.le_refl _⟩, by repeat (first | exact Drawn0.refl _ | apply Drawn0.step)⟩
   rw [if_pos c5] at H
   have c5b0 : decide (2 < a0) = true := decide_eq_true c5
   clear c5
   have H' := am H
   clear H
   go_wp2
   go_meet
   case rel => exact ⟨_, (((Int.tmod a0 2) == 0)), eqS, (by first | exact H' | (subst_vars; exact H')), ⟨by first | omega | exact Nat.le_refl _⟩, by repeat (first | exact Drawn0.refl _ | apply Drawn0.step)⟩
 case rest =>
   clear HC2
   obtain ⟨kq, x18_1, rfl, HA, HJ1, ⟨mc1, rfl⟩⟩ := hcut
   rcases kq with _ | kj1
   · exact absurd HA.out (by simp [modp_Prime.j0])
   have H := HA.out
   clear HA
   simp only [modp_Prime.j0] at H
   by_cases c6 : x18_1 = true
   · subst c6
     have H1 : (some false) = some r := by rw [if_pos rfl] at H; exact H
     clear H
     have H := H1
     clear H1
     obtain rfl := Option.some.inj H
     go_wp2
     go_ret
     exact ⟨eqS, dR⟩
   replace c6 := Bool.eq_false_iff.mpr c6
   subst c6
   have H1 : (modp_Prime.l0 kj1 a0 3) = some r := by rw [if_neg (show ¬ (false = true) by decide)] at H; exact H
   clear H
   have H := H1
   clear H1
   have H' := am H
   clear H
   go_wp2
   go_loopg [3] kj1 (fun kq v3 w' => ∃ (x3_2 : Int), v3 = .int .u32 x3_2 ∧ Aside0 (modp_Prime.l0 kq a0 x3_2 = some r) ∧ Aside0 (kq ≤ kj1) ∧ Drawn0 w w')
   case atStart => exact ⟨(3), eqS, H', ⟨Nat.le_refl _⟩, by repeat (first | exact Drawn0.refl _ | apply Drawn0.step)⟩
   clear H'
   obtain ⟨x3_2, rfl, HA, HK2, ⟨m2, rfl⟩⟩ := hrel
   rcases gk with _ | k2
   · exact absurd HA.out (by simp [modp_Prime.l0])
   have H := HA.out
   clear HA
   simp only [modp_Prime.l0] at H
   by_cases c7 : ((x3_2 * x3_2) % 4294967296) ≤ a0
   case neg =>
     rw [if_neg c7] at H
     have c7b0 : decide (((x3_2 * x3_2) % 4294967296) ≤ a0) = false := decide_eq_false c7
     clear c7
     obtain rfl := Option.some.inj H
     go_wp2
     go_ret
     exact ⟨eqS, dR⟩
   rw [if_pos c7] at H
   have c7b0 : decide (((x3_2 * x3_2) % 4294967296) ≤ a0) = true := decide_eq_true c7
   clear c7
   by_cases c8 : x3_2 = 0
   · rw [if_pos c8] at H
     exact absurd H (by simp)
   rw [if_neg c8] at H
   have c8b0 : (x3_2 == 0) = false := beq_eq_false_iff_ne.mpr c8
   have c8b1 : (x3_2 != 0) = true := bne_iff_ne.mpr c8
   by_cases c9 : (Int.tmod a0 x3_2) = 0
   · rw [if_pos c9] at H
     have c9b0 : ((Int.tmod a0 x3_2) == 0) = true := beq_iff_eq.mpr c9
     have c9b1 : ((Int.tmod a0 x3_2) != 0) = false := bne_eq_false_iff_eq.mpr c9
     clear c9
     obtain rfl := Option.some.inj H
     go_wp2
     go_ret
     exact ⟨eqS, dR⟩
   rw [if_neg c9] at H
   have c9b0 : ((Int.tmod a0 x3_2) == 0) = false := beq_eq_false_iff_ne.mpr c9
   have c9b1 : ((Int.tmod a0 x3_2) != 0) = true := bne_iff_ne.mpr c9
   have H' := am H
   clear H
   go_wp2
   go_roundg k2
   case measure => have := HJ1.out; have := HK2.out; omega
   case rel => exact ⟨((x3_2 + 2) % 4294967296), eqS, (by first | exact H' | (subst_vars; exact H')), ⟨by have := HJ1.out; have := HK2.out; omega⟩, by repeat (first | exact Drawn0.refl _ | apply Drawn0.step)⟩
def modp_Right.l0 : Nat → List Int → Int → List Int → Int → Int → Option (Bool)
 | 0, _, _, _, _, _ => none
 | k + 1, x0, x1, x7, x8, x9 => if x9 < x8 then (if 0 ≤ x9 then (if x9 < (x7.length : Int) then (if (rd x7 x9) ≥ x1 then (some false) else (modp_Right.l0 k x0 x1 x7 x8 (wrap64 (x9 + 1)))) else (none)) else (none)) else (if (x0.length : Int) = 0 then (some true) else (if 0 ≤ (wrap64 ((x0.length : Int) - 1)) then (if (wrap64 ((x0.length : Int) - 1)) < (x0.length : Int) then (some ((rd x0 (wrap64 ((x0.length : Int) - 1))) != 0)) else (none)) else (none)))
def modp_Right.f (k : Nat) (l0 : List Int) (a1 : Int) : Option (Bool) := modp_Right.l0 k l0 a1 l0 (l0.length : Int) 0
theorem modp_Right.calls (k : Nat) (A0 : Option Addr) (c0 : Nat) (l0 : List Int) (a1 : Int) (r : Bool) (w : World) (hr0 : Kd.C (Kd.int .u32) w A0 l0.length l0) (hc0 : l0.length ≤ c0) (h : modp_Right.f k l0 a1 = some r) :
   Calls Tryz.prog 21 #[.slice A0 l0.length c0, .int .u32 a1] w fun e w' => e = .returned (.bool r) ∧ Drawn0 w w' := by
 have HR0 := am hr0
 have HC0 := am hc0
 clear hr0 hc0
 have H := h; unfold modp_Right.f at H
 clear h
 have H' := am H
 clear H
 go_enter Tryz.func21, Tryz.ntmps21
 go_wp2
 go_loopg [9] k (fun kq v9 w' => ∃ (x9_1 : Int), v9 = .int .i64 x9_1 ∧ Aside0 (modp_Right.l0 kq l0 a1 l0 (l0.length : Int) x9_1 = some r) ∧ Aside0 (kq ≤ k) ∧ Drawn0 w w')
 case atStart => exact ⟨(0), eqS, H', ⟨Nat.le_refl _⟩, by repeat (first | exact Drawn0.refl _ | apply Drawn0.step)⟩
 clear H'
 obtain ⟨x9_1, rfl, HA, HK1, ⟨m1, rfl⟩⟩ := hrel
 rcases gk with _ | k1
 · exact absurd HA.out (by simp [modp_Right.l0])
 have H := HA.out
 clear HA
 simp only [modp_Right.l0] at H
 by_cases c3 : x9_1 < (l0.length : Int)
 case neg =>
   rw [if_neg c3] at H
   have c3b0 : decide (x9_1 < (l0.length : Int)) = false := decide_eq_false c3
   clear c3
   by_cases c7 : (l0.length : Int) = 0
   · rw [if_pos c7] at H
     have c7b0 : ((l0.length : Int) == 0) = true := beq_iff_eq.mpr c7
     have c7b1 : ((l0.length : Int) != 0) = false := bne_eq_false_iff_eq.mpr c7
     clear c7
     obtain rfl := Option.some.inj H
     go_wp2
     go_ret
     exact ⟨eqS, dR⟩
   rw [if_neg c7] at H
   have c7b0 : ((l0.length : Int) == 0) = false := beq_eq_false_iff_ne.mpr c7
   have c7b1 : ((l0.length : Int) != 0) = true := bne_iff_ne.mpr c7
   have c7b2 : ¬ (l0 = []) := fun h_ => c7 (by rw [h_]; rfl)
   obtain ⟨ji8, hji8⟩ : ∃ j_ : Int, (wrap64 ((l0.length : Int) - 1)) = j_ := ⟨_, rfl⟩
   replace H : (if 0 ≤ (ji8) then (if (ji8) < (l0.length : Int) then (some ((rd l0 (ji8)) != 0)) else (none)) else (none)) = some r := by first | (rw [hji8] at H; exact H) | (simp only [hji8] at H ⊢; exact H)
   have hji8w : (IntKind.i64.wrap ((l0.length : Int) - 1)) = ji8 := (i64_w _).trans hji8
   by_cases c9 : 0 ≤ (ji8)
   case neg => exact nn c9 H
   rw [if_pos c9] at H
   have c9b0 : decide (0 ≤ (ji8)) = true := decide_eq_true c9
   clear c9
   by_cases c10 : (ji8) < (l0.length : Int)
   case neg => exact nn c10 H
   rw [if_pos c10] at H
   have c10b0 : decide ((ji8) < (l0.length : Int)) = true := decide_eq_true c10
   clear c10
   obtain rfl := Option.some.inj H
   have p249 : 0 ≤ ((ji8) : Int) := of_decide_eq_true as_
   have q249 : (ji8) < (l0.length : Int) := of_decide_eq_true as_
   obtain ⟨ad249, e249, hx249_0⟩ := Kd.at_int HR0.out (ji8) p249 q249
   cases e249
   replace p249 := eq_true p249
   replace q249 := eq_true q249
   go_wp2
   go_ret
   exact ⟨by first | rfl | (simp; done) | (simp only [← hji8] <;> (first | rfl | simp)) | (simp [*]; done), by repeat (first | exact Drawn0.refl _ | apply Drawn0.step)⟩
 rw [if_pos c3] at H
 have c3b0 : decide (x9_1 < (l0.length : Int)) = true := decide_eq_true c3
 clear c3
 by_cases c4 : 0 ≤ x9_1
 case neg => exact nn c4 H
 rw [if_pos c4] at H
 have c4b0 : decide (0 ≤ x9_1) = true := decide_eq_true c4
 clear c4
 by_cases c5 : x9_1 < (l0.length : Int)
 case neg => exact nn c5 H
 rw [if_pos c5] at H
 have c5b0 : decide (x9_1 < (l0.length : Int)) = true := decide_eq_true c5
 clear c5
 by_cases c6 : (rd l0 x9_1) ≥ a1
 · rw [if_pos c6] at H
   have c6b0 : decide (a1 ≤ (rd l0 x9_1)) = true := decide_eq_true c6
   clear c6
   obtain rfl := Option.some.inj H
   have p248 : 0 ≤ (x9_1 : Int) := of_decide_eq_true as_
   have q248 : x9_1 < (l0.length : Int) := of_decide_eq_true as_
   obtain ⟨ad248, e248, hx248_0⟩ := Kd.at_int HR0.out x9_1 p248 q248
   cases e248
   replace p248 := eq_true p248
   replace q248 := eq_true q248
   go_wp2
   go_ret
   exact ⟨eqS, dR⟩
 rw [if_neg c6] at H
 have c6b0 : decide (a1 ≤ (rd l0 x9_1)) = false := decide_eq_false c6
 clear c6
 have H' := am H
 clear H
 have p248 : 0 ≤ (x9_1 : Int) := of_decide_eq_true as_
 have q248 : x9_1 < (l0.length : Int) := of_decide_eq_true as_
 obtain ⟨ad248, e248, hx248_0⟩ := Kd.at_int HR0.out x9_1 p248 q248
 cases e248
 replace p248 := eq_true p248
 replace q248 := eq_true q248
 go_wp2
 go_roundg k1
 case measure => have := HK1.out; omega
 case rel => exact ⟨(wrap64 (x9_1 + 1)), eqS, (by first | exact H' | (subst_vars; exact H')), ⟨by have := HK1.out; omega⟩, by repeat (first | exact Drawn0.refl _ | apply Drawn0.step)⟩
end Go.Proofs.YtjbcnppbcomaiaaGreatDoor.Q
