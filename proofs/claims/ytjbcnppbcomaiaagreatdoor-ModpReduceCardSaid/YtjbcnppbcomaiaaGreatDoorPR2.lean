/-
  ModpReduce: what is made of polynomials with whole coefficients, and then taken modulo a prime, is made alike of what they are modulo it (the row, the walk and the plain words), part 2 of 13 (packed by pack.py from texts of this session).
-/
import Derived.Test.YtjbcnppbcomaiaaGreatDoorPR1
import Derived.WalkSpells
set_option maxRecDepth 100000
set_option maxHeartbeats 8000000
set_option linter.unusedVariables false
namespace Go.Proofs.YtjbcnppbcomaiaaGreatDoor.Q
open Go.RowKit Go.Proofs.YtjbcnppbcomaiaaGreatDoorW.PrintWords Go.Proofs.YtjbcnppbcomaiaaGreatDoorW.PrintLast Go.Proofs.YtjbcnppbcomaiaaGreatDoorW.PrintMore
attribute [local go_sem] max2_int min2_int max_two min_two max_three min_three max_four min_four   -- for this text's walks alone
set_option linter.unusedVariables false
set_option linter.unusedSimpArgs false
def slices_Clone.f (l0 : List Int) : Option (List Int) := if l0.length < 35184372088832 then some l0 else none
theorem slices_Clone.calls (A0 : Option Addr) (c0 : Nat) (l0 : List Int) (r : List Int) (w : World) (hr0 : Kd.C (Kd.int .u32) w A0 l0.length l0) (hc0 : l0.length ≤ c0) (h : slices_Clone.f l0 = some r) :
   Calls Tryz.prog 33 #[.slice A0 l0.length c0] w fun e w' => ∃ v0_ : Value, e = .returned (v0_) ∧ Kd.R (Kd.int .u32) 23 w' w.heap.size (fun _ => True) v0_ r ∧ Below w.heap.size w w' := by
 have HR0 := am hr0
 have HC0 := am hc0
 clear hr0 hc0
 unfold slices_Clone.f at h
 by_cases hl : l0.length < 35184372088832
 case neg =>
   rw [if_neg hl] at h
   exact absurd h (by simp)
 rw [if_pos hl] at h
 obtain rfl := Option.some.inj h
 clear h
 have q22 : ∀ (w : World) (a : Option Addr) (n c n' c' : Nat), (binOp .eql 27 (.slice a n c) (.slice none n' c')).run Tryz.prog w = .ok (.bool a.isNone) w := fun w a n c n' c' => Lib.run_eql_slice_nil w _ _ a n c n' c' Tryz.underlying27
 cases A0 with
 | none =>
   have hn : l0 = [] := by
     rcases l0 with _ | ⟨x, l⟩
     · rfl
     · obtain ⟨ad, h1, _⟩ := HR0.out.2.2 (by simp)
       cases h1
   go_enter Tryz.func33, Tryz.ntmps33
   go_wp2
   go_ret
   exact ⟨_, rfl, by rw [hn]; exact Kd.R_nil _ _ _ _ _, Below.refl _ _⟩
 | some a =>
   have HL := am hl
   clear hl
   have HB := am (Below.refl w.heap.size w)
   go_enter Tryz.func33, Tryz.ntmps33
   go_wp2_with (first | ((with_reducible refine gate_dst (N := 5) rfl ?_); refine Kd.R_lit (Kd.int .u32) _ 23 rF (N := 5) rF (xs := ([] : List Int)) (inner := []) (ok := fun _ => True) (okp := fun _ => True) gF ?hp (fun _ hk => hk) trivial (Below.refl _ _) (Nat.le_refl _) (by simp) ?_; (case hp => exact (Reps.none _ _)); intro v1 w1 ho1 hb1 hg_ hnew_; clear hg_ hnew_; have HO1 := am ho1; have HB1 := am hb1; clear ho1 hb1) | ((with_reducible refine gate_builtin (b := .append) (xs := #[.tmp 5, .tmp 6]) rfl ?_); at_builtin; refine Kd.R_append_row (Value.int .u32) 0 (w0 := w) w.heap.size rfl (.tmp 5) (.tmp 6) 27 23 (.int .u32 0) 4 rfl Tryz.underlying27 info23 rfl (by decide) _ [] l0 (some a) l0.length c0 (fun _ => True) rfl rfl (fun _ _ => trivial) HO1.out (Kd.C_below HR0.out HB1.out) HB1.out (HB1.out.size) (by have := HL.out; simp; omega) ?_; intro v2 w2 ho2 hb2 hg2 _; have HO2 := am ho2; have HB2 := am hb2; clear ho2 hb2 hg2))
   go_ret
   exact ⟨_, rfl, HO2.out, HB2.out⟩
def CV (w : World) (v : Value) (xs : List Int) : Prop := ∃ A c, v = .slice A xs.length c ∧ xs.length ≤ c ∧ Kd.C (Kd.int .u32) w A xs.length xs
theorem CV_nil (w : World) : CV w (.slice none 0 0) [] := ⟨none, 0, rfl, Nat.le_refl _, ⟨rfl, by simp, fun h => by simp at h⟩⟩
theorem CV_of {w : World} {v : Value} {xs : List Int} {base : Nat} {ok : Nat → Prop} (h : Kd.V (Kd.int .u32) 23 w base ok v xs) : CV w v xs := by
 have h0 := h
 obtain ⟨A, c, rfl, hc, hf⟩ := h
 exact ⟨A, c, rfl, hc, (Kd.V_reads' h0).2.2⟩
theorem CV_below {w w1 : World} {v : Value} {xs : List Int} (h : CV w v xs) (hb : Below w.heap.size w w1) : CV w1 v xs := by
 obtain ⟨A, c, rfl, hc, hr⟩ := h
 exact ⟨A, c, rfl, hc, Kd.C_below hr hb⟩
mutual
def modp_DivMod.l0 : Nat → List Int → Int → List Int → List Int → Int → Int → Option (List Int × List Int × Int)
 | 0, _, _, _, _, _, _ => none
 | k + 1, x1, x9, x10, x11, x12, x13 => if x13 ≥ 0 then (if 0 ≤ (wrap64 ((wrap64 (x13 + (x1.length : Int))) - 1)) then (if (wrap64 ((wrap64 (x13 + (x1.length : Int))) - 1)) < (x10.length : Int) then (if x9 = 0 then (none) else (if 0 ≤ x13 then (if x13 < (x11.length : Int) then ((some (x11.set (x13 : Int).toNat ((Int.tmod (IntKind.u64.wrap ((IntKind.u64.wrap (rd x10 (wrap64 ((wrap64 (x13 + (x1.length : Int))) - 1)))) * x12)) x9) % 4294967296) : List Int)).bind fun y122 => (if (Int.tmod (IntKind.u64.wrap ((IntKind.u64.wrap (rd x10 (wrap64 ((wrap64 (x13 + (x1.length : Int))) - 1)))) * x12)) x9) = 0 then (modp_DivMod.l0 k x1 x9 x10 y122 x12 (wrap64 (x13 - 1))) else (modp_DivMod.l1 k x1 x9 x10 y122 x12 x13 (Int.tmod (IntKind.u64.wrap ((IntKind.u64.wrap (rd x10 (wrap64 ((wrap64 (x13 + (x1.length : Int))) - 1)))) * x12)) x9) x1 (x1.length : Int) 0))) else (none)) else (none))) else (none)) else (none)) else ((modp_trim.f k x11).bind fun t115 => ((modp_trim.f k x10).bind fun t118 => (some (t115, t118, 0))))
def modp_DivMod.l1 : Nat → List Int → Int → List Int → List Int → Int → Int → Int → List Int → Int → Int → Option (List Int × List Int × Int)
 | 0, _, _, _, _, _, _, _, _, _, _ => none
 | k + 1, x1, x9, x10, x11, x12, x13, x14, x73, x74, x75 => if x75 < x74 then (if 0 ≤ x75 then (if x75 < (x73.length : Int) then (if 0 ≤ (wrap64 (x13 + x75)) then (if (wrap64 (x13 + x75)) < (x10.length : Int) then (if x9 = 0 then (none) else (modp_DivMod.l1 k x1 x9 (x10.set ((wrap64 (x13 + x75)) : Int).toNat ((Int.tmod (IntKind.u64.wrap ((IntKind.u64.wrap (rd x10 (wrap64 (x13 + x75)))) + (IntKind.u64.wrap ((IntKind.u64.wrap (x9 - x14)) * (IntKind.u64.wrap (rd x73 x75)))))) x9) % 4294967296)) x11 x12 x13 x14 x73 x74 (wrap64 (x75 + 1)))) else (none)) else (none)) else (none)) else (none)) else (modp_DivMod.l0 k x1 x9 x10 x11 x12 (wrap64 (x13 - 1)))
end
def modp_DivMod.f (k : Nat) (l0 : List Int) (l1 : List Int) (a2 : Int) : Option (List Int × List Int × Int) := if (l1.length : Int) = 0 then (some (([] : List Int), ([] : List Int), 3)) else (if (l0.length : Int) < (l1.length : Int) then (some (([] : List Int), l0, 0)) else ((slices_Clone.f l0).bind fun t107 => (if 0 ≤ (wrap64 ((wrap64 ((l0.length : Int) - (l1.length : Int))) + 1)) then (if (wrap64 ((wrap64 ((l0.length : Int) - (l1.length : Int))) + 1) : Int).toNat ≤ 70368744177664 then ((some (List.replicate (wrap64 ((wrap64 ((l0.length : Int) - (l1.length : Int))) + 1) : Int).toNat 0 : List Int)).bind fun y110 => (if 0 ≤ (wrap64 ((l1.length : Int) - 1)) then (if (wrap64 ((l1.length : Int) - 1)) < (l1.length : Int) then ((modp_inverse.f k (IntKind.u64.wrap (rd l1 (wrap64 ((l1.length : Int) - 1)))) a2).bind fun t114 => (modp_DivMod.l0 k l1 (IntKind.u64.wrap (a2)) t107 y110 t114 (wrap64 ((y110.length : Int) - 1)))) else (none)) else (none))) else (none)) else (none))))
def modp_DivMod.T6 : Bool × List (List Nat × List Nat) := (true, [([], []), ([0], [0]), ([], []), ([2], [2]), ([], []), ([4], [4]), ([3, 5], [3, 5]), ([6], [6]), ([7, 7], [7]), ([1, 1, 0, 1], [1]), ([8, 9, 0, 1, 2, 3, 4, 5, 6, 7, 8, 9], [8])])
def modp_DivMod.B6 : List Nat := [0, 1, 0, 4, 0, 16, 60, 124, 252, 3, 1023]
theorem modp_DivMod.tab6 : rtab .any (opsOf Tryz.f15 6) = modp_DivMod.T6 := by kernel_rfl
theorem modp_DivMod.bits6 : waitsOk modp_DivMod.T6.2 modp_DivMod.B6 = true := by kernel_rfl
theorem modp_DivMod.callsP (k : Nat) (P0_ : Nat → Prop) (A0 : Option Addr) (c0 : Nat) (l0 : List Int) (A1 : Option Addr) (c1 : Nat) (l1 : List Int) (a2 : Int) (r1 : List Int) (r2 : List Int) (r3 : Int) (w : World) (hs0 : Kd.V (Kd.int .u32) 23 w w.heap.size (fun k_ => P0_ k_) (.slice A0 l0.length c0) l0) (hr1 : Kd.C (Kd.int .u32) w A1 l1.length l1) (hc1 : l1.length ≤ c1) (h : modp_DivMod.f k l0 l1 a2 = some (r1, r2, r3)) :
   Calls Tryz.prog 15 #[.slice A0 l0.length c0, .slice A1 l1.length c1, .int .u32 a2] w fun e w' => ∃ v0_ v1_ : Value, e = .returned (.tuple #[v0_, v1_, .int .i64 r3]) ∧ Kd.V (Kd.int .u32) 23 w' w.heap.size (fun k_ => (w.heap.size ≤ k_)) v0_ r1 ∧ Kd.V (Kd.int .u32) 23 w' w.heap.size (fun k_ => (P0_ k_ ∨ w.heap.size ≤ k_)) v1_ r2 ∧ Below w.heap.size w w' := by
 have HS0 := am hs0
 have hr0 := (Kd.V_reads' hs0).2.2
 have hc0 := (Kd.V_reads' hs0).2.1
 have HR0 := am hr0
 have HC0 := am hc0
 clear hr0 hc0 hs0
 have HR1 := am hr1
 have HC1 := am hc1
 clear hr1 hc1
 have HB := am (Below.refl w.heap.size w)
 have H := h; unfold modp_DivMod.f at H
 clear h
 by_cases c4 : (l1.length : Int) = 0
 · rw [if_pos c4] at H
   have c4b0 : ((l1.length : Int) == 0) = true := beq_iff_eq.mpr c4
   have c4b1 : ((l1.length : Int) != 0) = false := bne_eq_false_iff_eq.mpr c4
   clear c4
   simp only [Option.some.injEq, Prod.mk.injEq] at H
   obtain ⟨rfl, rfl, rfl⟩ := H
   go_enter Tryz.func15, Tryz.ntmps15
   go_wp2
   go_ret3
   exact ⟨.slice none 0 0, .slice none 0 0, eqR, Kd.V_nil _ _ _ _ _, Kd.V_nil _ _ _ _ _, bB⟩
 rw [if_neg c4] at H
 have c4b0 : ((l1.length : Int) == 0) = false := beq_eq_false_iff_ne.mpr c4
 have c4b1 : ((l1.length : Int) != 0) = true := bne_iff_ne.mpr c4
 have c4b2 : ¬ (l1 = []) := fun h_ => c4 (by rw [h_]; rfl)
 by_cases c5 : (l0.length : Int) < (l1.length : Int)
 · rw [if_pos c5] at H
   have c5b0 : decide ((l0.length : Int) < (l1.length : Int)) = true := decide_eq_true c5
   have c5b1 : decide (l0.length < l1.length) = true := decide_eq_true (Int.ofNat_lt.mp c5)
   clear c5
   simp only [Option.some.injEq, Prod.mk.injEq] at H
   obtain ⟨rfl, rfl, rfl⟩ := H
   go_enter Tryz.func15, Tryz.ntmps15
   go_wp2
   go_ret3
   exact ⟨.slice none 0 0, .slice A0 l0.length c0, eqR, Kd.V_nil _ _ _ _ _, Kd.V_below (Kd.V_mono HS0.out (fun _ hk => .inl hk)) bB, bB⟩
 rw [if_neg c5] at H
 have c5b0 : decide ((l0.length : Int) < (l1.length : Int)) = false := decide_eq_false c5
 have c5b1 : decide (l0.length < l1.length) = false := decide_eq_false (fun h => c5 (Int.ofNat_lt.mpr h))
 clear c5
 obtain ⟨t107, A60, H⟩ := Option.bind_eq_some_iff.mp H
 try dsimp only at H
 have A6 := am A60
 clear A60
 obtain ⟨ji7, hji7⟩ : ∃ j_ : Int, (wrap64 ((wrap64 ((l0.length : Int) - (l1.length : Int))) + 1)) = j_ := ⟨_, rfl⟩
 replace H : (if 0 ≤ (ji7) then (if (ji7 : Int).toNat ≤ 70368744177664 then ((some (List.replicate (ji7 : Int).toNat 0 : List Int)).bind fun y110 => (if 0 ≤ (wrap64 ((l1.length : Int) - 1)) then (if (wrap64 ((l1.length : Int) - 1)) < (l1.length : Int) then ((modp_inverse.f k (IntKind.u64.wrap (rd l1 (wrap64 ((l1.length : Int) - 1)))) a2).bind fun t114 => (modp_DivMod.l0 k l1 (IntKind.u64.wrap (a2)) t107 y110 t114 (wrap64 ((y110.length : Int) - 1)))) else (none)) else (none))) else (none)) else (none)) = some (r1, r2, r3) := by first | (rw [hji7] at H; exact H) | (simp only [hji7] at H ⊢; exact H)
 (try rw [hji7] at A6)
 have hji7w : (IntKind.i64.wrap ((wrap64 ((l0.length : Int) - (l1.length : Int))) + 1)) = ji7 := (i64_w _).trans hji7
 by_cases c8 : 0 ≤ (ji7)
 case neg => exact nn c8 H
 rw [if_pos c8] at H
 have c8b0 := eq_true c8
 have c8b1 : decide (0 ≤ (ji7)) = true := decide_eq_true c8
 clear c8
 by_cases c9 : (ji7 : Int).toNat ≤ 70368744177664
 case neg => exact nn c9 H
 rw [if_pos c9] at H
 have c9b0 := eq_true c9
 have c9b1 : decide ((ji7 : Int).toNat ≤ 70368744177664) = true := decide_eq_true c9
 clear c9
 obtain ⟨y110, hy110⟩ : ∃ y_ : List Int, y_ = (List.replicate (ji7 : Int).toNat 0) := ⟨_, rfl⟩
 replace H : (if 0 ≤ (wrap64 ((l1.length : Int) - 1)) then (if (wrap64 ((l1.length : Int) - 1)) < (l1.length : Int) then ((modp_inverse.f k (IntKind.u64.wrap (rd l1 (wrap64 ((l1.length : Int) - 1)))) a2).bind fun t114 => (modp_DivMod.l0 k l1 (IntKind.u64.wrap (a2)) t107 y110 t114 (wrap64 ((y110.length : Int) - 1)))) else (none)) else (none)) = some (r1, r2, r3) := by first | (rw [hy110]; exact H) | exact H
 have Ny110 := am hy110
 clear hy110
 obtain ⟨ji10, hji10⟩ : ∃ j_ : Int, (wrap64 ((l1.length : Int) - 1)) = j_ := ⟨_, rfl⟩
 replace H : (if 0 ≤ (ji10) then (if (ji10) < (l1.length : Int) then ((modp_inverse.f k (IntKind.u64.wrap (rd l1 (ji10))) a2).bind fun t114 => (modp_DivMod.l0 k l1 (IntKind.u64.wrap (a2)) t107 y110 t114 (wrap64 ((y110.length : Int) - 1)))) else (none)) else (none)) = some (r1, r2, r3) := by first | (rw [hji10] at H; exact H) | (simp only [hji10] at H ⊢; exact H)
 (try rw [hji10] at A6)
 have hji10w : (IntKind.i64.wrap ((l1.length : Int) - 1)) = ji10 := (i64_w _).trans hji10
 by_cases c11 : 0 ≤ (ji10)
 case neg => exact nn c11 H
 rw [if_pos c11] at H
 have c11b0 : decide (0 ≤ (ji10)) = true := decide_eq_true c11
 clear c11
 by_cases c12 : (ji10) < (l1.length : Int)
 case neg => exact nn c12 H
 rw [if_pos c12] at H
 have c12b0 : decide ((ji10) < (l1.length : Int)) = true := decide_eq_true c12
 clear c12
 obtain ⟨t114, A130, H⟩ := Option.bind_eq_some_iff.mp H
 try dsimp only at H
 have A13 := am A130
 clear A130
 have H' := am H
 clear H
 go_enter Tryz.func15, Tryz.ntmps15
 try go_wp2
 have n0_ := am (below_drew1 HB.out)
 clear HB
 have HB := n0_
 clear n0_
 refine start_ (n := 11) (S := fun w' => True) (ds := []) (bm 11 0) (by kernel_rfl) rfl rfl trivial (fun hHeld => ?_); refine with_tabW modp_DivMod.tab6 modp_DivMod.bits6 (fun HT_ HW_ => ?_)
 generalize w.drew = w14 at HB hHeld ⊢
 refine pureB (N := some 28) 0 (bm 11 1) ?_
 refine pureB (N := some 30) 2 (bm 11 5) ?_
 refine pureB (N := some 31) 3 (bm 11 13) ?_
 refine pureB (N := some 32) 4 (bm 11 29) ?_
 refine pureB (N := some 33) 5 (bm 11 61) ?_
 refine pureB (N := some 34) 6 (bm 11 125) ?_
 refine pureB (N := some 35) 7 (bm 11 253) ?_
 refine join_ (σ := Value × Value) 1 (bm 11 1023) (fun s_ => [(29, s_.1), (36, s_.2), (10, s_.1)]) (fun s_ w' => (Kd.R (Kd.int .u32) 23 w' w.heap.size (fun k_ => (w.heap.size ≤ k_) ∧ some k_ ≠ (s_.2 : Value).ownBlock) s_.1 t107) ∧ (Kd.R (Kd.int .u32) 23 w' w.heap.size (fun k_ => (w.heap.size ≤ k_) ∧ some k_ ≠ (s_.1 : Value).ownBlock) s_.2 y110) ∧ (Below w.heap.size w w')) ?_ ?_
 rotate_left
 · intro hCont
   refine two_ (i := 1) (j := 8) (Ni := some 29) (Nj := some 36) (bm 11 255) (bm 11 509) rfl rfl rfl rfl (two_of HT_.out (by kernel_rfl)) (by decide) (by decide) (fun K hK => ?_) (fun K hK => ?_)
   · skip
     refine goes_ Tryz.func33 (by kernel_rfl) rfl #[.slice A0 l0.length c0] (by rfl) rfl rfl aM ?_
     with_reducible refine (slices_Clone.calls _ _ l0 t107 _ ?side1 ?side2 A6.out).mono ?_
     (case side1 => exact kC2 ((Kd.C_below HR0.out HB.out)))
     (case side2 => exact HC0.out)
     rintro e w15 ⟨v108, rfl, ho0, hb⟩
     refine ⟨_, rfl, ?_⟩
     have n0_ := am (Kd.R_lower (Kd.R_newM (M := fun k_ => (w.heap.size ≤ k_)) ho0 (below_size bB) (fun k_ h_ => h_)) (below_size bB))
     have n1_ := am (below_step bB hb)
     clear HB
     have HO109 := n0_
     have HB := n1_
     clear n0_ n1_
     (try clear hb)
     (try clear hb2)
     (try clear hk)
     (try clear hi)
     (try clear ho0)
     refine hK.out _ _ trivial (fun hHeld => ?_)
     clear hK K
     refine norm_ (a' := ?_) ?_ ?_
     rotate_left
     · show Act.put _ (some 29) _ = _; exact actp
     refine pureB (N := some 10) 9 (bm 11 767) ?_
     refine one_ (i := 8) (N := some 36) (bm 11 1023) rfl rfl (one_of HT_.out (by kernel_rfl)) (by decide) (fun K hK => ?_)
     refine Kd.R_make_step (Kd.int .u32) _ 23 (by rfl) (N := 36) rfl 27 _ _ rfl ji7 rfl rfl Tryz.underlying27 (.int .u32 0) 4 info23 rfl (by decide) (by omega) 0 (ok := fun _ => True) (okp := fun _ => True) rfl (fun _ hk => hk) trivial (of_decide_eq_true as_) (Nat.le_trans (Nat.mul_le_mul_right _ (of_decide_eq_true as_ : ji7.toNat ≤ 70368744177664)) (by omega)) (Below.refl _ _) (Nat.le_refl _) ?_
     intro v111 w16 ho17 hb hg_ hnew_
     clear hg_ hnew_
     (first | rw [← Ny110.out] at ho17 | (simp only [Int.reduceToNat] at ho17; rw [← Ny110.out] at ho17))
     have n0_ := am (Kd.R_elder' (rR HO109.out) (Kd.R_base ho17) hb)
     have n1_ := am (Kd.R_lower (Kd.R_new' (Kd.R_newM (M := fun k_ => (w.heap.size ≤ k_)) ho17 (below_size bB) (fun k_ h_ => h_)) (Kd.R_lt (rR HO109.out))) (below_size bB))
     have n2_ := am (below_step bB hb)
     clear HO109
     clear HB
     have HO109 := n0_
     have HO112 := n1_
     have HB := n2_
     clear n0_ n1_ n2_
     clear hb ho17
     refine hK.out _ _ trivial (fun hHeld => ?_)
     clear hK K
     refine norm_ (a' := ?_) ?_ ?_
     rotate_left
     · show Act.put _ (some 36) _ = _; exact actp
     exact norm_ (by simp only [putAll, Act.put, List.setIfInBounds_toArray, List.set_cons_zero, List.set_cons_succ]) (hCont (v108, v111) _ ⟨(by (with_reducible repeat (first | apply Kd.R_alloc | apply Kd.R_drewN | apply Kd.R_drew)); exact Kd.R_mono HO109.out (fun _ hk => ⟨hk.1.1, hk.2⟩)), (by (with_reducible repeat (first | apply Kd.R_alloc | apply Kd.R_drewN | apply Kd.R_drew)); exact Kd.R_mono HO112.out (fun _ hk => ⟨hk.1.1, hk.2⟩)), bB⟩)
   · skip
     refine Kd.R_make_step (Kd.int .u32) _ 23 (by rfl) (N := 36) rfl 27 _ _ rfl ji7 rfl rfl Tryz.underlying27 (.int .u32 0) 4 info23 rfl (by decide) (by omega) 0 (ok := fun _ => True) (okp := fun _ => True) rfl (fun _ hk => hk) trivial (of_decide_eq_true as_) (Nat.le_trans (Nat.mul_le_mul_right _ (of_decide_eq_true as_ : ji7.toNat ≤ 70368744177664)) (by omega)) (Below.refl _ _) (Nat.le_refl _) ?_
     intro v111 w15 ho16 hb hg_ hnew_
     clear hg_ hnew_
     (first | rw [← Ny110.out] at ho16 | (simp only [Int.reduceToNat] at ho16; rw [← Ny110.out] at ho16))
     have n0_ := am (Kd.R_lower (Kd.R_newM (M := fun k_ => (w.heap.size ≤ k_)) ho16 (below_size bB) (fun k_ h_ => h_)) (below_size bB))
     have n1_ := am (below_step bB hb)
     clear HB
     have HO112 := n0_
     have HB := n1_
     clear n0_ n1_
     clear hb ho16
     refine hK.out _ _ trivial (fun hHeld => ?_)
     clear hK K
     refine norm_ (a' := ?_) ?_ ?_
     rotate_left
     · show Act.put _ (some 36) _ = _; exact actp
     refine one_ (i := 1) (N := some 29) (bm 11 511) rfl rfl (one_of HT_.out (by kernel_rfl)) (by decide) (fun K hK => ?_)
     refine goes_ Tryz.func33 (by kernel_rfl) rfl #[.slice A0 l0.length c0] (by rfl) rfl rfl aM ?_
     with_reducible refine (slices_Clone.calls _ _ l0 t107 _ ?side1 ?side2 A6.out).mono ?_
     (case side1 => exact kC2 ((Kd.C_below HR0.out HB.out)))
     (case side2 => exact HC0.out)
     rintro e w17 ⟨v108, rfl, ho0, hb⟩
     refine ⟨_, rfl, ?_⟩
     have n0_ := am (Kd.R_elder' (rR HO112.out) (Kd.R_base ho0) hb)
     have n1_ := am (Kd.R_lower (Kd.R_new' (Kd.R_newM (M := fun k_ => (w.heap.size ≤ k_)) ho0 (below_size bB) (fun k_ h_ => h_)) (Kd.R_lt (rR HO112.out))) (below_size bB))
     have n2_ := am (below_step bB hb)
     clear HO112
     clear HB
     have HO112 := n0_
     have HO109 := n1_
     have HB := n2_
     clear n0_ n1_ n2_
     (try clear hb)
     (try clear hb2)
     (try clear hk)
     (try clear hi)
     (try clear ho0)
     refine hK.out _ _ trivial (fun hHeld => ?_)
     clear hK K
     refine norm_ (a' := ?_) ?_ ?_
     rotate_left
     · show Act.put _ (some 29) _ = _; exact actp
     refine pureB (N := some 10) 9 (bm 11 1023) ?_
     exact norm_ (by simp only [putAll, Act.put, List.setIfInBounds_toArray, List.set_cons_zero, List.set_cons_succ]) (hCont (v108, v111) _ ⟨(by (with_reducible repeat (first | apply Kd.R_alloc | apply Kd.R_drewN | apply Kd.R_drew)); exact Kd.R_mono HO109.out (fun _ hk => ⟨hk.1.1, hk.2⟩)), (by (with_reducible repeat (first | apply Kd.R_alloc | apply Kd.R_drewN | apply Kd.R_drew)); exact Kd.R_mono HO112.out (fun _ hk => ⟨hk.1.1, hk.2⟩)), bB⟩)
 rintro ⟨v108, v111⟩ w18 ⟨h0_, h1_, h2_⟩
 have n0_ : Aside0 (Kd.R (Kd.int .u32) 23 w18 w.heap.size (fun k_ => (w.heap.size ≤ k_) ∧ some k_ ≠ (v111 : Value).ownBlock) v108 t107) := ⟨h0_⟩
 have n1_ : Aside0 (Kd.R (Kd.int .u32) 23 w18 w.heap.size (fun k_ => (w.heap.size ≤ k_) ∧ some k_ ≠ (v108 : Value).ownBlock) v111 y110) := ⟨h1_⟩
 have n2_ : Aside0 (Below w.heap.size w w18) := ⟨h2_⟩
 clear HB
 clear h0_ h1_ h2_
 have HO109 := n0_
 have HO112 := n1_
 have HB := n2_
 clear n0_ n1_ n2_
 have hHeld := trivial
 refine norm_ (a' := ?_) ?_ ?_
 rotate_left
 · simp only [putAll, Act.put, List.setIfInBounds_toArray, List.set_cons_zero, List.set_cons_succ]
   rfl
 refine pureB (N := some 11) 10 (bm 11 2047) ?_
 refine done_ (done_of HT_.out (by kernel_rfl)) ?_
 have p113 : 0 ≤ ((ji10) : Int) := of_decide_eq_true as_
 have q113 : (ji10) < (l1.length : Int) := of_decide_eq_true as_
 obtain ⟨ad113, e113, hx113_0⟩ := Kd.at_int HR1.out (ji10) p113 q113
 cases e113
 replace hx113_0 := (HB.out.cell (World.block_lt_of_cell? w _ hx113_0)).trans hx113_0
 replace p113 := eq_true p113
 replace q113 := eq_true q113
 try go_wp2_with (first | ((with_reducible refine gate_callee (f := 44) rfl ?_); refine goesL_ (some 45) rfl rfl Tryz.func44 (by kernel_rfl) rfl #[.int .u64 (IntKind.u64.wrap (rd l1 (ji10))), .int .u32 a2] rfl (by (try simp only [List.map_toArray, List.map_cons, List.map_nil]); first | done | (simp only [hji10]; rfl) | rfl | (simp only [List.length_drop, List.length_take]; rfl)) ?_; (with_reducible refine (modp_inverse.calls k (IntKind.u64.wrap (rd l1 (ji10))) a2 t114 _ A13.out).mono ?_); rintro e w' ⟨rfl, ⟨nd, rfl⟩⟩; refine ⟨_, rfl, ?_⟩; obtain ⟨Ao19, co19, eo19⟩ := Kd.R_slice HO112.out; subst eo19))
 go_loopg [13] k (fun kq v13 w' => ∃ (x10_1 : List Int) (x11_1 : List Int) (x13_1 : Int), v13 = .int .i64 x13_1 ∧ Aside0 (modp_DivMod.l0 kq l1 (IntKind.u64.wrap (a2)) x10_1 x11_1 t114 x13_1 = some (r1, r2, r3)) ∧ Aside0 (kq ≤ k) ∧ Aside0 (Kd.R (Kd.int .u32) 23 w' w.heap.size (fun k_ => (w.heap.size ≤ k_) ∧ some k_ ≠ ((.slice Ao19 y110.length co19) : Value).ownBlock) v108 x10_1) ∧ Aside0 (Kd.R (Kd.int .u32) 23 w' w.heap.size (fun k_ => (w.heap.size ≤ k_) ∧ some k_ ≠ (v108 : Value).ownBlock) (.slice Ao19 y110.length co19) x11_1) ∧ Aside0 (Below w.heap.size w w'))
 case atStart => exact ⟨(t107), (y110), (wrap64 ((y110.length : Int) - 1)), eqS, H', ⟨Nat.le_refl _⟩, ⟨rR (HO109.out)⟩, ⟨rR (HO112.out)⟩, ⟨bB⟩⟩
 clear H'
 clear c4 c4b0 c4b1 c4b2 c5b0 c5b1 c8b0 c8b1 c9b0 c9b1 c11b0 c12b0 hx113_0 p113 q113
 obtain ⟨x10_1, x11_1, x13_1, rfl, HA, HK1, HO_10, HO_11, HB⟩ := hrel
 have hl11_1 := (Kd.R_reads' HO_11.out).1
 rw [hl11_1] at HO_11
 (try simp only [hl11_1])
 (try simp only [hl11_1] at HO_10)
 rcases gk with _ | k1
 · exact absurd HA.out (by simp [modp_DivMod.l0])
 have H := HA.out
 clear HA
 simp only [modp_DivMod.l0] at H
 by_cases c20 : x13_1 ≥ 0
 case neg =>
   rw [if_neg c20] at H
   have c20b0 : decide (0 ≤ x13_1) = false := decide_eq_false c20
   clear c20
   obtain ⟨t115, A450, H⟩ := Option.bind_eq_some_iff.mp H
   try dsimp only at H
   have A45 := am A450
   clear A450
   obtain ⟨t118, A460, H⟩ := Option.bind_eq_some_iff.mp H
   replace H : (some (t115, t118, 0)) = some (r1, r2, r3) := H
   have A46 := am A460
   clear A460
   simp only [Option.some.injEq, Prod.mk.injEq] at H
   obtain ⟨rfl, rfl, rfl⟩ := H
   go_wp2_with (first | ((with_reducible refine gate_callee (f := 29) rfl ?_); refine goesA (some 104) Tryz.func29 #[.slice Ao19 x11_1.length co19] ?_; (with_reducible refine (modp_trim.calls k1 (fun k_ => some k_ = (.slice Ao19 x11_1.length co19 : Value).ownBlock) _ _ x11_1 t115 _ ?side1 A45.out).mono ?_); (case side1 => exact Kd.R_V (Kd.R_tight rfl (HO_11.out))); rintro e w47 ⟨v116, rfl, ho0, hb⟩; refine ⟨_, rfl, ?_⟩; have n0_ := am (Kd.R_below (rR HO_10.out) hb); have n1_ := am (Kd.R_below (rR HO_11.out) hb); have n2_ := am (Kd.V_lower (Kd.V_mono (ok' := fun k_ => (w.heap.size ≤ k_) ∧ some k_ ≠ (v108 : Value).ownBlock) ho0 (fun k_ hk_ => ⟨Or.elim hk_ (fun hs_ => ((HO_11.out).1 k_ hs_.symm).1) (fun hn_ => (Nat.le_trans (below_size bB) hn_)), Or.elim hk_ (fun hs_ => ((HO_11.out).1 k_ hs_.symm).2) (fun hn_ => (Kd.fresh' (Kd.R_lt (rR HO_10.out)) k_ hn_))⟩)) (below_size bB)); have n3_ := am (below_step bB hb); clear HO_10; clear HO_11; clear HB; have HO_10 := n0_; have HO_11 := n1_; have HO117 := n2_; have HB := n3_; clear n0_ n1_ n2_ n3_; (try clear hb); (try clear hb2); (try clear hk); (try clear hi); (try clear ho0); obtain ⟨Ao48, co48, eo48⟩ := Kd.R_slice HO_10.out; subst eo48) | ((with_reducible refine gate_callee (f := 29) rfl ?_); refine goesA (some 106) Tryz.func29 #[.slice Ao48 x10_1.length co48] ?_; (with_reducible refine (modp_trim.calls k1 (fun k_ => some k_ = (.slice Ao48 x10_1.length co48 : Value).ownBlock) _ _ x10_1 t118 _ ?side1 A46.out).mono ?_); (case side1 => exact Kd.R_V (Kd.R_tight rfl (HO_10.out))); rintro e w49 ⟨v119, rfl, ho0, hb⟩; refine ⟨_, rfl, ?_⟩; have n0_ := am (Kd.R_below (rR HO_10.out) hb); have n1_ := am (Kd.R_below (rR HO_11.out) hb); have n2_ := am (Kd.V_below (rV HO117.out) hb); have n3_ := am (Kd.V_lower (Kd.V_mono (ok' := fun k_ => (w.heap.size ≤ k_) ∧ some k_ ≠ (.slice Ao19 x11_1.length co19 : Value).ownBlock) ho0 (fun k_ hk_ => ⟨Or.elim hk_ (fun hs_ => ((HO_10.out).1 k_ hs_.symm).1) (fun hn_ => (Nat.le_trans (below_size bB) hn_)), Or.elim hk_ (fun hs_ => ((HO_10.out).1 k_ hs_.symm).2) (fun hn_ => (Kd.fresh' (Kd.R_lt (rR HO_11.out)) k_ hn_))⟩)) (below_size bB)); have n4_ := am (below_step bB hb); clear HO_10; clear HO_11; clear HO117; clear HB; have HO_10 := n0_; have HO_11 := n1_; have HO117 := n2_; have HO120 := n3_; have HB := n4_; clear n0_ n1_ n2_ n3_ n4_; (try clear hb); (try clear hb2); (try clear hk); (try clear hi); (try clear ho0)))
   go_ret3
   exact ⟨_, _, by first | rfl | (simp [errW_none, errW_some] <;> rfl) | (simp only [← hji7, ← hji10]; first | rfl | (simp [errW_none, errW_some] <;> rfl)) | (simp [*, errW_none, errW_some] <;> rfl), (by (with_reducible repeat (first | apply Kd.V_alloc | apply Kd.V_drewN | apply Kd.V_drew)); exact Kd.V_mono HO117.out (fun _ hk => hk.1)), (by (with_reducible repeat (first | apply Kd.V_alloc | apply Kd.V_drewN | apply Kd.V_drew)); exact Kd.V_mono HO120.out (fun _ hk => .inr hk.1)), bB⟩
 rw [if_pos c20] at H
 have c20b0 : decide (0 ≤ x13_1) = true := decide_eq_true c20
 clear c20
 obtain ⟨ji21, hji21⟩ : ∃ j_ : Int, (wrap64 ((wrap64 (x13_1 + (l1.length : Int))) - 1)) = j_ := ⟨_, rfl⟩
 replace H : (if 0 ≤ (ji21) then (if (ji21) < (x10_1.length : Int) then (if (IntKind.u64.wrap (a2)) = 0 then (none) else (if 0 ≤ x13_1 then (if x13_1 < (x11_1.length : Int) then ((some (x11_1.set (x13_1 : Int).toNat ((Int.tmod (IntKind.u64.wrap ((IntKind.u64.wrap (rd x10_1 (ji21))) * t114)) (IntKind.u64.wrap (a2))) % 4294967296) : List Int)).bind fun y122 => (if (Int.tmod (IntKind.u64.wrap ((IntKind.u64.wrap (rd x10_1 (ji21))) * t114)) (IntKind.u64.wrap (a2))) = 0 then (modp_DivMod.l0 k1 l1 (IntKind.u64.wrap (a2)) x10_1 y122 t114 (wrap64 (x13_1 - 1))) else (modp_DivMod.l1 k1 l1 (IntKind.u64.wrap (a2)) x10_1 y122 t114 x13_1 (Int.tmod (IntKind.u64.wrap ((IntKind.u64.wrap (rd x10_1 (ji21))) * t114)) (IntKind.u64.wrap (a2))) l1 (l1.length : Int) 0))) else (none)) else (none))) else (none)) else (none)) = some (r1, r2, r3) := by first | (rw [hji21] at H; exact H) | (simp only [hji21] at H ⊢; exact H)
 have hji21w : (IntKind.i64.wrap ((wrap64 (x13_1 + (l1.length : Int))) - 1)) = ji21 := (i64_w _).trans hji21
 by_cases c22 : 0 ≤ (ji21)
 case neg => exact nn c22 H
 rw [if_pos c22] at H
 have c22b0 : decide (0 ≤ (ji21)) = true := decide_eq_true c22
 clear c22
 by_cases c23 : (ji21) < (x10_1.length : Int)
 case neg => exact nn c23 H
 rw [if_pos c23] at H
 have c23b0 : decide ((ji21) < (x10_1.length : Int)) = true := decide_eq_true c23
 clear c23
 by_cases c24 : (IntKind.u64.wrap (a2)) = 0
 · rw [if_pos c24] at H
   exact absurd H (by simp)
 rw [if_neg c24] at H
 have c24b0 : ((IntKind.u64.wrap (a2)) == 0) = false := beq_eq_false_iff_ne.mpr c24
 have c24b1 : ((IntKind.u64.wrap (a2)) != 0) = true := bne_iff_ne.mpr c24
 by_cases c25 : 0 ≤ x13_1
 case neg => exact nn c25 H
 rw [if_pos c25] at H
 have c25b0 : decide (0 ≤ x13_1) = true := decide_eq_true c25
 clear c25
 by_cases c26 : x13_1 < (x11_1.length : Int)
 case neg => exact nn c26 H
 rw [if_pos c26] at H
 have c26b0 : decide (x13_1 < (x11_1.length : Int)) = true := decide_eq_true c26
 clear c26
 obtain ⟨y122, hy122⟩ : ∃ y_ : List Int, y_ = (x11_1.set (x13_1 : Int).toNat ((Int.tmod (IntKind.u64.wrap ((IntKind.u64.wrap (rd x10_1 (ji21))) * t114)) (IntKind.u64.wrap (a2))) % 4294967296)) := ⟨_, rfl⟩
 replace H : (if (Int.tmod (IntKind.u64.wrap ((IntKind.u64.wrap (rd x10_1 (ji21))) * t114)) (IntKind.u64.wrap (a2))) = 0 then (modp_DivMod.l0 k1 l1 (IntKind.u64.wrap (a2)) x10_1 y122 t114 (wrap64 (x13_1 - 1))) else (modp_DivMod.l1 k1 l1 (IntKind.u64.wrap (a2)) x10_1 y122 t114 x13_1 (Int.tmod (IntKind.u64.wrap ((IntKind.u64.wrap (rd x10_1 (ji21))) * t114)) (IntKind.u64.wrap (a2))) l1 (l1.length : Int) 0)) = some (r1, r2, r3) := by first | (rw [hy122]; exact H) | exact H
 have Ny122 := am hy122
 clear hy122
 by_cases c28 : (Int.tmod (IntKind.u64.wrap ((IntKind.u64.wrap (rd x10_1 (ji21))) * t114)) (IntKind.u64.wrap (a2))) = 0
 · rw [if_pos c28] at H
   have c28b0 : ((Int.tmod (IntKind.u64.wrap ((IntKind.u64.wrap (rd x10_1 (ji21))) * t114)) (IntKind.u64.wrap (a2))) == 0) = true := beq_iff_eq.mpr c28
   have c28b1 : ((Int.tmod (IntKind.u64.wrap ((IntKind.u64.wrap (rd x10_1 (ji21))) * t114)) (IntKind.u64.wrap (a2))) != 0) = false := bne_eq_false_iff_eq.mpr c28
   clear c28
   have H' := am H
   clear H
   obtain ⟨Ao29, co29, eo29⟩ := Kd.R_slice HO_10.out
   subst eo29
   have p121 : 0 ≤ ((ji21) : Int) := of_decide_eq_true as_
   have q121 : (ji21) < (x10_1.length : Int) := of_decide_eq_true as_
   obtain ⟨ad121, e121, hx121_0⟩ := Kd.at_int (Kd.R_reads' HO_10.out).2.2 (ji21) p121 q121
   cases e121
   replace p121 := eq_true p121
   replace q121 := eq_true q121
   have p27 : 0 ≤ (x13_1 : Int) := of_decide_eq_true as_
   have q27 : (x13_1 : Int) < ((x11_1.length : Int) : Int) := of_decide_eq_true as_
   obtain ⟨go27, co27, eo27, gb27, gl27, cl27, HG27⟩ := Kd.R_form HO_11.out (by omega)
   (first | cases eo27 | (injection eo27 with ea_ en_ ec_; (first | subst ea_ | (injection ea_ with ea_; subst ea_)); subst ec_; clear en_))
   have GB27 := am gb27
   have GG27 := am HG27
   clear gb27 gl27 HG27
   obtain ⟨hx27_0, hf27_0⟩ := Kd.R_celln 0 HO_11.out (x13_1 : Int) p27 q27
   replace p27 := eq_true p27
   replace q27 := eq_true q27
   have HP30 := Kd.R_putg HO_11.out (x13_1 : Int) ((Int.tmod (IntKind.u64.wrap ((IntKind.u64.wrap (rd x10_1 (ji21))) * t114)) (IntKind.u64.wrap (a2))) % 4294967296)
   go_wp2_with (first | ((with_reducible refine gate_store (t := 23) (p := 70) rfl ?_); refine store_event (t := 23) (p := 70) (v := ?vo_w31) (w1 := (wr.setCell ⟨go27, (x13_1 : Int).toNat, none⟩ (.int .u32 ((Int.tmod (IntKind.u64.wrap ((IntKind.u64.wrap (rd x10_1 (ji21))) * t114)) (IntKind.u64.wrap (a2))) % 4294967296)))) ?hg ?ho ?hn ?hr ?_; (case ho => rfl); (case hg => rfl); (case hn => rfl); (case hr => first | (go_simp; done) | (go_simp; rfl)); intro w31 hw; have hg : wr.grownBy w31 (some go27) := (by rw [hw]; exact HP30.2); have hp_ : Kd.R (Kd.int .u32) 23 w31 w.heap.size (fun k_ => (w.heap.size ≤ k_) ∧ some k_ ≠ (.slice (some ad121) x10_1.length co29 : Value).ownBlock) (.slice (some ⟨go27, 0, none⟩) x11_1.length co19) y122 := (by rw [hw, Ny122.out]; exact HP30.1); clear HP30; have n0_ := am (Kd.R_after (v := (.slice (some ⟨go27, 0, none⟩) x11_1.length co19)) (v1 := (.slice (some ⟨go27, 0, none⟩) x11_1.length co19)) (ok := (fun k_ => (w.heap.size ≤ k_))) (rR HO_10.out) hg (.inl rfl)); have n1_ := am (hp_); have n2_ := am ((by rw [hw]; exact below_set (HB.out) GB27.out : Below w.heap.size w w31)); clear HO_10; clear HO_11; clear HB; have HO_10 := n0_; have HO_11 := n1_; have HB := n2_; clear n0_ n1_ n2_; clear hg hw hp_))
   (try simp only [← hl11_1])
   first | go_roundg k1 | (subst hji7; go_roundg k1) | (subst hji10; go_roundg k1) | (subst hji21; go_roundg k1)
   case measure => have := HK1.out; omega
   case rel => exact ⟨(x10_1), (y122), (wrap64 (x13_1 - 1)), eqS, (by first | exact H' | (subst_vars; exact H')), ⟨by have := HK1.out; omega⟩, ⟨by (try simp only [hl11_1]); (with_reducible repeat (first | apply Kd.R_alloc | apply Kd.R_drewN | apply Kd.R_drew)); exact HO_10.out⟩, ⟨by (try simp only [hl11_1]); (with_reducible repeat (first | apply Kd.R_alloc | apply Kd.R_drewN | apply Kd.R_drew)); exact HO_11.out⟩, ⟨bB⟩⟩
 rw [if_neg c28] at H
 have c28b0 : ((Int.tmod (IntKind.u64.wrap ((IntKind.u64.wrap (rd x10_1 (ji21))) * t114)) (IntKind.u64.wrap (a2))) == 0) = false := beq_eq_false_iff_ne.mpr c28
 have c28b1 : ((Int.tmod (IntKind.u64.wrap ((IntKind.u64.wrap (rd x10_1 (ji21))) * t114)) (IntKind.u64.wrap (a2))) != 0) = true := bne_iff_ne.mpr c28
 have H' := am H
 clear H
 obtain ⟨Ao32, co32, eo32⟩ := Kd.R_slice HO_10.out
 subst eo32
 have p121 : 0 ≤ ((ji21) : Int) := of_decide_eq_true as_
 have q121 : (ji21) < (x10_1.length : Int) := of_decide_eq_true as_
 obtain ⟨ad121, e121, hx121_0⟩ := Kd.at_int (Kd.R_reads' HO_10.out).2.2 (ji21) p121 q121
 cases e121
 replace p121 := eq_true p121
 replace q121 := eq_true q121
 have p27 : 0 ≤ (x13_1 : Int) := of_decide_eq_true as_
 have q27 : (x13_1 : Int) < ((x11_1.length : Int) : Int) := of_decide_eq_true as_
 obtain ⟨go27, co27, eo27, gb27, gl27, cl27, HG27⟩ := Kd.R_form HO_11.out (by omega)
 (first | cases eo27 | (injection eo27 with ea_ en_ ec_; (first | subst ea_ | (injection ea_ with ea_; subst ea_)); subst ec_; clear en_))
 have GB27 := am gb27
 have GG27 := am HG27
 clear gb27 gl27 HG27
 obtain ⟨hx27_0, hf27_0⟩ := Kd.R_celln 0 HO_11.out (x13_1 : Int) p27 q27
 replace p27 := eq_true p27
 replace q27 := eq_true q27
 have HP33 := Kd.R_putg HO_11.out (x13_1 : Int) ((Int.tmod (IntKind.u64.wrap ((IntKind.u64.wrap (rd x10_1 (ji21))) * t114)) (IntKind.u64.wrap (a2))) % 4294967296)
 go_wp2_with (first | ((with_reducible refine gate_store (t := 23) (p := 70) rfl ?_); refine store_event (t := 23) (p := 70) (v := ?vo_w34) (w1 := (wr.setCell ⟨go27, (x13_1 : Int).toNat, none⟩ (.int .u32 ((Int.tmod (IntKind.u64.wrap ((IntKind.u64.wrap (rd x10_1 (ji21))) * t114)) (IntKind.u64.wrap (a2))) % 4294967296)))) ?hg ?ho ?hn ?hr ?_; (case ho => rfl); (case hg => rfl); (case hn => rfl); (case hr => first | (go_simp; done) | (go_simp; rfl)); intro w34 hw; have hg : wr.grownBy w34 (some go27) := (by rw [hw]; exact HP33.2); have hp_ : Kd.R (Kd.int .u32) 23 w34 w.heap.size (fun k_ => (w.heap.size ≤ k_) ∧ some k_ ≠ (.slice (some ad121) x10_1.length co32 : Value).ownBlock) (.slice (some ⟨go27, 0, none⟩) x11_1.length co19) y122 := (by rw [hw, Ny122.out]; exact HP33.1); clear HP33; have n0_ := am (Kd.R_after (v := (.slice (some ⟨go27, 0, none⟩) x11_1.length co19)) (v1 := (.slice (some ⟨go27, 0, none⟩) x11_1.length co19)) (ok := (fun k_ => (w.heap.size ≤ k_))) (rR HO_10.out) hg (.inl rfl)); have n1_ := am (hp_); have n2_ := am ((by rw [hw]; exact below_set (HB.out) GB27.out : Below w.heap.size w w34)); clear HO_10; clear HO_11; clear HB; have HO_10 := n0_; have HO_11 := n1_; have HB := n2_; clear n0_ n1_ n2_; clear hg hw hp_))
 go_loopg [75] k1 (fun kq v75 w' => ∃ (x10_2 : List Int) (x75_2 : Int), v75 = .int .i64 x75_2 ∧ Aside0 (modp_DivMod.l1 kq l1 (IntKind.u64.wrap (a2)) x10_2 y122 t114 x13_1 (Int.tmod (IntKind.u64.wrap ((IntKind.u64.wrap (rd x10_1 (ji21))) * t114)) (IntKind.u64.wrap (a2))) l1 (l1.length : Int) x75_2 = some (r1, r2, r3)) ∧ Aside0 (kq ≤ k1) ∧ Aside0 (Kd.R (Kd.int .u32) 23 w' w.heap.size (fun k_ => (w.heap.size ≤ k_) ∧ some k_ ≠ ((.slice (some ⟨go27, 0, none⟩) x11_1.length co19) : Value).ownBlock) (.slice (some ad121) x10_1.length co32) x10_2) ∧ Aside0 (Kd.R (Kd.int .u32) 23 w' w.heap.size (fun k_ => (w.heap.size ≤ k_) ∧ some k_ ≠ ((.slice (some ad121) x10_1.length co32) : Value).ownBlock) (.slice (some ⟨go27, 0, none⟩) x11_1.length co19) y122) ∧ Aside0 (Below w.heap.size w w'))
 case atStart => exact ⟨(x10_1), (0), eqS, H', ⟨Nat.le_refl _⟩, ⟨by (try simp only [hl11_1]); (with_reducible repeat (first | apply Kd.R_alloc | apply Kd.R_drewN | apply Kd.R_drew)); exact HO_10.out⟩, ⟨by (try simp only [hl11_1]); (with_reducible repeat (first | apply Kd.R_alloc | apply Kd.R_drewN | apply Kd.R_drew)); exact HO_11.out⟩, ⟨bB⟩⟩
 clear H'
 clear c20b0 c22b0 c23b0 c24 c24b0 c24b1 c25b0 c26b0 p27 q27 c28 c28b0 c28b1 hx121_0 hx27_0 p121 q121
 obtain ⟨x10_2, x75_2, rfl, HA, HK2, HO_10, HO_11, HB⟩ := hrel
 have hl10_2 := (Kd.R_reads' HO_10.out).1
 rw [hl10_2] at HO_10
 (try simp only [hl10_2])
 (try simp only [hl10_2] at HO_11)
 have hl11_2 := (Kd.R_reads' HO_11.out).1
 rw [hl11_2] at HO_11
 (try simp only [hl11_2])
 (try simp only [hl11_2] at HO_10)
 rcases gk with _ | k2
 · exact absurd HA.out (by simp [modp_DivMod.l1])
 have H := HA.out
 clear HA
 simp only [modp_DivMod.l1] at H
 by_cases c35 : x75_2 < (l1.length : Int)
 case neg =>
   rw [if_neg c35] at H
   have c35b0 : decide (x75_2 < (l1.length : Int)) = false := decide_eq_false c35
   clear c35
   have H' := am H
   clear H
   go_wp2
   (try simp only [← hl11_1, ← hl10_2, ← hl11_2])
   first | (rw [show (⟨go27, ji7.toNat, none⟩ : Addr) = (⟨go27, 0, none⟩ : Addr).add ji7.toNat from (add_plain _ _).symm]; go_roundg k2) | (rw [show (⟨go27, ji10.toNat, none⟩ : Addr) = (⟨go27, 0, none⟩ : Addr).add ji10.toNat from (add_plain _ _).symm]; go_roundg k2) | (rw [show (⟨go27, ji21.toNat, none⟩ : Addr) = (⟨go27, 0, none⟩ : Addr).add ji21.toNat from (add_plain _ _).symm]; go_roundg k2) | (rw [show (⟨go42, ji7.toNat, none⟩ : Addr) = (⟨go42, 0, none⟩ : Addr).add ji7.toNat from (add_plain _ _).symm]; go_roundg k2) | (rw [show (⟨go42, ji10.toNat, none⟩ : Addr) = (⟨go42, 0, none⟩ : Addr).add ji10.toNat from (add_plain _ _).symm]; go_roundg k2) | (rw [show (⟨go42, ji21.toNat, none⟩ : Addr) = (⟨go42, 0, none⟩ : Addr).add ji21.toNat from (add_plain _ _).symm]; go_roundg k2) | go_roundg k2 | (subst hji7; go_roundg k2) | (subst hji10; go_roundg k2) | (subst hji21; go_roundg k2)
   case measure => have := HK1.out; have := HK2.out; omega
   case rel => exact ⟨(x10_2), (y122), (wrap64 (x13_1 - 1)), eqS, (by first | exact H' | (subst_vars; exact H')), ⟨by have := HK1.out; have := HK2.out; omega⟩, ⟨by (try simp only [hl11_1]); (try simp only [hl10_2]); (try simp only [hl11_2]); (with_reducible repeat (first | apply Kd.R_alloc | apply Kd.R_drewN | apply Kd.R_drew)); exact HO_10.out⟩, ⟨by (try simp only [hl11_1]); (try simp only [hl10_2]); (try simp only [hl11_2]); (with_reducible repeat (first | apply Kd.R_alloc | apply Kd.R_drewN | apply Kd.R_drew)); exact HO_11.out⟩, ⟨bB⟩⟩
 rw [if_pos c35] at H
 have c35b0 : decide (x75_2 < (l1.length : Int)) = true := decide_eq_true c35
 clear c35
 by_cases c36 : 0 ≤ x75_2
 case neg => exact nn c36 H
 rw [if_pos c36] at H
 have c36b0 : decide (0 ≤ x75_2) = true := decide_eq_true c36
 clear c36
 by_cases c37 : x75_2 < (l1.length : Int)
 case neg => exact nn c37 H
 rw [if_pos c37] at H
 have c37b0 : decide (x75_2 < (l1.length : Int)) = true := decide_eq_true c37
 clear c37
 obtain ⟨ji38, hji38⟩ : ∃ j_ : Int, (wrap64 (x13_1 + x75_2)) = j_ := ⟨_, rfl⟩
 replace H : (if 0 ≤ (ji38) then (if (ji38) < (x10_2.length : Int) then (if (IntKind.u64.wrap (a2)) = 0 then (none) else (modp_DivMod.l1 k2 l1 (IntKind.u64.wrap (a2)) (x10_2.set ((ji38) : Int).toNat ((Int.tmod (IntKind.u64.wrap ((IntKind.u64.wrap (rd x10_2 (ji38))) + (IntKind.u64.wrap ((IntKind.u64.wrap ((IntKind.u64.wrap (a2)) - (Int.tmod (IntKind.u64.wrap ((IntKind.u64.wrap (rd x10_1 (ji21))) * t114)) (IntKind.u64.wrap (a2))))) * (IntKind.u64.wrap (rd l1 x75_2)))))) (IntKind.u64.wrap (a2))) % 4294967296)) y122 t114 x13_1 (Int.tmod (IntKind.u64.wrap ((IntKind.u64.wrap (rd x10_1 (ji21))) * t114)) (IntKind.u64.wrap (a2))) l1 (l1.length : Int) (wrap64 (x75_2 + 1)))) else (none)) else (none)) = some (r1, r2, r3) := by first | (rw [hji38] at H; exact H) | (simp only [hji38] at H ⊢; exact H)
 have hji38w : (IntKind.i64.wrap (x13_1 + x75_2)) = ji38 := (i64_w _).trans hji38
 by_cases c39 : 0 ≤ (ji38)
 case neg => exact nn c39 H
 rw [if_pos c39] at H
 have c39b0 : decide (0 ≤ (ji38)) = true := decide_eq_true c39
 clear c39
 by_cases c40 : (ji38) < (x10_2.length : Int)
 case neg => exact nn c40 H
 rw [if_pos c40] at H
 have c40b0 : decide ((ji38) < (x10_2.length : Int)) = true := decide_eq_true c40
 clear c40
 by_cases c41 : (IntKind.u64.wrap (a2)) = 0
 · rw [if_pos c41] at H
   exact absurd H (by simp)
 rw [if_neg c41] at H
 have c41b0 : ((IntKind.u64.wrap (a2)) == 0) = false := beq_eq_false_iff_ne.mpr c41
 have c41b1 : ((IntKind.u64.wrap (a2)) != 0) = true := bne_iff_ne.mpr c41
 obtain ⟨y125, hy125⟩ : ∃ y_ : List Int, y_ = (x10_2.set ((ji38) : Int).toNat ((Int.tmod (IntKind.u64.wrap ((IntKind.u64.wrap (rd x10_2 (ji38))) + (IntKind.u64.wrap ((IntKind.u64.wrap ((IntKind.u64.wrap (a2)) - (Int.tmod (IntKind.u64.wrap ((IntKind.u64.wrap (rd x10_1 (ji21))) * t114)) (IntKind.u64.wrap (a2))))) * (IntKind.u64.wrap (rd l1 x75_2)))))) (IntKind.u64.wrap (a2))) % 4294967296)) := ⟨_, rfl⟩
 replace H : (modp_DivMod.l1 k2 l1 (IntKind.u64.wrap (a2)) y125 y122 t114 x13_1 (Int.tmod (IntKind.u64.wrap ((IntKind.u64.wrap (rd x10_1 (ji21))) * t114)) (IntKind.u64.wrap (a2))) l1 (l1.length : Int) (wrap64 (x75_2 + 1))) = some (r1, r2, r3) := by first | (rw [hy125]; exact H) | exact H
 have Ny125 := am hy125
 clear hy125
 have H' := am H
 clear H
 have p123 : 0 ≤ (x75_2 : Int) := of_decide_eq_true as_
 have q123 : x75_2 < (l1.length : Int) := of_decide_eq_true as_
 obtain ⟨ad123, e123, hx123_0⟩ := Kd.at_int HR1.out x75_2 p123 q123
 obtain rfl : ad113 = ad123 := (by injection e123)
 replace hx123_0 := (HB.out.cell (World.block_lt_of_cell? w _ hx123_0)).trans hx123_0
 replace p123 := eq_true p123
 replace q123 := eq_true q123
 have p124 : 0 ≤ ((ji38) : Int) := of_decide_eq_true as_
 have q124 : (ji38) < (x10_2.length : Int) := of_decide_eq_true as_
 obtain ⟨ad124, e124, hx124_0⟩ := Kd.at_int (Kd.R_reads' HO_10.out).2.2 (ji38) p124 q124
 obtain rfl : ad121 = ad124 := (by injection e124)
 replace p124 := eq_true p124
 replace q124 := eq_true q124
 have p42 : 0 ≤ ((ji38) : Int) := of_decide_eq_true as_
 have q42 : ((ji38) : Int) < ((x10_2.length : Int) : Int) := of_decide_eq_true as_
 obtain ⟨go42, co42, eo42, gb42, gl42, cl42, HG42⟩ := Kd.R_form HO_10.out (by omega)
 (first | cases eo42 | (injection eo42 with ea_ en_ ec_; (first | subst ea_ | (injection ea_ with ea_; subst ea_)); subst ec_; clear en_))
 have GB42 := am gb42
 have GG42 := am HG42
 clear gb42 gl42 HG42
 (first | simp only [add_plain] at hx121_0 | skip)
 (first | simp only [add_plain] at hx124_0 | skip)
 obtain ⟨hx42_0, hf42_0⟩ := Kd.R_celln 0 HO_10.out ((ji38) : Int) p42 q42
 replace p42 := eq_true p42
 replace q42 := eq_true q42
 have HP43 := Kd.R_putg HO_10.out ((ji38) : Int) ((Int.tmod (IntKind.u64.wrap ((IntKind.u64.wrap (rd x10_2 (ji38))) + (IntKind.u64.wrap ((IntKind.u64.wrap ((IntKind.u64.wrap (a2)) - (Int.tmod (IntKind.u64.wrap ((IntKind.u64.wrap (rd x10_1 (ji21))) * t114)) (IntKind.u64.wrap (a2))))) * (IntKind.u64.wrap (rd l1 x75_2)))))) (IntKind.u64.wrap (a2))) % 4294967296)
 go_wp2_with (first | ((with_reducible refine gate_store (t := 23) (p := 101) rfl ?_); refine store_event (t := 23) (p := 101) (v := ?vo_w44) (w1 := (wr.setCell ⟨go42, ((ji38) : Int).toNat, none⟩ (.int .u32 ((Int.tmod (IntKind.u64.wrap ((IntKind.u64.wrap (rd x10_2 (ji38))) + (IntKind.u64.wrap ((IntKind.u64.wrap ((IntKind.u64.wrap (a2)) - (Int.tmod (IntKind.u64.wrap ((IntKind.u64.wrap (rd x10_1 (ji21))) * t114)) (IntKind.u64.wrap (a2))))) * (IntKind.u64.wrap (rd l1 x75_2)))))) (IntKind.u64.wrap (a2))) % 4294967296)))) ?hg ?ho ?hn ?hr ?_; (case ho => rfl); (case hg => rfl); (case hn => rfl); (case hr => first | (go_simp; done) | (go_simp; rfl)); intro w44 hw; have hg : wr.grownBy w44 (some go42) := (by rw [hw]; exact HP43.2); have hp_ : Kd.R (Kd.int .u32) 23 w44 w.heap.size (fun k_ => (w.heap.size ≤ k_) ∧ some k_ ≠ (.slice (some ⟨go27, 0, none⟩) y122.length co19 : Value).ownBlock) (.slice (some ⟨go42, 0, none⟩) x10_2.length co32) y125 := (by rw [hw, Ny125.out]; exact HP43.1); clear HP43; have n0_ := am (hp_); have n1_ := am (Kd.R_after (v := (.slice (some ⟨go42, 0, none⟩) x10_2.length co32)) (v1 := (.slice (some ⟨go42, 0, none⟩) x10_2.length co32)) (ok := (fun k_ => (w.heap.size ≤ k_))) (rR HO_11.out) hg (.inl rfl)); have n2_ := am ((by rw [hw]; exact below_set (HB.out) GB42.out : Below w.heap.size w w44)); clear HO_10; clear HO_11; clear HB; have HO_10 := n0_; have HO_11 := n1_; have HB := n2_; clear n0_ n1_ n2_; clear hg hw hp_))
 (try simp only [← hl10_2, ← hl11_2])
 first | (rw [show (⟨go27, ji7.toNat, none⟩ : Addr) = (⟨go27, 0, none⟩ : Addr).add ji7.toNat from (add_plain _ _).symm]; go_roundg k2) | (rw [show (⟨go27, ji10.toNat, none⟩ : Addr) = (⟨go27, 0, none⟩ : Addr).add ji10.toNat from (add_plain _ _).symm]; go_roundg k2) | (rw [show (⟨go27, ji21.toNat, none⟩ : Addr) = (⟨go27, 0, none⟩ : Addr).add ji21.toNat from (add_plain _ _).symm]; go_roundg k2) | (rw [show (⟨go27, ji38.toNat, none⟩ : Addr) = (⟨go27, 0, none⟩ : Addr).add ji38.toNat from (add_plain _ _).symm]; go_roundg k2) | (rw [show (⟨go42, ji7.toNat, none⟩ : Addr) = (⟨go42, 0, none⟩ : Addr).add ji7.toNat from (add_plain _ _).symm]; go_roundg k2) | (rw [show (⟨go42, ji10.toNat, none⟩ : Addr) = (⟨go42, 0, none⟩ : Addr).add ji10.toNat from (add_plain _ _).symm]; go_roundg k2) | (rw [show (⟨go42, ji21.toNat, none⟩ : Addr) = (⟨go42, 0, none⟩ : Addr).add ji21.toNat from (add_plain _ _).symm]; go_roundg k2) | (rw [show (⟨go42, ji38.toNat, none⟩ : Addr) = (⟨go42, 0, none⟩ : Addr).add ji38.toNat from (add_plain _ _).symm]; go_roundg k2) | go_roundg k2 | (subst hji7; go_roundg k2) | (subst hji10; go_roundg k2) | (subst hji21; go_roundg k2) | (subst hji38; go_roundg k2)
 case measure => have := HK1.out; have := HK2.out; omega
 case rel => exact ⟨(y125), (wrap64 (x75_2 + 1)), eqS, (by first | exact H' | (subst_vars; exact H')), ⟨by have := HK1.out; have := HK2.out; omega⟩, ⟨by (try simp only [hl11_1]); (try simp only [hl10_2]); (try simp only [hl11_2]); (with_reducible repeat (first | apply Kd.R_alloc | apply Kd.R_drewN | apply Kd.R_drew)); exact HO_10.out⟩, ⟨by (try simp only [hl11_1]); (try simp only [hl10_2]); (try simp only [hl11_2]); (with_reducible repeat (first | apply Kd.R_alloc | apply Kd.R_drewN | apply Kd.R_drew)); exact HO_11.out⟩, ⟨bB⟩⟩
theorem V_of_C {w : World} {A : Option Addr} {c : Nat} {l : List Int} (hr : Kd.C (Kd.int .u32) w A l.length l) (hc : l.length ≤ c) : Kd.V (Kd.int .u32) 23 w w.heap.size (fun k_ => k_ < w.heap.size) (.slice A l.length c) l :=
 ⟨A, c, rfl, hc, Kd.C_F (Kd.heap_int .u32) hr⟩
theorem modp_DivMod.callsV (k : Nat) (A0 : Option Addr) (c0 : Nat) (l0 : List Int) (A1 : Option Addr) (c1 : Nat) (l1 : List Int) (a2 : Int) (r1 : List Int) (r2 : List Int) (r3 : Int) (w : World) (hr0 : Kd.C (Kd.int .u32) w A0 l0.length l0) (hc0 : l0.length ≤ c0) (hr1 : Kd.C (Kd.int .u32) w A1 l1.length l1) (hc1 : l1.length ≤ c1) (h : modp_DivMod.f k l0 l1 a2 = some (r1, r2, r3)) :
   Calls Tryz.prog 15 #[.slice A0 l0.length c0, .slice A1 l1.length c1, .int .u32 a2] w fun e w' => ∃ v0_ v1_ : Value, e = .returned (.tuple #[v0_, v1_, .int .i64 r3]) ∧ Kd.V (Kd.int .u32) 23 w' w.heap.size (fun k_ => (w.heap.size ≤ k_)) v0_ r1 ∧ CV w' v1_ r2 ∧ Below w.heap.size w w' :=
 (modp_DivMod.callsP k _ A0 c0 l0 A1 c1 l1 a2 r1 r2 r3 w (V_of_C hr0 hc0) hr1 hc1 h).mono (fun _ _ ⟨v0, v1, he, h0, h1, hb⟩ => ⟨v0, v1, he, h0, CV_of h1, hb⟩)
theorem modp_DivMod.calls (k : Nat) (A0 : Option Addr) (c0 : Nat) (l0 : List Int) (A1 : Option Addr) (c1 : Nat) (l1 : List Int) (a2 : Int) (r1 : List Int) (r2 : List Int) (r3 : Int) (w : World) (hr0 : Kd.C (Kd.int .u32) w A0 l0.length l0) (hc0 : l0.length ≤ c0) (hr1 : Kd.C (Kd.int .u32) w A1 l1.length l1) (hc1 : l1.length ≤ c1) (h : modp_DivMod.f k l0 l1 a2 = some (r1, r2, r3)) :
   Calls Tryz.prog 15 #[.slice A0 l0.length c0, .slice A1 l1.length c1, .int .u32 a2] w fun e w' => ∃ v0_ v1_ : Value, e = .returned (.tuple #[v0_, v1_, .int .i64 r3]) ∧ CV w' v0_ r1 ∧ CV w' v1_ r2 ∧ Below w.heap.size w w' :=
 (modp_DivMod.callsV k A0 c0 l0 A1 c1 l1 a2 r1 r2 r3 w hr0 hc0 hr1 hc1 h).mono (fun _ _ ⟨v0, v1, he, h0, h1, hb⟩ => ⟨v0, v1, he, CV_of h0, h1, hb⟩)
def modp_times.l0 : Nat → Int → Int → List Int → List Int → Int → Int → Option (List Int)
 | 0, _, _, _, _, _, _ => none
 | k + 1, x1, x2, x7, x13, x14, x15 => if x15 < x14 then (if 0 ≤ x15 then (if x15 < (x13.length : Int) then (if (IntKind.u64.wrap (x2)) = 0 then (none) else (if x15 < (x7.length : Int) then (modp_times.l0 k x1 x2 (x7.set (x15 : Int).toNat ((Int.tmod (IntKind.u64.wrap ((IntKind.u64.wrap (rd x13 x15)) * x1)) (IntKind.u64.wrap (x2))) % 4294967296)) x13 x14 (wrap64 (x15 + 1))) else (none))) else (none)) else (none)) else ((modp_trim.f k x7).bind fun t138 => (some t138))
def modp_times.f (k : Nat) (l0 : List Int) (a1 : Int) (a2 : Int) : Option (List Int) := if 0 ≤ (l0.length : Int) then (if ((l0.length : Int) : Int).toNat ≤ 70368744177664 then (modp_times.l0 k a1 a2 (List.replicate ((l0.length : Int) : Int).toNat 0) l0 (l0.length : Int) 0) else (none)) else (none)
theorem modp_times.calls (k : Nat) (A0 : Option Addr) (c0 : Nat) (l0 : List Int) (a1 : Int) (a2 : Int) (r : List Int) (w : World) (hr0 : Kd.C (Kd.int .u32) w A0 l0.length l0) (hc0 : l0.length ≤ c0) (h : modp_times.f k l0 a1 a2 = some r) :
   Calls Tryz.prog 63 #[.slice A0 l0.length c0, .int .u64 a1, .int .u32 a2] w fun e w' => ∃ v0_ : Value, e = .returned (v0_) ∧ Kd.V (Kd.int .u32) 23 w' w.heap.size (fun k_ => (w.heap.size ≤ k_)) v0_ r ∧ Below w.heap.size w w' := by
 have HR0 := am hr0
 have HC0 := am hc0
 clear hr0 hc0
 have HB := am (Below.refl w.heap.size w)
 have H := h; unfold modp_times.f at H
 clear h
 by_cases c4 : 0 ≤ (l0.length : Int)
 case neg => exact nn c4 H
 rw [if_pos c4] at H
 have c4b0 := eq_true c4
 have c4b1 : decide (0 ≤ (l0.length : Int)) = true := decide_eq_true c4
 clear c4
 by_cases c5 : ((l0.length : Int) : Int).toNat ≤ 70368744177664
 case neg => exact nn c5 H
 rw [if_pos c5] at H
 have c5b0 := eq_true c5
 have c5b1 : decide (((l0.length : Int) : Int).toNat ≤ 70368744177664) = true := decide_eq_true c5
 clear c5
 obtain ⟨y133, hy133⟩ : ∃ y_ : List Int, y_ = (List.replicate ((l0.length : Int) : Int).toNat 0) := ⟨_, rfl⟩
 replace H : (modp_times.l0 k a1 a2 y133 l0 (l0.length : Int) 0) = some r := by first | (rw [hy133]; exact H) | exact H
 have Ny133 := am hy133
 clear hy133
 have H' := am H
 clear H
 go_enter Tryz.func63, Tryz.ntmps63
 go_wp2_with (first | ((with_reducible refine gate_dst (N := 12) rfl ?_); refine Kd.R_make (Kd.int .u32) _ 23 rfl (N := 12) rfl 27 _ _ rfl (l0.length : Int) rfl rfl Tryz.underlying27 (.int .u32 0) 4 info23 rfl (by decide) (by omega) 0 (ok := fun _ => True) (okp := fun _ => True) rfl (fun _ hk => hk) trivial (of_decide_eq_true as_) (Nat.le_trans (Nat.mul_le_mul_right _ (of_decide_eq_true as_ : (l0.length : Int).toNat ≤ 70368744177664)) (by omega)) (Below.refl _ _) (Nat.le_refl _) ?_; intro v134 w6 ho7 hb hg_ hnew_; clear hg_ hnew_; (first | rw [← Ny133.out] at ho7 | (simp only [Int.reduceToNat] at ho7; rw [← Ny133.out] at ho7)); have n0_ := am (Kd.R_lower (Kd.R_newM (M := fun k_ => (w.heap.size ≤ k_)) ho7 (below_size bB) (fun k_ h_ => h_)) (below_size bB)); have n1_ := am (below_step bB hb); clear HB; have HO135 := n0_; have HB := n1_; clear n0_ n1_; clear hb ho7))
 go_loopg [15] k (fun kq v15 w' => ∃ (x7_1 : List Int) (x15_1 : Int), v15 = .int .i64 x15_1 ∧ Aside0 (modp_times.l0 kq a1 a2 x7_1 l0 (l0.length : Int) x15_1 = some r) ∧ Aside0 (kq ≤ k) ∧ Aside0 (Kd.R (Kd.int .u32) 23 w' w.heap.size (fun k_ => (w.heap.size ≤ k_)) v134 x7_1) ∧ Aside0 (Below w.heap.size w w'))
 case atStart => exact ⟨(y133), (0), eqS, H', ⟨Nat.le_refl _⟩, ⟨by (with_reducible repeat (first | apply Kd.R_alloc | apply Kd.R_drewN | apply Kd.R_drew)); exact Kd.R_mono HO135.out (fun _ hk => hk.1)⟩, ⟨bB⟩⟩
 clear H'
 (try clear p2); (try clear c4); (try clear c4b0); (try clear c4b1); (try clear c5); (try clear c5b0); (try clear c5b1)
 obtain ⟨x7_1, x15_1, rfl, HA, HK1, HO_7, HB⟩ := hrel
 rcases gk with _ | k1
 · exact absurd HA.out (by simp [modp_times.l0])
 have H := HA.out
 clear HA
 simp only [modp_times.l0] at H
 by_cases c8 : x15_1 < (l0.length : Int)
 case neg =>
   rw [if_neg c8] at H
   have c8b0 : decide (x15_1 < (l0.length : Int)) = false := decide_eq_false c8
   clear c8
   obtain ⟨t138, A160, H⟩ := Option.bind_eq_some_iff.mp H
   replace H : (some t138) = some r := H
   have A16 := am A160
   clear A160
   obtain rfl := Option.some.inj H
   obtain ⟨Ao17, co17, eo17⟩ := Kd.R_slice HO_7.out
   subst eo17
   go_wp2_with (first | ((with_reducible refine gate_callee (f := 29) rfl ?_); refine goesA (some 33) Tryz.func29 #[.slice Ao17 x7_1.length co17] ?_; (with_reducible refine (modp_trim.calls k1 (fun k_ => some k_ = (.slice Ao17 x7_1.length co17 : Value).ownBlock) _ _ x7_1 t138 _ ?side1 A16.out).mono ?_); (case side1 => exact Kd.R_V (Kd.R_tight rfl (HO_7.out))); rintro e w18 ⟨v139, rfl, ho0, hb⟩; refine ⟨_, rfl, ?_⟩; have n0_ := am (Kd.R_below (rR HO_7.out) hb); have n1_ := am (Kd.V_lower (Kd.V_mono (ok' := fun k_ => (w.heap.size ≤ k_)) ho0 (fun k_ hk_ => Or.elim hk_ (fun hs_ => ((HO_7.out).1 k_ hs_.symm)) (fun hn_ => (Nat.le_trans (below_size bB) hn_)))) (below_size bB)); have n2_ := am (below_step bB hb); clear HO_7; clear HB; have HO_7 := n0_; have HO140 := n1_; have HB := n2_; clear n0_ n1_ n2_; (try clear hb); (try clear hb2); (try clear hk); (try clear hi); (try clear ho0)))
   go_ret
   exact ⟨_, eqR, rV (HO140.out), bB⟩
 rw [if_pos c8] at H
 have c8b0 : decide (x15_1 < (l0.length : Int)) = true := decide_eq_true c8
 clear c8
 by_cases c9 : 0 ≤ x15_1
 case neg => exact nn c9 H
 rw [if_pos c9] at H
 have c9b0 : decide (0 ≤ x15_1) = true := decide_eq_true c9
 clear c9
 by_cases c10 : x15_1 < (l0.length : Int)
 case neg => exact nn c10 H
 rw [if_pos c10] at H
 have c10b0 : decide (x15_1 < (l0.length : Int)) = true := decide_eq_true c10
 clear c10
 by_cases c11 : (IntKind.u64.wrap (a2)) = 0
 · rw [if_pos c11] at H
   exact absurd H (by simp)
 rw [if_neg c11] at H
 have c11b0 : ((IntKind.u64.wrap (a2)) == 0) = false := beq_eq_false_iff_ne.mpr c11
 have c11b1 : ((IntKind.u64.wrap (a2)) != 0) = true := bne_iff_ne.mpr c11
 by_cases c12 : x15_1 < (x7_1.length : Int)
 case neg => exact nn c12 H
 rw [if_pos c12] at H
 have c12b0 : decide (x15_1 < (x7_1.length : Int)) = true := decide_eq_true c12
 clear c12
 obtain ⟨y137, hy137⟩ : ∃ y_ : List Int, y_ = (x7_1.set (x15_1 : Int).toNat ((Int.tmod (IntKind.u64.wrap ((IntKind.u64.wrap (rd l0 x15_1)) * a1)) (IntKind.u64.wrap (a2))) % 4294967296)) := ⟨_, rfl⟩
 replace H : (modp_times.l0 k1 a1 a2 y137 l0 (l0.length : Int) (wrap64 (x15_1 + 1))) = some r := by first | (rw [hy137]; exact H) | exact H
 have Ny137 := am hy137
 clear hy137
 have H' := am H
 clear H
 have p136 : 0 ≤ (x15_1 : Int) := of_decide_eq_true as_
 have q136 : x15_1 < (l0.length : Int) := of_decide_eq_true as_
 obtain ⟨ad136, e136, hx136_0⟩ := Kd.at_int HR0.out x15_1 p136 q136
 cases e136
 replace hx136_0 := (HB.out.cell (World.block_lt_of_cell? w _ hx136_0)).trans hx136_0
 replace p136 := eq_true p136
 replace q136 := eq_true q136
 have p13 : 0 ≤ (x15_1 : Int) := of_decide_eq_true as_
 have q13 : (x15_1 : Int) < ((x7_1.length : Int) : Int) := of_decide_eq_true as_
 obtain ⟨go13, co13, eo13, gb13, gl13, cl13, HG13⟩ := Kd.R_form HO_7.out (by omega)
 (first | cases eo13 | (injection eo13 with ea_ en_ ec_; (first | subst ea_ | (injection ea_ with ea_; subst ea_)); subst ec_; clear en_))
 have GB13 := am gb13
 have GG13 := am HG13
 clear gb13 gl13 HG13
 obtain ⟨hx13_0, hf13_0⟩ := Kd.R_celln 0 HO_7.out (x15_1 : Int) p13 q13
 replace p13 := eq_true p13
 replace q13 := eq_true q13
 have HP14 := Kd.R_putg HO_7.out (x15_1 : Int) ((Int.tmod (IntKind.u64.wrap ((IntKind.u64.wrap (rd l0 x15_1)) * a1)) (IntKind.u64.wrap (a2))) % 4294967296)
 go_wp2_with (first | ((with_reducible refine gate_store (t := 23) (p := 30) rfl ?_); refine store_event (t := 23) (p := 30) (v := ?vo_w15) (w1 := (wr.setCell ⟨go13, (x15_1 : Int).toNat, none⟩ (.int .u32 ((Int.tmod (IntKind.u64.wrap ((IntKind.u64.wrap (rd l0 x15_1)) * a1)) (IntKind.u64.wrap (a2))) % 4294967296)))) ?hg ?ho ?hn ?hr ?_; (case ho => rfl); (case hg => rfl); (case hn => rfl); (case hr => first | (go_simp; done) | (go_simp; rfl)); intro w15 hw; have hg : wr.grownBy w15 (some go13) := (by rw [hw]; exact HP14.2); have hp_ : Kd.R (Kd.int .u32) 23 w15 w.heap.size (fun k_ => (w.heap.size ≤ k_)) (.slice (some ⟨go13, 0, none⟩) x7_1.length co13) y137 := (by rw [hw, Ny137.out]; exact HP14.1); clear HP14; have n0_ := am (hp_); have n1_ := am ((by rw [hw]; exact below_set (HB.out) GB13.out : Below w.heap.size w w15)); clear HO_7; clear HB; have HO_7 := n0_; have HB := n1_; clear n0_ n1_; clear hg hw hp_))
 go_roundg k1
 case measure => have := HK1.out; omega
 case rel => exact ⟨(y137), (wrap64 (x15_1 + 1)), eqS, (by first | exact H' | (subst_vars; exact H')), ⟨by have := HK1.out; omega⟩, ⟨rR (HO_7.out)⟩, ⟨bB⟩⟩
def modp_monic.f (k : Nat) (l0 : List Int) (a1 : Int) : Option (List Int) := if (l0.length : Int) = 0 then (some ([] : List Int)) else (if 0 ≤ (wrap64 ((l0.length : Int) - 1)) then (if (wrap64 ((l0.length : Int) - 1)) < (l0.length : Int) then ((modp_inverse.f k (IntKind.u64.wrap (rd l0 (wrap64 ((l0.length : Int) - 1)))) a1).bind fun t142 => ((modp_times.f k l0 t142 a1).bind fun t143 => (some t143))) else (none)) else (none))
theorem modp_monic.calls (k : Nat) (A0 : Option Addr) (c0 : Nat) (l0 : List Int) (a1 : Int) (r : List Int) (w : World) (hr0 : Kd.C (Kd.int .u32) w A0 l0.length l0) (hc0 : l0.length ≤ c0) (h : modp_monic.f k l0 a1 = some r) :
   Calls Tryz.prog 38 #[.slice A0 l0.length c0, .int .u32 a1] w fun e w' => ∃ v0_ : Value, e = .returned (v0_) ∧ Kd.V (Kd.int .u32) 23 w' w.heap.size (fun k_ => (w.heap.size ≤ k_)) v0_ r ∧ Below w.heap.size w w' := by
 have HR0 := am hr0
 have HC0 := am hc0
 clear hr0 hc0
 have HB := am (Below.refl w.heap.size w)
 have H := h; unfold modp_monic.f at H
 clear h
 by_cases c3 : (l0.length : Int) = 0
 · rw [if_pos c3] at H
   have c3b0 : ((l0.length : Int) == 0) = true := beq_iff_eq.mpr c3
   have c3b1 : ((l0.length : Int) != 0) = false := bne_eq_false_iff_eq.mpr c3
   clear c3
   obtain rfl := Option.some.inj H
   go_enter Tryz.func38, Tryz.ntmps38
   go_wp2
   go_ret
   exact ⟨(.slice none 0 0), eqR, Kd.R_V (base := w.heap.size) (by first | exact Kd.R_nil _ _ _ _ _ | exact Kd.N_nil _ _ _ _ _ | exact Kd.V_nil _ _ _ _ _ | exact Kd.Q_nil _ _ _ _ _ | exact Kd.S_nil _ _ _ _ _), bB⟩
 rw [if_neg c3] at H
 have c3b0 : ((l0.length : Int) == 0) = false := beq_eq_false_iff_ne.mpr c3
 have c3b1 : ((l0.length : Int) != 0) = true := bne_iff_ne.mpr c3
 have c3b2 : ¬ (l0 = []) := fun h_ => c3 (by rw [h_]; rfl)
 obtain ⟨ji4, hji4⟩ : ∃ j_ : Int, (wrap64 ((l0.length : Int) - 1)) = j_ := ⟨_, rfl⟩
 replace H : (if 0 ≤ (ji4) then (if (ji4) < (l0.length : Int) then ((modp_inverse.f k (IntKind.u64.wrap (rd l0 (ji4))) a1).bind fun t142 => ((modp_times.f k l0 t142 a1).bind fun t143 => (some t143))) else (none)) else (none)) = some r := by first | (rw [hji4] at H; exact H) | (simp only [hji4] at H ⊢; exact H)
 have hji4w : (IntKind.i64.wrap ((l0.length : Int) - 1)) = ji4 := (i64_w _).trans hji4
 by_cases c5 : 0 ≤ (ji4)
 case neg => exact nn c5 H
 rw [if_pos c5] at H
 have c5b0 : decide (0 ≤ (ji4)) = true := decide_eq_true c5
 clear c5
 by_cases c6 : (ji4) < (l0.length : Int)
 case neg => exact nn c6 H
 rw [if_pos c6] at H
 have c6b0 : decide ((ji4) < (l0.length : Int)) = true := decide_eq_true c6
 clear c6
 obtain ⟨t142, A70, H⟩ := Option.bind_eq_some_iff.mp H
 try dsimp only at H
 have A7 := am A70
 clear A70
 obtain ⟨t143, A80, H⟩ := Option.bind_eq_some_iff.mp H
 replace H : (some t143) = some r := H
 have A8 := am A80
 clear A80
 obtain rfl := Option.some.inj H
 have p141 : 0 ≤ ((ji4) : Int) := of_decide_eq_true as_
 have q141 : (ji4) < (l0.length : Int) := of_decide_eq_true as_
 obtain ⟨ad141, e141, hx141_0⟩ := Kd.at_int HR0.out (ji4) p141 q141
 cases e141
 replace p141 := eq_true p141
 replace q141 := eq_true q141
 go_enter Tryz.func38, Tryz.ntmps38
 go_wp2_with (first | ((with_reducible refine gate_callee (f := 44) rfl ?_); refine goesL_ (some 17) rfl rfl Tryz.func44 (by kernel_rfl) rfl #[.int .u64 (IntKind.u64.wrap (rd l0 (ji4))), .int .u32 a1] rfl (by (try simp only [List.map_toArray, List.map_cons, List.map_nil]); first | done | (simp only [hji4]; rfl) | rfl | (simp only [List.length_drop, List.length_take]; rfl)) ?_; (with_reducible refine (modp_inverse.calls k (IntKind.u64.wrap (rd l0 (ji4))) a1 t142 _ A7.out).mono ?_); rintro e w' ⟨rfl, ⟨nd, rfl⟩⟩; refine ⟨_, rfl, ?_⟩) | ((with_reducible refine gate_callee (f := 63) rfl ?_); refine goesA (some 19) Tryz.func63 #[.slice (some ad141) l0.length c0, .int .u64 t142, .int .u32 a1] ?_; (with_reducible refine (modp_times.calls k _ _ l0 t142 a1 t143 _ ?side1 ?side2 A8.out).mono ?_); (case side1 => exact kC2 (HR0.out)); (case side2 => exact HC0.out); rintro e w9 ⟨v144, rfl, ho0, hb⟩; refine ⟨_, rfl, ?_⟩; have n0_ := am (Kd.V_lower (Kd.V_mono (ok' := fun k_ => (w.heap.size ≤ k_)) ho0 (fun k_ hk_ => (Nat.le_trans (below_size bB) hk_))) (below_size bB)); have n1_ := am (below_step bB hb); clear HB; have HO145 := n0_; have HB := n1_; clear n0_ n1_; (try clear hb); (try clear hb2); (try clear hk); (try clear hi); (try clear ho0)))
 go_ret
 exact ⟨_, by first | rfl | (simp [errW_none, errW_some] <;> rfl) | (simp only [← hji4]; first | rfl | (simp [errW_none, errW_some] <;> rfl)) | (simp [*, errW_none, errW_some] <;> rfl), rV (HO145.out), bB⟩
def nat_Bits.f (l0 : List Int) : Option (Int) := if (l0.length : Int) = 0 then (some 0) else (if 0 ≤ (wrap64 ((l0.length : Int) - 1)) then (if (wrap64 ((l0.length : Int) - 1)) < (l0.length : Int) then ((bits_Len32.f (rd l0 (wrap64 ((l0.length : Int) - 1)))).bind fun t175 => (some (wrap64 ((wrap64 (32 * (wrap64 ((l0.length : Int) - 1)))) + t175)))) else (none)) else (none))
theorem nat_Bits.calls (A0 : Option Addr) (c0 : Nat) (l0 : List Int) (r : Int) (w : World) (hr0 : Kd.C (Kd.int .u32) w A0 l0.length l0) (hc0 : l0.length ≤ c0) (h : nat_Bits.f l0 = some r) :
   Calls Tryz.prog 46 #[.slice A0 l0.length c0] w fun e w' => e = .returned (.int .i64 r) ∧ Drawn0 w w' := by
 have HR0 := am hr0
 have HC0 := am hc0
 clear hr0 hc0
 have H := h; unfold nat_Bits.f at H
 clear h
 by_cases c2 : (l0.length : Int) = 0
 · rw [if_pos c2] at H
   have c2b0 : ((l0.length : Int) == 0) = true := beq_iff_eq.mpr c2
   have c2b1 : ((l0.length : Int) != 0) = false := bne_eq_false_iff_eq.mpr c2
   clear c2
   obtain rfl := Option.some.inj H
   go_enter Tryz.func46, Tryz.ntmps46
   go_wp2
   go_ret
   exact ⟨eqS, dR⟩
 rw [if_neg c2] at H
 have c2b0 : ((l0.length : Int) == 0) = false := beq_eq_false_iff_ne.mpr c2
 have c2b1 : ((l0.length : Int) != 0) = true := bne_iff_ne.mpr c2
 have c2b2 : ¬ (l0 = []) := fun h_ => c2 (by rw [h_]; rfl)
 obtain ⟨ji3, hji3⟩ : ∃ j_ : Int, (wrap64 ((l0.length : Int) - 1)) = j_ := ⟨_, rfl⟩
 replace H : (if 0 ≤ (ji3) then (if (ji3) < (l0.length : Int) then ((bits_Len32.f (rd l0 (ji3))).bind fun t175 => (some (wrap64 ((wrap64 (32 * (ji3))) + t175)))) else (none)) else (none)) = some r := by first | (rw [hji3] at H; exact H) | (simp only [hji3] at H ⊢; exact H)
 have hji3w : (IntKind.i64.wrap ((l0.length : Int) - 1)) = ji3 := (i64_w _).trans hji3
 by_cases c4 : 0 ≤ (ji3)
 case neg => exact nn c4 H
 rw [if_pos c4] at H
 have c4b0 : decide (0 ≤ (ji3)) = true := decide_eq_true c4
 clear c4
 by_cases c5 : (ji3) < (l0.length : Int)
 case neg => exact nn c5 H
 rw [if_pos c5] at H
 have c5b0 : decide ((ji3) < (l0.length : Int)) = true := decide_eq_true c5
 clear c5
 obtain ⟨t175, A60, H⟩ := Option.bind_eq_some_iff.mp H
 try dsimp only at H
 have A6 := am A60
 clear A60
 obtain rfl := Option.some.inj H
 have p174 : 0 ≤ ((ji3) : Int) := of_decide_eq_true as_
 have q174 : (ji3) < (l0.length : Int) := of_decide_eq_true as_
 obtain ⟨ad174, e174, hx174_0⟩ := Kd.at_int HR0.out (ji3) p174 q174
 cases e174
 replace p174 := eq_true p174
 replace q174 := eq_true q174
 go_enter Tryz.func46, Tryz.ntmps46
 go_wp2_with (first | ((with_reducible refine gate_callee (f := 68) rfl ?_); refine goesL_ (some 16) rfl rfl Tryz.func68 (by kernel_rfl) rfl #[.int .u32 (rd l0 (ji3))] rfl (by (try simp only [List.map_toArray, List.map_cons, List.map_nil]); first | done | (simp only [hji3]; rfl) | rfl | (simp only [List.length_drop, List.length_take]; rfl)) ?_; (with_reducible refine (bits_Len32.calls (rd l0 (ji3)) t175 _ A6.out).mono ?_); rintro e w' ⟨rfl, ⟨nd, rfl⟩⟩; refine ⟨_, rfl, ?_⟩))
 go_ret
 exact ⟨by first | rfl | (simp; done) | (simp only [← hji3] <;> (first | rfl | simp)) | (simp [*]; done), by repeat (first | exact Drawn0.refl _ | apply Drawn0.step)⟩
def nat_at.f (l0 : List Int) (a1 : Int) : Option (Int) := if a1 < 0 then (some 0) else (if a1 ≥ (l0.length : Int) then (some 0) else (if 0 ≤ a1 then (if a1 < (l0.length : Int) then (some (rd l0 a1)) else (none)) else (none)))
theorem nat_at.calls (A0 : Option Addr) (c0 : Nat) (l0 : List Int) (a1 : Int) (r : Int) (w : World) (hr0 : Kd.C (Kd.int .u32) w A0 l0.length l0) (hc0 : l0.length ≤ c0) (h : nat_at.f l0 a1 = some r) :
   Calls Tryz.prog 69 #[.slice A0 l0.length c0, .int .i64 a1] w fun e w' => e = .returned (.int .u32 r) ∧ Drawn0 w w' := by
 have HR0 := am hr0
 have HC0 := am hc0
 clear hr0 hc0
 have H := h; unfold nat_at.f at H
 clear h
 by_cases c3 : a1 < 0
 · rw [if_pos c3] at H
   have c3b0 : decide (a1 < 0) = true := decide_eq_true c3
   clear c3
   obtain rfl := Option.some.inj H
   go_enter Tryz.func69, Tryz.ntmps69
   go_wp2
   go_ret
   exact ⟨eqS, dR⟩
 rw [if_neg c3] at H
 have c3b0 : decide (a1 < 0) = false := decide_eq_false c3
 clear c3
 by_cases c4 : a1 ≥ (l0.length : Int)
 · rw [if_pos c4] at H
   have c4b0 : decide ((l0.length : Int) ≤ a1) = true := decide_eq_true c4
   clear c4
   obtain rfl := Option.some.inj H
   go_enter Tryz.func69, Tryz.ntmps69
   go_wp2
   go_ret
   exact ⟨eqS, dR⟩
 rw [if_neg c4] at H
 have c4b0 : decide ((l0.length : Int) ≤ a1) = false := decide_eq_false c4
 clear c4
 by_cases c5 : 0 ≤ a1
 case neg => exact nn c5 H
 rw [if_pos c5] at H
 have c5b0 : decide (0 ≤ a1) = true := decide_eq_true c5
 clear c5
 by_cases c6 : a1 < (l0.length : Int)
 case neg => exact nn c6 H
 rw [if_pos c6] at H
 have c6b0 : decide (a1 < (l0.length : Int)) = true := decide_eq_true c6
 clear c6
 obtain rfl := Option.some.inj H
 have p176 : 0 ≤ (a1 : Int) := of_decide_eq_true as_
 have q176 : a1 < (l0.length : Int) := of_decide_eq_true as_
 obtain ⟨ad176, e176, hx176_0⟩ := Kd.at_int HR0.out a1 p176 q176
 cases e176
 replace p176 := eq_true p176
 replace q176 := eq_true q176
 go_enter Tryz.func69, Tryz.ntmps69
 go_wp2
 go_ret
 exact ⟨eqS, dR⟩
def nat_Bit.f (l0 : List Int) (a1 : Int) : Option (Int) := if a1 < 0 then (some 0) else ((nat_at.f l0 (wrap64 (Int.tdiv a1 32))).bind fun t177 => (if 0 ≤ (Int.tmod a1 32) then (some (Go.bits .and .u32 (shr .u32 t177 (Int.tmod a1 32)) 1)) else (none)))
theorem nat_Bit.calls (A0 : Option Addr) (c0 : Nat) (l0 : List Int) (a1 : Int) (r : Int) (w : World) (hr0 : Kd.C (Kd.int .u32) w A0 l0.length l0) (hc0 : l0.length ≤ c0) (h : nat_Bit.f l0 a1 = some r) :
   Calls Tryz.prog 47 #[.slice A0 l0.length c0, .int .i64 a1] w fun e w' => e = .returned (.int .u32 r) ∧ Drawn0 w w' := by
 have HR0 := am hr0
 have HC0 := am hc0
 clear hr0 hc0
 have H := h; unfold nat_Bit.f at H
 clear h
 by_cases c3 : a1 < 0
 · rw [if_pos c3] at H
   have c3b0 : decide (a1 < 0) = true := decide_eq_true c3
   clear c3
   obtain rfl := Option.some.inj H
   go_enter Tryz.func47, Tryz.ntmps47
   go_wp2
   go_ret
   exact ⟨eqS, dR⟩
 rw [if_neg c3] at H
 have c3b0 : decide (a1 < 0) = false := decide_eq_false c3
 clear c3
 obtain ⟨t177, A40, H⟩ := Option.bind_eq_some_iff.mp H
 try dsimp only at H
 have A4 := am A40
 clear A40
 obtain ⟨ji5, hji5⟩ : ∃ j_ : Int, (Int.tmod a1 32) = j_ := ⟨_, rfl⟩
 replace H : (if 0 ≤ (ji5) then (some (Go.bits .and .u32 (shr .u32 t177 (ji5)) 1)) else (none)) = some r := by first | (rw [hji5] at H; exact H) | (simp only [hji5] at H ⊢; exact H)
 (try rw [hji5] at A4)
 by_cases c6 : 0 ≤ (ji5)
 case neg => exact nn c6 H
 rw [if_pos c6] at H
 have c6b0 := eq_true c6
 have c6b1 : decide (0 ≤ (ji5)) = true := decide_eq_true c6
 clear c6
 obtain ⟨ji7, hji7⟩ : ∃ j_ : Int, (shr .u32 t177 (ji5)) = j_ := ⟨_, rfl⟩
 replace H : (some (Go.bits .and .u32 (ji7) 1)) = some r := by first | (rw [hji7] at H; exact H) | (simp only [hji7] at H ⊢; exact H)
 (try rw [hji7] at A4)
 have hji7_ : (t177 / 2 ^ min (ji5).toNat 32) = ji7 := hji7
 have hji7z : (ji5) ≤ 32 → (t177 / 2 ^ (ji5).toNat) = ji7 := shr_small hji7
 obtain rfl := Option.some.inj H
 go_enter Tryz.func47, Tryz.ntmps47
 go_wp2_with (first | ((with_reducible refine gate_callee (f := 69) rfl ?_); refine goesA (some 10) Tryz.func69 #[.slice A0 l0.length c0, .int .i64 (wrap64 (Int.tdiv a1 32))] ?_; (with_reducible refine (nat_at.calls _ _ l0 (wrap64 (Int.tdiv a1 32)) t177 _ ?side1 ?side2 A4.out).mono ?_); (case side1 => exact kC2 (HR0.out)); (case side2 => exact HC0.out); rintro e w' ⟨rfl, ⟨nd, rfl⟩⟩; refine ⟨_, rfl, ?_⟩))
 go_ret
 exact ⟨by first | rfl | (simp; done) | (simp only [← hji5, ← hji7] <;> (first | rfl | simp)) | (simp [*]; done), by repeat (first | exact Drawn0.refl _ | apply Drawn0.step)⟩
def nat_Make.l0 : Nat → List Int → Int → Option (List Int)
 | 0, _, _ => none
 | k + 1, x0, x3 => if x3 > 0 then (if 0 ≤ (wrap64 (x3 - 1)) then (if (wrap64 (x3 - 1)) < (x0.length : Int) then (if (rd x0 (wrap64 (x3 - 1))) = 0 then (nat_Make.l0 k x0 (wrap64 (x3 - 1))) else (if 0 ≤ x3 then (if x3 ≤ (x0.length : Int) then ((slices_Clone.f (x0.take (x3 : Int).toNat)).bind fun t192 => (some t192)) else (none)) else (none))) else (none)) else (none)) else (if 0 ≤ x3 then (if x3 ≤ (x0.length : Int) then ((slices_Clone.f (x0.take (x3 : Int).toNat)).bind fun t196 => (some t196)) else (none)) else (none))
def nat_Make.f (k : Nat) (l0 : List Int) : Option (List Int) := nat_Make.l0 k l0 (l0.length : Int)
theorem nat_Make.calls (k : Nat) (A0 : Option Addr) (c0 : Nat) (l0 : List Int) (r : List Int) (w : World) (hr0 : Kd.C (Kd.int .u32) w A0 l0.length l0) (hc0 : l0.length ≤ c0) (h : nat_Make.f k l0 = some r) :
   Calls Tryz.prog 72 #[.slice A0 l0.length c0] w fun e w' => ∃ v0_ : Value, e = .returned (v0_) ∧ Kd.R (Kd.int .u32) 23 w' w.heap.size (fun _ => True) v0_ r ∧ Below w.heap.size w w' := by
 have HR0 := am hr0
 have HC0 := am hc0
 clear hr0 hc0
 have HB := am (Below.refl w.heap.size w)
 have H := h; unfold nat_Make.f at H
 clear h
 have H' := am H
 clear H
 go_enter Tryz.func72, Tryz.ntmps72
 go_wp2
 go_loopg [3] k (fun kq v3 w' => ∃ (x3_1 : Int), v3 = .int .i64 x3_1 ∧ Aside0 (nat_Make.l0 kq l0 x3_1 = some r) ∧ Aside0 (kq ≤ k) ∧ Aside0 (Below w.heap.size w w'))
 case atStart => exact ⟨((l0.length : Int)), eqS, H', ⟨Nat.le_refl _⟩, ⟨bB⟩⟩
 clear H'
 obtain ⟨x3_1, rfl, HA, HK1, HB⟩ := hrel
 rcases gk with _ | k1
 · exact absurd HA.out (by simp [nat_Make.l0])
 have H := HA.out
 clear HA
 simp only [nat_Make.l0] at H
 by_cases c2 : x3_1 > 0
 case neg =>
   rw [if_neg c2] at H
   have c2b0 : decide (0 < x3_1) = false := decide_eq_false c2
   clear c2
   by_cases c12 : 0 ≤ x3_1
   case neg => exact nn c12 H
   rw [if_pos c12] at H
   have c12b0 := eq_true c12
   have c12b1 : decide (0 ≤ x3_1) = true := decide_eq_true c12
   clear c12
   by_cases c13 : x3_1 ≤ (l0.length : Int)
   case neg => exact nn c13 H
   rw [if_pos c13] at H
   have c13b0 := eq_true c13
   have c13b1 : decide (x3_1 ≤ (l0.length : Int)) = true := decide_eq_true c13
   clear c13
   obtain ⟨t196, A140, H⟩ := Option.bind_eq_some_iff.mp H
   replace H : (some t196) = some r := H
   have A14 := am A140
   clear A140
   obtain rfl := Option.some.inj H
   obtain ⟨i015, hi015, _, hsz15, _⟩ := info_parts info23
   obtain ⟨hcut15, hA15, hC15⟩ := print_take_of (P := Tryz.prog) (Value.int .u32) 0 27 23 .i64 Tryz.underlying27 hi015 hsz15 A0 c0 l0 x3_1 (of_decide_eq_true as_) (of_decide_eq_true as_) HC0.out
   have HR195 := am (Kd.C_of_reads (h1 := fun _ => rfl) (hA15 _ (Kd.reads_of_C HR0.out)))
   have HC195 := am hC15
   clear hA15 hC15 hi015 hsz15
   go_wp2_with (first | ((with_reducible refine gate_callee (f := 33) rfl ?_); refine goesL_ (some 21) rfl rfl Tryz.func33 (by kernel_rfl) rfl #[.slice A0 (l0.take (x3_1 : Int).toNat).length c0] rfl (by (try simp only [List.map_toArray, List.map_cons, List.map_nil]); first | done | (rw [show (l0.take (x3_1 : Int).toNat).length = x3_1.toNat from (by rw [List.length_take]; have h_ : (x3_1 : Int) ≤ (l0.length : Int) := of_decide_eq_true as_; omega)] <;> rfl) | rfl | (simp only [List.length_drop, List.length_take]; rfl)) ?_; (with_reducible refine (slices_Clone.calls _ _ (l0.take (x3_1 : Int).toNat) t196 _ ?side1 ?side2 A14.out).mono ?_); (case side1 => exact kC2 ((Kd.C_below HR195.out HB.out))); (case side2 => exact HC195.out); rintro e w16 ⟨v197, rfl, ho0, hb⟩; refine ⟨_, rfl, ?_⟩; have n0_ := am (Kd.R_lower ho0 (below_size bB)); have n1_ := am (below_step bB hb); clear HB; have HO198 := n0_; have HB := n1_; clear n0_ n1_; (try clear hb); (try clear hb2); (try clear hk); (try clear hi); (try clear ho0)))
   go_ret
   exact ⟨_, eqR, rR (HO198.out), bB⟩
 rw [if_pos c2] at H
 have c2b0 : decide (0 < x3_1) = true := decide_eq_true c2
 clear c2
 obtain ⟨ji3, hji3⟩ : ∃ j_ : Int, (wrap64 (x3_1 - 1)) = j_ := ⟨_, rfl⟩
 replace H : (if 0 ≤ (ji3) then (if (ji3) < (l0.length : Int) then (if (rd l0 (ji3)) = 0 then (nat_Make.l0 k1 l0 ji3) else (if 0 ≤ x3_1 then (if x3_1 ≤ (l0.length : Int) then ((slices_Clone.f (l0.take (x3_1 : Int).toNat)).bind fun t192 => (some t192)) else (none)) else (none))) else (none)) else (none)) = some r := by first | (rw [hji3] at H; exact H) | (simp only [hji3] at H ⊢; exact H)
 have hji3w : (IntKind.i64.wrap (x3_1 - 1)) = ji3 := (i64_w _).trans hji3
 by_cases c4 : 0 ≤ (ji3)
 case neg => exact nn c4 H
 rw [if_pos c4] at H
 have c4b0 : decide (0 ≤ (ji3)) = true := decide_eq_true c4
 clear c4
 by_cases c5 : (ji3) < (l0.length : Int)
 case neg => exact nn c5 H
 rw [if_pos c5] at H
 have c5b0 : decide ((ji3) < (l0.length : Int)) = true := decide_eq_true c5
 clear c5
 by_cases c6 : (rd l0 (ji3)) = 0
 · rw [if_pos c6] at H
   have c6b0 : ((rd l0 (ji3)) == 0) = true := beq_iff_eq.mpr c6
   have c6b1 : ((rd l0 (ji3)) != 0) = false := bne_eq_false_iff_eq.mpr c6
   clear c6
   have H' := am H
   clear H
   have p190 : 0 ≤ ((ji3) : Int) := of_decide_eq_true as_
   have q190 : (ji3) < (l0.length : Int) := of_decide_eq_true as_
   obtain ⟨ad190, e190, hx190_0⟩ := Kd.at_int HR0.out (ji3) p190 q190
   cases e190
   replace hx190_0 := (HB.out.cell (World.block_lt_of_cell? w _ hx190_0)).trans hx190_0
   replace p190 := eq_true p190
   replace q190 := eq_true q190
   go_wp2
   first | go_roundg k1 | (subst hji3; go_roundg k1)
   case measure => have := HK1.out; omega
   case rel => exact ⟨(ji3), (by first | rfl | (simp; done) | (simp only [← hji3] <;> (first | rfl | simp)) | (simp [*]; done)), (by first | exact H' | (subst_vars; exact H')), ⟨by have := HK1.out; omega⟩, ⟨bB⟩⟩
 rw [if_neg c6] at H
 have c6b0 : ((rd l0 (ji3)) == 0) = false := beq_eq_false_iff_ne.mpr c6
 have c6b1 : ((rd l0 (ji3)) != 0) = true := bne_iff_ne.mpr c6
 by_cases c7 : 0 ≤ x3_1
 case neg => exact nn c7 H
 rw [if_pos c7] at H
 have c7b0 := eq_true c7
 have c7b1 : decide (0 ≤ x3_1) = true := decide_eq_true c7
 clear c7
 by_cases c8 : x3_1 ≤ (l0.length : Int)
 case neg => exact nn c8 H
 rw [if_pos c8] at H
 have c8b0 := eq_true c8
 have c8b1 : decide (x3_1 ≤ (l0.length : Int)) = true := decide_eq_true c8
 clear c8
 obtain ⟨t192, A90, H⟩ := Option.bind_eq_some_iff.mp H
 replace H : (some t192) = some r := H
 have A9 := am A90
 clear A90
 obtain rfl := Option.some.inj H
 have p190 : 0 ≤ ((ji3) : Int) := of_decide_eq_true as_
 have q190 : (ji3) < (l0.length : Int) := of_decide_eq_true as_
 obtain ⟨ad190, e190, hx190_0⟩ := Kd.at_int HR0.out (ji3) p190 q190
 cases e190
 replace hx190_0 := (HB.out.cell (World.block_lt_of_cell? w _ hx190_0)).trans hx190_0
 replace p190 := eq_true p190
 replace q190 := eq_true q190
 obtain ⟨i010, hi010, _, hsz10, _⟩ := info_parts info23
 obtain ⟨hcut10, hA10, hC10⟩ := print_take_of (P := Tryz.prog) (Value.int .u32) 0 27 23 .i64 Tryz.underlying27 hi010 hsz10 (some ad190) c0 l0 x3_1 (of_decide_eq_true as_) (of_decide_eq_true as_) HC0.out
 have HR191 := am (Kd.C_of_reads (h1 := fun _ => rfl) (hA10 _ (Kd.reads_of_C HR0.out)))
 have HC191 := am hC10
 clear hA10 hC10 hi010 hsz10
 go_wp2_with (first | ((with_reducible refine gate_callee (f := 33) rfl ?_); refine goesL_ (some 21) rfl rfl Tryz.func33 (by kernel_rfl) rfl #[.slice (some ad190) (l0.take (x3_1 : Int).toNat).length c0] rfl (by (try simp only [List.map_toArray, List.map_cons, List.map_nil]); first | done | (rw [show (l0.take (x3_1 : Int).toNat).length = x3_1.toNat from (by rw [List.length_take]; have h_ : (x3_1 : Int) ≤ (l0.length : Int) := of_decide_eq_true as_; omega)] <;> rfl) | rfl | (simp only [List.length_drop, List.length_take]; rfl)) ?_; (with_reducible refine (slices_Clone.calls _ _ (l0.take (x3_1 : Int).toNat) t192 _ ?side1 ?side2 A9.out).mono ?_); (case side1 => exact kC2 ((Kd.C_below HR191.out HB.out))); (case side2 => exact HC191.out); rintro e w11 ⟨v193, rfl, ho0, hb⟩; refine ⟨_, rfl, ?_⟩; have n0_ := am (Kd.R_lower ho0 (below_size bB)); have n1_ := am (below_step bB hb); clear HB; have HO194 := n0_; have HB := n1_; clear n0_ n1_; (try clear hb); (try clear hb2); (try clear hk); (try clear hi); (try clear ho0)))
 go_ret
 exact ⟨_, by first | rfl | (simp [errW_none, errW_some] <;> rfl) | (simp only [← hji3]; first | rfl | (simp [errW_none, errW_some] <;> rfl)) | (simp [*, errW_none, errW_some] <;> rfl), rR (HO194.out), bB⟩
def nat_Of.f (k : Nat) (a0 : Int) : Option (List Int) := (nat_Make.f k (([(a0) % 4294967296, (a0 / 4294967296) % 4294967296] : List Int))).bind fun t202 => (some t202)
theorem nat_Of.calls (k : Nat) (a0 : Int) (r : List Int) (w : World) (h : nat_Of.f k a0 = some r) :
   Calls Tryz.prog 53 #[.int .u64 a0] w fun e w' => ∃ v0_ : Value, e = .returned (v0_) ∧ Kd.R (Kd.int .u32) 23 w' w.heap.size (fun _ => True) v0_ r ∧ Below w.heap.size w w' := by
 have HB := am (Below.refl w.heap.size w)
 have H := h; unfold nat_Of.f at H
 clear h
 obtain ⟨y199, hy199⟩ : ∃ y_ : List Int, y_ = (([(a0) % 4294967296, (a0 / 4294967296) % 4294967296] : List Int)) := ⟨_, rfl⟩
 replace H : ((nat_Make.f k y199).bind fun t202 => (some t202)) = some r := by first | (rw [hy199]; exact H) | exact H
 have Ny199 := am hy199
 clear hy199
 obtain ⟨t202, A20, H⟩ := Option.bind_eq_some_iff.mp H
 replace H : (some t202) = some r := H
 have A2 := am A20
 clear A20
 obtain rfl := Option.some.inj H
 go_enter Tryz.func53, Tryz.ntmps53
 go_wp2_with (first | ((with_reducible refine gate_dst (N := 8) rfl ?_); refine Kd.R_lit (Kd.int .u32) _ 23 rF (N := 8) rF (xs := ([(a0) % 4294967296, (a0 / 4294967296) % 4294967296] : List Int)) (inner := [.int .u32 ((a0) % 4294967296), .int .u32 ((a0 / 4294967296) % 4294967296)]) (ok := fun _ => True) (okp := fun _ => True) gF ?hp (fun _ hk => hk) trivial (Below.refl _ _) (Nat.le_refl _) (by simp) ?_; (case hp => exact (Reps.one (show Kd.M (Kd.int .u32) _ _ _ ((a0) % 4294967296) [.int .u32 ((a0) % 4294967296)] from rfl) (Reps.one (show Kd.M (Kd.int .u32) _ _ _ ((a0 / 4294967296) % 4294967296) [.int .u32 ((a0 / 4294967296) % 4294967296)] from rfl) (Reps.none _ _)))); intro v200 w3 ho4 hb hg_ hnew_; clear hg_ hnew_; (first | rw [← Ny199.out] at ho4 | (simp only [Int.reduceToNat] at ho4; rw [← Ny199.out] at ho4)); have n0_ := am (Kd.R_lower ho4 (below_size bB)); have n1_ := am (below_step bB hb); clear HB; have HO201 := n0_; have HB := n1_; clear n0_ n1_; clear hb ho4; obtain ⟨Ao5, co5, eo5⟩ := Kd.R_slice HO201.out; subst eo5) | ((with_reducible refine gate_callee (f := 72) rfl ?_); refine goesA (some 9) Tryz.func72 #[.slice Ao5 y199.length co5] ?_; (with_reducible refine (nat_Make.calls k _ _ y199 t202 _ ?side1 ?side2 A2.out).mono ?_); (case side1 => exact kC2 ((Kd.R_reads' HO201.out).2.2)); (case side2 => exact (Kd.R_reads' HO201.out).2.1); rintro e w6 ⟨v203, rfl, ho0, hb⟩; refine ⟨_, rfl, ?_⟩; have n0_ := am (Kd.R_elder' (rR HO201.out) (Kd.R_base ho0) hb); have n1_ := am (Kd.R_lower (Kd.R_new' ho0 (Kd.R_lt (rR HO201.out))) (below_size bB)); have n2_ := am (below_step bB hb); clear HO201; clear HB; have HO201 := n0_; have HO204 := n1_; have HB := n2_; clear n0_ n1_ n2_; (try clear hb); (try clear hb2); (try clear hk); (try clear hi); (try clear ho0)))
 go_ret
 exact ⟨_, eqR, by (with_reducible repeat (first | apply Kd.R_alloc | apply Kd.R_drewN | apply Kd.R_drew)); exact Kd.R_mono HO204.out (fun _ hk => trivial), bB⟩
def modp_Add.l0 : Nat → Int → List Int → List Int → Int → Int → Option (List Int)
 | 0, _, _, _, _, _ => none
 | k + 1, x2, x7, x19, x20, x21 => if x21 < x20 then (if 0 ≤ x21 then (if x21 < (x19.length : Int) then (if x21 < (x7.length : Int) then (if x2 = 0 then (none) else (modp_Add.l0 k x2 (x7.set (x21 : Int).toNat ((((rd x7 x21) + (rd x19 x21)) % 4294967296) % x2)) x19 x20 (wrap64 (x21 + 1)))) else (none)) else (none)) else (none)) else ((modp_trim.f k x7).bind fun t220 => (some t220))
def modp_Add.v (k : Nat) (l0 : List Int) (l1 : List Int) (a2 : Int) : Option (List Int) := (slices_Clone.f l0).bind fun t214 => (modp_Add.l0 k a2 t214 l1 (l1.length : Int) 0)
theorem modp_Add.callsA (k : Nat) (A0 : Option Addr) (c0 : Nat) (l0 : List Int) (A1 : Option Addr) (c1 : Nat) (l1 : List Int) (a2 : Int) (r : List Int) (w : World) (hr0 : Kd.C (Kd.int .u32) w A0 l0.length l0) (hc0 : l0.length ≤ c0) (hr1 : Kd.C (Kd.int .u32) w A1 l1.length l1) (hc1 : l1.length ≤ c1) (hz : ¬ l0.length < l1.length) (h : modp_Add.v k l0 l1 a2 = some r) :
   Calls Tryz.prog 11 #[.slice A0 l0.length c0, .slice A1 l1.length c1, .int .u32 a2] w fun e w' => ∃ v0_ : Value, e = .returned (v0_) ∧ Kd.V (Kd.int .u32) 23 w' w.heap.size (fun k_ => (w.heap.size ≤ k_)) v0_ r ∧ Below w.heap.size w w' := by
 have HR0 := am hr0
 have HC0 := am hc0
 clear hr0 hc0
 have HR1 := am hr1
 have HC1 := am hc1
 clear hr1 hc1
 have HB := am (Below.refl w.heap.size w)
 have cz_ : decide ((l0.length : Int) < (l1.length : Int)) = false := decide_eq_false (by omega)
 have cy_ : decide (l0.length < l1.length) = false := decide_eq_false (by omega)
 clear hz
 have H := h; unfold modp_Add.v at H
 clear h
 obtain ⟨t214, A40, H⟩ := Option.bind_eq_some_iff.mp H
 try dsimp only at H
 have A4 := am A40
 clear A40
 have H' := am H
 clear H
 go_enter Tryz.func11, Tryz.ntmps11
 go_wp2_with (first | ((with_reducible refine gate_callee (f := 33) rfl ?_); refine goesA (some 18) Tryz.func33 #[.slice A0 l0.length c0] ?_; (with_reducible refine (slices_Clone.calls _ _ l0 t214 _ ?side1 ?side2 A4.out).mono ?_); (case side1 => exact kC2 (HR0.out)); (case side2 => exact HC0.out); rintro e w5 ⟨v215, rfl, ho0, hb⟩; refine ⟨_, rfl, ?_⟩; have n0_ := am (Kd.R_lower (Kd.R_newM (M := fun k_ => (w.heap.size ≤ k_)) ho0 (below_size bB) (fun k_ h_ => h_)) (below_size bB)); have n1_ := am (below_step bB hb); clear HB; have HO216 := n0_; have HB := n1_; clear n0_ n1_; (try clear hb); (try clear hb2); (try clear hk); (try clear hi); (try clear ho0)))
 go_loopg [21] k (fun kq v21 w' => ∃ (x7_1 : List Int) (x21_1 : Int), v21 = .int .i64 x21_1 ∧ Aside0 (modp_Add.l0 kq a2 x7_1 l1 (l1.length : Int) x21_1 = some r) ∧ Aside0 (kq ≤ k) ∧ Aside0 (Kd.R (Kd.int .u32) 23 w' w.heap.size (fun k_ => (w.heap.size ≤ k_)) v215 x7_1) ∧ Aside0 (Below w.heap.size w w'))
 case atStart => exact ⟨(t214), (0), eqS, H', ⟨Nat.le_refl _⟩, ⟨by (with_reducible repeat (first | apply Kd.R_alloc | apply Kd.R_drewN | apply Kd.R_drew)); exact Kd.R_mono HO216.out (fun _ hk => hk.1)⟩, ⟨bB⟩⟩
 clear H'
 obtain ⟨x7_1, x21_1, rfl, HA, HK1, HO_7, HB⟩ := hrel
 rcases gk with _ | k1
 · exact absurd HA.out (by simp [modp_Add.l0])
 have H := HA.out
 clear HA
 simp only [modp_Add.l0] at H
 by_cases c6 : x21_1 < (l1.length : Int)
 case neg =>
   rw [if_neg c6] at H
   have c6b0 : decide (x21_1 < (l1.length : Int)) = false := decide_eq_false c6
   clear c6
   obtain ⟨t220, A150, H⟩ := Option.bind_eq_some_iff.mp H
   replace H : (some t220) = some r := H
   have A15 := am A150
   clear A150
   obtain rfl := Option.some.inj H
   obtain ⟨Ao16, co16, eo16⟩ := Kd.R_slice HO_7.out
   subst eo16
   go_wp2_with (first | ((with_reducible refine gate_callee (f := 29) rfl ?_); refine goesA (some 39) Tryz.func29 #[.slice Ao16 x7_1.length co16] ?_; (with_reducible refine (modp_trim.calls k1 (fun k_ => some k_ = (.slice Ao16 x7_1.length co16 : Value).ownBlock) _ _ x7_1 t220 _ ?side1 A15.out).mono ?_); (case side1 => exact Kd.R_V (Kd.R_tight rfl (HO_7.out))); rintro e w17 ⟨v221, rfl, ho0, hb⟩; refine ⟨_, rfl, ?_⟩; have n0_ := am (Kd.R_below (rR HO_7.out) hb); have n1_ := am (Kd.V_lower (Kd.V_mono (ok' := fun k_ => (w.heap.size ≤ k_)) ho0 (fun k_ hk_ => Or.elim hk_ (fun hs_ => ((HO_7.out).1 k_ hs_.symm)) (fun hn_ => (Nat.le_trans (below_size bB) hn_)))) (below_size bB)); have n2_ := am (below_step bB hb); clear HO_7; clear HB; have HO_7 := n0_; have HO222 := n1_; have HB := n2_; clear n0_ n1_ n2_; (try clear hb); (try clear hb2); (try clear hk); (try clear hi); (try clear ho0)))
   go_ret
   exact ⟨_, eqR, rV (HO222.out), bB⟩
 rw [if_pos c6] at H
 have c6b0 : decide (x21_1 < (l1.length : Int)) = true := decide_eq_true c6
 clear c6
 by_cases c7 : 0 ≤ x21_1
 case neg => exact nn c7 H
 rw [if_pos c7] at H
 have c7b0 : decide (0 ≤ x21_1) = true := decide_eq_true c7
 clear c7
 by_cases c8 : x21_1 < (l1.length : Int)
 case neg => exact nn c8 H
 rw [if_pos c8] at H
 have c8b0 : decide (x21_1 < (l1.length : Int)) = true := decide_eq_true c8
 clear c8
 by_cases c9 : x21_1 < (x7_1.length : Int)
 case neg => exact nn c9 H
 rw [if_pos c9] at H
 have c9b0 : decide (x21_1 < (x7_1.length : Int)) = true := decide_eq_true c9
 clear c9
 by_cases c10 : a2 = 0
 · rw [if_pos c10] at H
   exact absurd H (by simp)
 rw [if_neg c10] at H
 have c10b0 : (a2 == 0) = false := beq_eq_false_iff_ne.mpr c10
 have c10b1 : (a2 != 0) = true := bne_iff_ne.mpr c10
 obtain ⟨y219, hy219⟩ : ∃ y_ : List Int, y_ = (x7_1.set (x21_1 : Int).toNat ((((rd x7_1 x21_1) + (rd l1 x21_1)) % 4294967296) % a2)) := ⟨_, rfl⟩
 replace H : (modp_Add.l0 k1 a2 y219 l1 (l1.length : Int) (wrap64 (x21_1 + 1))) = some r := by first | (rw [hy219]; exact H) | exact H
 have Ny219 := am hy219
 clear hy219
 have H' := am H
 clear H
 have p217 : 0 ≤ (x21_1 : Int) := of_decide_eq_true as_
 have q217 : x21_1 < (l1.length : Int) := of_decide_eq_true as_
 obtain ⟨ad217, e217, hx217_0⟩ := Kd.at_int HR1.out x21_1 p217 q217
 cases e217
 replace hx217_0 := (HB.out.cell (World.block_lt_of_cell? w _ hx217_0)).trans hx217_0
 replace p217 := eq_true p217
 replace q217 := eq_true q217
 obtain ⟨Ao12, co12, eo12⟩ := Kd.R_slice HO_7.out
 subst eo12
 have p218 : 0 ≤ (x21_1 : Int) := of_decide_eq_true as_
 have q218 : x21_1 < (x7_1.length : Int) := of_decide_eq_true as_
 obtain ⟨ad218, e218, hx218_0⟩ := Kd.at_int (Kd.R_reads' HO_7.out).2.2 x21_1 p218 q218
 cases e218
 replace p218 := eq_true p218
 replace q218 := eq_true q218
 have p11 : 0 ≤ (x21_1 : Int) := of_decide_eq_true as_
 have q11 : (x21_1 : Int) < ((x7_1.length : Int) : Int) := of_decide_eq_true as_
 obtain ⟨go11, co11, eo11, gb11, gl11, cl11, HG11⟩ := Kd.R_form HO_7.out (by omega)
 (first | cases eo11 | (injection eo11 with ea_ en_ ec_; (first | subst ea_ | (injection ea_ with ea_; subst ea_)); subst ec_; clear en_))
 have GB11 := am gb11
 have GG11 := am HG11
 clear gb11 gl11 HG11
 (first | simp only [add_plain] at hx218_0 | skip)
 obtain ⟨hx11_0, hf11_0⟩ := Kd.R_celln 0 HO_7.out (x21_1 : Int) p11 q11
 replace p11 := eq_true p11
 replace q11 := eq_true q11
 have HP13 := Kd.R_putg HO_7.out (x21_1 : Int) ((((rd x7_1 x21_1) + (rd l1 x21_1)) % 4294967296) % a2)
 go_wp2_with (first | ((with_reducible refine gate_store (t := 23) (p := 36) rfl ?_); refine store_event (t := 23) (p := 36) (v := ?vo_w14) (w1 := (wr.setCell ⟨go11, (x21_1 : Int).toNat, none⟩ (.int .u32 ((((rd x7_1 x21_1) + (rd l1 x21_1)) % 4294967296) % a2)))) ?hg ?ho ?hn ?hr ?_; (case ho => rfl); (case hg => rfl); (case hn => rfl); (case hr => first | (go_simp; done) | (go_simp; rfl)); intro w14 hw; have hg : wr.grownBy w14 (some go11) := (by rw [hw]; exact HP13.2); have hp_ : Kd.R (Kd.int .u32) 23 w14 w.heap.size (fun k_ => (w.heap.size ≤ k_)) (.slice (some ⟨go11, 0, none⟩) x7_1.length co12) y219 := (by rw [hw, Ny219.out]; exact HP13.1); clear HP13; have n0_ := am (hp_); have n1_ := am ((by rw [hw]; exact below_set (HB.out) GB11.out : Below w.heap.size w w14)); clear HO_7; clear HB; have HO_7 := n0_; have HB := n1_; clear n0_ n1_; clear hg hw hp_))
 go_roundg k1
 case measure => have := HK1.out; omega
 case rel => exact ⟨(y219), (wrap64 (x21_1 + 1)), eqS, (by first | exact H' | (subst_vars; exact H')), ⟨by have := HK1.out; omega⟩, ⟨rR (HO_7.out)⟩, ⟨bB⟩⟩
theorem modp_Add.callsB (k : Nat) (A0 : Option Addr) (c0 : Nat) (l0 : List Int) (A1 : Option Addr) (c1 : Nat) (l1 : List Int) (a2 : Int) (r : List Int) (w : World) (hr0 : Kd.C (Kd.int .u32) w A0 l0.length l0) (hc0 : l0.length ≤ c0) (hr1 : Kd.C (Kd.int .u32) w A1 l1.length l1) (hc1 : l1.length ≤ c1) (hz : l1.length < l0.length) (h : modp_Add.v k l0 l1 a2 = some r) :
   Calls Tryz.prog 11 #[.slice A1 l1.length c1, .slice A0 l0.length c0, .int .u32 a2] w fun e w' => ∃ v0_ : Value, e = .returned (v0_) ∧ Kd.V (Kd.int .u32) 23 w' w.heap.size (fun k_ => (w.heap.size ≤ k_)) v0_ r ∧ Below w.heap.size w w' := by
 have HR0 := am hr0
 have HC0 := am hc0
 clear hr0 hc0
 have HR1 := am hr1
 have HC1 := am hc1
 clear hr1 hc1
 have HB := am (Below.refl w.heap.size w)
 have cz_ : decide ((l1.length : Int) < (l0.length : Int)) = true := decide_eq_true (by omega)
 have cy_ : decide (l1.length < l0.length) = true := decide_eq_true (by omega)
 clear hz
 have H := h; unfold modp_Add.v at H
 clear h
 obtain ⟨t214, A40, H⟩ := Option.bind_eq_some_iff.mp H
 try dsimp only at H
 have A4 := am A40
 clear A40
 have H' := am H
 clear H
 go_enter Tryz.func11, Tryz.ntmps11
 go_wp2_with (first | ((with_reducible refine gate_callee (f := 33) rfl ?_); refine goesA (some 18) Tryz.func33 #[.slice A0 l0.length c0] ?_; (with_reducible refine (slices_Clone.calls _ _ l0 t214 _ ?side1 ?side2 A4.out).mono ?_); (case side1 => exact kC2 (HR0.out)); (case side2 => exact HC0.out); rintro e w5 ⟨v215, rfl, ho0, hb⟩; refine ⟨_, rfl, ?_⟩; have n0_ := am (Kd.R_lower (Kd.R_newM (M := fun k_ => (w.heap.size ≤ k_)) ho0 (below_size bB) (fun k_ h_ => h_)) (below_size bB)); have n1_ := am (below_step bB hb); clear HB; have HO216 := n0_; have HB := n1_; clear n0_ n1_; (try clear hb); (try clear hb2); (try clear hk); (try clear hi); (try clear ho0)))
 go_loopg [21] k (fun kq v21 w' => ∃ (x7_1 : List Int) (x21_1 : Int), v21 = .int .i64 x21_1 ∧ Aside0 (modp_Add.l0 kq a2 x7_1 l1 (l1.length : Int) x21_1 = some r) ∧ Aside0 (kq ≤ k) ∧ Aside0 (Kd.R (Kd.int .u32) 23 w' w.heap.size (fun k_ => (w.heap.size ≤ k_)) v215 x7_1) ∧ Aside0 (Below w.heap.size w w'))
 case atStart => exact ⟨(t214), (0), eqS, H', ⟨Nat.le_refl _⟩, ⟨by (with_reducible repeat (first | apply Kd.R_alloc | apply Kd.R_drewN | apply Kd.R_drew)); exact Kd.R_mono HO216.out (fun _ hk => hk.1)⟩, ⟨bB⟩⟩
 clear H'
 obtain ⟨x7_1, x21_1, rfl, HA, HK1, HO_7, HB⟩ := hrel
 rcases gk with _ | k1
 · exact absurd HA.out (by simp [modp_Add.l0])
 have H := HA.out
 clear HA
 simp only [modp_Add.l0] at H
 by_cases c6 : x21_1 < (l1.length : Int)
 case neg =>
   rw [if_neg c6] at H
   have c6b0 : decide (x21_1 < (l1.length : Int)) = false := decide_eq_false c6
   clear c6
   obtain ⟨t220, A150, H⟩ := Option.bind_eq_some_iff.mp H
   replace H : (some t220) = some r := H
   have A15 := am A150
   clear A150
   obtain rfl := Option.some.inj H
   obtain ⟨Ao16, co16, eo16⟩ := Kd.R_slice HO_7.out
   subst eo16
   go_wp2_with (first | ((with_reducible refine gate_callee (f := 29) rfl ?_); refine goesA (some 39) Tryz.func29 #[.slice Ao16 x7_1.length co16] ?_; (with_reducible refine (modp_trim.calls k1 (fun k_ => some k_ = (.slice Ao16 x7_1.length co16 : Value).ownBlock) _ _ x7_1 t220 _ ?side1 A15.out).mono ?_); (case side1 => exact Kd.R_V (Kd.R_tight rfl (HO_7.out))); rintro e w17 ⟨v221, rfl, ho0, hb⟩; refine ⟨_, rfl, ?_⟩; have n0_ := am (Kd.R_below (rR HO_7.out) hb); have n1_ := am (Kd.V_lower (Kd.V_mono (ok' := fun k_ => (w.heap.size ≤ k_)) ho0 (fun k_ hk_ => Or.elim hk_ (fun hs_ => ((HO_7.out).1 k_ hs_.symm)) (fun hn_ => (Nat.le_trans (below_size bB) hn_)))) (below_size bB)); have n2_ := am (below_step bB hb); clear HO_7; clear HB; have HO_7 := n0_; have HO222 := n1_; have HB := n2_; clear n0_ n1_ n2_; (try clear hb); (try clear hb2); (try clear hk); (try clear hi); (try clear ho0)))
   go_ret
   exact ⟨_, eqR, rV (HO222.out), bB⟩
 rw [if_pos c6] at H
 have c6b0 : decide (x21_1 < (l1.length : Int)) = true := decide_eq_true c6
 clear c6
 by_cases c7 : 0 ≤ x21_1
 case neg => exact nn c7 H
 rw [if_pos c7] at H
 have c7b0 : decide (0 ≤ x21_1) = true := decide_eq_true c7
 clear c7
 by_cases c8 : x21_1 < (l1.length : Int)
 case neg => exact nn c8 H
 rw [if_pos c8] at H
 have c8b0 : decide (x21_1 < (l1.length : Int)) = true := decide_eq_true c8
 clear c8
 by_cases c9 : x21_1 < (x7_1.length : Int)
 case neg => exact nn c9 H
 rw [if_pos c9] at H
 have c9b0 : decide (x21_1 < (x7_1.length : Int)) = true := decide_eq_true c9
 clear c9
 by_cases c10 : a2 = 0
 · rw [if_pos c10] at H
   exact absurd H (by simp)
 rw [if_neg c10] at H
 have c10b0 : (a2 == 0) = false := beq_eq_false_iff_ne.mpr c10
 have c10b1 : (a2 != 0) = true := bne_iff_ne.mpr c10
 obtain ⟨y219, hy219⟩ : ∃ y_ : List Int, y_ = (x7_1.set (x21_1 : Int).toNat ((((rd x7_1 x21_1) + (rd l1 x21_1)) % 4294967296) % a2)) := ⟨_, rfl⟩
 replace H : (modp_Add.l0 k1 a2 y219 l1 (l1.length : Int) (wrap64 (x21_1 + 1))) = some r := by first | (rw [hy219]; exact H) | exact H
 have Ny219 := am hy219
 clear hy219
 have H' := am H
 clear H
 have p217 : 0 ≤ (x21_1 : Int) := of_decide_eq_true as_
 have q217 : x21_1 < (l1.length : Int) := of_decide_eq_true as_
 obtain ⟨ad217, e217, hx217_0⟩ := Kd.at_int HR1.out x21_1 p217 q217
 cases e217
 replace hx217_0 := (HB.out.cell (World.block_lt_of_cell? w _ hx217_0)).trans hx217_0
 replace p217 := eq_true p217
 replace q217 := eq_true q217
 obtain ⟨Ao12, co12, eo12⟩ := Kd.R_slice HO_7.out
 subst eo12
 have p218 : 0 ≤ (x21_1 : Int) := of_decide_eq_true as_
 have q218 : x21_1 < (x7_1.length : Int) := of_decide_eq_true as_
 obtain ⟨ad218, e218, hx218_0⟩ := Kd.at_int (Kd.R_reads' HO_7.out).2.2 x21_1 p218 q218
 cases e218
 replace p218 := eq_true p218
 replace q218 := eq_true q218
 have p11 : 0 ≤ (x21_1 : Int) := of_decide_eq_true as_
 have q11 : (x21_1 : Int) < ((x7_1.length : Int) : Int) := of_decide_eq_true as_
 obtain ⟨go11, co11, eo11, gb11, gl11, cl11, HG11⟩ := Kd.R_form HO_7.out (by omega)
 (first | cases eo11 | (injection eo11 with ea_ en_ ec_; (first | subst ea_ | (injection ea_ with ea_; subst ea_)); subst ec_; clear en_))
 have GB11 := am gb11
 have GG11 := am HG11
 clear gb11 gl11 HG11
 (first | simp only [add_plain] at hx218_0 | skip)
 obtain ⟨hx11_0, hf11_0⟩ := Kd.R_celln 0 HO_7.out (x21_1 : Int) p11 q11
 replace p11 := eq_true p11
 replace q11 := eq_true q11
 have HP13 := Kd.R_putg HO_7.out (x21_1 : Int) ((((rd x7_1 x21_1) + (rd l1 x21_1)) % 4294967296) % a2)
 go_wp2_with (first | ((with_reducible refine gate_store (t := 23) (p := 36) rfl ?_); refine store_event (t := 23) (p := 36) (v := ?vo_w14) (w1 := (wr.setCell ⟨go11, (x21_1 : Int).toNat, none⟩ (.int .u32 ((((rd x7_1 x21_1) + (rd l1 x21_1)) % 4294967296) % a2)))) ?hg ?ho ?hn ?hr ?_; (case ho => rfl); (case hg => rfl); (case hn => rfl); (case hr => first | (go_simp; done) | (go_simp; rfl)); intro w14 hw; have hg : wr.grownBy w14 (some go11) := (by rw [hw]; exact HP13.2); have hp_ : Kd.R (Kd.int .u32) 23 w14 w.heap.size (fun k_ => (w.heap.size ≤ k_)) (.slice (some ⟨go11, 0, none⟩) x7_1.length co12) y219 := (by rw [hw, Ny219.out]; exact HP13.1); clear HP13; have n0_ := am (hp_); have n1_ := am ((by rw [hw]; exact below_set (HB.out) GB11.out : Below w.heap.size w w14)); clear HO_7; clear HB; have HO_7 := n0_; have HB := n1_; clear n0_ n1_; clear hg hw hp_))
 go_roundg k1
 case measure => have := HK1.out; omega
 case rel => exact ⟨(y219), (wrap64 (x21_1 + 1)), eqS, (by first | exact H' | (subst_vars; exact H')), ⟨by have := HK1.out; omega⟩, ⟨rR (HO_7.out)⟩, ⟨bB⟩⟩
def modp_Add.f (k : Nat) (l0 : List Int) (l1 : List Int) (a2 : Int) : Option (List Int) := if l0.length < l1.length then modp_Add.v k l1 l0 a2 else modp_Add.v k l0 l1 a2
theorem modp_Add.calls (k : Nat) (A0 : Option Addr) (c0 : Nat) (l0 : List Int) (A1 : Option Addr) (c1 : Nat) (l1 : List Int) (a2 : Int) (r : List Int) (w : World) (hr0 : Kd.C (Kd.int .u32) w A0 l0.length l0) (hc0 : l0.length ≤ c0) (hr1 : Kd.C (Kd.int .u32) w A1 l1.length l1) (hc1 : l1.length ≤ c1) (h : modp_Add.f k l0 l1 a2 = some r) :
   Calls Tryz.prog 11 #[.slice A0 l0.length c0, .slice A1 l1.length c1, .int .u32 a2] w fun e w' => ∃ v0_ : Value, e = .returned (v0_) ∧ Kd.V (Kd.int .u32) 23 w' w.heap.size (fun k_ => (w.heap.size ≤ k_)) v0_ r ∧ Below w.heap.size w w' := by
 unfold modp_Add.f at h
 by_cases hz : l0.length < l1.length
 · rw [if_pos hz] at h
   exact modp_Add.callsB k A1 c1 l1 A0 c0 l0 a2 r w hr1 hc1 hr0 hc0 hz h
 · rw [if_neg hz] at h
   exact modp_Add.callsA k A0 c0 l0 A1 c1 l1 a2 r w hr0 hc0 hr1 hc1 hz h
def modp_sub.f (k : Nat) (l0 : List Int) (l1 : List Int) (a2 : Int) : Option (List Int) := (modp_times.f k l1 (IntKind.u64.wrap ((IntKind.u64.wrap (a2)) - 1)) a2).bind fun t223 => ((modp_Add.f k l0 t223 a2).bind fun t226 => (some t226))
theorem modp_sub.calls (k : Nat) (A0 : Option Addr) (c0 : Nat) (l0 : List Int) (A1 : Option Addr) (c1 : Nat) (l1 : List Int) (a2 : Int) (r : List Int) (w : World) (hr0 : Kd.C (Kd.int .u32) w A0 l0.length l0) (hc0 : l0.length ≤ c0) (hr1 : Kd.C (Kd.int .u32) w A1 l1.length l1) (hc1 : l1.length ≤ c1) (h : modp_sub.f k l0 l1 a2 = some r) :
   Calls Tryz.prog 133 #[.slice A0 l0.length c0, .slice A1 l1.length c1, .int .u32 a2] w fun e w' => ∃ v0_ : Value, e = .returned (v0_) ∧ Kd.V (Kd.int .u32) 23 w' w.heap.size (fun k_ => (w.heap.size ≤ k_)) v0_ r ∧ Below w.heap.size w w' := by
 have HR0 := am hr0
 have HC0 := am hc0
 clear hr0 hc0
 have HR1 := am hr1
 have HC1 := am hc1
 clear hr1 hc1
 have HB := am (Below.refl w.heap.size w)
 have H := h; unfold modp_sub.f at H
 clear h
 obtain ⟨t223, A40, H⟩ := Option.bind_eq_some_iff.mp H
 try dsimp only at H
 have A4 := am A40
 clear A40
 obtain ⟨t226, A50, H⟩ := Option.bind_eq_some_iff.mp H
 replace H : (some t226) = some r := H
 have A5 := am A50
 clear A50
 obtain rfl := Option.some.inj H
 go_enter Tryz.func133, Tryz.ntmps133
 go_wp2_with (first | ((with_reducible refine gate_callee (f := 63) rfl ?_); refine goesA (some 13) Tryz.func63 #[.slice A1 l1.length c1, .int .u64 (IntKind.u64.wrap ((IntKind.u64.wrap (a2)) - 1)), .int .u32 a2] ?_; (with_reducible refine (modp_times.calls k _ _ l1 (IntKind.u64.wrap ((IntKind.u64.wrap (a2)) - 1)) a2 t223 _ ?side1 ?side2 A4.out).mono ?_); (case side1 => exact kC2 (HR1.out)); (case side2 => exact HC1.out); rintro e w6 ⟨v224, rfl, ho0, hb⟩; refine ⟨_, rfl, ?_⟩; have n0_ := am (Kd.V_lower (Kd.V_mono (ok' := fun k_ => (w.heap.size ≤ k_)) ho0 (fun k_ hk_ => (Nat.le_trans (below_size bB) hk_))) (below_size bB)); have n1_ := am (below_step bB hb); clear HB; have HO225 := n0_; have HB := n1_; clear n0_ n1_; (try clear hb); (try clear hb2); (try clear hk); (try clear hi); (try clear ho0); obtain ⟨Ao7, co7, eo7⟩ := Kd.V_slice HO225.out; subst eo7) | ((with_reducible refine gate_callee (f := 11) rfl ?_); refine goesA (some 15) Tryz.func11 #[.slice A0 l0.length c0, .slice Ao7 t223.length co7, .int .u32 a2] ?_; (with_reducible refine (modp_Add.calls k _ _ l0 _ _ t223 a2 t226 _ ?side1 ?side2 ?side3 ?side4 A5.out).mono ?_); (case side1 => exact kC2 ((Kd.C_below HR0.out HB.out))); (case side2 => exact HC0.out); (case side3 => exact kC2 ((Kd.V_reads' HO225.out).2.2)); (case side4 => exact (Kd.V_reads' HO225.out).2.1); rintro e w8 ⟨v227, rfl, ho0, hb⟩; refine ⟨_, rfl, ?_⟩; have n0_ := am (Kd.V_below (rV HO225.out) hb); have n1_ := am (Kd.V_lower (Kd.V_mono (ok' := fun k_ => (w.heap.size ≤ k_)) ho0 (fun k_ hk_ => (Nat.le_trans (below_size bB) hk_))) (below_size bB)); have n2_ := am (below_step bB hb); clear HO225; clear HB; have HO225 := n0_; have HO228 := n1_; have HB := n2_; clear n0_ n1_ n2_; (try clear hb); (try clear hb2); (try clear hk); (try clear hi); (try clear ho0)))
 go_ret
 exact ⟨_, eqR, rV (HO228.out), bB⟩
def zigguratref14_Order.l0 : Nat → List Int → List Int → Int → Option (Int)
 | 0, _, _, _ => none
 | k + 1, x0, x1, x5 => if x5 < (x0.length : Int) then (if 0 ≤ x5 then (if x5 < (x1.length : Int) then (if (rd x0 x5) = (rd x1 x5) then (zigguratref14_Order.l0 k x0 x1 (wrap64 (x5 + 1))) else (some (wrap64 ((wrap64 (rd x0 x5)) - (wrap64 (rd x1 x5)))))) else (none)) else (none)) else (some 0)
def zigguratref14_Order.f (k : Nat) (l0 : List Int) (l1 : List Int) : Option (Int) := if (l0.length : Int) = (l1.length : Int) then (zigguratref14_Order.l0 k l0 l1 0) else (some (wrap64 ((l0.length : Int) - (l1.length : Int))))
theorem zigguratref14_Order.calls (k : Nat) (A0 : Option Addr) (c0 : Nat) (l0 : List Int) (A1 : Option Addr) (c1 : Nat) (l1 : List Int) (r : Int) (w : World) (hr0 : Kd.C (Kd.int .u32) w A0 l0.length l0) (hc0 : l0.length ≤ c0) (hr1 : Kd.C (Kd.int .u32) w A1 l1.length l1) (hc1 : l1.length ≤ c1) (h : zigguratref14_Order.f k l0 l1 = some r) :
   Calls Tryz.prog 30 #[.slice A0 l0.length c0, .slice A1 l1.length c1] w fun e w' => e = .returned (.int .i64 r) ∧ Drawn0 w w' := by
 have HR0 := am hr0
 have HC0 := am hc0
 clear hr0 hc0
 have HR1 := am hr1
 have HC1 := am hc1
 clear hr1 hc1
 have H := h; unfold zigguratref14_Order.f at H
 clear h
 by_cases c3 : (l0.length : Int) = (l1.length : Int)
 case neg =>
   rw [if_neg c3] at H
   have c3b0 : ((l0.length : Int) == (l1.length : Int)) = false := beq_eq_false_iff_ne.mpr c3
   have c3b1 : ((l0.length : Int) != (l1.length : Int)) = true := bne_iff_ne.mpr c3
   have c3b2 : (l0.length == l1.length) = false := by first | simpa using c3 | (simp at c3 ⊢; omega)
   obtain rfl := Option.some.inj H
   go_enter Tryz.func30, Tryz.ntmps30
   go_wp2
   repeat (go_quiet (fail); try go_wp2)
   go_ret
   exact ⟨eqS, dR⟩
 rw [if_pos c3] at H
 have c3b0 : ((l0.length : Int) == (l1.length : Int)) = true := beq_iff_eq.mpr c3
 have c3b1 : ((l0.length : Int) != (l1.length : Int)) = false := bne_eq_false_iff_eq.mpr c3
 have c3b2 : (l0.length == l1.length) = true := by first | simpa using c3 | (simp at c3 ⊢; omega)
 clear c3
 have H' := am H
 clear H
 go_enter Tryz.func30, Tryz.ntmps30
 go_wp2
 repeat (go_quiet (fail); try go_wp2)
 go_loopg [5] k (fun kq v5 w' => ∃ (x5_1 : Int), v5 = .int .i64 x5_1 ∧ Aside0 (zigguratref14_Order.l0 kq l0 l1 x5_1 = some r) ∧ Aside0 (kq ≤ k) ∧ Drawn0 w w')
 case atStart => exact ⟨(0), eqS, H', ⟨Nat.le_refl _⟩, by repeat (first | exact Drawn0.refl _ | apply Drawn0.step)⟩
 clear H'
 clear c3b0 c3b1 c3b2
 obtain ⟨x5_1, rfl, HA, HK1, ⟨m1, rfl⟩⟩ := hrel
 rcases gk with _ | k1
 · exact absurd HA.out (by simp [zigguratref14_Order.l0])
 have H := HA.out
 clear HA
 simp only [zigguratref14_Order.l0] at H
 by_cases c4 : x5_1 < (l0.length : Int)
 case neg =>
   rw [if_neg c4] at H
   have c4b0 : decide (x5_1 < (l0.length : Int)) = false := decide_eq_false c4
   clear c4
   obtain rfl := Option.some.inj H
   go_wp2
   repeat (go_quiet (fail); try go_wp2)
   go_ret
   exact ⟨eqS, dR⟩
 rw [if_pos c4] at H
 have c4b0 : decide (x5_1 < (l0.length : Int)) = true := decide_eq_true c4
 clear c4
 by_cases c5 : 0 ≤ x5_1
 case neg => exact nn c5 H
 rw [if_pos c5] at H
 have c5b0 : decide (0 ≤ x5_1) = true := decide_eq_true c5
 clear c5
 by_cases c6 : x5_1 < (l1.length : Int)
 case neg => exact nn c6 H
 rw [if_pos c6] at H
 have c6b0 : decide (x5_1 < (l1.length : Int)) = true := decide_eq_true c6
 clear c6
 by_cases c7 : (rd l0 x5_1) = (rd l1 x5_1)
 · rw [if_pos c7] at H
   have c7b0 : ((rd l0 x5_1) == (rd l1 x5_1)) = true := beq_iff_eq.mpr c7
   have c7b1 : ((rd l0 x5_1) != (rd l1 x5_1)) = false := bne_eq_false_iff_eq.mpr c7
   clear c7
   have H' := am H
   clear H
   have p229 : 0 ≤ (x5_1 : Int) := of_decide_eq_true as_
   have q229 : x5_1 < (l0.length : Int) := of_decide_eq_true as_
   obtain ⟨ad229, e229, hx229_0⟩ := Kd.at_int HR0.out x5_1 p229 q229
   cases e229
   replace p229 := eq_true p229
   replace q229 := eq_true q229
   have p230 : 0 ≤ (x5_1 : Int) := of_decide_eq_true as_
   have q230 : x5_1 < (l1.length : Int) := of_decide_eq_true as_
   obtain ⟨ad230, e230, hx230_0⟩ := Kd.at_int HR1.out x5_1 p230 q230
   cases e230
   replace p230 := eq_true p230
   replace q230 := eq_true q230
   go_wp2
   repeat (go_quiet (fail); try go_wp2)
   go_roundg k1
   case measure => have := HK1.out; omega
   case rel => exact ⟨(wrap64 (x5_1 + 1)), eqS, (by first | exact H' | (subst_vars; exact H')), ⟨by have := HK1.out; omega⟩, by repeat (first | exact Drawn0.refl _ | apply Drawn0.step)⟩
 rw [if_neg c7] at H
 have c7b0 : ((rd l0 x5_1) == (rd l1 x5_1)) = false := beq_eq_false_iff_ne.mpr c7
 have c7b1 : ((rd l0 x5_1) != (rd l1 x5_1)) = true := bne_iff_ne.mpr c7
 obtain rfl := Option.some.inj H
 have p229 : 0 ≤ (x5_1 : Int) := of_decide_eq_true as_
 have q229 : x5_1 < (l0.length : Int) := of_decide_eq_true as_
 obtain ⟨ad229, e229, hx229_0⟩ := Kd.at_int HR0.out x5_1 p229 q229
 cases e229
 replace p229 := eq_true p229
 replace q229 := eq_true q229
 have p230 : 0 ≤ (x5_1 : Int) := of_decide_eq_true as_
 have q230 : x5_1 < (l1.length : Int) := of_decide_eq_true as_
 obtain ⟨ad230, e230, hx230_0⟩ := Kd.at_int HR1.out x5_1 p230 q230
 cases e230
 replace p230 := eq_true p230
 replace q230 := eq_true q230
 have p231 : 0 ≤ (x5_1 : Int) := of_decide_eq_true as_
 have q231 : x5_1 < (l0.length : Int) := of_decide_eq_true as_
 obtain ⟨ad231, e231, hx231_0⟩ := Kd.at_int HR0.out x5_1 p231 q231
 obtain rfl : ad229 = ad231 := (by injection e231)
 replace p231 := eq_true p231
 replace q231 := eq_true q231
 have p232 : 0 ≤ (x5_1 : Int) := of_decide_eq_true as_
 have q232 : x5_1 < (l1.length : Int) := of_decide_eq_true as_
 obtain ⟨ad232, e232, hx232_0⟩ := Kd.at_int HR1.out x5_1 p232 q232
 obtain rfl : ad230 = ad232 := (by injection e232)
 replace p232 := eq_true p232
 replace q232 := eq_true q232
 go_wp2
 repeat (go_quiet (fail); try go_wp2)
 go_ret
 exact ⟨eqS, dR⟩
def zigguratref14_Same.f (k : Nat) (l0 : List Int) (l1 : List Int) : Option (Bool) := (zigguratref14_Order.f k l0 l1).bind fun t233 => (some (t233 == 0))
theorem zigguratref14_Same.calls (k : Nat) (A0 : Option Addr) (c0 : Nat) (l0 : List Int) (A1 : Option Addr) (c1 : Nat) (l1 : List Int) (r : Bool) (w : World) (hr0 : Kd.C (Kd.int .u32) w A0 l0.length l0) (hc0 : l0.length ≤ c0) (hr1 : Kd.C (Kd.int .u32) w A1 l1.length l1) (hc1 : l1.length ≤ c1) (h : zigguratref14_Same.f k l0 l1 = some r) :
   Calls Tryz.prog 9 #[.slice A0 l0.length c0, .slice A1 l1.length c1] w fun e w' => e = .returned (.bool r) ∧ Drawn0 w w' := by
 have HR0 := am hr0
 have HC0 := am hc0
 clear hr0 hc0
 have HR1 := am hr1
 have HC1 := am hc1
 clear hr1 hc1
 have H := h; unfold zigguratref14_Same.f at H
 clear h
 obtain ⟨t233, A30, H⟩ := Option.bind_eq_some_iff.mp H
 replace H : (some (t233 == 0)) = some r := H
 have A3 := am A30
 clear A30
 obtain rfl := Option.some.inj H
 go_enter Tryz.func9, Tryz.ntmps9
 go_wp2_with (first | ((with_reducible refine gate_callee (f := 30) rfl ?_); refine goesA (some 7) Tryz.func30 #[.slice A0 l0.length c0, .slice A1 l1.length c1] ?_; (with_reducible refine (zigguratref14_Order.calls k _ _ l0 _ _ l1 t233 _ ?side1 ?side2 ?side3 ?side4 A3.out).mono ?_); (case side1 => exact kC2 (HR0.out)); (case side2 => exact HC0.out); (case side3 => exact kC2 (HR1.out)); (case side4 => exact HC1.out); rintro e w' ⟨rfl, ⟨nd, rfl⟩⟩; refine ⟨_, rfl, ?_⟩))
 go_ret
 exact ⟨eqS, dR⟩
def modp_diff.l0 : Nat → List Int → Int → List Int → Int → Option (List Int)
 | 0, _, _, _, _ => none
 | k + 1, x0, x1, x5, x6 => if x6 < (x0.length : Int) then (if 0 ≤ x6 then (if (IntKind.u64.wrap (x1)) = 0 then (none) else (if x5.length < 35184372088832 then (modp_diff.l0 k x0 x1 (x5 ++ [(Int.tmod (IntKind.u64.wrap ((IntKind.u64.wrap (x6)) * (IntKind.u64.wrap (rd x0 x6)))) (IntKind.u64.wrap (x1))) % 4294967296]) (wrap64 (x6 + 1))) else (none))) else (none)) else ((modp_trim.f k x5).bind fun t238 => (some t238))
def modp_diff.f (k : Nat) (l0 : List Int) (a1 : Int) : Option (List Int) := modp_diff.l0 k l0 a1 ([] : List Int) 1
theorem modp_diff.calls (k : Nat) (A0 : Option Addr) (c0 : Nat) (l0 : List Int) (a1 : Int) (r : List Int) (w : World) (hr0 : Kd.C (Kd.int .u32) w A0 l0.length l0) (hc0 : l0.length ≤ c0) (h : modp_diff.f k l0 a1 = some r) :
   Calls Tryz.prog 61 #[.slice A0 l0.length c0, .int .u32 a1] w fun e w' => ∃ v0_ : Value, e = .returned (v0_) ∧ Kd.V (Kd.int .u32) 23 w' w.heap.size (fun k_ => (w.heap.size ≤ k_)) v0_ r ∧ Below w.heap.size w w' := by
 have HR0 := am hr0
 have HC0 := am hc0
 clear hr0 hc0
 have HB := am (Below.refl w.heap.size w)
 have H := h; unfold modp_diff.f at H
 clear h
 have H' := am H
 clear H
 go_enter Tryz.func61, Tryz.ntmps61
 go_wp2
 go_loopg [5, 6] k (fun kq v5 v6 w' => ∃ (x5_1 : List Int) (x6_1 : Int), v6 = .int .i64 x6_1 ∧ Aside0 (modp_diff.l0 kq l0 a1 x5_1 x6_1 = some r) ∧ Aside0 (kq ≤ k) ∧ Aside0 (Kd.R (Kd.int .u32) 23 w' w.heap.size (fun k_ => (w.heap.size ≤ k_)) v5 x5_1) ∧ Aside0 (Below w.heap.size w w'))
 case atStart => exact ⟨(([] : List Int)), (1), eqS, H', ⟨Nat.le_refl _⟩, ⟨by first | exact Kd.R_nil _ _ _ _ _ | exact Kd.N_nil _ _ _ _ _ | exact Kd.V_nil _ _ _ _ _ | exact Kd.Q_nil _ _ _ _ _ | exact Kd.S_nil _ _ _ _ _⟩, ⟨bB⟩⟩
 clear H'
 obtain ⟨x5_1, x6_1, rfl, HA, HK1, HO_5, HB⟩ := hrel
 rcases gk with _ | k1
 · exact absurd HA.out (by simp [modp_diff.l0])
 have H := HA.out
 clear HA
 simp only [modp_diff.l0] at H
 by_cases c3 : x6_1 < (l0.length : Int)
 case neg =>
   rw [if_neg c3] at H
   have c3b0 : decide (x6_1 < (l0.length : Int)) = false := decide_eq_false c3
   clear c3
   obtain ⟨t238, A80, H⟩ := Option.bind_eq_some_iff.mp H
   replace H : (some t238) = some r := H
   have A8 := am A80
   clear A80
   obtain rfl := Option.some.inj H
   obtain ⟨Ao9, co9, eo9⟩ := Kd.R_slice HO_5.out
   subst eo9
   go_wp2_with (first | ((with_reducible refine gate_callee (f := 29) rfl ?_); refine goesA (some 29) Tryz.func29 #[.slice Ao9 x5_1.length co9] ?_; (with_reducible refine (modp_trim.calls k1 (fun k_ => some k_ = (.slice Ao9 x5_1.length co9 : Value).ownBlock) _ _ x5_1 t238 _ ?side1 A8.out).mono ?_); (case side1 => exact Kd.R_V (Kd.R_tight rfl (HO_5.out))); rintro e w10 ⟨v239, rfl, ho0, hb⟩; refine ⟨_, rfl, ?_⟩; have n0_ := am (Kd.R_below (rR HO_5.out) hb); have n1_ := am (Kd.V_lower (Kd.V_mono (ok' := fun k_ => (w.heap.size ≤ k_)) ho0 (fun k_ hk_ => Or.elim hk_ (fun hs_ => ((HO_5.out).1 k_ hs_.symm)) (fun hn_ => (Nat.le_trans (below_size bB) hn_)))) (below_size bB)); have n2_ := am (below_step bB hb); clear HO_5; clear HB; have HO_5 := n0_; have HO240 := n1_; have HB := n2_; clear n0_ n1_ n2_; (try clear hb); (try clear hb2); (try clear hk); (try clear hi); (try clear ho0)))
   go_ret
   exact ⟨_, eqR, rV (HO240.out), bB⟩
 rw [if_pos c3] at H
 have c3b0 : decide (x6_1 < (l0.length : Int)) = true := decide_eq_true c3
 clear c3
 by_cases c4 : 0 ≤ x6_1
 case neg => exact nn c4 H
 rw [if_pos c4] at H
 have c4b0 : decide (0 ≤ x6_1) = true := decide_eq_true c4
 clear c4
 by_cases c5 : (IntKind.u64.wrap (a1)) = 0
 · rw [if_pos c5] at H
   exact absurd H (by simp)
 rw [if_neg c5] at H
 have c5b0 : ((IntKind.u64.wrap (a1)) == 0) = false := beq_eq_false_iff_ne.mpr c5
 have c5b1 : ((IntKind.u64.wrap (a1)) != 0) = true := bne_iff_ne.mpr c5
 by_cases c6 : x5_1.length < 35184372088832
 case neg => exact nn c6 H
 rw [if_pos c6] at H
 have LMc6 := am c6
 clear c6
 obtain ⟨y235, hy235⟩ : ∃ y_ : List Int, y_ = (x5_1 ++ [(Int.tmod (IntKind.u64.wrap ((IntKind.u64.wrap (x6_1)) * (IntKind.u64.wrap (rd l0 x6_1)))) (IntKind.u64.wrap (a1))) % 4294967296]) := ⟨_, rfl⟩
 replace H : (modp_diff.l0 k1 l0 a1 y235 (wrap64 (x6_1 + 1))) = some r := by first | (rw [hy235]; exact H) | exact H
 have Ny235 := am hy235
 clear hy235
 have H' := am H
 clear H
 have p234 : 0 ≤ (x6_1 : Int) := of_decide_eq_true as_
 have q234 : x6_1 < (l0.length : Int) := of_decide_eq_true as_
 obtain ⟨ad234, e234, hx234_0⟩ := Kd.at_int HR0.out x6_1 p234 q234
 cases e234
 replace hx234_0 := (HB.out.cell (World.block_lt_of_cell? w _ hx234_0)).trans hx234_0
 replace p234 := eq_true p234
 replace q234 := eq_true q234
 go_wp2_with (first | ((with_reducible refine gate_builtin (b := .append) (xs := #[.tmp 13, .tmp 26]) rfl ?_); at_builtin; refine Kd.R_append (Kd.int .u32) (w0 := w) w.heap.size rfl (.tmp 13) (.tmp 26) 27 23 (.int .u32 0) 4 rfl Tryz.underlying27 info23 rfl (by decide) (by omega) u5 x5_1 ((Int.tmod (IntKind.u64.wrap ((IntKind.u64.wrap (x6_1)) * (IntKind.u64.wrap (rd l0 x6_1)))) (IntKind.u64.wrap (a1))) % 4294967296) [.int .u32 ((Int.tmod (IntKind.u64.wrap ((IntKind.u64.wrap (x6_1)) * (IntKind.u64.wrap (rd l0 x6_1)))) (IntKind.u64.wrap (a1))) % 4294967296)] (fun k_ => (w.heap.size ≤ k_)) (fun _ => False) rfl rfl ?aP (fun _ hk => hk.elim) ?aF ?aO ?aB ?aS ?aL ?_; (case aP => exact rfl); (case aB => exact bB); (case aF => exact (fun k_ hk => (Nat.le_trans (below_size bB) hk))); (case aO => exact (rR HO_5.out)); (case aS => exact (below_size bB)); (case aL => have := LMc6.out; omega); intro v236 w7 ho hb hg hat; rw [← Ny235.out] at ho; have n0_ := am (hb); have n1_ := am (ho); clear HB; clear HO_5; have HB := n0_; have HO237 := n1_; clear n0_ n1_; clear ho hb hg hat))
 go_roundg k1
 case measure => have := HK1.out; omega
 case rel => exact ⟨(y235), (wrap64 (x6_1 + 1)), eqS, (by first | exact H' | (subst_vars; exact H')), ⟨by have := HK1.out; omega⟩, ⟨rR (HO237.out)⟩, ⟨bB⟩⟩
end Go.Proofs.YtjbcnppbcomaiaaGreatDoor.Q
namespace Go.Proofs.YtjbcnppbcomaiaaGreatDoor.Q
open Go.RowKit Go.Proofs.YtjbcnppbcomaiaaGreatDoorW.PrintWords
set_option linter.unusedVariables false
def trimL : List Int → List Int
 | [] => []
 | a :: l => if trimL l = [] ∧ a = 0 then [] else a :: trimL l
theorem trimL_zero (l : List Int) : trimL (l ++ [0]) = trimL l := by
 induction l with
 | nil => rfl
 | cons a l ih => simp only [List.cons_append, trimL, ih]
theorem trimL_ne (l : List Int) (x : Int) (hx : x ≠ 0) : trimL (l ++ [x]) = l ++ [x] := by
 induction l with
 | nil => simp [trimL, hx]
 | cons a l ih =>
   simp only [List.cons_append, trimL, ih]
   rw [if_neg (by simp)]
theorem rd_at (l : List Int) (i : Nat) (h : i < l.length) : rd l (i : Int) = l[i] := by simp [rd, List.getD, h]
theorem rd_last (l : List Int) (x : Int) : rd (l ++ [x]) (l.length : Int) = x := by
 rw [rd_at _ _ (by simp)]
 simp
theorem trim_is : ∀ (n k : Nat) (l : List Int), l.length = n → n < k → n < 4611686018427387904 → modp_trim.f k l = some (trimL l) := by
 intro n
 induction n with
 | zero =>
   intro k l hl hk hn
   obtain rfl : l = [] := List.eq_nil_of_length_eq_zero hl
   obtain ⟨k, rfl⟩ : ∃ k', k = k' + 1 := ⟨k - 1, by omega⟩
   rfl
 | succ n ih =>
   intro k l hl hk hn
   obtain ⟨k, rfl⟩ : ∃ k', k = k' + 1 := ⟨k - 1, by omega⟩
   obtain ⟨l', x, rfl⟩ : ∃ l' x, l = l' ++ [x] := by
     rcases List.eq_nil_or_concat l with h | ⟨l', x, h⟩
     · subst h; simp at hl
     · exact ⟨l', x, by simpa using h⟩
   have hl' : l'.length = n := by simpa using hl
   have hlen : ((l' ++ [x]).length : Int) = (n : Int) + 1 := by rw [hl]; omega
   unfold modp_trim.f
   rw [modp_trim.l0, hlen, if_pos (by omega), show wrap64 ((n : Int) + 1 - 1) = (n : Int) by unfold wrap64; omega, if_pos (by omega), if_pos (by omega)]
   have hr : rd (l' ++ [x]) (n : Int) = x := by rw [← hl']; exact rd_last l' x
   rw [hr]
   by_cases hx : x = 0
   · subst hx
     rw [if_pos rfl, if_pos (by omega), Int.toNat_natCast, trimL_zero]
     have : (l' ++ [(0 : Int)]).take n = l' := by rw [← hl', List.take_left]
     rw [this]
     exact ih k l' hl' (by omega) (by omega)
   · rw [if_neg hx, trimL_ne l' x hx]
def below (p : Int) (l : List Int) : Prop := ∀ x ∈ l, 0 ≤ x ∧ x < p
theorem below_get {p : Int} {l : List Int} (h : below p l) (i : Nat) (hi : i < l.length) : 0 ≤ l[i] ∧ l[i] < p := h _ (List.getElem_mem hi)
theorem below_trim {p : Int} {l : List Int} (h : below p l) : below p (trimL l) := by
 induction l with
 | nil => exact h
 | cons a l ih =>
   rw [trimL]
   split
   · exact fun x hx => by simp at hx
   · intro x hx
     simp only [List.mem_cons] at hx
     rcases hx with rfl | hx
     · exact h x (by simp)
     · exact ih (fun y hy => h y (by simp [hy])) x hx
theorem trimL_len (l : List Int) : (trimL l).length ≤ l.length := by
 induction l with
 | nil => exact Nat.le_refl _
 | cons a l ih =>
   rw [trimL]
   split
   · simp
   · simp; omega
def lastOk (l : List Int) : Prop := l = [] ∨ ∃ l' x, l = l' ++ [x] ∧ x ≠ 0
theorem trimL_last (l : List Int) : lastOk (trimL l) := by
 induction l with
 | nil => exact .inl rfl
 | cons a l ih =>
   rw [trimL]
   split
   · exact .inl rfl
   · rename_i h
     rcases ih with h0 | ⟨l', x, h0, hx⟩
     · rw [h0] at h ⊢
       exact .inr ⟨[], a, rfl, fun e => h ⟨rfl, e⟩⟩
     · rw [h0]
       exact .inr ⟨a :: l', x, rfl, hx⟩
def valL : List Int → Int → Int
 | [], _ => 0
 | a :: l, x => a + x * valL l x
theorem valL_snoc (l : List Int) (a x : Int) : valL (l ++ [a]) x = valL l x + a * x ^ l.length := by
 induction l with
 | nil => simp [valL]
 | cons b l ih =>
   simp only [List.cons_append, valL, ih, List.length_cons, Int.pow_succ]
   rw [Int.mul_add]
   have : x * (a * x ^ l.length) = a * (x ^ l.length * x) := by
     rw [Int.mul_left_comm, Int.mul_comm x]
   omega
theorem valL_trim (l : List Int) (x : Int) : valL (trimL l) x = valL l x := by
 induction l with
 | nil => rfl
 | cons a l ih =>
   rw [trimL]
   split
   · rename_i h
     show (0 : Int) = a + x * valL l x
     rw [← ih, h.1, h.2]
     simp [valL]
   · simp only [valL, ih]
theorem valL_append (l m : List Int) (x : Int) : valL (l ++ m) x = valL l x + x ^ l.length * valL m x := by
 induction l with
 | nil => simp [valL]
 | cons a l ih =>
   simp only [List.cons_append, valL, ih, List.length_cons, Int.pow_succ, Int.mul_add]
   rw [Int.mul_comm (x ^ l.length) x, Int.mul_assoc]
   omega
theorem val_zip : ∀ (a b : List Int) (x : Int), a.length = b.length → valL (List.zipWith (· + ·) a b) x = valL a x + valL b x
 | [], [], _, _ => rfl
 | a :: a_, b :: b_, x, h => by
   simp only [List.zipWith_cons_cons, valL, val_zip a_ b_ x (by simpa using h), Int.mul_add]
   omega
def sumL (p : Int) (a b : List Int) : List Int := (List.zipWith (· + ·) (a.take b.length) b).map (· % p) ++ a.drop b.length
theorem u64_of {x : Int} (h : 0 ≤ x) (h2 : x < 18446744073709551616) : IntKind.u64.wrap x = x := by rw [IntKind.wrap_u64]; omega
theorem mul_lt32 {a b : Int} (ha : 0 ≤ a) (ha2 : a < 65536) (hb : 0 ≤ b) (hb2 : b < 65536) : 0 ≤ a * b ∧ a * b < 4294967296 := by
 have h1 := Int.mul_nonneg ha hb
 have h2 : a * b ≤ 65535 * 65535 := Int.mul_le_mul (by omega) (by omega) hb (by omega)
 omega
def sumAt (p : Int) (a b : List Int) (i : Nat) : List Int := (List.zipWith (· + ·) (a.take i) (b.take i)).map (· % p) ++ a.drop i
theorem sumAt_end (p : Int) (a b : List Int) : sumAt p a b b.length = sumL p a b := by
 unfold sumAt sumL
 rw [List.take_length]
theorem zip_len (a b : List Int) (i : Nat) (ha : i ≤ a.length) (hb : i ≤ b.length) : (List.zipWith (· + ·) (a.take i) (b.take i)).length = i := by
 rw [List.length_zipWith, List.length_take, List.length_take]
 omega
theorem sumAt_len (p : Int) (a b : List Int) (i : Nat) (ha : i ≤ a.length) (hb : i ≤ b.length) : (sumAt p a b i).length = a.length := by
 unfold sumAt
 rw [List.length_append, List.length_map, zip_len a b i ha hb, List.length_drop]
 omega
theorem sumAt_rd (p : Int) (a b : List Int) (i : Nat) (ha : i < a.length) (hb : i ≤ b.length) : rd (sumAt p a b i) (i : Int) = a[i] := by
 rw [rd_at _ _ (by rw [sumAt_len p a b i (by omega) hb]; omega)]
 have hz : ((List.zipWith (· + ·) (a.take i) (b.take i)).map (· % p)).length = i := by rw [List.length_map, zip_len a b i (by omega) hb]
 simp only [sumAt]
 rw [List.getElem_append_right (by omega)]
 simp only [hz, Nat.sub_self, List.getElem_drop, Nat.add_zero]
theorem sumAt_set (p : Int) (a b : List Int) (i : Nat) (ha : i < a.length) (hb : i < b.length) : (sumAt p a b i).set i ((a[i] + b[i]) % p) = sumAt p a b (i + 1) := by
 have hz : ((List.zipWith (· + ·) (a.take i) (b.take i)).map (· % p)).length = i := by rw [List.length_map, zip_len a b i (by omega) (by omega)]
 unfold sumAt
 rw [List.set_append, if_neg (by omega), hz, Nat.sub_self, List.drop_eq_getElem_cons ha, List.set_cons_zero]
 rw [List.take_succ_eq_append_getElem ha, List.take_succ_eq_append_getElem hb, List.zipWith_append (by rw [List.length_take, List.length_take]; omega), List.map_append]
 simp
theorem add_l (p : Int) (a b : List Int) (hp : 0 < p) (hp2 : p < 65536) (hba : below p a) (hbb : below p b) (hab : b.length ≤ a.length) (hl : a.length < 1000000) : ∀ (n i : Nat), b.length - i = n → i ≤ b.length → ∀ k, n + a.length + 1 < k →
   modp_Add.l0 k p (sumAt p a b i) b (b.length : Int) (i : Int) = some (trimL (sumL p a b)) := by
 intro n
 induction n with
 | zero =>
   intro i hn hi k hk
   obtain ⟨k, rfl⟩ : ∃ k', k = k' + 1 := ⟨k - 1, by omega⟩
   obtain rfl : i = b.length := by omega
   rw [modp_Add.l0, if_neg (by omega), sumAt_end]
   have hsl : (sumL p a b).length = a.length := by rw [← sumAt_end]; exact sumAt_len p a b _ hab (Nat.le_refl _)
   rw [trim_is a.length k _ hsl (by omega) (by omega)]
   rfl
 | succ n ih =>
   intro i hn hi k hk
   obtain ⟨k, rfl⟩ : ∃ k', k = k' + 1 := ⟨k - 1, by omega⟩
   have hia : i < a.length := by omega
   have hib : i < b.length := by omega
   have hx := below_get hba i hia
   have hy := below_get hbb i hib
   rw [modp_Add.l0, if_pos (by omega), if_pos (by omega), if_pos (by omega), sumAt_len p a b i (by omega) (by omega), if_pos (by omega), if_neg (by omega), sumAt_rd p a b i hia (by omega), rd_at b i hib]
   rw [show (a[i] + b[i]) % 4294967296 = a[i] + b[i] by omega, Int.toNat_natCast, sumAt_set p a b i hia hib, show wrap64 ((i : Int) + 1) = ((i + 1 : Nat) : Int) by unfold wrap64; omega]
   exact ih (i + 1) (by omega) (by omega) k (by omega)
def addP (p : Int) (a b : List Int) : List Int := if a.length < b.length then trimL (sumL p b a) else trimL (sumL p a b)
theorem addv_is (p : Int) (a b : List Int) (hp : 0 < p) (hp2 : p < 65536) (hba : below p a) (hbb : below p b) (hab : b.length ≤ a.length) (hl : a.length < 1000000) (k : Nat) (hk : a.length + b.length + 1 < k) : modp_Add.v k a b p = some (trimL (sumL p a b)) := by
 unfold modp_Add.v slices_Clone.f
 rw [if_pos (by omega), Option.bind_some]
 have := add_l p a b hp hp2 hba hbb hab hl b.length 0 (by omega) (by omega) k (by omega)
 have h0 : sumAt p a b 0 = a := by simp [sumAt]
 rw [h0] at this
 exact this
theorem add_is (p : Int) (a b : List Int) (hp : 0 < p) (hp2 : p < 65536) (hba : below p a) (hbb : below p b) (hla : a.length < 1000000) (hlb : b.length < 1000000) (k : Nat) (hk : a.length + b.length + 1 < k) : modp_Add.f k a b p = some (addP p a b) := by
 unfold modp_Add.f addP
 by_cases h : a.length < b.length
 · rw [if_pos h, if_pos h]
   exact addv_is p b a hp hp2 hbb hba (by omega) hlb k (by omega)
 · rw [if_neg h, if_neg h]
   exact addv_is p a b hp hp2 hba hbb (by omega) hla k hk
theorem below_app {p : Int} {a b : List Int} (ha : below p a) (hb : below p b) : below p (a ++ b) := by
 intro x hx
 rcases List.mem_append.1 hx with h | h
 · exact ha x h
 · exact hb x h
theorem below_map {p : Int} (hp : 0 < p) (a : List Int) : below p (a.map (· % p)) := by
 intro x hx
 obtain ⟨y, _, rfl⟩ := List.mem_map.1 hx
 exact ⟨Int.emod_nonneg _ (by omega), Int.emod_lt_of_pos _ hp⟩
theorem below_drop {p : Int} {a : List Int} (h : below p a) (n : Nat) : below p (a.drop n) := fun x hx => h x (List.mem_of_mem_drop hx)
theorem below_sum {p : Int} (hp : 0 < p) {a b : List Int} (ha : below p a) : below p (sumL p a b) := below_app (below_map hp _) (below_drop ha _)
theorem below_add {p : Int} (hp : 0 < p) {a b : List Int} (ha : below p a) (hb : below p b) : below p (addP p a b) := by
 unfold addP
 split
 · exact below_trim (below_sum hp hb)
 · exact below_trim (below_sum hp ha)
theorem add_last (p : Int) (a b : List Int) : lastOk (addP p a b) := by
 unfold addP
 split <;> exact trimL_last _
theorem refright_l {p : Int} {l : List Int} (hb : below p l) (ho : lastOk l) (hl : l.length < 1000000) : ∀ (n i k : Nat), l.length - i = n → i ≤ l.length → n < k → zigguratref14_Right.l0 k l p (i : Int) = some true := by
 intro n
 induction n with
 | zero =>
   intro i k hn hi hk
   obtain ⟨k, rfl⟩ : ∃ k', k = k' + 1 := ⟨k - 1, by omega⟩
   rw [zigguratref14_Right.l0, if_neg (by omega)]
   rcases ho with rfl | ⟨l', x, rfl, hx⟩
   · rfl
   · have hlen : ((l' ++ [x]).length : Int) = (l'.length : Int) + 1 := by simp
     rw [hlen, if_neg (by omega), show wrap64 ((l'.length : Int) + 1 - 1) = (l'.length : Int) by unfold wrap64; simp at hl; omega, if_pos (by omega), if_pos (by omega), rd_last]
     simp [hx]
 | succ n ih =>
   intro i k hn hi hk
   obtain ⟨k, rfl⟩ : ∃ k', k = k' + 1 := ⟨k - 1, by omega⟩
   have hx := below_get hb i (by omega)
   rw [zigguratref14_Right.l0, if_pos (by omega), if_pos (by omega), rd_at l i (by omega), if_neg (by omega), show wrap64 ((i : Int) + 1) = ((i + 1 : Nat) : Int) by unfold wrap64; omega]
   exact ih (i + 1) k (by omega) (by omega) (by omega)
theorem refright_is {p : Int} {l : List Int} (hb : below p l) (ho : lastOk l) (hl : l.length < 1000000) (k : Nat) (hk : l.length < k) : zigguratref14_Right.f k l p = some true := by
 unfold zigguratref14_Right.f
 exact refright_l hb ho hl l.length 0 k (by omega) (by omega) hk
theorem order_l (l : List Int) (hl : l.length < 1000000) : ∀ (n i k : Nat), l.length - i = n → i ≤ l.length → n < k → zigguratref14_Order.l0 k l l (i : Int) = some 0 := by
 intro n
 induction n with
 | zero =>
   intro i k hn hi hk
   obtain ⟨k, rfl⟩ : ∃ k', k = k' + 1 := ⟨k - 1, by omega⟩
   rw [zigguratref14_Order.l0, if_neg (by omega)]
 | succ n ih =>
   intro i k hn hi hk
   obtain ⟨k, rfl⟩ : ∃ k', k = k' + 1 := ⟨k - 1, by omega⟩
   rw [zigguratref14_Order.l0, if_pos (by omega), if_pos (by omega), if_pos (by omega), if_pos rfl, show wrap64 ((i : Int) + 1) = ((i + 1 : Nat) : Int) by unfold wrap64; omega]
   exact ih (i + 1) k (by omega) (by omega) (by omega)
theorem refsame_is (l : List Int) (hl : l.length < 1000000) (k : Nat) (hk : l.length < k) : zigguratref14_Same.f k l l = some true := by
 unfold zigguratref14_Same.f zigguratref14_Order.f
 rw [if_pos rfl, show (0 : Int) = ((0 : Nat) : Int) from rfl, order_l l hl l.length 0 k (by omega) (by omega) hk]
 rfl
def cf (l : List Int) (j : Nat) : Int := l.getD j 0
theorem cf_at (l : List Int) (j : Nat) (h : j < l.length) : cf l j = l[j] := by simp [cf, List.getD, h]
theorem cf_out (l : List Int) (j : Nat) (h : l.length ≤ j) : cf l j = 0 := by simp [cf, List.getD, h]
theorem cf_set (l : List Int) (i j : Nat) (v : Int) (h : i < l.length) : cf (l.set i v) j = if i = j then v else cf l j := by
 unfold cf
 simp only [List.getD_eq_getElem?_getD, List.getElem?_set]
 by_cases hij : i = j
 · subst hij
   simp [h]
 · simp [hij]
theorem valL_set (l : List Int) (i : Nat) (v x : Int) (h : i < l.length) : valL (l.set i v) x = valL l x + (v - cf l i) * x ^ i := by
 induction l generalizing i with
 | nil => simp at h
 | cons a l ih =>
   rcases i with _ | i
   · simp [valL, cf]; omega
   have hi : i < l.length := by simpa using h
   simp only [List.set_cons_succ, valL, ih i hi]
   have hc : cf (a :: l) (i + 1) = cf l i := rfl
   rw [hc, Int.mul_add, Int.pow_succ]
   have : x * ((v - cf l i) * x ^ i) = (v - cf l i) * (x ^ i * x) := by rw [Int.mul_left_comm, Int.mul_comm x]
   omega
def rowS (a b : List Int) : Nat → Nat → Int
 | 0, _ => 0
 | i + 1, j => rowS a b i j + (if i ≤ j then cf a i * cf b (j - i) else 0)
def partS (a b : List Int) (i k j : Nat) : Int := rowS a b i j + (if i ≤ j ∧ j - i < k then cf a i * cf b (j - i) else 0)
theorem partS_zero (a b : List Int) (i j : Nat) : partS a b i 0 j = rowS a b i j := by simp [partS]
theorem partS_full (a b : List Int) (i j : Nat) : partS a b i b.length j = rowS a b (i + 1) j := by
 simp only [partS, rowS]
 by_cases h : i ≤ j
 · by_cases h2 : j - i < b.length
   · simp [h, h2]
   · simp [h, h2, cf_out b (j - i) (by omega)]
 · simp [h]
theorem partS_succ (a b : List Int) (i k j : Nat) : partS a b i (k + 1) j = partS a b i k j + (if i + k = j then cf a i * cf b k else 0) := by
 simp only [partS]
 by_cases h : i + k = j
 case neg =>
   by_cases h3 : i ≤ j ∧ j - i < k
   · rw [if_pos (by omega), if_pos h3, if_neg h]
     omega
   · rw [if_neg (by omega), if_neg h3, if_neg h]
     omega
 subst h
 have h1 : i ≤ i + k ∧ i + k - i < k + 1 := by omega
 have h2 : ¬ (i ≤ i + k ∧ i + k - i < k) := by omega
 rw [if_pos h1, if_neg h2, if_pos rfl, show i + k - i = k by omega]
 omega
theorem add_mod_cong {u v d e p : Int} (h : u % p = v % p) (h2 : d % p = e % p) : (u + d) % p = (v + e) % p := by rw [Int.add_emod, h, h2, ← Int.add_emod]
theorem mul_inner (p : Int) (a b : List Int) (hp : 0 < p) (hp2 : p < 65536) (ha : below p a) (hb : below p b) (hla : a.length < 100000) (hlb : b.length < 100000) (i : Nat) (hi : i < a.length) : ∀ (n k : Nat) (s : List Int), b.length - k = n → k ≤ b.length →
   ((∀ j, j < i + k → cf s j ≤ 65536 * (i + 1)) ∧ (∀ j, i + k ≤ j → cf s j ≤ 65536 * i)) → s.length = a.length + b.length - 1 → (∀ j, 0 ≤ cf s j) → (∀ j, cf s j % p = partS a b i k j % p) →
   (∀ x, valL s x % p = (valL (a.take i) x * valL b x + cf a i * x ^ i * valL (b.take k) x) % p) →
   ∃ s', (∀ K, modp_Mul.l1 (K + n + 1) b p s (i : Int) (cf a i) a (a.length : Int) (i : Int) b (b.length : Int) (k : Int) = modp_Mul.l0 K b p s' a (a.length : Int) ((i + 1 : Nat) : Int)) ∧
     s'.length = a.length + b.length - 1 ∧ (∀ j, 0 ≤ cf s' j) ∧ (∀ j, cf s' j ≤ 65536 * (i + 1)) ∧ (∀ j, cf s' j % p = rowS a b (i + 1) j % p) ∧ (∀ x, valL s' x % p = (valL (a.take (i + 1)) x * valL b x) % p) := by
 intro n
 induction n with
 | zero =>
   intro k s hn hk hbd hlen hlo hco hva
   obtain rfl : k = b.length := by omega
   refine ⟨s, fun K => ?_, hlen, hlo, fun j => ?_, fun j => ?_, fun x => ?_⟩
   · rw [modp_Mul.l1, if_neg (by omega), show wrap64 ((i : Int) + 1) = ((i + 1 : Nat) : Int) by unfold wrap64; omega]
   · by_cases h : j < i + b.length
     · exact hbd.1 j h
     · have := hbd.2 j (by omega)
       omega
   · rw [hco, partS_full]
   · rw [hva, List.take_length, List.take_succ_eq_append_getElem hi, valL_snoc, List.length_take, show min i a.length = i by omega, Int.add_mul, cf_at a i hi]
 | succ n ih =>
   intro k s hn hk hbd hlen hlo hco hva
   have hkb : k < b.length := by omega
   have hx := below_get ha i hi
   have hy := below_get hb k hkb
   have hpos : i + k < s.length := by omega
   have hpr := mul_lt32 (a := cf a i) (b := cf b k) (by rw [cf_at a i hi]; omega) (by rw [cf_at a i hi]; omega) (by rw [cf_at b k hkb]; omega) (by rw [cf_at b k hkb]; omega)
   have hm0 := Int.emod_nonneg (cf a i * cf b k) (show p ≠ 0 by omega)
   have hm1 := Int.emod_lt_of_pos (cf a i * cf b k) hp
   have hs0 := hlo (i + k)
   have hs1 := hbd.2 (i + k) (Nat.le_refl _)
   obtain ⟨v, hv⟩ : ∃ v, v = cf s (i + k) + cf a i * cf b k % p := ⟨_, rfl⟩
   have hstep : ∀ K, modp_Mul.l1 (K + (n + 1) + 1) b p s (i : Int) (cf a i) a (a.length : Int) (i : Int) b (b.length : Int) (k : Int) = modp_Mul.l1 (K + n + 1) b p (s.set (i + k) v) (i : Int) (cf a i) a (a.length : Int) (i : Int) b (b.length : Int) ((k + 1 : Nat) : Int) := by
     intro K
     have hrs : rd s ((i + k : Nat) : Int) = cf s (i + k) := by rw [rd_at s _ hpos, cf_at s _ hpos]
     have hrb : rd b (k : Int) = cf b k := by rw [rd_at b k hkb, cf_at b k hkb]
     rw [show K + (n + 1) + 1 = (K + n + 1) + 1 by omega, modp_Mul.l1, if_pos (by omega), if_pos (by omega), if_pos (by omega), show wrap64 ((i : Int) + (k : Int)) = ((i + k : Nat) : Int) by unfold wrap64; omega, if_pos (by omega), if_pos (by omega), u64_of (by omega : 0 ≤ p) (by omega), if_neg (by omega), hrs, hrb]
     rw [u64_of (x := cf a i) (by rw [cf_at a i hi]; omega) (by rw [cf_at a i hi]; omega), u64_of (x := cf b k) (by rw [cf_at b k hkb]; omega) (by rw [cf_at b k hkb]; omega), u64_of hpr.1 (by omega), Int.tmod_eq_emod_of_nonneg hpr.1, ← hv, u64_of (by omega) (by omega), Int.toNat_natCast, show wrap64 ((k : Int) + 1) = ((k + 1 : Nat) : Int) by unfold wrap64; omega]
   have hcs : ∀ j, cf (s.set (i + k) v) j = if i + k = j then v else cf s j := fun j => cf_set s (i + k) j v hpos
   obtain ⟨s', h1, h2, h3, h4, h5, h6⟩ := ih (k + 1) (s.set (i + k) v) (by omega) (by omega) ⟨fun j hj => by
       rw [hcs]
       split
       · omega
       · exact hbd.1 j (by omega), fun j hj => by
       rw [hcs, if_neg (by omega)]
       exact hbd.2 j (by omega)⟩ (by rw [List.length_set, hlen]) (fun j => by
       rw [hcs]
       split
       · omega
       · exact hlo j) (fun j => by
       rw [hcs, partS_succ]
       split
       · rename_i hj
         subst hj
         rw [hv]
         exact add_mod_cong (hco _) (by rw [Int.emod_emod_of_dvd _ (Int.dvd_refl p)])
       · rw [Int.add_zero]
         exact hco j) (fun x => by
       rw [valL_set s _ v x hpos, hv]
       have e1 : cf s (i + k) + cf a i * cf b k % p - cf s (i + k) = cf a i * cf b k % p := by omega
       rw [e1, List.take_succ_eq_append_getElem hkb, valL_snoc, List.length_take, show min k b.length = k by omega, ← cf_at b k hkb]
       have e2 : valL (a.take i) x * valL b x + cf a i * x ^ i * (valL (b.take k) x + cf b k * x ^ k) = (valL (a.take i) x * valL b x + cf a i * x ^ i * valL (b.take k) x) + cf a i * cf b k * x ^ (i + k) := by
         rw [Int.mul_add, Int.pow_add]
         have : cf a i * x ^ i * (cf b k * x ^ k) = cf a i * cf b k * (x ^ i * x ^ k) := by
           rw [Int.mul_assoc, Int.mul_left_comm (x ^ i), ← Int.mul_assoc, ← Int.mul_assoc, Int.mul_assoc (cf a i * cf b k)]
         omega
       rw [e2]
       exact add_mod_cong (hva x) (by rw [Int.mul_emod, Int.emod_emod_of_dvd _ (Int.dvd_refl p), ← Int.mul_emod]))
   exact ⟨s', fun K => by rw [hstep K]; exact h1 K, h2, h3, h4, h5, h6⟩
theorem mul_outer (p : Int) (a b : List Int) (hp : 0 < p) (hp2 : p < 65536) (ha : below p a) (hb : below p b) (hla : a.length < 100000) (hlb : b.length < 100000) (hb0 : 0 < b.length) : ∀ (n i : Nat) (s : List Int), a.length - i = n → i ≤ a.length →
   (∀ j, cf s j ≤ 65536 * i) → s.length = a.length + b.length - 1 → (∀ j, 0 ≤ cf s j) → (∀ j, cf s j % p = rowS a b i j % p) → (∀ x, valL s x % p = (valL (a.take i) x * valL b x) % p) →
   ∃ s', (∀ K, modp_Mul.l0 (K + n * (b.length + 2)) b p s a (a.length : Int) (i : Int) = modp_Mul.l0 K b p s' a (a.length : Int) (a.length : Int)) ∧
     s'.length = a.length + b.length - 1 ∧ (∀ j, 0 ≤ cf s' j) ∧ (∀ j, cf s' j ≤ 65536 * a.length) ∧ (∀ j, cf s' j % p = rowS a b a.length j % p) ∧ (∀ x, valL s' x % p = (valL a x * valL b x) % p) := by
 intro n
 induction n with
 | zero =>
   intro i s hn hi hbd hlen hlo hco hva
   obtain rfl : i = a.length := by omega
   refine ⟨s, fun K => by rw [Nat.zero_mul, Nat.add_zero], hlen, hlo, hbd, hco, fun x => ?_⟩
   rw [hva, List.take_length]
 | succ n ih =>
   intro i s hn hi hbd hlen hlo hco hva
   have hia : i < a.length := by omega
   obtain ⟨s1, h1, h2, h3, h4, h5, h6⟩ := mul_inner p a b hp hp2 ha hb hla hlb i hia b.length 0 s (by omega) (by omega) ⟨fun j hj => by have := hbd j; omega, fun j hj => hbd j⟩ hlen hlo (fun j => by rw [partS_zero]; exact hco j) (fun x => by
     rw [hva, List.take_zero]
     simp [valL])
   obtain ⟨s', g1, g2, g3, g4, g5, g6⟩ := ih (i + 1) s1 (by omega) (by omega) h4 h2 h3 h5 h6
   refine ⟨s', fun K => ?_, g2, g3, g4, g5, g6⟩
   rw [show K + (n + 1) * (b.length + 2) = ((K + n * (b.length + 2)) + b.length + 1) + 1 by rw [Nat.succ_mul]; omega, modp_Mul.l0, if_pos (by omega), if_pos (by omega), if_pos (by omega), rd_at a i hia, ← cf_at a i hia, show (0 : Int) = ((0 : Nat) : Int) from rfl, h1 (K + n * (b.length + 2))]
   exact g1 K
def modAt (p : Int) (s : List Int) (i : Nat) : List Int := (s.take i).map (· % p) ++ List.replicate (s.length - i) 0
theorem modAt_len (p : Int) (s : List Int) (i : Nat) (hi : i ≤ s.length) : (modAt p s i).length = s.length := by
 unfold modAt
 rw [List.length_append, List.length_map, List.length_take, List.length_replicate]
 omega
theorem modAt_set (p : Int) (s : List Int) (i : Nat) (hi : i < s.length) : (modAt p s i).set i (s[i] % p) = modAt p s (i + 1) := by
 unfold modAt
 have hz : ((s.take i).map (· % p)).length = i := by rw [List.length_map, List.length_take]; omega
 rw [List.set_append, if_neg (by omega), hz, Nat.sub_self, show s.length - i = (s.length - (i + 1)) + 1 by omega, List.replicate_succ, List.set_cons_zero, List.take_succ_eq_append_getElem hi, List.map_append]
 simp
theorem mul_last (p : Int) (s : List Int) (hp : 0 < p) (hp2 : p < 65536) (hlo : ∀ j, 0 ≤ cf s j) (hhi : ∀ j, cf s j < 18446744073709551616) (hl : s.length < 1000000) : ∀ (n i k : Nat), s.length - i = n → i ≤ s.length → n + s.length + 1 < k →
   modp_Mul.l2 k p (modAt p s i) s (s.length : Int) (i : Int) = some (trimL (s.map (· % p))) := by
 intro n
 induction n with
 | zero =>
   intro i k hn hi hk
   obtain ⟨k, rfl⟩ : ∃ k', k = k' + 1 := ⟨k - 1, by omega⟩
   obtain rfl : i = s.length := by omega
   rw [modp_Mul.l2, if_neg (by omega)]
   have he : modAt p s s.length = s.map (· % p) := by unfold modAt; rw [List.take_length, Nat.sub_self]; simp
   rw [he, trim_is s.length k _ (by simp) (by omega) (by omega)]
   rfl
 | succ n ih =>
   intro i k hn hi hk
   obtain ⟨k, rfl⟩ : ∃ k', k = k' + 1 := ⟨k - 1, by omega⟩
   have his : i < s.length := by omega
   have h0 := hlo i
   rw [cf_at s i his] at h0
   have hm1 := Int.emod_lt_of_pos s[i] hp
   have hm0 := Int.emod_nonneg s[i] (show p ≠ 0 by omega)
   rw [modp_Mul.l2, if_pos (by omega), if_pos (by omega), if_pos (by omega), u64_of (by omega : 0 ≤ p) (by omega), if_neg (by omega), modAt_len p s i (by omega), if_pos (by omega), rd_at s i his, Int.tmod_eq_emod_of_nonneg h0]
   rw [show s[i] % p % 4294967296 = s[i] % p by omega, Int.toNat_natCast, modAt_set p s i his, show wrap64 ((i : Int) + 1) = ((i + 1 : Nat) : Int) by unfold wrap64; omega]
   exact ih (i + 1) k (by omega) (by omega) (by omega)
theorem len_wrap (m n : Nat) (hm : m < 1000) (hn : n < 1000) (h0 : 0 < m) : wrap64 (wrap64 ((m : Int) + (n : Int)) - 1) = ((m + n - 1 : Nat) : Int) := by
 have h1 : wrap64 ((m : Int) + (n : Int)) = (m : Int) + (n : Int) := by unfold wrap64; omega
 rw [h1]
 unfold wrap64
 omega
theorem mul_is (p : Int) (a b : List Int) (hp : 0 < p) (hp2 : p < 65536) (ha : below p a) (hb : below p b) (hla : a.length < 1000) (hlb : b.length < 1000) (ha0 : 0 < a.length) (hb0 : 0 < b.length) : ∃ s : List Int, s.length = a.length + b.length - 1 ∧ (∀ j, cf s j % p = rowS a b a.length j % p) ∧ (∀ x, valL s x % p = (valL a x * valL b x) % p) ∧
   ∀ k, 2000000 ≤ k → modp_Mul.f k a b p = some (trimL (s.map (· % p))) := by
 obtain ⟨z, hz⟩ : ∃ z : List Int, z = List.replicate (a.length + b.length - 1) 0 := ⟨_, rfl⟩
 have hzl : z.length = a.length + b.length - 1 := by rw [hz, List.length_replicate]
 have hzc : ∀ j, cf z j = 0 := by
   intro j
   by_cases h : j < z.length
   · rw [cf_at z j h]
     simp [hz]
   · exact cf_out z j (by omega)
 have hzv : ∀ (n : Nat) (x : Int), valL (List.replicate n 0) x = 0 := by
   intro n x
   induction n with
   | zero => rfl
   | succ n ih => rw [List.replicate_succ, valL, ih]; simp
 obtain ⟨s, h1, h2, h3, h4, h5, h6⟩ := mul_outer p a b hp hp2 ha hb (by omega) (by omega) hb0 a.length 0 z (by omega) (by omega) (fun j => by rw [hzc]; omega) hzl (fun j => by rw [hzc]; omega) (fun j => by rw [hzc]; rfl) (fun x => by
   rw [hz, hzv, List.take_zero]
   simp [valL])
 refine ⟨s, h2, h5, h6, fun k hk => ?_⟩
 have hmul : a.length * (b.length + 2) ≤ 1000 * 1002 := Nat.mul_le_mul (by omega) (by omega)
 obtain ⟨K, hK⟩ : ∃ K, k = (K + 1 + a.length * (b.length + 2)) + 1 := ⟨k - 2 - a.length * (b.length + 2), by omega⟩
 have hKb : 10000 ≤ K := by omega
 have e1 := len_wrap a.length b.length (by omega) (by omega) ha0
 have e2 : a.length + b.length - 1 ≤ 35184372088832 := by omega
 have e3 : s.length ≤ 70368744177664 := by omega
 have e4 : ¬ ((a.length : Int) = 0) := by omega
 have e5 : ¬ ((b.length : Int) = 0) := by omega
 have e6 : ¬ ((a.length : Int) < (a.length : Int)) := by omega
 have hm0 : List.replicate s.length (0 : Int) = modAt p s 0 := by simp [modAt]
 have hfin := mul_last p s hp hp2 h3 (fun j => by have := h4 j; omega) (by omega) s.length 0 K (by omega) (by omega) (by omega)
 rw [← hm0] at hfin
 have h1' := h1 (K + 1)
 rw [hz] at h1'
 unfold modp_Mul.f
 rw [if_neg e4, beq_eq_false_iff_ne.2 e5, hK, modp_Mul.j0, if_neg (by decide), e1, if_pos (Int.natCast_nonneg _), Int.toNat_natCast, if_pos e2]
 refine h1'.trans ?_
 rw [modp_Mul.l0, if_neg e6, if_pos (Int.natCast_nonneg _), Int.toNat_natCast, if_pos e3]
 exact hfin
theorem mul_nil (p : Int) (a b : List Int) (h : a.length = 0 ∨ b.length = 0) (k : Nat) : modp_Mul.f (k + 1) a b p = some [] := by
 unfold modp_Mul.f
 by_cases h0 : a.length = 0
 · rw [if_pos (by omega)]
   rfl
 have : b.length = 0 := by omega
 rw [if_neg (by omega), this]
 rfl
theorem rowS_more (a b : List Int) (j n : Nat) (h : ∀ i, n ≤ i → (if i ≤ j then cf a i * cf b (j - i) else 0) = 0) : ∀ m, rowS a b (n + m) j = rowS a b n j
 | 0 => rfl
 | m + 1 => by
   rw [← Nat.add_assoc, rowS, rowS_more a b j n h m, h (n + m) (by omega), Int.add_zero]
theorem rowS_diag (a b : List Int) (j : Nat) : rowS a b a.length j = rowS a b (j + 1) j := by
 have h1 := rowS_more a b j a.length (fun i hi => by
   rw [cf_out a i hi]
   simp) (j + 1)
 have h2 := rowS_more a b j (j + 1) (fun i hi => by rw [if_neg (by omega)]) a.length
 rw [← h1, ← h2]
 congr 1
 omega
theorem map_mod_eq {p : Int} {s t : List Int} (hl : s.length = t.length) (h : ∀ j, cf s j % p = cf t j % p) : s.map (· % p) = t.map (· % p) := by
 apply List.ext_getElem
 · simp [hl]
 · intro j h1 h2
   have hs : j < s.length := by simpa using h1
   have ht : j < t.length := by simpa using h2
   have := h j
   rw [cf_at s j hs, cf_at t j ht] at this
   simpa using this
def isPrime (p : Nat) : Prop := 2 ≤ p ∧ ∀ d, d ∣ p → d = 1 ∨ d = p
def addI : List Int → List Int → List Int
 | [], b => b
 | a :: l, [] => a :: l
 | a :: l, b :: m => (a + b) :: addI l m
def mulI : List Int → List Int → List Int
 | [], _ => []
 | a :: l, b => addI (b.map (a * ·)) (0 :: mulI l b)
theorem val_add : ∀ (a b : List Int) (x : Int), valL (addI a b) x = valL a x + valL b x
 | [], b, x => by simp [addI, valL]
 | a :: l, [], x => by simp [addI, valL]
 | a :: l, b :: m, x => by
   simp only [addI, valL, val_add l m x]
   grind
theorem val_smul (c x : Int) : ∀ a : List Int, valL (a.map (c * ·)) x = c * valL a x
 | [] => by simp [valL]
 | a :: l => by
   simp only [List.map_cons, valL, val_smul c x l]
   grind
theorem val_mul : ∀ (a b : List Int) (x : Int), valL (mulI a b) x = valL a x * valL b x
 | [], b, x => by simp [mulI, valL]
 | a :: l, b, x => by
   simp only [mulI, val_add, val_smul, valL, val_mul l b x]
   grind
theorem len_add : ∀ a b : List Int, (addI a b).length = max a.length b.length
 | [], b => by simp [addI]
 | a :: l, [] => by simp [addI]
 | a :: l, b :: m => by
   simp only [addI, List.length_cons, len_add l m]
   omega
theorem cf_nil (j : Nat) : cf [] j = 0 := rfl
theorem cf_zero (a : Int) (l : List Int) : cf (a :: l) 0 = a := rfl
theorem cf_succ (a : Int) (l : List Int) (j : Nat) : cf (a :: l) (j + 1) = cf l j := rfl
theorem cf_add : ∀ (a b : List Int) (j : Nat), cf (addI a b) j = cf a j + cf b j
 | [], b, j => by simp [addI, cf_nil]
 | a :: l, [], j => by simp [addI, cf_nil]
 | a :: l, b :: m, 0 => rfl
 | a :: l, b :: m, j + 1 => by
   simp only [addI, cf_succ, cf_add l m j]
theorem cf_smul (c : Int) : ∀ (a : List Int) (j : Nat), cf (a.map (c * ·)) j = c * cf a j
 | [], j => by simp [cf_nil]
 | a :: l, 0 => rfl
 | a :: l, j + 1 => by simp only [List.map_cons, cf_succ, cf_smul c l j]
theorem len_mul_ (b : List Int) (hb : 0 < b.length) : ∀ a : List Int, 0 < a.length → (mulI a b).length = a.length + b.length - 1
 | [], h => by simp at h
 | [a], _ => by
   simp only [mulI, len_add, List.length_map, List.length_cons, List.length_nil]
   omega
 | a :: c :: l, _ => by
   have ih := len_mul_ b hb (c :: l) (by simp)
   rw [mulI, len_add, List.length_cons, ih, List.length_map]
   simp only [List.length_cons]
   omega
theorem valL_vanish : ∀ (l : List Int) , (∀ x : Int, 0 < x → valL l x = 0) → ∀ j, cf l j = 0
 | [], _, j => rfl
 | a :: l, h, j => by
   have ha : a = 0 := by
     have h1 := h (a.natAbs + 1) (by omega)
     have h2 : ((a.natAbs : Int) + 1) ∣ a := ⟨- valL l (a.natAbs + 1), by
       have h3 : a + ((a.natAbs : Int) + 1) * valL l (a.natAbs + 1) = 0 := h1
       generalize valL l (a.natAbs + 1) = v at h3
       grind⟩
     have h3 : (a.natAbs + 1) ∣ a.natAbs := by
       have := Int.natAbs_dvd_natAbs.2 h2
       simpa [show ((a.natAbs : Int) + 1).natAbs = a.natAbs + 1 by omega] using this
     by_cases h0 : a.natAbs = 0
     · omega
     have := Nat.le_of_dvd (by omega) h3
     omega
   subst ha
   have ih := valL_vanish l (fun x hx => by
     have h1 := h x hx
     have h2 : x * valL l x = 0 := by
       have : (0 : Int) + x * valL l x = 0 := h1
       omega
     rcases Int.mul_eq_zero.1 h2 with h3 | h3
     · omega
     · exact h3)
   cases j with
   | zero => rfl
   | succ j => exact ih j
def PF (F : Int → Int) : Prop := ∃ l, ∀ x, F x = valL l x
theorem PF.of (l : List Int) : PF (valL l) := ⟨l, fun _ => rfl⟩
theorem PF.const (c : Int) : PF (fun _ => c) := ⟨[c], fun x => by simp [valL]⟩
theorem PF.add {F G : Int → Int} : PF F → PF G → PF (fun x => F x + G x) := by
 rintro ⟨a, ha⟩ ⟨b, hb⟩
 exact ⟨addI a b, fun x => by simp only [val_add, ha, hb]⟩
theorem PF.mul {F G : Int → Int} : PF F → PF G → PF (fun x => F x * G x) := by
 rintro ⟨a, ha⟩ ⟨b, hb⟩
 exact ⟨mulI a b, fun x => by simp only [val_mul, ha, hb]⟩
theorem PF.neg {F : Int → Int} (h : PF F) : PF (fun x => - F x) := by
 obtain ⟨a, ha⟩ := h
 exact ⟨a.map ((-1) * ·), fun x => by simp only [val_smul, ha]; omega⟩
theorem PF.sub {F G : Int → Int} (hF : PF F) (hG : PF G) : PF (fun x => F x - G x) := by
 obtain ⟨l, h⟩ := hF.add hG.neg
 exact ⟨l, fun x => by have := h x; simp only at this ⊢; omega⟩
def Cg (p : Int) (F G : Int → Int) : Prop := ∃ H, PF H ∧ ∀ x, F x = G x + p * H x
theorem Cg.refl (p : Int) (F : Int → Int) : Cg p F F := ⟨fun _ => 0, PF.const 0, fun x => by simp⟩
theorem Cg.of_eq (p : Int) {F G : Int → Int} (h : ∀ x, F x = G x) : Cg p F G := ⟨fun _ => 0, PF.const 0, fun x => by simp [h]⟩
theorem Cg.symm {p : Int} {F G : Int → Int} : Cg p F G → Cg p G F := by
 rintro ⟨H, h, e⟩
 exact ⟨_, h.neg, fun x => by simp only [e]; grind⟩
theorem Cg.trans {p : Int} {F G K : Int → Int} : Cg p F G → Cg p G K → Cg p F K := by
 rintro ⟨H, h, e⟩ ⟨H', h', e'⟩
 exact ⟨_, h.add h', fun x => by simp only [e, e']; grind⟩
theorem Cg.add {p : Int} {F G F' G' : Int → Int} : Cg p F G → Cg p F' G' → Cg p (fun x => F x + F' x) (fun x => G x + G' x) := by
 rintro ⟨H, h, e⟩ ⟨H', h', e'⟩
 exact ⟨_, h.add h', fun x => by simp only [e, e']; grind⟩
theorem Cg.sub {p : Int} {F G F' G' : Int → Int} : Cg p F G → Cg p F' G' → Cg p (fun x => F x - F' x) (fun x => G x - G' x) := by
 rintro ⟨H, h, e⟩ ⟨H', h', e'⟩
 exact ⟨_, h.sub h', fun x => by simp only [e, e']; grind⟩
theorem Cg.mul {p : Int} {F G F' G' : Int → Int} (hG : PF G) (hG' : PF G') : Cg p F G → Cg p F' G' → Cg p (fun x => F x * F' x) (fun x => G x * G' x) := by
 rintro ⟨H, h, e⟩ ⟨H', h', e'⟩
 refine ⟨_, ((h.mul hG').add (hG.mul h')).add ((PF.const p).mul (h.mul h')), fun x => ?_⟩
 simp only [e, e']
 grind
theorem cf_cong {p : Int} {a b h : List Int} (e : ∀ x, valL a x = valL b x + p * valL h x) (j : Nat) : cf a j = cf b j + p * cf h j := by
 have h1 := valL_vanish (addI a (addI (b.map ((-1) * ·)) (h.map ((-p) * ·)))) (fun x _ => by
   rw [val_add, val_add, val_smul, val_smul, e]
   grind) j
 rw [cf_add, cf_add, cf_smul, cf_smul] at h1
 grind
theorem Cg.cf {p : Int} {a b : List Int} (h : Cg p (valL a) (valL b)) (j : Nat) : ∃ t, Q.cf a j = Q.cf b j + p * t := by
 obtain ⟨H, ⟨l, hl⟩, e⟩ := h
 exact ⟨Q.cf l j, cf_cong (fun x => by rw [e, hl]) j⟩
structure RP (p : Int) (l : List Int) : Prop where
 b : below p l
 o : lastOk l
theorem RP.nil (p : Int) : RP p [] := ⟨fun x hx => by simp at hx, .inl rfl⟩
theorem RP.cf_b {p : Int} (hp : 0 < p) {l : List Int} (h : RP p l) (j : Nat) : 0 ≤ cf l j ∧ cf l j < p := by
 by_cases hj : j < l.length
 · rw [cf_at l j hj]
   exact below_get h.b j hj
 · rw [cf_out l j (by omega)]
   omega
theorem RP.last {p : Int} {l : List Int} (h : RP p l) (h0 : 0 < l.length) : cf l (l.length - 1) ≠ 0 := by
 rcases h.o with rfl | ⟨l', x, rfl, hx⟩
 · simp at h0
 · rw [cf_at _ _ (by simp)]
   simpa using hx
theorem small_eq {p x y t : Int} (hx : 0 ≤ x ∧ x < p) (hy : 0 ≤ y ∧ y < p) (h : x = y + p * t) : x = y := by
 rcases Int.lt_trichotomy t 0 with ht | ht | ht
 · have : p * t ≤ p * (-1) := Int.mul_le_mul_of_nonneg_left (by omega) (by omega)
   omega
 · subst ht
   omega
 · have : p * 1 ≤ p * t := Int.mul_le_mul_of_nonneg_left (by omega) (by omega)
   omega
theorem RP.eq {p : Int} (hp : 0 < p) {a b : List Int} (ha : RP p a) (hb : RP p b) (h : Cg p (valL a) (valL b)) : a = b := by
 have hc : ∀ j, cf a j = cf b j := fun j => by
   obtain ⟨t, ht⟩ := h.cf j
   exact small_eq (ha.cf_b hp j) (hb.cf_b hp j) ht
 have hl : a.length = b.length := by
   rcases Nat.lt_trichotomy a.length b.length with h1 | h1 | h1
   · have := hb.last (by omega)
     rw [← hc, cf_out a _ (by omega)] at this
     exact absurd rfl this
   · exact h1
   · have := ha.last (by omega)
     rw [hc, cf_out b _ (by omega)] at this
     exact absurd rfl this
 apply List.ext_getElem hl
 intro j h1 h2
 have := hc j
 rwa [cf_at a j h1, cf_at b j h2] at this
def normP (p : Int) (l : List Int) : List Int := trimL (l.map (· % p))
theorem val_mod_eq (p x : Int) : ∀ l : List Int, valL (l.map (· % p)) x = valL l x + p * (- valL (l.map (· / p)) x)
 | [] => by simp [valL]
 | a :: l => by
   simp only [List.map_cons, valL, val_mod_eq p x l]
   have := Int.emod_add_mul_ediv a p
   grind
theorem below_mod {p : Int} (hp : 0 < p) (a : List Int) : below p (a.map (· % p)) := by
 intro x hx
 obtain ⟨y, _, rfl⟩ := List.mem_map.1 hx
 exact ⟨Int.emod_nonneg _ (by omega), Int.emod_lt_of_pos _ hp⟩
theorem normP_right {p : Int} (hp : 0 < p) (l : List Int) : RP p (normP p l) := ⟨below_trim (below_mod hp l), trimL_last _⟩
theorem normP_cg (p : Int) (l : List Int) : Cg p (valL (normP p l)) (valL l) :=
 ⟨_, (PF.of (l.map (· / p))).neg, fun x => by rw [normP, valL_trim, val_mod_eq]⟩
theorem w64 {x : Int} (h : -4294967296 ≤ x) (h2 : x ≤ 4294967296) : wrap64 x = x := by unfold wrap64; omega
theorem prime_of {x d : Nat} (hx : 2 ≤ x) (hd : x < d * d) (h : ∀ e, 2 ≤ e → e < d → ¬ e ∣ x) : isPrime x := by
 refine ⟨hx, fun e he => ?_⟩
 obtain ⟨f, hf⟩ := he
 by_cases h1 : e = 1
 · exact .inl h1
 by_cases h2 : e = x
 · exact .inr h2
 exfalso
 have he0 : e ≠ 0 := by intro e0; rw [e0, Nat.zero_mul] at hf; omega
 have hf0 : f ≠ 0 := by intro e0; rw [e0, Nat.mul_zero] at hf; omega
 have hf1 : f ≠ 1 := by intro e0; rw [e0, Nat.mul_one] at hf; exact h2 hf.symm
 have hed : d ≤ e := by
   rcases Nat.lt_or_ge e d with h3 | h3
   · exact absurd ⟨f, hf⟩ (h e (by omega) h3)
   · exact h3
 have hfd : d ≤ f := by
   rcases Nat.lt_or_ge f d with h3 | h3
   · exact absurd ⟨e, by rw [Nat.mul_comm]; exact hf⟩ (h f (by omega) h3)
   · exact h3
 have := Nat.mul_le_mul hed hfd
 omega
theorem refprime_l (x : Nat) (hx : 2 ≤ x) (hx2 : x ≤ 65521) : ∀ (n d k : Nat), 257 - d = n → 2 ≤ d → d ≤ 256 → n + 1 < k → (∀ e, 2 ≤ e → e < d → ¬ e ∣ x) →
   ∃ r, zigguratref14_Prime.l0 k (x : Int) (d : Int) = some r ∧ (r = true → isPrime x) := by
 intro n
 induction n with
 | zero => intro d k hn h1 h2 hk hd; omega
 | succ n ih =>
   intro d k hn h1 h2 hk hd
   obtain ⟨k, rfl⟩ : ∃ k', k = k' + 1 := ⟨k - 1, by omega⟩
   have hdd : d * d ≤ 256 * 256 := Nat.mul_le_mul h2 h2
   have hc : ((d : Int) * (d : Int)) % 4294967296 = ((d * d : Nat) : Int) := by rw [← Int.natCast_mul]; omega
   rw [zigguratref14_Prime.l0, hc]
   by_cases hle : d * d ≤ x
   case neg =>
     rw [if_neg (by omega)]
     exact ⟨true, rfl, fun _ => prime_of hx (by omega) hd⟩
   rw [if_pos (by omega), if_neg (by omega), Int.tmod_eq_emod_of_nonneg (by omega)]
   by_cases hdv : (x : Int) % (d : Int) = 0
   · rw [if_pos hdv]
     exact ⟨false, rfl, fun h => by simp at h⟩
   rw [if_neg hdv, show ((d : Int) + 1) % 4294967296 = ((d + 1 : Nat) : Int) by omega]
   have hd1 : d + 1 ≤ 256 := by
     rcases Nat.lt_or_ge d 256 with h | h
     · omega
     · have : d = 256 := by omega
       subst this
       omega
   refine ih (d + 1) k (by omega) (by omega) hd1 (by omega) fun e h3 h4 => ?_
   by_cases h5 : e = d
   · rw [h5]
     intro h6
     have := Nat.mod_eq_zero_of_dvd h6
     omega
   · exact hd e h3 (by omega)
theorem refprime_is (x : Nat) (hx : 2 ≤ x) (hx2 : x ≤ 65521) (k : Nat) (hk : 300 < k) : ∃ r, zigguratref14_Prime.f k (x : Int) = some r ∧ (r = true → isPrime x) := by
 obtain ⟨k, rfl⟩ : ∃ k', k = k' + 1 := ⟨k - 1, by omega⟩
 unfold zigguratref14_Prime.f
 rw [if_neg (by omega), zigguratref14_Prime.j0, show decide ((x : Int) > 65521) = false by simp; omega, if_neg (by decide)]
 exact refprime_l x hx hx2 255 2 k (by omega) (by omega) (by omega) (by omega) (fun e h1 h2 => by omega)
theorem prime_two : isPrime 2 := ⟨by decide, fun d h => by
 have := Nat.le_of_dvd (by decide) h
 rcases Nat.lt_or_ge d 2 with h1 | h1
 · rcases Nat.lt_or_ge d 1 with h2 | h2
   · obtain rfl : d = 0 := by omega
     exact absurd (Nat.eq_zero_of_zero_dvd h) (by decide)
   · exact .inl (by omega)
 · exact .inr (by omega)⟩
theorem refof_l : ∀ (v k : Nat), v ≤ 65521 → v + 301 < k → ∃ p : Nat, zigguratref14_Of.l0 k (v : Int) = some (p : Int) ∧ isPrime p ∧ p < 65536 := by
 intro v
 induction v with
 | zero =>
   intro k hv hk
   obtain ⟨k, rfl⟩ : ∃ k', k = k' + 1 := ⟨k - 1, by omega⟩
   rw [zigguratref14_Of.l0, if_neg (by omega)]
   exact ⟨2, rfl, prime_two, by decide⟩
 | succ v ih =>
   intro k hv hk
   obtain ⟨k, rfl⟩ : ∃ k', k = k' + 1 := ⟨k - 1, by omega⟩
   rw [zigguratref14_Of.l0]
   by_cases h : ((v + 1 : Nat) : Int) > 2
   case neg =>
     rw [if_neg h]
     exact ⟨2, rfl, prime_two, by decide⟩
   rw [if_pos h]
   obtain ⟨r, h1, h2⟩ := refprime_is (v + 1) (by omega) (by omega) k (by omega)
   rw [h1, Option.bind_some]
   by_cases hr : r = true
   · rw [if_pos hr]
     exact ⟨v + 1, rfl, h2 hr, by omega⟩
   · rw [if_neg hr, show (((v + 1 : Nat) : Int) - 1) % 4294967296 = (v : Int) by omega]
     exact ih k (by omega) (by omega)
theorem refof_is (n : Int) (hn : 0 ≤ n) (k : Nat) (hk : 70000 < k) : ∃ p : Nat, zigguratref14_Of.f k n = some (p : Int) ∧ isPrime p ∧ p < 65536 := by
 unfold zigguratref14_Of.f
 rw [Int.tmod_eq_emod_of_nonneg hn]
 have h1 := Int.emod_nonneg n (show (65522 : Int) ≠ 0 by decide)
 have h2 := Int.emod_lt_of_pos n (show (0 : Int) < 65522 by decide)
 obtain ⟨v, hv⟩ : ∃ v : Nat, (v : Int) = n % 65522 := ⟨(n % 65522).toNat, by omega⟩
 rw [← hv]
 exact refof_l v k (by omega) (by omega)
theorem rowS_cons (x : Int) (a b : List Int) (j : Nat) : ∀ n, rowS (x :: a) b (n + 1) j = x * cf b j + (if 1 ≤ j then rowS a b n (j - 1) else 0)
 | 0 => by
   show 0 + (if 0 ≤ j then cf (x :: a) 0 * cf b (j - 0) else 0) = _
   rw [if_pos (by omega), cf_zero, Nat.sub_zero]
   by_cases h : 1 ≤ j
   · rw [if_pos h]
     show 0 + x * cf b j = x * cf b j + 0
     rw [Int.zero_add, Int.add_zero]
   · rw [if_neg h, Int.zero_add, Int.add_zero]
 | n + 1 => by
   rw [rowS, rowS_cons x a b j n]
   by_cases h : 1 ≤ j
   case neg =>
     rw [if_neg h, if_neg h, if_neg (by omega)]
     omega
   rw [if_pos h, if_pos h, rowS]
   by_cases h2 : n + 1 ≤ j
   · rw [if_pos h2, if_pos (by omega), cf_succ, show j - (n + 1) = j - 1 - n by omega]
     omega
   · rw [if_neg h2, if_neg (by omega)]
     omega
theorem cf_mulI : ∀ (a b : List Int) (j : Nat), cf (mulI a b) j = rowS a b a.length j
 | [], b, j => rfl
 | x :: a, b, j => by
   rw [mulI, cf_add, cf_smul, List.length_cons, rowS_cons]
   cases j with
   | zero => rw [cf_zero, if_neg (by omega)]
   | succ j => rw [cf_succ, if_pos (by omega), Nat.add_sub_cancel, cf_mulI a b j]
theorem mul_cg (p : Nat) (hpp : isPrime p) (hp2 : p < 65536) (a b : List Int) (ha : RP p a) (hb : RP p b) (la : a.length < 1000) (lb : b.length < 1000) :
   ∃ m, RP p m ∧ m.length ≤ a.length + b.length ∧ Cg p (valL m) (fun x => valL a x * valL b x) ∧ ∀ k, 2000000 ≤ k → modp_Mul.f k a b p = some m := by
 have hp0 : (0 : Int) < p := by have := hpp.1; omega
 by_cases h0 : a.length = 0 ∨ b.length = 0
 case neg =>
   obtain ⟨s, s1, s2, s3, s4⟩ := mul_is p a b hp0 (by omega) ha.b hb.b la lb (by omega) (by omega)
   have hl := len_mul_ b (by omega) a (by omega)
   have he : s.map (· % (p : Int)) = (mulI a b).map (· % (p : Int)) := map_mod_eq (by omega) (fun j => by rw [s2, cf_mulI])
   have hn := trimL_len ((mulI a b).map (· % (p : Int)))
   rw [List.length_map] at hn
   refine ⟨normP p (mulI a b), normP_right hp0 _, by unfold normP; omega, (normP_cg (p : Int) _).trans (Cg.of_eq _ (val_mul a b)), fun k hk => ?_⟩
   rw [s4 k hk, he]
   rfl
 refine ⟨[], RP.nil _, by simp, Cg.of_eq _ (fun x => ?_), fun k hk => ?_⟩
 · rcases h0 with h | h
   · obtain rfl : a = [] := List.eq_nil_of_length_eq_zero h
     simp [valL]
   · obtain rfl : b = [] := List.eq_nil_of_length_eq_zero h
     simp [valL]
 · obtain ⟨k, rfl⟩ : ∃ k', k = k' + 1 := ⟨k - 1, by omega⟩
   exact mul_nil p a b h0 k
theorem sumL_cg (p : Int) (a b : List Int) (h : b.length ≤ a.length) : Cg p (valL (sumL p a b)) (fun x => valL a x + valL b x) := by
 refine ⟨_, (PF.of ((List.zipWith (· + ·) (a.take b.length) b).map (· / p))).neg, fun x => ?_⟩
 have hz : (List.zipWith (· + ·) (a.take b.length) b).length = b.length := by rw [List.length_zipWith, List.length_take]; omega
 have h1 := valL_append (a.take b.length) (a.drop b.length) x
 rw [List.take_append_drop, List.length_take, show min b.length a.length = b.length by omega] at h1
 unfold sumL
 rw [valL_append, List.length_map, hz, val_mod_eq, val_zip _ _ _ (by rw [List.length_take]; omega)]
 show _ = valL a x + valL b x + _
 rw [h1]
 generalize x ^ b.length * valL (List.drop b.length a) x = z
 generalize p * -valL (List.map (fun x => x / p) (List.zipWith (fun x1 x2 => x1 + x2) (List.take b.length a) b)) x = u
 omega
theorem sumL_len (p : Int) (a b : List Int) (h : b.length ≤ a.length) : (sumL p a b).length = a.length := by
 rw [← sumAt_end, sumAt_len _ _ _ _ h (Nat.le_refl _)]
theorem add_cg (p : Nat) (hpp : isPrime p) (hp2 : p < 65536) (a b : List Int) (ha : RP p a) (hb : RP p b) (la : a.length < 1000) (lb : b.length < 1000) :
   ∃ s, RP p s ∧ s.length ≤ a.length + b.length ∧ Cg p (valL s) (fun x => valL a x + valL b x) ∧ ∀ k, 2000000 ≤ k → modp_Add.f k a b p = some s := by
 have hp0 : (0 : Int) < p := by have := hpp.1; omega
 refine ⟨addP p a b, ⟨below_add hp0 ha.b hb.b, add_last p a b⟩, ?_, ?_, fun k hk => add_is p a b hp0 (by omega) ha.b hb.b (by omega) (by omega) k (by omega)⟩
 · unfold addP
   split
   · have := trimL_len (sumL p b a)
     rw [sumL_len _ _ _ (by omega)] at this
     omega
   · have := trimL_len (sumL p a b)
     rw [sumL_len _ _ _ (by omega)] at this
     omega
 · unfold addP
   split
   · exact (Cg.of_eq _ (fun x => valL_trim _ x)).trans ((sumL_cg p b a (by omega)).trans (Cg.of_eq _ (fun x => by omega)))
   · exact (Cg.of_eq _ (fun x => valL_trim _ x)).trans (sumL_cg p a b (by omega))
end Go.Proofs.YtjbcnppbcomaiaaGreatDoor.Q
namespace Go.Proofs.YtjbcnppbcomaiaaGreatDoor.Q
open Go.RowKit Go.Proofs.YtjbcnppbcomaiaaGreatDoorW.PrintWords
set_option linter.unusedVariables false
set_option linter.unusedSimpArgs false
def valN : List Int → Nat
 | [] => 0
 | x :: xs => x.toNat + 4294967296 * valN xs
def Limbs (l : List Int) : Prop := ∀ x ∈ l, 0 ≤ x ∧ x < 4294967296
def toL (n : Nat) : List Int := if h : n = 0 then [] else ((n % 4294967296 : Nat) : Int) :: toL (n / 4294967296)
termination_by n
decreasing_by omega
theorem toL_zero : toL 0 = [] := by rw [toL]; simp
theorem toL_pos {n : Nat} (h : n ≠ 0) : toL n = ((n % 4294967296 : Nat) : Int) :: toL (n / 4294967296) := by
 rw [toL]; simp [h]
theorem val_toL (n : Nat) : valN (toL n) = n := by
 induction n using Nat.strongRecOn with
 | _ n ih =>
   by_cases h : n = 0
   · subst h; rw [toL_zero]; rfl
   rw [toL_pos h]
   simp only [valN, Int.toNat_natCast]
   rw [ih (n / 4294967296) (by omega)]
   omega
theorem limbs_nil : Limbs [] := fun x h => by cases h
theorem limbs_cons {x : Int} {l : List Int} (h : Limbs (x :: l)) : 0 ≤ x ∧ x < 4294967296 ∧ Limbs l := ⟨(h x List.mem_cons_self).1, (h x List.mem_cons_self).2, fun y hy => h y (List.mem_cons_of_mem _ hy)⟩
theorem limbs_mk {x : Int} {l : List Int} (h0 : 0 ≤ x) (h1 : x < 4294967296) (h : Limbs l) : Limbs (x :: l) := fun y hy => by
 rcases List.mem_cons.1 hy with rfl | hy
 · exact ⟨h0, h1⟩
 · exact h y hy
theorem limbs_append {l m : List Int} (h : Limbs l) (k : Limbs m) : Limbs (l ++ m) := fun y hy => by
 rcases List.mem_append.1 hy with hy | hy
 · exact h y hy
 · exact k y hy
theorem limbs_snoc {x : Int} {l : List Int} (h : Limbs l) (h0 : 0 ≤ x) (h1 : x < 4294967296) : Limbs (l ++ [x]) := limbs_append h (limbs_mk h0 h1 limbs_nil)
theorem limbs_take {l : List Int} (h : Limbs l) (n : Nat) : Limbs (l.take n) := fun y hy => h y (List.mem_of_mem_take hy)
theorem limbs_toL (n : Nat) : Limbs (toL n) := by
 induction n using Nat.strongRecOn with
 | _ n ih =>
   by_cases h : n = 0
   · subst h; rw [toL_zero]; exact limbs_nil
   rw [toL_pos h]
   exact limbs_mk (by omega) (by omega) (ih _ (by omega))
theorem toL_nil {n : Nat} : toL n = [] ↔ n = 0 := ⟨fun h => by rw [← val_toL n, h]; rfl, fun h => by rw [h]; exact toL_zero⟩
theorem val_append (l m : List Int) : valN (l ++ m) = valN l + 4294967296 ^ l.length * valN m := by
 induction l with
 | nil => simp [valN]
 | cons x l ih =>
   simp only [List.cons_append, valN, ih, List.length_cons, Nat.pow_succ]
   rw [Nat.mul_add]
   have : 4294967296 * (4294967296 ^ l.length * valN m) = 4294967296 ^ l.length * 4294967296 * valN m := by
     rw [Nat.mul_comm (4294967296 ^ l.length) 4294967296, Nat.mul_assoc]
   omega
theorem val_snoc (l : List Int) (x : Int) : valN (l ++ [x]) = valN l + 4294967296 ^ l.length * x.toNat := by
 rw [val_append]; simp [valN]
theorem val_lt {l : List Int} (h : Limbs l) : valN l < 4294967296 ^ l.length := by
 induction l with
 | nil => simp [valN]
 | cons x l ih =>
   obtain ⟨h0, h1, h2⟩ := limbs_cons h
   have := ih h2
   simp only [valN, List.length_cons, Nat.pow_succ]
   have hx : x.toNat < 4294967296 := by omega
   have : (valN l + 1) * 4294967296 ≤ 4294967296 ^ l.length * 4294967296 := Nat.mul_le_mul_right _ (by omega)
   omega
theorem canonN {l : List Int} (h : Limbs l) (hl : ∀ hn : l ≠ [], l.getLast hn ≠ 0) : toL (valN l) = l := by
 induction l with
 | nil => simp [valN, toL_zero]
 | cons x l ih =>
   obtain ⟨h0, h1, h2⟩ := limbs_cons h
   have hx : x.toNat < 4294967296 := by omega
   by_cases hn : l = []
   · subst hn
     have h3 := hl (by simp)
     simp only [List.getLast_singleton] at h3
     have h4 : x.toNat ≠ 0 := by omega
     simp only [valN, Nat.mul_zero, Nat.add_zero]
     rw [toL_pos h4, Nat.mod_eq_of_lt hx, Nat.div_eq_of_lt hx, toL_zero]
     congr 1
     omega
   have h3 := ih h2 (fun hn' => by have := hl (by simp); rwa [List.getLast_cons hn'] at this)
   have h5 : valN l ≠ 0 := by
     intro h6
     rw [h6, toL_zero] at h3
     exact hn h3.symm
   have h4 : x.toNat + 4294967296 * valN l ≠ 0 := by omega
   simp only [valN]
   rw [toL_pos h4, Nat.add_mul_mod_self_left, Nat.mod_eq_of_lt hx, Nat.add_mul_div_left _ _ (by omega), Nat.div_eq_of_lt hx, Nat.zero_add, h3]
   congr 1
   omega
theorem toL_length_le {n m : Nat} : (toL n).length ≤ m ↔ n < 4294967296 ^ m := by
 induction m generalizing n with
 | zero =>
   rw [Nat.pow_zero]
   constructor
   · intro h
     have : toL n = [] := List.length_eq_zero_iff.1 (by omega)
     rw [toL_nil.1 this]
     omega
   · intro h
     rw [toL_nil.2 (by omega)]
     simp
 | succ m ih =>
   by_cases h : n = 0
   · subst h
     rw [toL_zero]
     simp only [List.length_nil, Nat.zero_le, true_iff]
     exact Nat.pow_pos (by omega)
   · rw [toL_pos h, List.length_cons, Nat.add_le_add_iff_right, ih, Nat.pow_succ, Nat.div_lt_iff_lt_mul (by omega)]
theorem pow_le_val {n : Nat} (h : n ≠ 0) : 4294967296 ^ ((toL n).length - 1) ≤ n := by
 have h1 : (toL n).length ≠ 0 := fun h1 => h (toL_nil.1 (List.length_eq_zero_iff.1 h1))
 rcases Nat.lt_or_ge n (4294967296 ^ ((toL n).length - 1)) with h2 | h2
 · have := toL_length_le.2 h2
   omega
 · exact h2
theorem val_lt_toL (n : Nat) : n < 4294967296 ^ (toL n).length := toL_length_le.1 (Nat.le_refl _)
def lim (l : List Int) (i : Nat) : Nat := (l.getD i 0).toNat
theorem lim_val {l : List Int} (h : Limbs l) (i : Nat) : lim l i = valN l / 4294967296 ^ i % 4294967296 := by
 induction l generalizing i with
 | nil => simp [lim, valN]
 | cons x l ih =>
   obtain ⟨h0, h1, h2⟩ := limbs_cons h
   have hx : x.toNat < 4294967296 := by omega
   rcases i with _ | i
   · simp [lim, valN]; omega
   have := ih h2 i
   have e : lim (x :: l) (i + 1) = lim l i := by simp [lim]
   rw [e, this]
   simp only [valN]
   rw [Nat.pow_succ, Nat.mul_comm (4294967296 ^ i), ← Nat.div_div_eq_div_mul, Nat.add_mul_div_left _ _ (by omega), Nat.div_eq_of_lt hx, Nat.zero_add]
theorem lim_lt {l : List Int} (h : Limbs l) (i : Nat) : lim l i < 4294967296 := by rw [lim_val h]; omega
theorem getD_lim {l : List Int} (h : Limbs l) (i : Nat) : l.getD i 0 = (lim l i : Int) := by
 unfold lim
 have : 0 ≤ l.getD i 0 := by
   rcases Nat.lt_or_ge i l.length with hi | hi
   · rw [List.getD_eq_getElem?_getD, List.getElem?_eq_getElem hi]
     exact (h _ (List.getElem_mem hi)).1
   · rw [List.getD_eq_getElem?_getD, List.getElem?_eq_none hi]
     simp
 omega
theorem val_take_succ {l : List Int} (h : Limbs l) (n : Nat) : valN (l.take (n + 1)) = valN (l.take n) + 4294967296 ^ n * lim l n := by
 rcases Nat.lt_or_ge n l.length with hn | hn
 · rw [List.take_succ_eq_append_getElem hn, val_snoc, List.length_take, Nat.min_eq_left (by omega)]
   congr 2
   simp [lim, List.getD_eq_getElem?_getD, List.getElem?_eq_getElem hn]
 · rw [List.take_of_length_le (by omega), List.take_of_length_le hn]
   have : lim l n = 0 := by simp [lim, List.getD_eq_getElem?_getD, List.getElem?_eq_none hn]
   rw [this]
   simp
theorem val_take_lt {l : List Int} (h : Limbs l) (n : Nat) : valN (l.take n) < 4294967296 ^ n := by
 have h1 := val_lt (limbs_take h n)
 have h2 : (l.take n).length ≤ n := by rw [List.length_take]; omega
 exact Nat.lt_of_lt_of_le h1 (Nat.pow_le_pow_right (by omega) h2)
def upV (f : Nat → Nat) : Nat → Nat
 | 0 => 0
 | n + 1 => upV f n + 4294967296 ^ n * f n
theorem upV_lim {l : List Int} (h : Limbs l) (n : Nat) : upV (lim l) n = valN (l.take n) := by
 induction n with
 | zero => simp [upV, valN]
 | succ n ih => rw [upV, ih, val_take_succ h]
theorem upV_all {l : List Int} (h : Limbs l) {n : Nat} (hn : l.length ≤ n) : upV (lim l) n = valN l := by rw [upV_lim h, List.take_of_length_le hn]
theorem w64N {z : Int} (h0 : -9223372036854775808 ≤ z) (h1 : z < 9223372036854775808) : wrap64 z = z := by unfold wrap64; omega
theorem rd_nat {l : List Int} (h : Limbs l) (i : Nat) : rd l (i : Int) = (lim l i : Int) := by
 unfold rd
 rw [Int.toNat_natCast, getD_lim h]
theorem u64w {z : Int} (h0 : 0 ≤ z) (h1 : z < 18446744073709551616) : IntKind.u64.wrap z = z := by
 simp only [IntKind.wrap, IntKind.bits, IntKind.signed]
 simp
 omega
theorem bits_and32 {a b : Nat} (ha : a < 4294967296) (hb : b < 4294967296) : Go.bits .and .u32 (a : Int) (b : Int) = ((a &&& b : Nat) : Int) := by
 have h : a &&& b < 2 ^ 32 := Nat.and_lt_two_pow a hb
 have e : Go.bits .and .u32 (a : Int) (b : Int) = IntKind.u32.wrap ((BitVec.ofInt 32 (a : Int) &&& BitVec.ofInt 32 (b : Int)).toNat : Int) := rfl
 rw [e, BitVec.ofInt_natCast, BitVec.ofInt_natCast, BitVec.toNat_and, BitVec.toNat_ofNat, BitVec.toNat_ofNat, Nat.mod_eq_of_lt ha, Nat.mod_eq_of_lt hb, IntKind.wrap_u32]
 omega
def tab8 : ByteArray := ⟨#[0, 1, 2, 2, 3, 3, 3, 3, 4, 4, 4, 4, 4, 4, 4, 4, 5, 5, 5, 5, 5, 5, 5, 5, 5, 5, 5, 5, 5, 5, 5, 5, 6, 6, 6, 6, 6, 6, 6, 6, 6, 6, 6, 6, 6, 6, 6, 6, 6, 6, 6, 6, 6, 6, 6, 6, 6, 6, 6, 6, 6, 6, 6, 6, 7, 7, 7, 7, 7, 7, 7, 7, 7, 7, 7, 7, 7, 7, 7, 7, 7, 7, 7, 7, 7, 7, 7, 7, 7, 7, 7, 7, 7, 7, 7, 7, 7, 7, 7, 7, 7, 7, 7, 7, 7, 7, 7, 7, 7, 7, 7, 7, 7, 7, 7, 7, 7, 7, 7, 7, 7, 7, 7, 7, 7, 7, 7, 7, 8, 8, 8, 8, 8, 8, 8, 8, 8, 8, 8, 8, 8, 8, 8, 8, 8, 8, 8, 8, 8, 8, 8, 8, 8, 8, 8, 8, 8, 8, 8, 8, 8, 8, 8, 8, 8, 8, 8, 8, 8, 8, 8, 8, 8, 8, 8, 8, 8, 8, 8, 8, 8, 8, 8, 8, 8, 8, 8, 8, 8, 8, 8, 8, 8, 8, 8, 8, 8, 8, 8, 8, 8, 8, 8, 8, 8, 8, 8, 8, 8, 8, 8, 8, 8, 8, 8, 8, 8, 8, 8, 8, 8, 8, 8, 8, 8, 8, 8, 8, 8, 8, 8, 8, 8, 8, 8, 8, 8, 8, 8, 8, 8, 8, 8, 8, 8, 8, 8, 8, 8, 8, 8, 8, 8, 8, 8, 8]⟩
theorem rmake_l0 {x0 : List Int} (hl : Limbs x0) (hlen : x0.length < 35184372088832) : ∀ (n k : Nat), n < k → n ≤ x0.length → valN (x0.take n) = valN x0 → zigguratref01_Make.l0 k x0 (n : Int) = some (toL (valN x0)) := by
 intro n
 induction n with
 | zero =>
   intro k hk hn hv
   obtain ⟨k, rfl⟩ : ∃ m, k = m + 1 := ⟨k - 1, by omega⟩
   have h0 : valN x0 = 0 := by rw [← hv]; simp [valN]
   simp only [zigguratref01_Make.l0]
   rw [if_neg (by omega), Option.bind_some, if_pos (by omega), if_pos (by omega), h0, toL_zero]
   simp
 | succ n ih =>
   intro k hk hn hv
   obtain ⟨k, rfl⟩ : ∃ m, k = m + 1 := ⟨k - 1, by omega⟩
   have e : wrap64 (((n + 1 : Nat) : Int) - 1) = (n : Int) := by unfold wrap64; omega
   simp only [zigguratref01_Make.l0]
   rw [if_pos (by omega), e, if_pos (by omega), if_pos (by omega), rd_nat hl]
   by_cases hz : lim x0 n = 0
   · rw [hz, if_pos (by rfl)]
     refine ih k (by omega) (by omega) ?_
     rw [← hv, val_take_succ hl, hz]
     simp
   rw [if_neg (by omega), Option.bind_some, if_pos (by omega), if_pos (by omega)]
   have e2 : (((n + 1 : Nat) : Int)).toNat = n + 1 := by omega
   rw [e2]
   have hlt : ([] : List Int).length + (x0.take (n + 1)).length < 35184372088832 := by rw [List.length_take, List.length_nil]; omega
   rw [if_pos hlt, List.nil_append, ← hv, canonN (limbs_take hl _)]
   intro hne
   rw [List.getLast_eq_getElem]
   have hl1 : (x0.take (n + 1)).length = n + 1 := by rw [List.length_take]; omega
   simp only [hl1, Nat.add_sub_cancel, List.getElem_take]
   intro h0
   apply hz
   have hnl : n < x0.length := by omega
   simp [lim, List.getD_eq_getElem?_getD, List.getElem?_eq_getElem hnl, h0]
theorem rmake_f {l : List Int} (hl : Limbs l) (hlen : l.length < 35184372088832) {k : Nat} (hk : l.length < k) : zigguratref01_Make.f k l = some (toL (valN l)) :=
 rmake_l0 hl hlen l.length k hk (Nat.le_refl _) (by rw [List.take_length])
theorem made_f {l : List Int} (hl : Limbs l) {m k : Nat} (hm : m < 1099511627776) (hk : m < k) : zigguratref01_Made.f k l (m : Int) = some (toL (valN (l.take m))) := by
 unfold zigguratref01_Made.f
 have e : mn (l.length : Int) (m : Int) = ((min m l.length : Nat) : Int) := by unfold mn; split <;> omega
 have e2 : l.take (min m l.length) = l.take m := by
   by_cases h : m ≤ l.length
   · rw [Nat.min_eq_left h]
   · rw [Nat.min_eq_right (by omega), List.take_of_length_le (by omega), List.take_of_length_le (by omega)]
 rw [e, if_pos (by omega), if_pos (by omega), Int.toNat_natCast, e2, rmake_f (limbs_take hl _) (by rw [List.length_take]; omega) (by rw [List.length_take]; omega), Option.bind_some]
theorem made_len {l : List Int} (hl : Limbs l) (m : Nat) : (toL (valN (l.take m))).length ≤ m := toL_length_le.2 (val_take_lt hl m)
theorem rlimb_f {l : List Int} (h : Limbs l) (i : Nat) : zigguratref01_limb.f l (i : Int) = some (lim l i : Int) := by
 unfold zigguratref01_limb.f
 have hx := lim_lt h i
 rw [if_neg (by omega)]
 by_cases h1 : i < l.length
 · rw [if_neg (by omega), if_pos (by omega), if_pos (by omega), rd_nat h, u64w (by omega) (by omega)]
 rw [if_pos (by omega)]
 have : lim l i = 0 := by simp [lim, List.getD_eq_getElem?_getD, List.getElem?_eq_none (by omega : l.length ≤ i)]
 rw [this]; rfl
theorem add_val (p v v1 v2 x y c d c' : Nat) (h : v + p * c = v1 + v2) (e : d + 4294967296 * c' = x + y + c) : v + p * d + p * 4294967296 * c' = v1 + p * x + (v2 + p * y) := by
 have e2 : p * (d + 4294967296 * c') = p * (x + y + c) := by rw [e]
 rw [Nat.mul_add, Nat.mul_add, Nat.mul_add, ← Nat.mul_assoc] at e2
 omega
theorem radd_step {x y c : Nat} (hx : x < 4294967296) (hy : y < 4294967296) (hc : c ≤ 1) :
   (Int.tmod (IntKind.u64.wrap ((IntKind.u64.wrap ((x : Int) + (y : Int))) + (c : Int))) 4294967296) % 4294967296 = (((x + y + c) % 4294967296 : Nat) : Int) ∧
   IntKind.u64.wrap (Int.tdiv (IntKind.u64.wrap ((IntKind.u64.wrap ((x : Int) + (y : Int))) + (c : Int))) 4294967296) = (((x + y + c) / 4294967296 : Nat) : Int) := by
 rw [u64w (z := (x : Int) + (y : Int)) (by omega) (by omega), u64w (z := (x : Int) + (y : Int) + (c : Int)) (by omega) (by omega),
   Int.tmod_eq_emod_of_nonneg (by omega), Int.tdiv_eq_ediv_of_nonneg (by omega), u64w (by omega) (by omega)]
 constructor <;> omega
theorem radd_l0 {x y : List Int} (hx : Limbs x) (hy : Limbs y) {M : Nat} (hM : M = max x.length y.length) (hlen : M < 1099511627776) : ∀ (m i k c : Nat) (z : List Int), Limbs z → i + m = M + 1 → z.length = i → M + 2 * m + 4 < k → c ≤ 1 →
   valN z + 4294967296 ^ i * c = valN (x.take i) + valN (y.take i) → zigguratref01_Add.l0 k x y z (c : Int) (i : Int) = some (toL (valN x + valN y)) := by
 intro m
 induction m with
 | zero =>
   intro i k c z hz hi hzl hk hc hv
   obtain ⟨k, rfl⟩ : ∃ m, k = m + 2 := ⟨k - 2, by omega⟩
   simp only [zigguratref01_Add.l0]
   rw [if_neg (by omega), decide_eq_false (by omega)]
   simp only [zigguratref01_Add.j1]
   rw [if_neg (by decide), rmake_f hz (by omega) (by omega), Option.bind_some]
   rw [List.take_of_length_le (by omega), List.take_of_length_le (by omega)] at hv
   have h1 : valN x < 4294967296 ^ M := Nat.lt_of_lt_of_le (val_lt hx) (Nat.pow_le_pow_right (by omega) (by omega))
   have h2 : valN y < 4294967296 ^ M := Nat.lt_of_lt_of_le (val_lt hy) (Nat.pow_le_pow_right (by omega) (by omega))
   have e : i = M + 1 := by omega
   rw [e, Nat.pow_succ] at hv
   have hc0 : c = 0 := by
     rcases (show c = 0 ∨ c = 1 by omega) with h | h
     · exact h
     · subst h; rw [Nat.mul_one] at hv; omega
   subst hc0
   rw [Nat.mul_zero, Nat.add_zero] at hv
   rw [hv]
 | succ m ih =>
   intro i k c z hz hi hzl hk hc hv
   obtain ⟨k, rfl⟩ : ∃ m, k = m + 2 := ⟨k - 2, by omega⟩
   obtain ⟨e1, e2⟩ := radd_step (lim_lt hx i) (lim_lt hy i) hc
   have hl1 := lim_lt hx i
   have hl2 := lim_lt hy i
   have body : zigguratref01_Add.j1 (k + 1) x y z (c : Int) (i : Int) true = some (toL (valN x + valN y)) := by
     simp only [zigguratref01_Add.j1]
     rw [if_pos trivial, rlimb_f hx, Option.bind_some, rlimb_f hy, Option.bind_some, if_pos (by omega), e1, e2, show wrap64 ((i : Int) + 1) = ((i + 1 : Nat) : Int) by unfold wrap64; omega]
     refine ih (i + 1) k _ _ (limbs_snoc hz (by omega) (by omega)) (by omega) (by rw [List.length_append, List.length_singleton]; omega) (by omega) (by omega) ?_
     rw [val_snoc, val_take_succ hx, val_take_succ hy, hzl, Int.toNat_natCast, Nat.pow_succ]
     exact add_val _ _ _ _ _ _ _ _ _ hv (by omega)
   show (if (i : Int) ≤ (x.length : Int) then (zigguratref01_Add.j1 (k + 1) x y z (c : Int) (i : Int) true) else (zigguratref01_Add.j1 (k + 1) x y z (c : Int) (i : Int) (decide ((i : Int) ≤ (y.length : Int))))) = _
   by_cases h : i ≤ x.length
   · rw [if_pos (by omega)]; exact body
   · rw [if_neg (by omega), decide_eq_true (by omega)]; exact body
theorem radd_f {a b k m : Nat} (ha : (toL a).length ≤ m) (hb : (toL b).length ≤ m) (hm : m < 1099511627776) (hk : 3 * m + 8 < k) : zigguratref01_Add.f k (toL a) (toL b) = some (toL (a + b)) := by
 unfold zigguratref01_Add.f
 have := radd_l0 (limbs_toL a) (limbs_toL b) rfl (by omega) (max (toL a).length (toL b).length + 1) 0 k 0 [] limbs_nil (by omega) rfl (by omega) (by omega) (by simp [valN])
 rw [val_toL, val_toL] at this
 exact this
end Go.Proofs.YtjbcnppbcomaiaaGreatDoor.Q
namespace Go.Proofs.YtjbcnppbcomaiaaGreatDoor.Q
open Go.RowKit Go.Proofs.YtjbcnppbcomaiaaGreatDoorW.PrintWords Go.Proofs.YtjbcnppbcomaiaaGreatDoorW.PrintLast Go.Proofs.YtjbcnppbcomaiaaGreatDoorW.PrintMore
attribute [local go_sem] max2_int min2_int max_two min_two max_three min_three max_four min_four   -- for this text's walks alone
set_option linter.unusedVariables false
set_option linter.unusedSimpArgs false
def integer_Make.f (k : Nat) (a0 : Bool) (l1 : List Int) : Option (Bool × List Int) := (nat_Make.f k l1).bind fun t251 => (if a0 = true then (some (decide ((t251.length : Int) > 0), t251)) else (some (false, t251)))
theorem integer_Make.calls (k : Nat) (a0 : Bool) (A1 : Option Addr) (c1 : Nat) (l1 : List Int) (r1 : Bool) (r2 : List Int) (w : World) (hr1 : Kd.C (Kd.int .u32) w A1 l1.length l1) (hc1 : l1.length ≤ c1) (h : integer_Make.f k a0 l1 = some (r1, r2)) :
   Calls Tryz.prog 52 #[.bool a0, .slice A1 l1.length c1] w fun e w' => ∃ v1_ : Value, e = .returned (.agg #[.bool r1, v1_]) ∧ Kd.R (Kd.int .u32) 23 w' w.heap.size (fun _ => True) v1_ r2 ∧ Below w.heap.size w w' := by
 have hu56 := Tryz.underlying49
 have HR1 := am hr1
 have HC1 := am hc1
 clear hr1 hc1
 have HB := am (Below.refl w.heap.size w)
 have H := h; unfold integer_Make.f at H
 clear h
 obtain ⟨t251, A30, H⟩ := Option.bind_eq_some_iff.mp H
 try dsimp only at H
 have A3 := am A30
 clear A30
 by_cases c4 : a0 = true
 · subst c4
   have H1 : (some (decide ((t251.length : Int) > 0), t251)) = some (r1, r2) := by rw [if_pos rfl] at H; exact H
   clear H
   have H := H1
   clear H1
   simp only [Option.some.injEq, Prod.mk.injEq] at H
   obtain ⟨rfl, rfl⟩ := H
   go_enter Tryz.func52, Tryz.ntmps52
   go_wp2_with (first | ((with_reducible refine gate_dst (N := 4) rfl ?_); (try (refine gate_guard (by rfl) ?_; dsimp only)); refine boxE (N := 4) (cs := #[.bool false, .slice none 0 0]) (t := 49) ?_; intro gb250 hg w5 hbox hb; have n0_ := am (below_step bB hb); have n1_ := am (hbox); have n2_ := am ((by rw [hg]; exact (below_size bB) : w.heap.size ≤ gb250)); have n3_ := am ((by rw [hg]; exact (below_size bB) : w.heap.size ≤ gb250)); clear HB; have HB := n0_; have BK250 := n1_; have GW250 := n2_; have GE250 := n3_; clear n0_ n1_ n2_ n3_; clear hb hbox hg) | ((with_reducible refine gate_callee (f := 72) rfl ?_); refine goesA (some 7) Tryz.func72 #[.slice A1 l1.length c1] ?_; (with_reducible refine (nat_Make.calls k _ _ l1 t251 _ ?side1 ?side2 A3.out).mono ?_); (case side1 => exact kC2 ((Kd.C_below HR1.out HB.out))); (case side2 => exact HC1.out); rintro e w6 ⟨v252, rfl, ho0, hb⟩; refine ⟨_, rfl, ?_⟩; have n0_ := am (Kd.R_lower ho0 (below_size bB)); have n1_ := am (blk_below (g := gb250) (o := .cells #[.bool false, .slice none 0 0] 49 (0, 0)) (bk BK250.out) hb); have n2_ := am (below_step bB hb); clear BK250; clear HB; have HO253 := n0_; have BK250 := n1_; have HB := n2_; clear n0_ n1_ n2_; (try clear hb); (try clear hb2); (try clear hk); (try clear hi); (try clear ho0); obtain ⟨Ao7, co7, eo7⟩ := Kd.R_slice HO253.out; subst eo7; have hcz8_0 : w6.cell? ⟨gb250, 0, none⟩ = some (.bool false) := (blk_cell BK250.out 0).trans rfl; have hcz8_1 : w6.cell? ⟨gb250, 1, none⟩ = some (.slice none 0 0) := (blk_cell BK250.out 1).trans rfl; have hfz8_0 := blk_frozen BK250.out 0; have hfz8_1 := blk_frozen BK250.out 1))
   refine bodyPost_ret (results_cell_row rfl _ _ gb250 49 #[.bool (decide (0 < t251.length)), .slice Ao7 t251.length co7] (0, 0) _ rfl (by (with_reducible repeat (first | refine blk_drewN ?_ _ | refine blk_drew ?_ | refine blk_alloc ?_ _)); refine blk_put (cs := #[.bool (decide (0 < t251.length)), .slice none 0 0]) ?_ 1 _ rfl; (with_reducible repeat (first | refine blk_drewN ?_ _ | refine blk_drew ?_ | refine blk_alloc ?_ _)); refine blk_put (cs := #[.bool false, .slice none 0 0]) ?_ 0 _ rfl; (with_reducible repeat (first | refine blk_drewN ?_ _ | refine blk_drew ?_ | refine blk_alloc ?_ _)); exact BK250.out) Tryz.underlying49 rfl (by kernel_rfl)) rfl ?_
   exact ⟨_, eqR, by (with_reducible repeat (first | apply Kd.R_alloc | apply Kd.R_drewN | apply Kd.R_drew)); exact Kd.R_mono (Kd.R_far (p := ⟨gb250, 1, none⟩) (Kd.R_far (p := ⟨gb250, 0, none⟩) (Kd.R_types HO253.out BK250.out (by decide)) (fun _ hk => hk.2) (.bool (decide (0 < t251.length)))) (fun _ hk => hk.2) (.slice Ao7 t251.length co7)) (fun _ hk => trivial), bB⟩
 replace c4 := Bool.eq_false_iff.mpr c4
 subst c4
 have H1 : (some (false, t251)) = some (r1, r2) := by rw [if_neg (show ¬ (false = true) by decide)] at H; exact H
 clear H
 have H := H1
 clear H1
 simp only [Option.some.injEq, Prod.mk.injEq] at H
 obtain ⟨rfl, rfl⟩ := H
 go_enter Tryz.func52, Tryz.ntmps52
 go_wp2_with (first | ((with_reducible refine gate_dst (N := 4) rfl ?_); (try (refine gate_guard (by rfl) ?_; dsimp only)); refine boxE (N := 4) (cs := #[.bool false, .slice none 0 0]) (t := 49) ?_; intro gb250 hg w9 hbox hb; have n0_ := am (below_step bB hb); have n1_ := am (hbox); have n2_ := am ((by rw [hg]; exact (below_size bB) : w.heap.size ≤ gb250)); have n3_ := am ((by rw [hg]; exact (below_size bB) : w.heap.size ≤ gb250)); clear HB; have HB := n0_; have BK250 := n1_; have GW250 := n2_; have GE250 := n3_; clear n0_ n1_ n2_ n3_; clear hb hbox hg) | ((with_reducible refine gate_callee (f := 72) rfl ?_); refine goesA (some 7) Tryz.func72 #[.slice A1 l1.length c1] ?_; (with_reducible refine (nat_Make.calls k _ _ l1 t251 _ ?side1 ?side2 A3.out).mono ?_); (case side1 => exact kC2 ((Kd.C_below HR1.out HB.out))); (case side2 => exact HC1.out); rintro e w10 ⟨v252, rfl, ho0, hb⟩; refine ⟨_, rfl, ?_⟩; have n0_ := am (Kd.R_lower ho0 (below_size bB)); have n1_ := am (blk_below (g := gb250) (o := .cells #[.bool false, .slice none 0 0] 49 (0, 0)) (bk BK250.out) hb); have n2_ := am (below_step bB hb); clear BK250; clear HB; have HO253 := n0_; have BK250 := n1_; have HB := n2_; clear n0_ n1_ n2_; (try clear hb); (try clear hb2); (try clear hk); (try clear hi); (try clear ho0); obtain ⟨Ao11, co11, eo11⟩ := Kd.R_slice HO253.out; subst eo11; have hcz12_0 : w10.cell? ⟨gb250, 0, none⟩ = some (.bool false) := (blk_cell BK250.out 0).trans rfl; have hcz12_1 : w10.cell? ⟨gb250, 1, none⟩ = some (.slice none 0 0) := (blk_cell BK250.out 1).trans rfl; have hfz12_0 := blk_frozen BK250.out 0; have hfz12_1 := blk_frozen BK250.out 1))
 refine bodyPost_ret (results_cell_row rfl _ _ gb250 49 #[.bool false, .slice Ao11 t251.length co11] (0, 0) _ rfl (by (with_reducible repeat (first | refine blk_drewN ?_ _ | refine blk_drew ?_ | refine blk_alloc ?_ _)); refine blk_put (cs := #[.bool false, .slice none 0 0]) ?_ 1 _ rfl; (with_reducible repeat (first | refine blk_drewN ?_ _ | refine blk_drew ?_ | refine blk_alloc ?_ _)); refine blk_put (cs := #[.bool false, .slice none 0 0]) ?_ 0 _ rfl; (with_reducible repeat (first | refine blk_drewN ?_ _ | refine blk_drew ?_ | refine blk_alloc ?_ _)); exact BK250.out) Tryz.underlying49 rfl (by kernel_rfl)) rfl ?_
 exact ⟨_, eqR, by (with_reducible repeat (first | apply Kd.R_alloc | apply Kd.R_drewN | apply Kd.R_drew)); exact Kd.R_mono (Kd.R_far (p := ⟨gb250, 1, none⟩) (Kd.R_far (p := ⟨gb250, 0, none⟩) (Kd.R_types HO253.out BK250.out (by decide)) (fun _ hk => hk.2) (.bool false)) (fun _ hk => hk.2) (.slice Ao11 t251.length co11)) (fun _ hk => trivial), bB⟩
def integer_Of.f (k : Nat) (a0 : Int) : Option (Bool × List Int) := if a0 < 0 then ((nat_Of.f k (IntKind.u64.wrap ((IntKind.u64.wrap (wrap64 (-(wrap64 (a0 + 1))))) + 1))).bind fun t255 => ((integer_Make.f k true t255).bind fun bt258 => (some (bt258.1, bt258.2)))) else ((nat_Of.f k (IntKind.u64.wrap (a0))).bind fun t262 => ((integer_Make.f k false t262).bind fun bt265 => (some (bt265.1, bt265.2))))
theorem integer_Of.calls (k : Nat) (a0 : Int) (r1 : Bool) (r2 : List Int) (w : World) (h : integer_Of.f k a0 = some (r1, r2)) :
   Calls Tryz.prog 26 #[.int .i64 a0] w fun e w' => ∃ v1_ : Value, e = .returned (.agg #[.bool r1, v1_]) ∧ Kd.R (Kd.int .u32) 23 w' w.heap.size (fun _ => True) v1_ r2 ∧ Below w.heap.size w w' := by
 have hu56 := Tryz.underlying49
 have HB := am (Below.refl w.heap.size w)
 have H := h; unfold integer_Of.f at H
 clear h
 by_cases c2 : a0 < 0
 case neg =>
   rw [if_neg c2] at H
   have c2b0 : decide (a0 < 0) = false := decide_eq_false c2
   clear c2
   obtain ⟨t262, A110, H⟩ := Option.bind_eq_some_iff.mp H
   try dsimp only at H
   have A11 := am A110
   clear A110
   obtain ⟨⟨t265, t266⟩, A120, H⟩ := Option.bind_eq_some_iff.mp H
   replace H : (some (t265, t266)) = some (r1, r2) := H
   have A12 := am A120
   clear A120
   simp only [Option.some.injEq, Prod.mk.injEq] at H
   obtain ⟨rfl, rfl⟩ := H
   go_enter Tryz.func26, Tryz.ntmps26
   go_wp2_with (first | ((with_reducible refine gate_dst (N := 2) rfl ?_); refine boxE (N := 2) (cs := #[.bool false, .slice none 0 0]) (t := 49) ?_; intro gb254 hg w13 hbox hb; have n0_ := am (below_step bB hb); have n1_ := am (hbox); have n2_ := am ((by rw [hg]; exact (below_size bB) : w.heap.size ≤ gb254)); have n3_ := am ((by rw [hg]; exact (below_size bB) : w.heap.size ≤ gb254)); clear HB; have HB := n0_; have BK254 := n1_; have GW254 := n2_; have GE254 := n3_; clear n0_ n1_ n2_ n3_; clear hb hbox hg) | ((with_reducible refine gate_callee (f := 53) rfl ?_); refine goesA (some 14) Tryz.func53 #[.int .u64 (IntKind.u64.wrap (a0))] ?_; (with_reducible refine (nat_Of.calls k (IntKind.u64.wrap (a0)) t262 _ A11.out).mono ?_); rintro e w14 ⟨v263, rfl, ho0, hb⟩; refine ⟨_, rfl, ?_⟩; have n0_ := am (Kd.R_lower ho0 (below_size bB)); have n1_ := am (blk_below (g := gb254) (o := .cells #[.bool false, .slice none 0 0] 49 (0, 0)) (bk BK254.out) hb); have n2_ := am (below_step bB hb); clear BK254; clear HB; have HO264 := n0_; have BK254 := n1_; have HB := n2_; clear n0_ n1_ n2_; (try clear hb); (try clear hb2); (try clear hk); (try clear hi); (try clear ho0); obtain ⟨Ao15, co15, eo15⟩ := Kd.R_slice HO264.out; subst eo15) | ((with_reducible refine gate_callee (f := 52) rfl ?_); refine goesA (some 15) Tryz.func52 #[.bool false, .slice Ao15 t262.length co15] ?_; (with_reducible refine (integer_Make.calls k false _ _ t262 t265 t266 _ ?side1 ?side2 A12.out).mono ?_); (case side1 => exact kC2 ((Kd.R_reads' HO264.out).2.2)); (case side2 => exact (Kd.R_reads' HO264.out).2.1); rintro e w16 ⟨v267, rfl, ho0, hb⟩; refine ⟨_, rfl, ?_⟩; have n0_ := am (Kd.R_elder' (rR HO264.out) (Kd.R_base ho0) hb); have n1_ := am (Kd.R_lower (Kd.R_new' ho0 (Kd.R_lt (rR HO264.out))) (below_size bB)); have n2_ := am (blk_below (g := gb254) (o := .cells #[.bool false, .slice none 0 0] 49 (0, 0)) (bk BK254.out) hb); have n3_ := am (below_step bB hb); clear HO264; clear BK254; clear HB; have HO264 := n0_; have HO268 := n1_; have BK254 := n2_; have HB := n3_; clear n0_ n1_ n2_ n3_; (try clear hb); (try clear hb2); (try clear hk); (try clear hi); (try clear ho0); have hcz17_0 : w16.cell? ⟨gb254, 0, none⟩ = some (.bool false) := (blk_cell BK254.out 0).trans rfl; have hcz17_1 : w16.cell? ⟨gb254, 1, none⟩ = some (.slice none 0 0) := (blk_cell BK254.out 1).trans rfl; have hfz17_0 := blk_frozen BK254.out 0; have hfz17_1 := blk_frozen BK254.out 1; obtain ⟨Ao18, co18, eo18⟩ := Kd.R_slice HO268.out; subst eo18))
   refine bodyPost_ret (results_cell_row rfl _ _ gb254 49 #[.bool t265, .slice Ao18 t266.length co18] (0, 0) _ rfl (by (with_reducible repeat (first | refine blk_drewN ?_ _ | refine blk_drew ?_ | refine blk_alloc ?_ _)); refine blk_put (cs := #[.bool t265, .slice none 0 0]) ?_ 1 _ rfl; (with_reducible repeat (first | refine blk_drewN ?_ _ | refine blk_drew ?_ | refine blk_alloc ?_ _)); refine blk_put (cs := #[.bool false, .slice none 0 0]) ?_ 0 _ rfl; (with_reducible repeat (first | refine blk_drewN ?_ _ | refine blk_drew ?_ | refine blk_alloc ?_ _)); exact BK254.out) Tryz.underlying49 rfl (by kernel_rfl)) rfl ?_
   exact ⟨_, eqR, by (with_reducible repeat (first | apply Kd.R_alloc | apply Kd.R_drewN | apply Kd.R_drew)); exact Kd.R_mono (Kd.R_far (p := ⟨gb254, 1, none⟩) (Kd.R_far (p := ⟨gb254, 0, none⟩) (Kd.R_types HO268.out BK254.out (by decide)) (fun _ hk => hk.2) (.bool t265)) (fun _ hk => hk.2) (.slice Ao18 t266.length co18)) (fun _ hk => trivial), bB⟩
 rw [if_pos c2] at H
 have c2b0 : decide (a0 < 0) = true := decide_eq_true c2
 clear c2
 obtain ⟨t255, A30, H⟩ := Option.bind_eq_some_iff.mp H
 try dsimp only at H
 have A3 := am A30
 clear A30
 obtain ⟨⟨t258, t259⟩, A40, H⟩ := Option.bind_eq_some_iff.mp H
 replace H : (some (t258, t259)) = some (r1, r2) := H
 have A4 := am A40
 clear A40
 simp only [Option.some.injEq, Prod.mk.injEq] at H
 obtain ⟨rfl, rfl⟩ := H
 go_enter Tryz.func26, Tryz.ntmps26
 go_wp2_with (first | ((with_reducible refine gate_dst (N := 2) rfl ?_); refine boxE (N := 2) (cs := #[.bool false, .slice none 0 0]) (t := 49) ?_; intro gb254 hg w5 hbox hb; have n0_ := am (below_step bB hb); have n1_ := am (hbox); have n2_ := am ((by rw [hg]; exact (below_size bB) : w.heap.size ≤ gb254)); have n3_ := am ((by rw [hg]; exact (below_size bB) : w.heap.size ≤ gb254)); clear HB; have HB := n0_; have BK254 := n1_; have GW254 := n2_; have GE254 := n3_; clear n0_ n1_ n2_ n3_; clear hb hbox hg) | ((with_reducible refine gate_callee (f := 53) rfl ?_); refine goesA (some 10) Tryz.func53 #[.int .u64 (IntKind.u64.wrap ((IntKind.u64.wrap (wrap64 (-(wrap64 (a0 + 1))))) + 1))] ?_; (with_reducible refine (nat_Of.calls k (IntKind.u64.wrap ((IntKind.u64.wrap (wrap64 (-(wrap64 (a0 + 1))))) + 1)) t255 _ A3.out).mono ?_); rintro e w6 ⟨v256, rfl, ho0, hb⟩; refine ⟨_, rfl, ?_⟩; have n0_ := am (Kd.R_lower ho0 (below_size bB)); have n1_ := am (blk_below (g := gb254) (o := .cells #[.bool false, .slice none 0 0] 49 (0, 0)) (bk BK254.out) hb); have n2_ := am (below_step bB hb); clear BK254; clear HB; have HO257 := n0_; have BK254 := n1_; have HB := n2_; clear n0_ n1_ n2_; (try clear hb); (try clear hb2); (try clear hk); (try clear hi); (try clear ho0); obtain ⟨Ao7, co7, eo7⟩ := Kd.R_slice HO257.out; subst eo7) | ((with_reducible refine gate_callee (f := 52) rfl ?_); refine goesA (some 11) Tryz.func52 #[.bool true, .slice Ao7 t255.length co7] ?_; (with_reducible refine (integer_Make.calls k true _ _ t255 t258 t259 _ ?side1 ?side2 A4.out).mono ?_); (case side1 => exact kC2 ((Kd.R_reads' HO257.out).2.2)); (case side2 => exact (Kd.R_reads' HO257.out).2.1); rintro e w8 ⟨v260, rfl, ho0, hb⟩; refine ⟨_, rfl, ?_⟩; have n0_ := am (Kd.R_elder' (rR HO257.out) (Kd.R_base ho0) hb); have n1_ := am (Kd.R_lower (Kd.R_new' ho0 (Kd.R_lt (rR HO257.out))) (below_size bB)); have n2_ := am (blk_below (g := gb254) (o := .cells #[.bool false, .slice none 0 0] 49 (0, 0)) (bk BK254.out) hb); have n3_ := am (below_step bB hb); clear HO257; clear BK254; clear HB; have HO257 := n0_; have HO261 := n1_; have BK254 := n2_; have HB := n3_; clear n0_ n1_ n2_ n3_; (try clear hb); (try clear hb2); (try clear hk); (try clear hi); (try clear ho0); have hcz9_0 : w8.cell? ⟨gb254, 0, none⟩ = some (.bool false) := (blk_cell BK254.out 0).trans rfl; have hcz9_1 : w8.cell? ⟨gb254, 1, none⟩ = some (.slice none 0 0) := (blk_cell BK254.out 1).trans rfl; have hfz9_0 := blk_frozen BK254.out 0; have hfz9_1 := blk_frozen BK254.out 1; obtain ⟨Ao10, co10, eo10⟩ := Kd.R_slice HO261.out; subst eo10))
 refine bodyPost_ret (results_cell_row rfl _ _ gb254 49 #[.bool t258, .slice Ao10 t259.length co10] (0, 0) _ rfl (by (with_reducible repeat (first | refine blk_drewN ?_ _ | refine blk_drew ?_ | refine blk_alloc ?_ _)); refine blk_put (cs := #[.bool t258, .slice none 0 0]) ?_ 1 _ rfl; (with_reducible repeat (first | refine blk_drewN ?_ _ | refine blk_drew ?_ | refine blk_alloc ?_ _)); refine blk_put (cs := #[.bool false, .slice none 0 0]) ?_ 0 _ rfl; (with_reducible repeat (first | refine blk_drewN ?_ _ | refine blk_drew ?_ | refine blk_alloc ?_ _)); exact BK254.out) Tryz.underlying49 rfl (by kernel_rfl)) rfl ?_
 exact ⟨_, eqR, by (with_reducible repeat (first | apply Kd.R_alloc | apply Kd.R_drewN | apply Kd.R_drew)); exact Kd.R_mono (Kd.R_far (p := ⟨gb254, 1, none⟩) (Kd.R_far (p := ⟨gb254, 0, none⟩) (Kd.R_types HO261.out BK254.out (by decide)) (fun _ hk => hk.2) (.bool t258)) (fun _ hk => hk.2) (.slice Ao10 t259.length co10)) (fun _ hk => trivial), bB⟩
def nat_Cmp.l0 : Nat → List Int → List Int → Int → Option (Int)
 | 0, _, _, _ => none
 | k + 1, x0, x1, x5 => if x5 ≥ 0 then (if 0 ≤ x5 then (if x5 < (x0.length : Int) then (if x5 < (x1.length : Int) then (if (rd x0 x5) < (rd x1 x5) then (some (-1)) else (if (rd x0 x5) > (rd x1 x5) then (some 1) else (nat_Cmp.l0 k x0 x1 (wrap64 (x5 - 1))))) else (none)) else (none)) else (none)) else (some 0)
def nat_Cmp.f (k : Nat) (l0 : List Int) (l1 : List Int) : Option (Int) := if (l0.length : Int) = (l1.length : Int) then (nat_Cmp.l0 k l0 l1 (wrap64 ((l0.length : Int) - 1))) else (some (mx (-1) (mn (wrap64 ((l0.length : Int) - (l1.length : Int))) 1)))
theorem nat_Cmp.calls (k : Nat) (A0 : Option Addr) (c0 : Nat) (l0 : List Int) (A1 : Option Addr) (c1 : Nat) (l1 : List Int) (r : Int) (w : World) (hr0 : Kd.C (Kd.int .u32) w A0 l0.length l0) (hc0 : l0.length ≤ c0) (hr1 : Kd.C (Kd.int .u32) w A1 l1.length l1) (hc1 : l1.length ≤ c1) (h : nat_Cmp.f k l0 l1 = some r) :
   Calls Tryz.prog 73 #[.slice A0 l0.length c0, .slice A1 l1.length c1] w fun e w' => e = .returned (.int .i64 r) ∧ Below w.heap.size w w' := by
 have HR0 := am hr0
 have HC0 := am hc0
 clear hr0 hc0
 have HR1 := am hr1
 have HC1 := am hc1
 clear hr1 hc1
 have HB := am (Below.refl w.heap.size w)
 have H := h; unfold nat_Cmp.f at H
 clear h
 by_cases c3 : (l0.length : Int) = (l1.length : Int)
 case neg =>
   rw [if_neg c3] at H
   have c3b0 : ((l0.length : Int) == (l1.length : Int)) = false := beq_eq_false_iff_ne.mpr c3
   have c3b1 : ((l0.length : Int) != (l1.length : Int)) = true := bne_iff_ne.mpr c3
   have c3b2 : (l0.length == l1.length) = false := by first | simpa using c3 | (simp at c3 ⊢; omega)
   obtain ⟨ji10, hji10⟩ : ∃ j_ : Int, (mn (wrap64 ((l0.length : Int) - (l1.length : Int))) 1) = j_ := ⟨_, rfl⟩
   replace H : (some (mx (-1) (ji10))) = some r := by first | (rw [hji10] at H; exact H) | (simp only [hji10] at H ⊢; exact H)
   (try (have hji10h : ji10 ≤ 1 := by (rw [← hji10]; unfold mn; (repeat' split) <;> omega)))
   (try (have hji10g : ji10 ≤ 64 := by omega))
   have hji10_ : (if 1 < (wrap64 ((l0.length : Int) - (l1.length : Int))) then 1 else (wrap64 ((l0.length : Int) - (l1.length : Int)))) = ji10 := hji10
   have hji10n_ := hji10_
   (try simp only [Int.ofNat_lt] at hji10n_)
   obtain ⟨ji11, hji11⟩ : ∃ j_ : Int, (mx (-1) (ji10)) = j_ := ⟨_, rfl⟩
   replace H : (some ji11) = some r := by first | (rw [hji11] at H; exact H) | (simp only [hji11] at H ⊢; exact H)
   have hji11_ : (if (-1) < (ji10) then (ji10) else (-1)) = ji11 := hji11
   have hji11n_ := hji11_
   (try simp only [Int.ofNat_lt] at hji11n_)
   obtain rfl := Option.some.inj H
   go_enter Tryz.func73, Tryz.ntmps73
   go_wp2
   repeat (go_quiet (fail); try go_wp2)
   go_ret
   exact ⟨by first | rfl | (simp [errW_none, errW_some] <;> rfl) | (simp only [← hji10, ← hji11]; first | rfl | (simp [errW_none, errW_some] <;> rfl)) | (simp [*, errW_none, errW_some] <;> rfl), bB⟩
 rw [if_pos c3] at H
 have c3b0 : ((l0.length : Int) == (l1.length : Int)) = true := beq_iff_eq.mpr c3
 have c3b1 : ((l0.length : Int) != (l1.length : Int)) = false := bne_eq_false_iff_eq.mpr c3
 have c3b2 : (l0.length == l1.length) = true := by first | simpa using c3 | (simp at c3 ⊢; omega)
 clear c3
 have H' := am H
 clear H
 go_enter Tryz.func73, Tryz.ntmps73
 go_wp2
 repeat (go_quiet (fail); try go_wp2)
 go_loopg [5] k (fun kq v5 w' => ∃ (x5_1 : Int), v5 = .int .i64 x5_1 ∧ Aside0 (nat_Cmp.l0 kq l0 l1 x5_1 = some r) ∧ Aside0 (kq ≤ k) ∧ Aside0 (Below w.heap.size w w'))
 case atStart => exact ⟨(wrap64 ((l0.length : Int) - 1)), eqS, H', ⟨Nat.le_refl _⟩, ⟨bB⟩⟩
 clear H'
 clear c3b0 c3b1 c3b2
 obtain ⟨x5_1, rfl, HA, HK1, HB⟩ := hrel
 rcases gk with _ | k1
 · exact absurd HA.out (by simp [nat_Cmp.l0])
 have H := HA.out
 clear HA
 simp only [nat_Cmp.l0] at H
 by_cases c4 : x5_1 ≥ 0
 case neg =>
   rw [if_neg c4] at H
   have c4b0 : decide (0 ≤ x5_1) = false := decide_eq_false c4
   clear c4
   obtain rfl := Option.some.inj H
   go_wp2
   repeat (go_quiet (fail); try go_wp2)
   go_ret
   exact ⟨eqR, bB⟩
 rw [if_pos c4] at H
 have c4b0 : decide (0 ≤ x5_1) = true := decide_eq_true c4
 clear c4
 by_cases c5 : 0 ≤ x5_1
 case neg => exact nn c5 H
 rw [if_pos c5] at H
 have c5b0 : decide (0 ≤ x5_1) = true := decide_eq_true c5
 clear c5
 by_cases c6 : x5_1 < (l0.length : Int)
 case neg => exact nn c6 H
 rw [if_pos c6] at H
 have c6b0 : decide (x5_1 < (l0.length : Int)) = true := decide_eq_true c6
 clear c6
 by_cases c7 : x5_1 < (l1.length : Int)
 case neg => exact nn c7 H
 rw [if_pos c7] at H
 have c7b0 : decide (x5_1 < (l1.length : Int)) = true := decide_eq_true c7
 clear c7
 by_cases c8 : (rd l0 x5_1) < (rd l1 x5_1)
 · rw [if_pos c8] at H
   have c8b0 : decide ((rd l0 x5_1) < (rd l1 x5_1)) = true := decide_eq_true c8
   clear c8
   obtain rfl := Option.some.inj H
   have p269 : 0 ≤ (x5_1 : Int) := of_decide_eq_true as_
   have q269 : x5_1 < (l0.length : Int) := of_decide_eq_true as_
   obtain ⟨ad269, e269, hx269_0⟩ := Kd.at_int HR0.out x5_1 p269 q269
   cases e269
   replace hx269_0 := (HB.out.cell (World.block_lt_of_cell? w _ hx269_0)).trans hx269_0
   replace p269 := eq_true p269
   replace q269 := eq_true q269
   have p270 : 0 ≤ (x5_1 : Int) := of_decide_eq_true as_
   have q270 : x5_1 < (l1.length : Int) := of_decide_eq_true as_
   obtain ⟨ad270, e270, hx270_0⟩ := Kd.at_int HR1.out x5_1 p270 q270
   cases e270
   replace hx270_0 := (HB.out.cell (World.block_lt_of_cell? w _ hx270_0)).trans hx270_0
   replace p270 := eq_true p270
   replace q270 := eq_true q270
   go_wp2
   repeat (go_quiet (fail); try go_wp2)
   go_ret
   exact ⟨eqR, bB⟩
 rw [if_neg c8] at H
 have c8b0 : decide ((rd l0 x5_1) < (rd l1 x5_1)) = false := decide_eq_false c8
 clear c8
 by_cases c9 : (rd l0 x5_1) > (rd l1 x5_1)
 · rw [if_pos c9] at H
   have c9b0 : decide ((rd l1 x5_1) < (rd l0 x5_1)) = true := decide_eq_true c9
   clear c9
   obtain rfl := Option.some.inj H
   have p269 : 0 ≤ (x5_1 : Int) := of_decide_eq_true as_
   have q269 : x5_1 < (l0.length : Int) := of_decide_eq_true as_
   obtain ⟨ad269, e269, hx269_0⟩ := Kd.at_int HR0.out x5_1 p269 q269
   cases e269
   replace hx269_0 := (HB.out.cell (World.block_lt_of_cell? w _ hx269_0)).trans hx269_0
   replace p269 := eq_true p269
   replace q269 := eq_true q269
   have p270 : 0 ≤ (x5_1 : Int) := of_decide_eq_true as_
   have q270 : x5_1 < (l1.length : Int) := of_decide_eq_true as_
   obtain ⟨ad270, e270, hx270_0⟩ := Kd.at_int HR1.out x5_1 p270 q270
   cases e270
   replace hx270_0 := (HB.out.cell (World.block_lt_of_cell? w _ hx270_0)).trans hx270_0
   replace p270 := eq_true p270
   replace q270 := eq_true q270
   have p271 : 0 ≤ (x5_1 : Int) := of_decide_eq_true as_
   have q271 : x5_1 < (l0.length : Int) := of_decide_eq_true as_
   obtain ⟨ad271, e271, hx271_0⟩ := Kd.at_int HR0.out x5_1 p271 q271
   obtain rfl : ad269 = ad271 := (by injection e271)
   replace hx271_0 := (HB.out.cell (World.block_lt_of_cell? w _ hx271_0)).trans hx271_0
   replace p271 := eq_true p271
   replace q271 := eq_true q271
   have p272 : 0 ≤ (x5_1 : Int) := of_decide_eq_true as_
   have q272 : x5_1 < (l1.length : Int) := of_decide_eq_true as_
   obtain ⟨ad272, e272, hx272_0⟩ := Kd.at_int HR1.out x5_1 p272 q272
   obtain rfl : ad270 = ad272 := (by injection e272)
   replace hx272_0 := (HB.out.cell (World.block_lt_of_cell? w _ hx272_0)).trans hx272_0
   replace p272 := eq_true p272
   replace q272 := eq_true q272
   go_wp2
   repeat (go_quiet (fail); try go_wp2)
   go_ret
   exact ⟨eqR, bB⟩
 rw [if_neg c9] at H
 have c9b0 : decide ((rd l1 x5_1) < (rd l0 x5_1)) = false := decide_eq_false c9
 clear c9
 have H' := am H
 clear H
 have p269 : 0 ≤ (x5_1 : Int) := of_decide_eq_true as_
 have q269 : x5_1 < (l0.length : Int) := of_decide_eq_true as_
 obtain ⟨ad269, e269, hx269_0⟩ := Kd.at_int HR0.out x5_1 p269 q269
 cases e269
 replace hx269_0 := (HB.out.cell (World.block_lt_of_cell? w _ hx269_0)).trans hx269_0
 replace p269 := eq_true p269
 replace q269 := eq_true q269
 have p270 : 0 ≤ (x5_1 : Int) := of_decide_eq_true as_
 have q270 : x5_1 < (l1.length : Int) := of_decide_eq_true as_
 obtain ⟨ad270, e270, hx270_0⟩ := Kd.at_int HR1.out x5_1 p270 q270
 cases e270
 replace hx270_0 := (HB.out.cell (World.block_lt_of_cell? w _ hx270_0)).trans hx270_0
 replace p270 := eq_true p270
 replace q270 := eq_true q270
 have p271 : 0 ≤ (x5_1 : Int) := of_decide_eq_true as_
 have q271 : x5_1 < (l0.length : Int) := of_decide_eq_true as_
 obtain ⟨ad271, e271, hx271_0⟩ := Kd.at_int HR0.out x5_1 p271 q271
 obtain rfl : ad269 = ad271 := (by injection e271)
 replace hx271_0 := (HB.out.cell (World.block_lt_of_cell? w _ hx271_0)).trans hx271_0
 replace p271 := eq_true p271
 replace q271 := eq_true q271
 have p272 : 0 ≤ (x5_1 : Int) := of_decide_eq_true as_
 have q272 : x5_1 < (l1.length : Int) := of_decide_eq_true as_
 obtain ⟨ad272, e272, hx272_0⟩ := Kd.at_int HR1.out x5_1 p272 q272
 obtain rfl : ad270 = ad272 := (by injection e272)
 replace hx272_0 := (HB.out.cell (World.block_lt_of_cell? w _ hx272_0)).trans hx272_0
 replace p272 := eq_true p272
 replace q272 := eq_true q272
 go_wp2
 repeat (go_quiet (fail); try go_wp2)
 go_roundg k1
 case measure => have := HK1.out; omega
 case rel => exact ⟨(wrap64 (x5_1 - 1)), eqS, (by first | exact H' | (subst_vars; exact H')), ⟨by have := HK1.out; omega⟩, ⟨bB⟩⟩
def bits_Sub32.f (a0 : Int) (a1 : Int) (a2 : Int) : Option (Int × Int) := some ((((a0 - a1) % 4294967296) - a2) % 4294967296, (Go.bits .or .u32 (Go.bits .and .u32 (Go.bits .xor .u32 4294967295 a0) a1) (Go.bits .and .u32 (Go.bits .xor .u32 4294967295 (Go.bits .xor .u32 a0 a1)) ((((a0 - a1) % 4294967296) - a2) % 4294967296))) / 2147483648)
theorem bits_Sub32.calls (a0 : Int) (a1 : Int) (a2 : Int) (r1 : Int) (r2 : Int) (w : World) (h : bits_Sub32.f a0 a1 a2 = some (r1, r2)) :
   Calls Tryz.prog 83 #[.int .u32 a0, .int .u32 a1, .int .u32 a2] w fun e w' => e = .returned (.tuple #[.int .u32 r1, .int .u32 r2]) ∧ Drawn0 w w' := by
 have H := h; unfold bits_Sub32.f at H
 clear h
 simp only [Option.some.injEq, Prod.mk.injEq] at H
 obtain ⟨rfl, rfl⟩ := H
 go_enter Tryz.func83, Tryz.ntmps83
 go_wp2
 go_ret2
 exact ⟨eqS, dR⟩
def bits_Add32.f (a0 : Int) (a1 : Int) (a2 : Int) : Option (Int × Int) := some ((IntKind.u64.wrap ((IntKind.u64.wrap ((IntKind.u64.wrap (a0)) + (IntKind.u64.wrap (a1)))) + (IntKind.u64.wrap (a2)))) % 4294967296, ((IntKind.u64.wrap ((IntKind.u64.wrap ((IntKind.u64.wrap (a0)) + (IntKind.u64.wrap (a1)))) + (IntKind.u64.wrap (a2)))) / 4294967296) % 4294967296)
theorem bits_Add32.calls (a0 : Int) (a1 : Int) (a2 : Int) (r1 : Int) (r2 : Int) (w : World) (h : bits_Add32.f a0 a1 a2 = some (r1, r2)) :
   Calls Tryz.prog 82 #[.int .u32 a0, .int .u32 a1, .int .u32 a2] w fun e w' => e = .returned (.tuple #[.int .u32 r1, .int .u32 r2]) ∧ Drawn0 w w' := by
 have H := h; unfold bits_Add32.f at H
 clear h
 simp only [Option.some.injEq, Prod.mk.injEq] at H
 obtain ⟨rfl, rfl⟩ := H
 go_enter Tryz.func82, Tryz.ntmps82
 go_wp2
 go_ret2
 exact ⟨eqS, dR⟩
def integer_one.f  : Option (List Int) := some (([1] : List Int))
theorem integer_one.calls  (r : List Int) (w : World) (h : integer_one.f  = some r) :
   Calls Tryz.prog 56 #[] w fun e w' => ∃ v0_ : Value, e = .returned (v0_) ∧ Kd.R (Kd.int .u32) 23 w' w.heap.size (fun _ => True) v0_ r ∧ Below w.heap.size w w' := by
 have HB := am (Below.refl w.heap.size w)
 have H := h; unfold integer_one.f at H
 clear h
 obtain ⟨y313, hy313⟩ : ∃ y_ : List Int, y_ = (([1] : List Int)) := ⟨_, rfl⟩
 replace H : (some y313) = some r := by first | (rw [hy313]; exact H) | exact H
 have Ny313 := am hy313
 clear hy313
 obtain rfl := Option.some.inj H
 go_enter Tryz.func56, Tryz.ntmps56
 go_wp2_with (first | ((with_reducible refine gate_dst (N := 1) rfl ?_); refine Kd.R_lit (Kd.int .u32) _ 23 rF (N := 1) rF (xs := ([1] : List Int)) (inner := [.int .u32 1]) (ok := fun _ => True) (okp := fun _ => True) gF ?hp (fun _ hk => hk) trivial (Below.refl _ _) (Nat.le_refl _) (by simp) ?_; (case hp => exact (Reps.one (show Kd.M (Kd.int .u32) _ _ _ 1 [.int .u32 1] from rfl) (Reps.none _ _))); intro v314 w1 ho2 hb hg_ hnew_; clear hg_ hnew_; (first | rw [← Ny313.out] at ho2 | (simp only [Int.reduceToNat] at ho2; rw [← Ny313.out] at ho2)); have n0_ := am (Kd.R_lower ho2 (below_size bB)); have n1_ := am (below_step bB hb); clear HB; have HO315 := n0_; have HB := n1_; clear n0_ n1_; clear hb ho2))
 go_ret
 exact ⟨_, eqR, rR (HO315.out), bB⟩
def nat_Low.l0 : Nat → Int → List Int → Int → Int → Option (Int × Bool)
 | 0, _, _, _, _ => none
 | k + 1, x4, x10, x11, x12 => if x12 < x11 then (if 0 ≤ x12 then (if x12 < (x10.length : Int) then (if 0 ≤ (wrap64 (32 * x12)) then (nat_Low.l0 k (Go.bits .or .u64 x4 (shl .u64 (IntKind.u64.wrap (rd x10 x12)) (wrap64 (32 * x12)))) x10 x11 (wrap64 (x12 + 1))) else (none)) else (none)) else (none)) else (some (x4, true))
def nat_Low.f (k : Nat) (l0 : List Int) : Option (Int × Bool) := if (l0.length : Int) > 2 then (some (0, false)) else (nat_Low.l0 k 0 l0 (l0.length : Int) 0)
theorem nat_Low.calls (k : Nat) (A0 : Option Addr) (c0 : Nat) (l0 : List Int) (r1 : Int) (r2 : Bool) (w : World) (hr0 : Kd.C (Kd.int .u32) w A0 l0.length l0) (hc0 : l0.length ≤ c0) (h : nat_Low.f k l0 = some (r1, r2)) :
   Calls Tryz.prog 28 #[.slice A0 l0.length c0] w fun e w' => e = .returned (.tuple #[.int .u64 r1, .bool r2]) ∧ Drawn0 w w' := by
 have HR0 := am hr0
 have HC0 := am hc0
 clear hr0 hc0
 have H := h; unfold nat_Low.f at H
 clear h
 by_cases c2 : (l0.length : Int) > 2
 · rw [if_pos c2] at H
   have c2b0 : decide (2 < (l0.length : Int)) = true := decide_eq_true c2
   have c2b1 : decide (2 < l0.length) = true := decide_eq_true (by omega)
   clear c2
   simp only [Option.some.injEq, Prod.mk.injEq] at H
   obtain ⟨rfl, rfl⟩ := H
   go_enter Tryz.func28, Tryz.ntmps28
   go_wp2
   go_ret2
   exact ⟨eqS, dR⟩
 rw [if_neg c2] at H
 have c2b0 : decide (2 < (l0.length : Int)) = false := decide_eq_false c2
 have c2b1 : decide (2 < l0.length) = false := decide_eq_false (by omega)
 clear c2
 have H' := am H
 clear H
 go_enter Tryz.func28, Tryz.ntmps28
 go_wp2
 go_loopg [4, 12] k (fun kq v4 v12 w' => ∃ (x4_1 : Int) (x12_1 : Int), v4 = .int .u64 x4_1 ∧ v12 = .int .i64 x12_1 ∧ Aside0 (nat_Low.l0 kq x4_1 l0 (l0.length : Int) x12_1 = some (r1, r2)) ∧ Aside0 (kq ≤ k) ∧ Drawn0 w w')
 case atStart => exact ⟨(0), (0), eqS, eqS, H', ⟨Nat.le_refl _⟩, by repeat (first | exact Drawn0.refl _ | apply Drawn0.step)⟩
 clear H'
 clear c2b0 c2b1
 obtain ⟨x4_1, x12_1, rfl, rfl, HA, HK1, ⟨m1, rfl⟩⟩ := hrel
 rcases gk with _ | k1
 · exact absurd HA.out (by simp [nat_Low.l0])
 have H := HA.out
 clear HA
 simp only [nat_Low.l0] at H
 by_cases c3 : x12_1 < (l0.length : Int)
 case neg =>
   rw [if_neg c3] at H
   have c3b0 : decide (x12_1 < (l0.length : Int)) = false := decide_eq_false c3
   clear c3
   simp only [Option.some.injEq, Prod.mk.injEq] at H
   obtain ⟨rfl, rfl⟩ := H
   go_wp2
   go_ret2
   exact ⟨eqS, dR⟩
 rw [if_pos c3] at H
 have c3b0 : decide (x12_1 < (l0.length : Int)) = true := decide_eq_true c3
 clear c3
 by_cases c4 : 0 ≤ x12_1
 case neg => exact nn c4 H
 rw [if_pos c4] at H
 have c4b0 : decide (0 ≤ x12_1) = true := decide_eq_true c4
 clear c4
 by_cases c5 : x12_1 < (l0.length : Int)
 case neg => exact nn c5 H
 rw [if_pos c5] at H
 have c5b0 : decide (x12_1 < (l0.length : Int)) = true := decide_eq_true c5
 clear c5
 obtain ⟨ji6, hji6⟩ : ∃ j_ : Int, (wrap64 (32 * x12_1)) = j_ := ⟨_, rfl⟩
 replace H : (if 0 ≤ (ji6) then (nat_Low.l0 k1 (Go.bits .or .u64 x4_1 (shl .u64 (IntKind.u64.wrap (rd l0 x12_1)) (ji6))) l0 (l0.length : Int) (wrap64 (x12_1 + 1))) else (none)) = some (r1, r2) := by first | (rw [hji6] at H; exact H) | (simp only [hji6] at H ⊢; exact H)
 have hji6w : (IntKind.i64.wrap (32 * x12_1)) = ji6 := (i64_w _).trans hji6
 by_cases c7 : 0 ≤ (ji6)
 case neg => exact nn c7 H
 rw [if_pos c7] at H
 have c7b0 := eq_true c7
 have c7b1 : decide (0 ≤ (ji6)) = true := decide_eq_true c7
 clear c7
 obtain ⟨ji8, hji8⟩ : ∃ j_ : Int, (shl .u64 (IntKind.u64.wrap (rd l0 x12_1)) (ji6)) = j_ := ⟨_, rfl⟩
 replace H : (nat_Low.l0 k1 (Go.bits .or .u64 x4_1 (ji8)) l0 (l0.length : Int) (wrap64 (x12_1 + 1))) = some (r1, r2) := by first | (rw [hji8] at H; exact H) | (simp only [hji8] at H ⊢; exact H)
 have hji8_ : (IntKind.u64.wrap ((IntKind.u64.wrap (rd l0 x12_1)) * 2 ^ min (ji6).toNat 64)) = ji8 := hji8
 have hji8z : (ji6) ≤ 64 → (IntKind.u64.wrap ((IntKind.u64.wrap (rd l0 x12_1)) * 2 ^ (ji6).toNat)) = ji8 := shl_small hji8
 have H' := am H
 clear H
 have p321 : 0 ≤ (x12_1 : Int) := of_decide_eq_true as_
 have q321 : x12_1 < (l0.length : Int) := of_decide_eq_true as_
 obtain ⟨ad321, e321, hx321_0⟩ := Kd.at_int HR0.out x12_1 p321 q321
 cases e321
 replace p321 := eq_true p321
 replace q321 := eq_true q321
 go_wp2
 first | go_roundg k1 | (subst hji6; go_roundg k1) | (subst hji8; go_roundg k1)
 case measure => have := HK1.out; omega
 case rel => exact ⟨(Go.bits .or .u64 x4_1 (ji8)), (wrap64 (x12_1 + 1)), (by first | rfl | (simp; done) | (simp only [← hji8] <;> (first | rfl | simp)) | (simp [*]; done)), eqS, (by first | exact H' | (subst_vars; exact H')), ⟨by have := HK1.out; omega⟩, by repeat (first | exact Drawn0.refl _ | apply Drawn0.step)⟩
end Go.Proofs.YtjbcnppbcomaiaaGreatDoor.Q
namespace Go.Proofs.YtjbcnppbcomaiaaGreatDoor.Q
open Go.RowKit Go.Proofs.YtjbcnppbcomaiaaGreatDoorW.PrintWords Go.Proofs.YtjbcnppbcomaiaaGreatDoorW.PrintLast Go.Proofs.YtjbcnppbcomaiaaGreatDoorW.PrintMore
set_option linter.unusedVariables false
set_option linter.unusedSimpArgs false
inductive Row7 where
 | u (l : List Int)
 | f (l : List S52)
 | i (l : List S56)
 | b (cs : Array Value) (t : Nat)
def RV (w : World) (v : Value) : Row7 → Prop
 | .u l => CV w v l
 | .f l => ∃ A c, v = .slice A l.length c ∧ l.length ≤ c ∧ Kd.C k52 w A l.length l
 | .i l => ∃ A c, v = .slice A l.length c ∧ l.length ≤ c ∧ Kd.C k56 w A l.length l
 | .b cs t => ∃ g, v = .pointer (some ⟨g, 0, none⟩) ∧ w.heap[g]? = some (.cells cs t (0, 0))
theorem RV.below {w w1 : World} {v : Value} {r : Row7} (h : RV w v r) (hb : Below w.heap.size w w1) : RV w1 v r := by
 cases r with
 | u l => exact CV_below h hb
 | f l =>
   obtain ⟨A, c, e, hl, hC⟩ := h
   exact ⟨A, c, e, hl, Kd.C_below hC hb⟩
 | i l =>
   obtain ⟨A, c, e, hl, hC⟩ := h
   exact ⟨A, c, e, hl, Kd.C_below hC hb⟩
 | b cs t =>
   obtain ⟨g, e, hg⟩ := h
   exact ⟨g, e, blk_below hg hb⟩
structure LR (w0 w : World) (L : List (Value × Row7)) : Prop where
 b : Below w0.heap.size w0 w
 r : ∀ x ∈ L, RV w x.1 x.2
theorem LR.below {w0 w w1 : World} {L : List (Value × Row7)} (h : LR w0 w L) (hb : Below w.heap.size w w1) : LR w0 w1 L := ⟨below_step h.b hb, fun x hx => (h.r x hx).below hb⟩
theorem LR.more {w0 w w1 : World} {L : List (Value × Row7)} (h : LR w0 w L) (hb : Below w.heap.size w w1) {v : Value} {r : Row7} (hv : RV w1 v r) : LR w0 w1 ((v, r) :: L) :=
 ⟨below_step h.b hb, fun x hx => by
   rcases List.mem_cons.1 hx with rfl | hx
   · exact hv
   · exact (h.r x hx).below hb⟩
theorem LR.drawn {w0 w w1 : World} {L : List (Value × Row7)} (h : LR w0 w L) (hd : Drawn0 w w1) : LR w0 w1 L := by
 obtain ⟨n, rfl⟩ := hd
 exact h.below (pw_below_drewN (Below.refl _ _) n)
theorem LR.sub {w0 w : World} {L L' : List (Value × Row7)} (h : LR w0 w L) (hs : ∀ x ∈ L', x ∈ L) : LR w0 w L' := ⟨h.b, fun x hx => h.r x (hs x hx)⟩
theorem LR.atU {w0 w : World} {L : List (Value × Row7)} (h : LR w0 w L) (i : Nat) (v : Value) (l : List Int) (hx : L[i]? = some (v, .u l)) : CV w v l := h.r (v, .u l) (List.mem_of_getElem? hx)
theorem LR.atB {w0 w : World} {L : List (Value × Row7)} (h : LR w0 w L) (i g : Nat) (cs : Array Value) (t : Nat) (hx : L[i]? = some (.pointer (some ⟨g, 0, none⟩), .b cs t)) : w.heap[g]? = some (.cells cs t (0, 0)) := by
 obtain ⟨g', e, hg⟩ := h.r (.pointer (some ⟨g, 0, none⟩), .b cs t) (List.mem_of_getElem? hx)
 injection e with e
 injection e with e
 injection e with e
 subst e
 exact hg
theorem LR.cell {w0 w : World} {L : List (Value × Row7)} (h : LR w0 w L) (i g : Nat) (cs : Array Value) (t : Nat) (hx : L[i]? = some (.pointer (some ⟨g, 0, none⟩), .b cs t)) (j : Nat) (v : Value) (hj : cs[j]? = some v) : w.cell? ⟨g, j, none⟩ = some v := by
 have hg := h.atB i g cs t hx
 simp [World.cell?, hg, hj]
theorem CV.C {w : World} {A : Option Addr} {n c : Nat} {l : List Int} (h : CV w (.slice A n c) l) : n = l.length ∧ l.length ≤ c ∧ Kd.C (Kd.int .u32) w A l.length l := by
 obtain ⟨A', c', e, hl, hC⟩ := h
 injection e with e1 e2 e3
 subst e1; subst e3
 exact ⟨e2, hl, hC⟩
theorem RVf.C {w : World} {A : Option Addr} {n c : Nat} {l : List S52} (h : RV w (.slice A n c) (.f l)) : n = l.length ∧ l.length ≤ c ∧ Kd.C k52 w A l.length l := by
 obtain ⟨A', c', e, hl, hC⟩ := h
 injection e with e1 e2 e3
 subst e1; subst e3
 exact ⟨e2, hl, hC⟩
theorem RVi.C {w : World} {A : Option Addr} {n c : Nat} {l : List S56} (h : RV w (.slice A n c) (.i l)) : n = l.length ∧ l.length ≤ c ∧ Kd.C k56 w A l.length l := by
 obtain ⟨A', c', e, hl, hC⟩ := h
 injection e with e1 e2 e3
 subst e1; subst e3
 exact ⟨e2, hl, hC⟩
theorem Reps.two {α : Type} {R : α → List Value → Prop} {ps : List α} {cs : List Value} {p : α} {u v : Value} (hp : R p [u, v]) (h : Reps R 2 ps cs) : Reps R 2 (p :: ps) (u :: v :: cs) := by
 refine ⟨by simp [h.1]; omega, fun j q hq => ?_⟩
 cases j with
 | zero =>
   have : p = q := by simpa using hq
   subst this
   exact hp
 | succ j =>
   have h2 := h.2 j q (by simpa using hq)
   rw [show (j + 1) * 2 = j * 2 + 1 + 1 by omega, List.drop_succ_cons, List.drop_succ_cons]
   exact h2
theorem C_block {α : Type} (d : Kd α) {w : World} {g : Nat} {inner : List Value} {e : TypeId} {fr : Nat × Nat} {xs : List α} (hg : w.heap[g]? = some (.cells inner.toArray e fr)) (hrep : Reps (d.K w) d.sz xs inner) (hm : xs.length ≤ 9223372036854775807) :
   Kd.C d w (some ⟨g, 0, none⟩) xs.length xs := by
 refine ⟨rfl, hm, fun _ => ⟨_, rfl, fun j p hj => ?_⟩⟩
 have hK := hrep.2 j p hj
 refine ⟨_, d.K_len hK, hK, fun i u hu => ?_⟩
 have hu2 : inner[j * d.sz + i]? = some u := by
   rw [List.getElem?_take] at hu
   split at hu
   · rwa [List.getElem?_drop] at hu
   · cases hu
 have ha : (⟨g, 0, none⟩ : Addr).add (j * d.sz + i) = ⟨g, j * d.sz + i, none⟩ := by
   generalize j * d.sz + i = m
   cases m with
   | zero => rfl
   | succ m => simp [Addr.add]
 rw [ha]
 simp [World.cell?, hg, hu2]
theorem K52_of {w : World} {A : Option Addr} {n c : Nat} {l : List Int} (h : CV w (.slice A n c) l) (t : Int) : k52.K w ⟨l, t⟩ [.slice A n c, .int .i64 t] := by
 obtain ⟨e, hl, hC⟩ := h.C
 subst e
 exact k52_mk w ⟨l, t⟩ hl hC
theorem K56_of {w : World} {A : Option Addr} {n c : Nat} {l : List Int} (h : CV w (.slice A n c) l) (t : Bool) : k56.K w ⟨t, l⟩ [.bool t, .slice A n c] := by
 obtain ⟨e, hl, hC⟩ := h.C
 subst e
 exact k56_mk w ⟨t, l⟩ hl hC
theorem alloc_at (W : World) (o : Obj) : (W.alloc o).heap[W.heap.size]? = some o := by show (W.heap.push o)[W.heap.size]? = _; simp
section words
variable {P : Program} {ops : Array Oper} {rest : List Oper} {o : Oper} {a : Act} {Q : Exit → Act → World → Prop}
theorem reps_u (w : World) : ∀ xs : List Int, Reps ((Kd.int .u32).K w) 1 xs (xs.map (Value.int .u32))
 | [] => Reps.none _ _
 | x :: xs => Reps.one (show (Kd.int .u32).K w x [.int .u32 x] from rfl) (reps_u w xs)
theorem LR.lit {w0 W : World} {L : List (Value × Row7)} (hS : LR w0 W L) (xs : List Int) (n : Nat) (hn : xs.length = n) (hm : n ≤ 100) (hgd : o.guard = none) {N : Tmp} (hd : o.dst = some N)
   (hrun : (execOp a.eval o).run P W = .ok (.value (.slice (some ⟨W.heap.size, 0, none⟩) n n)) (W.alloc (.cells (xs.map (Value.int .u32)).toArray 23)))
   (h : ∀ A w1, LR w0 w1 ((.slice A n n, .u xs) :: L) → wpList P ops Q rest (a.put o.dst (.slice A n n)) w1) : wpList P ops Q (o :: rest) a W := by
 subst hn
 exact Kd.event_run hgd hrun (h _ _ (hS.more (below_alloc (Below.refl _ _) _) ⟨_, _, rfl, Nat.le_refl _, C_block (Kd.int .u32) (alloc_at _ _) (reps_u _ xs) (by omega)⟩))
theorem LR.box {w0 W : World} {L : List (Value × Row7)} (hS : LR w0 W L) (cs : Array Value) (t : Nat) (hgd : o.guard = none) {N : Tmp} (hd : o.dst = some N)
   (hrun : (execOp a.eval o).run P W = .ok (.value (.pointer (some ⟨W.heap.size, 0, none⟩))) (W.alloc (.cells cs t)))
   (h : ∀ g w1, LR w0 w1 ((.pointer (some ⟨g, 0, none⟩), .b cs t) :: L) → wpList P ops Q rest (a.put o.dst (.pointer (some ⟨g, 0, none⟩))) w1) : wpList P ops Q (o :: rest) a W :=
 Kd.event_run hgd hrun (h _ _ (hS.more (below_alloc (Below.refl _ _) _) ⟨_, rfl, alloc_at _ _⟩))
end words
theorem LR.gV {w0 w : World} {L : List (Value × Row7)} {f : Nat} {args : Array Value} {base : Nat} {ok : Nat → Prop} {r : List Int} (hS : LR w0 w L) (h : Calls Tryz.prog f args w fun e w' => ∃ v0_ : Value, e = .returned v0_ ∧ Kd.V (Kd.int .u32) 23 w' base ok v0_ r ∧ Below w.heap.size w w') :
   Calls Tryz.prog f args w fun e w' => ∃ A c, e = .returned (.slice A r.length c) ∧ LR w0 w' ((.slice A r.length c, .u r) :: L) := by
 refine h.mono ?_
 rintro e w' ⟨v0, rfl, h0, hb⟩
 obtain ⟨A1, c1, rfl, hl1, hC1⟩ := CV_of h0
 exact ⟨A1, c1, rfl, hS.more hb (r := .u r) ⟨A1, c1, rfl, hl1, hC1⟩⟩
theorem LR.gC {w0 w : World} {L : List (Value × Row7)} {f : Nat} {args : Array Value} {r : List Int} (hS : LR w0 w L) (h : Calls Tryz.prog f args w fun e w' => ∃ v0_ : Value, e = .returned v0_ ∧ CV w' v0_ r ∧ Below w.heap.size w w') :
   Calls Tryz.prog f args w fun e w' => ∃ A c, e = .returned (.slice A r.length c) ∧ LR w0 w' ((.slice A r.length c, .u r) :: L) := by
 refine h.mono ?_
 rintro e w' ⟨v0, rfl, ⟨A1, c1, rfl, hl1, hC1⟩, hb⟩
 exact ⟨A1, c1, rfl, hS.more hb (r := .u r) ⟨A1, c1, rfl, hl1, hC1⟩⟩
section
variable {w : World} {v : Value} {xs : List Int}
theorem CV_alloc (h : CV w v xs) (o : Obj) : CV (w.alloc o) v xs := by
 obtain ⟨A, c, rfl, hc, hr⟩ := h
 exact ⟨A, c, rfl, hc, Kd.C_alloc hr o⟩
theorem CV_drewN (h : CV w v xs) (n : Nat) : CV (w.drewN n) v xs := by
 obtain ⟨A, c, rfl, hc, hr⟩ := h
 exact ⟨A, c, rfl, hc, Kd.C_drewN hr n⟩
theorem CV_drew (h : CV w v xs) : CV w.drew v xs := by
 obtain ⟨A, c, rfl, hc, hr⟩ := h
 exact ⟨A, c, rfl, hc, Kd.C_drew hr⟩
theorem CV_slice (h : CV w v xs) : ∃ A c, v = .slice A xs.length c := by
 obtain ⟨A, c, rfl, hc, hr⟩ := h
 exact ⟨A, c, rfl⟩
theorem CV_reads' {A : Option Addr} {n c : Nat} (h : CV w (.slice A n c) xs) : n = xs.length ∧ n ≤ c ∧ Kd.C (Kd.int .u32) w A xs.length xs := by
 obtain ⟨A', c', he, hc, hr⟩ := h
 injection he with h1 h2 h3
 subst h1; subst h2; subst h3
 exact ⟨rfl, hc, hr⟩
end
def modp_rest.f (k : Nat) (l0 l1 : List Int) (a2 : Int) : Option (List Int) := (modp_DivMod.f k l0 l1 a2).bind fun b => some b.2.1
def modp_over.f (k : Nat) (l0 l1 : List Int) (a2 : Int) : Option (List Int) := (modp_DivMod.f k l0 l1 a2).bind fun b => some b.1
theorem modp_rest.calls (k : Nat) (A0 : Option Addr) (c0 : Nat) (l0 : List Int) (A1 : Option Addr) (c1 : Nat) (l1 : List Int) (a2 : Int) (r : List Int) (w : World) (hr0 : Kd.C (Kd.int .u32) w A0 l0.length l0) (hc0 : l0.length ≤ c0) (hr1 : Kd.C (Kd.int .u32) w A1 l1.length l1) (hc1 : l1.length ≤ c1) (h : modp_rest.f k l0 l1 a2 = some r) :
   Calls Tryz.prog 45 #[.slice A0 l0.length c0, .slice A1 l1.length c1, .int .u32 a2] w fun e w' => ∃ v0_ : Value, e = .returned v0_ ∧ CV w' v0_ r ∧ Below w.heap.size w w' := by
 unfold modp_rest.f at h
 obtain ⟨⟨q, r', c⟩, hd, he⟩ := Option.bind_eq_some_iff.1 h
 cases he
 have HD := am hd
 have HR0 := am hr0
 have HC0 := am hc0
 have HR1 := am hr1
 have HC1 := am hc1
 clear hd hr0 hc0 hr1 hc1 h
 go_enter Tryz.func45, Tryz.ntmps45
 go_wp2_with (go_at_call 15; refine (modp_DivMod.calls k A0 c0 l0 A1 c1 l1 a2 q r' c _ HR0.out HC0.out HR1.out HC1.out HD.out).mono ?_; rintro e1 w1 ⟨v0, v1, rfl, h0, h1, hb⟩; have H1 := am h1; have HB := am hb; clear h0 h1 hb)
 go_ret
 exact ⟨_, rfl, H1.out, HB.out⟩
theorem modp_over.callsV (k : Nat) (A0 : Option Addr) (c0 : Nat) (l0 : List Int) (A1 : Option Addr) (c1 : Nat) (l1 : List Int) (a2 : Int) (r : List Int) (w : World) (hr0 : Kd.C (Kd.int .u32) w A0 l0.length l0) (hc0 : l0.length ≤ c0) (hr1 : Kd.C (Kd.int .u32) w A1 l1.length l1) (hc1 : l1.length ≤ c1) (h : modp_over.f k l0 l1 a2 = some r) :
   Calls Tryz.prog 62 #[.slice A0 l0.length c0, .slice A1 l1.length c1, .int .u32 a2] w fun e w' => ∃ v0_ : Value, e = .returned v0_ ∧ Kd.V (Kd.int .u32) 23 w' w.heap.size (fun k_ => (w.heap.size ≤ k_)) v0_ r ∧ Below w.heap.size w w' := by
 unfold modp_over.f at h
 obtain ⟨⟨q, r', c⟩, hd, he⟩ := Option.bind_eq_some_iff.1 h
 cases he
 have HD := am hd
 have HR0 := am hr0
 have HC0 := am hc0
 have HR1 := am hr1
 have HC1 := am hc1
 clear hd hr0 hc0 hr1 hc1 h
 go_enter Tryz.func62, Tryz.ntmps62
 go_wp2_with (go_at_call 15; refine (modp_DivMod.callsV k A0 c0 l0 A1 c1 l1 a2 _ r' c _ HR0.out HC0.out HR1.out HC1.out HD.out).mono ?_; rintro e1 w1 ⟨v0, v1, rfl, h0, h1, hb⟩; have H1 := am h0; have HB := am hb; clear h0 h1 hb)
 go_ret
 exact ⟨_, rfl, H1.out, HB.out⟩
def modp_Gcd.l0 : Nat → List Int → List Int → Int → Option (List Int)
 | 0, _, _, _ => none
 | k + 1, x0, x1, x2 => if (x1.length : Int) > 0 then ((modp_rest.f k x0 x1 x2).bind fun t => modp_Gcd.l0 k x1 t x2) else (modp_monic.f k x0 x2)
def modp_Gcd.f (k : Nat) (l0 l1 : List Int) (a2 : Int) : Option (List Int) := modp_Gcd.l0 k l0 l1 a2
theorem modp_Gcd.callsV (k : Nat) (A0 : Option Addr) (c0 : Nat) (l0 : List Int) (A1 : Option Addr) (c1 : Nat) (l1 : List Int) (a2 : Int) (r : List Int) (w : World) (hr0 : Kd.C (Kd.int .u32) w A0 l0.length l0) (hc0 : l0.length ≤ c0) (hr1 : Kd.C (Kd.int .u32) w A1 l1.length l1) (hc1 : l1.length ≤ c1) (h : modp_Gcd.f k l0 l1 a2 = some r) :
   Calls Tryz.prog 17 #[.slice A0 l0.length c0, .slice A1 l1.length c1, .int .u32 a2] w fun e w' => ∃ v0_ : Value, e = .returned v0_ ∧ Kd.V (Kd.int .u32) 23 w' w.heap.size (fun k_ => (w.heap.size ≤ k_)) v0_ r ∧ Below w.heap.size w w' := by
 have HR0 := am hr0
 have HC0 := am hc0
 have HR1 := am hr1
 have HC1 := am hc1
 have H := am (show modp_Gcd.l0 k l0 l1 a2 = some r from h)
 clear hr0 hc0 hr1 hc1 h
 go_enter Tryz.func17, Tryz.ntmps17
 go_wp2
 go_loopg [0, 1] k (fun kq v0 v1 w' => ∃ (A B : Option Addr) (cA cB : Nat) (xs ys : List Int), v0 = .slice A xs.length cA ∧ v1 = .slice B ys.length cB ∧ Aside0 (modp_Gcd.l0 kq xs ys a2 = some r) ∧ Aside0 (kq ≤ k) ∧ Aside0 (xs.length ≤ cA) ∧ Aside0 (Kd.C (Kd.int .u32) w' A xs.length xs) ∧ Aside0 (ys.length ≤ cB) ∧ Aside0 (Kd.C (Kd.int .u32) w' B ys.length ys) ∧ Aside0 (Below w.heap.size w w'))
 case atStart => exact ⟨A0, A1, c0, c1, l0, l1, rfl, rfl, H, ⟨Nat.le_refl _⟩, HC0, HR0, HC1, HR1, ⟨Below.refl _ _⟩⟩
 clear H
 obtain ⟨A, B, cA, cB, xs, ys, rfl, rfl, HA, HK1, HCA, HRA, HCB, HRB, HB⟩ := hrel
 rcases gk with _ | k1
 · exact absurd HA.out (by simp [modp_Gcd.l0])
 have H := HA.out
 clear HA
 simp only [modp_Gcd.l0] at H
 by_cases c1 : (ys.length : Int) > 0
 case neg =>
   rw [if_neg c1] at H
   have c1b0 : decide ((ys.length : Int) > 0) = false := decide_eq_false c1
   have c1b1 : decide (0 < ys.length) = false := decide_eq_false (by omega)
   clear c1
   have H' := am H
   clear H
   go_wp2_with (go_at_call 38; refine (modp_monic.calls k1 A cA xs a2 r _ HRA.out HCA.out H'.out).mono ?_; rintro e1 w1 ⟨v0, rfl, h0, hb⟩; have H0 := am (show Kd.V (Kd.int .u32) 23 w1 w.heap.size (fun k_ => (w.heap.size ≤ k_)) v0 r from Kd.V_mono h0 (fun k hk => Nat.le_trans HB.out.size hk)); have HB2 := am (below_step HB.out hb); clear h0 hb)
   go_ret
   exact ⟨_, rfl, H0.out, HB2.out⟩
 rw [if_pos c1] at H
 have c1b0 : decide ((ys.length : Int) > 0) = true := decide_eq_true c1
 have c1b1 : decide (0 < ys.length) = true := decide_eq_true (by omega)
 clear c1
 obtain ⟨t, ht, H2⟩ := Option.bind_eq_some_iff.1 H
 clear H
 have HT := am ht
 have H' := am H2
 clear ht H2
 go_wp2_with (go_at_call 45; refine (modp_rest.calls k1 A cA xs B cB ys a2 t _ HRA.out HCA.out HRB.out HCB.out HT.out).mono ?_; rintro e1 w1 ⟨v0, rfl, ⟨A2, c2, rfl, hc2, h2⟩, hb⟩; have HC2 := am hc2; have HR2 := am h2; have HRB2 := am (Kd.C_below HRB.out hb); have HB2 := am (below_step HB.out hb); clear hc2 h2 hb)
 go_roundg k1
 case measure => have := HK1.out; omega
 case rel => exact ⟨B, A2, cB, c2, ys, t, rfl, rfl, H', ⟨by have := HK1.out; omega⟩, HCB, HRB2, HC2, HR2, HB2⟩
theorem modp_Gcd.calls (k : Nat) (A0 : Option Addr) (c0 : Nat) (l0 : List Int) (A1 : Option Addr) (c1 : Nat) (l1 : List Int) (a2 : Int) (r : List Int) (w : World) (hr0 : Kd.C (Kd.int .u32) w A0 l0.length l0) (hc0 : l0.length ≤ c0) (hr1 : Kd.C (Kd.int .u32) w A1 l1.length l1) (hc1 : l1.length ≤ c1) (h : modp_Gcd.f k l0 l1 a2 = some r) :
   Calls Tryz.prog 17 #[.slice A0 l0.length c0, .slice A1 l1.length c1, .int .u32 a2] w fun e w' => ∃ v0_ : Value, e = .returned v0_ ∧ CV w' v0_ r ∧ Below w.heap.size w w' :=
 (modp_Gcd.callsV k A0 c0 l0 A1 c1 l1 a2 r w hr0 hc0 hr1 hc1 h).mono (fun _ _ ⟨v0, he, h0, hb⟩ => ⟨v0, he, CV_of h0, hb⟩)
theorem zip_at' {α : Type} {xs : List α} {j m : Nat} {p : α} (h : xs.zipIdx[j]? = some (p, m)) : m = j ∧ xs[j]? = some p := by
 rw [List.getElem?_zipIdx, Nat.zero_add] at h
 obtain ⟨x, hx, he⟩ := Option.map_eq_some_iff.1 h
 cases he
 exact ⟨rfl, hx⟩
theorem one_at {α : Type} {cs : List α} {j : Nat} {u : α} (h : cs[j]? = some u) : (cs.drop j).take 1 = [u] := by
 obtain ⟨hl, he⟩ := List.getElem?_eq_some_iff.1 h
 rw [List.drop_eq_getElem_cons hl, List.take_succ_cons, List.take_zero, he]
theorem S_swap {α : Type} {d : Kd α} {e base n cap g : Nat} {ok : Nat → Prop} {W : World} {xs : List α} (hs : d.sz = 1) (h : Kd.S d e W base ok (.slice (some ⟨g, 0, none⟩) n cap) xs) (z : α) (i j : Nat) (hi : i < n) (hj : j < n) {ui uj : Value}
   (hci : W.cell? ⟨g, i, none⟩ = some ui) (hcj : W.cell? ⟨g, j, none⟩ = some uj) :
   Kd.S d e ((W.setCell ⟨g, i, none⟩ uj).setCell ⟨g, j, none⟩ ui) base ok (.slice (some ⟨g, 0, none⟩) n cap) ((xs.set i (xs.getD j z)).set j (xs.getD i z)) ∧ W.grownBy ((W.setCell ⟨g, i, none⟩ uj).setCell ⟨g, j, none⟩ ui) (some g) := by
 have hn := (Kd.S_reads' h).1
 obtain ⟨f, h0, inner, ho, hr⟩ := h
 rw [List.length_zipIdx] at ho
 have hsz : (Kd.tag f d).sz = 1 := hs
 rw [hsz] at ho hr
 have hlen : inner.length = xs.length := by have := hr.1; rw [List.length_zipIdx, Nat.mul_one] at this; exact this
 have hcell : ∀ m (hm : m < n), W.cell? ⟨g, m, none⟩ = inner[m]? := by
   intro m hm
   have hl : m < inner.length := by omega
   rw [List.getElem?_eq_getElem hl]
   have := ho.cells (g := g) (by simp [Value.ownBlock]) m _ (List.getElem?_eq_getElem hl)
   rwa [add_plain] at this
 rw [hcell i hi] at hci
 rw [hcell j hj] at hcj
 rw [← hn] at ho
 have s1 := ho.stored i uj
 have s2 := s1.1.stored j ui
 have hg : W.grownBy ((W.setCell ⟨g, i, none⟩ uj).setCell ⟨g, j, none⟩ ui) (some g) := s1.2.trans s2.2
 refine ⟨⟨fun k => if f k = i then j else if f k = j then i else f k, h0, (inner.set i uj).set j ui, ?_, ?_, ?_⟩, hg⟩
 · rw [List.length_zipIdx, List.length_set, List.length_set]
   have : (Kd.tag (fun k => if f k = i then j else if f k = j then i else f k) d).sz = 1 := hs
   rw [this, ← hn]
   exact s2.1
 · have : (Kd.tag (fun k => if f k = i then j else if f k = j then i else f k) d).sz = 1 := hs
   rw [this, List.length_zipIdx, List.length_set, List.length_set, List.length_set, List.length_set, Nat.mul_one, hlen]
 · rintro m ⟨x, m'⟩ hp
   obtain ⟨rfl, hx⟩ := zip_at' hp
   have hsz' : (Kd.tag (fun k => if f k = i then j else if f k = j then i else f k) d).sz = 1 := hs
   rw [hsz', Nat.mul_one]
   have hm : m' < xs.length := by have := (List.getElem?_eq_some_iff.1 hx).1; rwa [List.length_set, List.length_set] at this
   -- from where this element comes
   have key : ∀ s : Nat, xs[s]? = some x → ((inner.set i uj).set j ui)[m']? = inner[s]? → (∀ k, f k = s → (if f k = i then j else if f k = j then i else f k) = m') →
       (Kd.tag (fun k => if f k = i then j else if f k = j then i else f k) d).M ((W.setCell ⟨g, i, none⟩ uj).setCell ⟨g, j, none⟩ ui) base (fun k => ok k ∧ some k ≠ (Value.slice (some ⟨g, 0, none⟩) n cap).ownBlock) (x, m') ((((inner.set i uj).set j ui).drop m').take 1) := by
     intro s hxs hin hf
     have h1 := hr.2 s _ (Kd.zip_at hxs)
     rw [Nat.mul_one] at h1
     have hls : s < inner.length := by rw [hlen]; exact (List.getElem?_eq_some_iff.1 hxs).1
     rw [one_at (List.getElem?_eq_getElem hls)] at h1
     rw [one_at (hin.trans (List.getElem?_eq_getElem hls))]
     have h2 : d.M W base (fun k => (ok k ∧ some k ≠ (Value.slice (some ⟨g, 0, none⟩) n cap).ownBlock) ∧ f k = s) x [inner[s]] := h1
     show d.M _ base (fun k => (ok k ∧ some k ≠ (Value.slice (some ⟨g, 0, none⟩) n cap).ownBlock) ∧ (if f k = i then j else if f k = j then i else f k) = m') x [inner[s]]
     refine d.M_mono (ok := fun k => ((ok k ∧ some k ≠ (Value.slice (some ⟨g, 0, none⟩) n cap).ownBlock) ∧ f k = s) ∧ base ≤ k ∧ k < W.heap.size ∧ ∃ q, q ∈ d.E ∧ ∃ cells, W.heap[k]? = some (.cells cells q (0, 0))) (fun k hk => ⟨hk.1.1, hf k hk.1.2⟩) ?_
     refine d.M_move (fun k hk => hg.block k hk.2.2.1 ?_) (d.M_bound h2)
     intro he
     exact hk.1.1.2 (by rw [he]; simp [Value.ownBlock])
   by_cases hmj : m' = j
   · subst hmj
     rw [List.getElem?_set_self (by rw [List.length_set]; exact hm)] at hx
     have hxi : xs[i]? = some x := by
       rw [List.getElem?_eq_getElem (by omega)]
       rw [List.getD_eq_getElem?_getD, List.getElem?_eq_getElem (by omega)] at hx
       exact hx
     refine key i hxi ?_ (fun k hk => by rw [if_pos hk])
     rw [List.getElem?_set_self (by rw [List.length_set]; omega), hci]
   rw [List.getElem?_set_ne (Ne.symm hmj)] at hx
   by_cases hmi : m' = i
   case neg =>
     rw [List.getElem?_set_ne (Ne.symm hmi)] at hx
     refine key m' hx ?_ (fun k hk => by rw [if_neg (by rw [hk]; exact hmi), if_neg (by rw [hk]; exact hmj), hk])
     rw [List.getElem?_set_ne (Ne.symm hmj), List.getElem?_set_ne (Ne.symm hmi)]
   subst hmi
   rw [List.getElem?_set_self hm] at hx
   have hxj : xs[j]? = some x := by
     rw [List.getElem?_eq_getElem (by omega)]
     rw [List.getD_eq_getElem?_getD, List.getElem?_eq_getElem (by omega)] at hx
     exact hx
   refine key j hxj ?_ (fun k hk => by rw [if_neg (by rw [hk]; exact Ne.symm hmj), if_pos hk])
   rw [List.getElem?_set_ne (Ne.symm hmj), List.getElem?_set_self (by omega), hcj]
theorem CV_put {w : World} {v : Value} {xs : List Int} (h : CV w v xs) {p : Addr} {u : Value} (hp : w.cell? p = some u) (hu : ∀ x, u ≠ .int .u32 x) (x : Value) : CV (w.setCell p x) v xs := by
 obtain ⟨A, c, rfl, hc, h1, h2, h3⟩ := h
 refine ⟨A, c, rfl, hc, h1, h2, fun hn => ?_⟩
 obtain ⟨ad, e, h4⟩ := h3 hn
 refine ⟨ad, e, fun j q hj => ?_⟩
 obtain ⟨cs, hcs, hK, hcell⟩ := h4 j q hj
 refine ⟨cs, hcs, hK, fun i y hy => ?_⟩
 have h5 := hcell i y hy
 have hne : ¬ (ad.add (j * (Kd.int .u32).sz + i)) = p := by
   intro he
   rw [he, hp] at h5
   injection h5 with h5
   have hK' : cs = [.int .u32 q] := hK
   rw [hK'] at hy
   cases i with
   | zero =>
     simp at hy
     exact hu q (h5.trans hy.symm)
   | succ i => simp at hy
 exact (World.cell?_setCell_other w p _ x (fun e_ => hne e_.symm)).trans h5
theorem at_K2 {w : World} {A : Option Addr} {n : Nat} {xs : List (List Int)} (h : Kd.C (Kd.slice 55 (Kd.int .u64)) w A n xs) (i : Int) (h0 : 0 ≤ i) (h1 : i < n) : ∃ ad A0 c0, A = some ad ∧ w.cell? (ad.add i.toNat) = some (.slice A0 (rd_L2 xs i).length c0) ∧ (rd_L2 xs i).length ≤ c0 ∧ (Kd.int .u64).C w A0 (rd_L2 xs i).length (rd_L2 xs i) := by
 obtain ⟨ad, c, e, _, hK, hc0⟩ := Kd.C_get h ([] : List Int) i h0 h1
 have hc : ∀ j u, c[j]? = some u → w.cell? (ad.add (i.toNat * 1 + j)) = some u := hc0
 obtain ⟨A0, c0, rfl, l0, g0⟩ := hK
 exact ⟨ad, A0, c0, e, by have hq := hc 0 _ rfl; rwa [Nat.mul_one, Nat.add_zero] at hq, l0, g0⟩
end Go.Proofs.YtjbcnppbcomaiaaGreatDoor.Q
namespace Go.Proofs.YtjbcnppbcomaiaaGreatDoor.Q
open Go.RowKit Go.Proofs.YtjbcnppbcomaiaaGreatDoorW.PrintWords Go.Proofs.YtjbcnppbcomaiaaGreatDoorW.PrintLast Go.Proofs.YtjbcnppbcomaiaaGreatDoorW.PrintMore
attribute [local go_sem] max2_int min2_int max_two min_two max_three min_three max_four min_four   -- for this text's walks alone
set_option linter.unusedVariables false
set_option linter.unusedSimpArgs false
def modp_PowMod.l0 : Nat → List Int → List Int → List Int → Int → Int → List Int → Int → Option (List Int × Int)
 | 0, _, _, _, _, _, _, _ => none
 | k + 1, x0, x1, x8, x25, x26, x159000, x159001 => if x26 < x25 then ((nat_Bit.f x1 x26).bind fun t166 => (if t166 = 1 then ((modp_Mul.f k x8 x0 x159001).bind fun t167 => ((modp_rest.f k t167 x159000 x159001).bind fun t170 => ((modp_Mul.f k x0 x0 x159001).bind fun t173 => ((modp_rest.f k t173 x159000 x159001).bind fun t176 => (modp_PowMod.l0 k t176 x1 t170 x25 (wrap64 (x26 + 1)) x159000 x159001))))) else ((modp_Mul.f k x0 x0 x159001).bind fun t179 => ((modp_rest.f k t179 x159000 x159001).bind fun t182 => (modp_PowMod.l0 k t182 x1 x8 x25 (wrap64 (x26 + 1)) x159000 x159001))))) else (some (x8, 0))
def modp_PowMod.f (k : Nat) (l0 : List Int) (l1 : List Int) (l2_0 : List Int) (a2_1 : Int) : Option (List Int × Int) := if (l2_0.length : Int) = 0 then (some (([] : List Int), 3)) else (if (l2_0.length : Int) = 1 then (some (([] : List Int), 1)) else ((modp_rest.f k l0 l2_0 a2_1).bind fun t162 => ((nat_Bits.f l1).bind fun t165 => (modp_PowMod.l0 k t162 l1 (([1] : List Int)) t165 0 l2_0 a2_1))))
def modp_PowMod.T11 : Bool × List (List Nat × List Nat) := (true, [([], []), ([], []), ([], []), ([2], [2]), ([0, 1, 3], [0, 1, 3]), ([], []), ([5], [5]), ([], []), ([7], [7]), ([4, 6, 8, 4], [4, 6, 8]), ([9, 9, 0, 1, 2, 3, 4, 5, 6, 7, 8, 9], [0, 9])])
def modp_PowMod.B11 : List Nat := [0, 0, 0, 4, 15, 0, 32, 0, 128, 511, 1023]
theorem modp_PowMod.tab11 : rtab .any (opsOf Tryz.f16 11) = modp_PowMod.T11 := by kernel_rfl
theorem modp_PowMod.bits11 : waitsOk modp_PowMod.T11.2 modp_PowMod.B11 = true := by kernel_rfl
def modp_PowMod.T12 : Bool × List (List Nat × List Nat) := (true, [([], []), ([], []), ([], []), ([2], [2]), ([0, 1, 3], [0, 1, 3]), ([], []), ([5], [5]), ([], []), ([7], [7]), ([4, 6, 8, 4], [4, 6, 8]), ([9, 9, 0, 1, 2, 3, 4, 5, 6, 7, 8, 9], [0, 1, 9])])
def modp_PowMod.B12 : List Nat := [0, 0, 0, 4, 15, 0, 32, 0, 128, 511, 1023]
theorem modp_PowMod.tab12 : rtab .any (opsOf Tryz.f16 12) = modp_PowMod.T12 := by kernel_rfl
theorem modp_PowMod.bits12 : waitsOk modp_PowMod.T12.2 modp_PowMod.B12 = true := by kernel_rfl
theorem modp_PowMod.calls (k : Nat) (A0 : Option Addr) (c0 : Nat) (l0 : List Int) (A1 : Option Addr) (c1 : Nat) (l1 : List Int) (A2_0 : Option Addr) (c2_0 : Nat) (l2_0 : List Int) (a2_1 : Int) (r1 : List Int) (r2 : Int) (w : World) (hr0 : Kd.C (Kd.int .u32) w A0 l0.length l0) (hc0 : l0.length ≤ c0) (hr1 : Kd.C (Kd.int .u32) w A1 l1.length l1) (hc1 : l1.length ≤ c1) (hr2_0 : Kd.C (Kd.int .u32) w A2_0 l2_0.length l2_0) (hc2_0 : l2_0.length ≤ c2_0) (h : modp_PowMod.f k l0 l1 l2_0 a2_1 = some (r1, r2)) :
   Calls Tryz.prog 16 #[.slice A0 l0.length c0, .slice A1 l1.length c1, .agg #[.slice A2_0 l2_0.length c2_0, .int .u32 a2_1]] w fun e w' => ∃ v0_ : Value, e = .returned (.tuple #[v0_, .int .i64 r2]) ∧ CV w' v0_ r1 ∧ Below w.heap.size w w' := by
 have hu42 := Tryz.underlying43
 have HS : Aside0 (LR w w [(.slice A0 l0.length c0, .u l0), (.slice A1 l1.length c1, .u l1), (.slice A2_0 l2_0.length c2_0, .u l2_0)]) := ⟨⟨Below.refl _ _, fun x hx => by
   simp only [List.mem_cons, List.not_mem_nil, or_false] at hx
   rcases hx with rfl | rfl | rfl
   · exact ⟨_, _, rfl, hc0, hr0⟩
   · exact ⟨_, _, rfl, hc1, hr1⟩
   · exact ⟨_, _, rfl, hc2_0, hr2_0⟩⟩⟩
 clear hr0 hc0 hr1 hc1 hr2_0 hc2_0
 unfold modp_PowMod.f at h
 by_cases c4 : (l2_0.length : Int) = 0
 · rw [if_pos c4] at h
   have c4b : ((l2_0.length : Int) == 0) = true := beq_iff_eq.mpr c4
   simp only [Option.some.injEq, Prod.mk.injEq] at h
   obtain ⟨rfl, rfl⟩ := h
   go_enter Tryz.func16, Tryz.ntmps16
   go_wp2_with (first | ((with_reducible refine gate_dst (N := 5) rfl ?_); refine LR.box HS.out #[.slice A2_0 l2_0.length c2_0, .int .u32 a2_1] 43 rF (N := 5) rF gF ?_; intro g5 w5 hs_; replace HS := am hs_; clear hs_; (try clear hz0); have hz0 := HS.out.cell 0 _ _ _ rfl 0 _ rfl))
   go_ret2
   exact ⟨_, rfl, CV_nil _, HS.out.b⟩
 rw [if_neg c4] at h
 have c4b : ((l2_0.length : Int) == 0) = false := beq_eq_false_iff_ne.mpr c4
 have c4c : ¬ (l2_0 = []) := fun h_ => c4 (by rw [h_]; rfl)
 by_cases c7 : (l2_0.length : Int) = 1
 · rw [if_pos c7] at h
   have c7b : ((l2_0.length : Int) == 1) = true := beq_iff_eq.mpr c7
   simp only [Option.some.injEq, Prod.mk.injEq] at h
   obtain ⟨rfl, rfl⟩ := h
   go_enter Tryz.func16, Tryz.ntmps16
   go_wp2_with (first | ((with_reducible refine gate_dst (N := 5) rfl ?_); refine LR.box HS.out #[.slice A2_0 l2_0.length c2_0, .int .u32 a2_1] 43 rF (N := 5) rF gF ?_; intro g5 w5 hs_; replace HS := am hs_; clear hs_; (try clear hz0); have hz0 := HS.out.cell 0 _ _ _ rfl 0 _ rfl))
   go_ret2
   exact ⟨_, rfl, CV_nil _, HS.out.b⟩
 rw [if_neg c7] at h
 have c7b : ((l2_0.length : Int) == 1) = false := beq_eq_false_iff_ne.mpr c7
 obtain ⟨b0, hb0, h⟩ := Option.bind_eq_some_iff.1 h
 obtain ⟨n, hn, h⟩ := Option.bind_eq_some_iff.1 h
 have HB0 := am hb0
 have HN := am hn
 have H' := am h
 clear hb0 hn h
 go_enter Tryz.func16, Tryz.ntmps16
 go_wp2_with (first | ((with_reducible refine gate_dst (N := 5) rfl ?_); refine LR.box HS.out #[.slice A2_0 l2_0.length c2_0, .int .u32 a2_1] 43 rF (N := 5) rF gF ?_; intro g5 w5 hs_; replace HS := am hs_; clear hs_; (try clear hz0); have hz0 := HS.out.cell 0 _ _ _ rfl 0 _ rfl; (try clear hz1); have hz1 := HS.out.cell 0 _ _ _ rfl 1 _ rfl) | ((with_reducible refine gate_dst (N := 17) rfl ?_); refine LR.lit HS.out [1] 1 rfl (by decide) rF (N := 17) rF gF ?_; intro A17 w17 hs_; replace HS := am hs_; clear hs_; (try clear hz0); have hz0 := HS.out.cell 1 _ _ _ rfl 0 _ rfl; (try clear hz1); have hz1 := HS.out.cell 1 _ _ _ rfl 1 _ rfl) | ((with_reducible refine gate_callee (f := 45) rfl ?_); refine goesA (some 23) Tryz.func45 #[.slice A0 l0.length c0, .slice A2_0 l2_0.length c2_0, .int .u32 a2_1] ?_; (with_reducible refine (LR.gC HS.out (modp_rest.calls k A0 c0 l0 A2_0 c2_0 l2_0 a2_1 b0 _ (HS.out.atU 2 _ _ rfl).C.2.2 (HS.out.atU 2 _ _ rfl).C.2.1 (HS.out.atU 4 _ _ rfl).C.2.2 (HS.out.atU 4 _ _ rfl).C.2.1 HB0.out)).mono ?_); rintro e w23 ⟨B23, c23, rfl, hs_⟩; refine ⟨_, rfl, ?_⟩; replace HS := am hs_; clear hs_) | ((with_reducible refine gate_callee (f := 46) rfl ?_); refine goesA (some 25) Tryz.func46 #[.slice A1 l1.length c1] ?_; (with_reducible refine (nat_Bits.calls A1 c1 l1 n _ (HS.out.atU 4 _ _ rfl).C.2.2 (HS.out.atU 4 _ _ rfl).C.2.1 HN.out).mono ?_); rintro e w25 ⟨rfl, hd_⟩; refine ⟨_, rfl, ?_⟩; have hs_ := HS.out.drawn hd_; clear hd_; replace HS := am hs_; clear hs_))
 go_loopg [0, 8, 26] k (fun kq v0 v8 v26 w' => ∃ (x0 x8 : List Int) (x26 : Int) (P0 P8 : Option Addr) (q0 q8 : Nat), v0 = .slice P0 x0.length q0 ∧ v8 = .slice P8 x8.length q8 ∧ v26 = .int .i64 x26 ∧ Aside0 (modp_PowMod.l0 kq x0 l1 x8 n x26 l2_0 a2_1 = some (r1, r2)) ∧ Aside0 (kq ≤ k) ∧ Aside0 (LR w w' [(.slice P0 x0.length q0, .u x0), (.slice P8 x8.length q8, .u x8), (.pointer (some ⟨g5, 0, none⟩), .b #[.slice A2_0 l2_0.length c2_0, .int .u32 a2_1] 43), (.slice A1 l1.length c1, .u l1), (.slice A2_0 l2_0.length c2_0, .u l2_0)]))
 case atStart => exact ⟨b0, [1], 0, B23, A17, c23, 1, rfl, rfl, rfl, H', ⟨Nat.le_refl _⟩, ⟨HS.out.sub (by intro x hx; simp only [List.mem_cons, List.not_mem_nil, or_false] at hx ⊢; rcases hx with rfl | rfl | rfl | rfl | rfl <;> simp)⟩⟩
 clear H' HS c4 c4b c4c c7 c7b HB0
 obtain ⟨x0, x8, x26, P0, P8, q0, q8, rfl, rfl, rfl, HA, HK1, HS⟩ := hrel
 rcases gk with _ | k1
 · exact absurd HA.out (by simp [modp_PowMod.l0])
 have H := HA.out
 clear HA
 simp only [modp_PowMod.l0] at H
 by_cases e0 : x26 < n
 case neg =>
   rw [if_neg e0] at H
   simp only [Option.some.injEq, Prod.mk.injEq] at H
   obtain ⟨rfl, rfl⟩ := H
   have e0b : decide (x26 < n) = false := decide_eq_false e0
   go_wp2
   go_ret2
   exact ⟨_, rfl, HS.out.atU 1 _ _ rfl, HS.out.b⟩
 rw [if_pos e0] at H
 have e0b : decide (x26 < n) = true := decide_eq_true e0
 obtain ⟨t, ht, H⟩ := Option.bind_eq_some_iff.1 H
 have HT := am ht
 clear ht e0
 by_cases e1 : t = 1
 case neg =>
   rw [if_neg e1] at H
   have e1b : (t == 1) = false := beq_eq_false_iff_ne.mpr e1
   clear e1
   obtain ⟨m2, hm2, H⟩ := Option.bind_eq_some_iff.1 H
   obtain ⟨r0, hr0, H⟩ := Option.bind_eq_some_iff.1 H
   have HM2 := am hm2
   have HR2 := am hr0
   have H' := am H
   clear hm2 hr0 H
   go_wp2_with (first | ((with_reducible refine gate_callee (f := 47) rfl ?_); refine goesA (some 31) Tryz.func47 #[.slice A1 l1.length c1, .int .i64 x26] ?_; (with_reducible refine (nat_Bit.calls A1 c1 l1 x26 _ _ (HS.out.atU 3 _ _ rfl).C.2.2 (HS.out.atU 3 _ _ rfl).C.2.1 HT.out).mono ?_); rintro e w31 ⟨rfl, hd_⟩; refine ⟨_, rfl, ?_⟩; have hs_ := HS.out.drawn hd_; clear hd_; replace HS := am hs_; clear hs_))
   have HS := am (HS.out.below (below_drew1 (Below.refl _ _)))
   refine start_ (n := 11) (S := fun w' => w'.cell? ⟨g5, 0, none⟩ = some (.slice A2_0 l2_0.length c2_0) ∧ w'.cell? ⟨g5, 1, none⟩ = some (.int .u32 a2_1)) (ds := []) (bm 11 0) (by kernel_rfl) rfl rfl (⟨HS.out.cell 2 _ _ _ rfl 0 _ rfl, HS.out.cell 2 _ _ _ rfl 1 _ rfl⟩) (fun hHeld => ?_); refine with_tabW modp_PowMod.tab12 modp_PowMod.bits12 (fun HT_ HW_ => ?_)
   generalize w31.drew = wd12 at HS hHeld ⊢
   refine pureB (N := some 43) 0 (bm 11 1) ?_
   refine pureB (N := some 44) 1 (bm 11 3) ?_
   refine pureB (N := some 45) 2 (bm 11 7) ?_
   refine pureB (N := some 48) 5 (bm 11 39) ?_
   refine pureB (N := some 50) 7 (bm 11 167) ?_
   refine takeB2 (N := some 46) 3 (bm 11 175) hHeld ?_
   refine takeB2 (N := some 49) 6 (bm 11 239) hHeld ?_
   refine takeB2 (N := some 51) 8 (bm 11 495) hHeld ?_
   refine one_ (i := 4) (N := some 47) (bm 11 511) rfl rfl (one_of HT_.out (by kernel_rfl)) (by decide) (fun K hK => ?_)
   refine goes_ Tryz.func13 (by kernel_rfl) rfl #[.slice P0 x0.length q0, .slice P0 x0.length q0, .int .u32 a2_1] (by rfl) rfl rfl aM ?_
   (with_reducible refine (LR.gV HS.out (modp_Mul.calls k1 P0 q0 _ P0 q0 _ a2_1 m2 _ (HS.out.atU 0 _ _ rfl).C.2.2 (HS.out.atU 0 _ _ rfl).C.2.1 (HS.out.atU 0 _ _ rfl).C.2.2 (HS.out.atU 0 _ _ rfl).C.2.1 HM2.out)).mono ?_)
   rintro e w47 ⟨B47, c47, rfl, hs_⟩
   refine ⟨_, rfl, ?_⟩
   replace HS := am hs_
   clear hs_
   refine hK.out _ _ (⟨HS.out.cell 3 _ _ _ rfl 0 _ rfl, HS.out.cell 3 _ _ _ rfl 1 _ rfl⟩) (fun hHeld => ?_)
   clear hK K
   refine norm_ (a' := ?_) ?_ ?_
   rotate_left
   · show Act.put _ (some 47) _ = _; exact actp
   refine one_ (i := 9) (N := some 52) (bm 11 1023) rfl rfl (one_of HT_.out (by kernel_rfl)) (by decide) (fun K hK => ?_)
   refine goes_ Tryz.func45 (by kernel_rfl) rfl #[.slice B47 m2.length c47, .slice A2_0 l2_0.length c2_0, .int .u32 a2_1] (by rfl) rfl rfl aM ?_
   (with_reducible refine (LR.gC HS.out (modp_rest.calls k1 B47 c47 _ A2_0 c2_0 _ a2_1 r0 _ (HS.out.atU 0 _ _ rfl).C.2.2 (HS.out.atU 0 _ _ rfl).C.2.1 (HS.out.atU 5 _ _ rfl).C.2.2 (HS.out.atU 5 _ _ rfl).C.2.1 HR2.out)).mono ?_)
   rintro e w52 ⟨B52, c52, rfl, hs_⟩
   refine ⟨_, rfl, ?_⟩
   replace HS := am hs_
   clear hs_
   refine hK.out _ _ (⟨HS.out.cell 4 _ _ _ rfl 0 _ rfl, HS.out.cell 4 _ _ _ rfl 1 _ rfl⟩) (fun hHeld => ?_)
   clear hK K
   refine norm_ (a' := ?_) ?_ ?_
   rotate_left
   · show Act.put _ (some 52) _ = _; exact actp
   refine pureB (N := some 0) 10 (bm 11 2047) ?_
   refine done_ (done_of HT_.out (by kernel_rfl)) ?_
   clear HT_ HW_ hHeld
   go_wp2
   go_roundg k1
   case measure => have := HK1.out; omega
   case rel => exact ⟨r0, x8, (wrap64 (x26 + 1)), B52, P8, c52, q8, rfl, rfl, rfl, H', ⟨by have := HK1.out; omega⟩, ⟨HS.out.sub (by intro x hx; simp only [List.mem_cons, List.not_mem_nil, or_false] at hx ⊢; rcases hx with rfl | rfl | rfl | rfl | rfl <;> simp)⟩⟩
 rw [if_pos e1] at H
 subst e1
 obtain ⟨m1, hm1, H⟩ := Option.bind_eq_some_iff.1 H
 obtain ⟨r8, hr8, H⟩ := Option.bind_eq_some_iff.1 H
 obtain ⟨m2, hm2, H⟩ := Option.bind_eq_some_iff.1 H
 obtain ⟨r0, hr0, H⟩ := Option.bind_eq_some_iff.1 H
 have HM := am hm1
 have HR := am hr8
 have HM2 := am hm2
 have HR2 := am hr0
 have H' := am H
 clear hm1 hr8 hm2 hr0 H
 go_wp2_with (first | ((with_reducible refine gate_callee (f := 47) rfl ?_); refine goesA (some 31) Tryz.func47 #[.slice A1 l1.length c1, .int .i64 x26] ?_; (with_reducible refine (nat_Bit.calls A1 c1 l1 x26 _ _ (HS.out.atU 3 _ _ rfl).C.2.2 (HS.out.atU 3 _ _ rfl).C.2.1 HT.out).mono ?_); rintro e w31 ⟨rfl, hd_⟩; refine ⟨_, rfl, ?_⟩; have hs_ := HS.out.drawn hd_; clear hd_; replace HS := am hs_; clear hs_))
 have HS := am (HS.out.below (below_drew1 (Below.refl _ _)))
 refine start_ (n := 11) (S := fun w' => w'.cell? ⟨g5, 0, none⟩ = some (.slice A2_0 l2_0.length c2_0) ∧ w'.cell? ⟨g5, 1, none⟩ = some (.int .u32 a2_1)) (ds := []) (bm 11 0) (by kernel_rfl) rfl rfl (⟨HS.out.cell 2 _ _ _ rfl 0 _ rfl, HS.out.cell 2 _ _ _ rfl 1 _ rfl⟩) (fun hHeld => ?_); refine with_tabW modp_PowMod.tab11 modp_PowMod.bits11 (fun HT_ HW_ => ?_)
 generalize w31.drew = wd11 at HS hHeld ⊢
 refine pureB (N := some 33) 0 (bm 11 1) ?_
 refine pureB (N := some 34) 1 (bm 11 3) ?_
 refine pureB (N := some 35) 2 (bm 11 7) ?_
 refine pureB (N := some 38) 5 (bm 11 39) ?_
 refine pureB (N := some 40) 7 (bm 11 167) ?_
 refine takeB2 (N := some 36) 3 (bm 11 175) hHeld ?_
 refine takeB2 (N := some 39) 6 (bm 11 239) hHeld ?_
 refine takeB2 (N := some 41) 8 (bm 11 495) hHeld ?_
 refine one_ (i := 4) (N := some 37) (bm 11 511) rfl rfl (one_of HT_.out (by kernel_rfl)) (by decide) (fun K hK => ?_)
 refine goes_ Tryz.func13 (by kernel_rfl) rfl #[.slice P8 x8.length q8, .slice P0 x0.length q0, .int .u32 a2_1] (by rfl) rfl rfl aM ?_
 (with_reducible refine (LR.gV HS.out (modp_Mul.calls k1 P8 q8 _ P0 q0 _ a2_1 m1 _ (HS.out.atU 1 _ _ rfl).C.2.2 (HS.out.atU 1 _ _ rfl).C.2.1 (HS.out.atU 0 _ _ rfl).C.2.2 (HS.out.atU 0 _ _ rfl).C.2.1 HM.out)).mono ?_)
 rintro e w37 ⟨B37, c37, rfl, hs_⟩
 refine ⟨_, rfl, ?_⟩
 replace HS := am hs_
 clear hs_
 refine hK.out _ _ (⟨HS.out.cell 3 _ _ _ rfl 0 _ rfl, HS.out.cell 3 _ _ _ rfl 1 _ rfl⟩) (fun hHeld => ?_)
 clear hK K
 refine norm_ (a' := ?_) ?_ ?_
 rotate_left
 · show Act.put _ (some 37) _ = _; exact actp
 refine one_ (i := 9) (N := some 42) (bm 11 1023) rfl rfl (one_of HT_.out (by kernel_rfl)) (by decide) (fun K hK => ?_)
 refine goes_ Tryz.func45 (by kernel_rfl) rfl #[.slice B37 m1.length c37, .slice A2_0 l2_0.length c2_0, .int .u32 a2_1] (by rfl) rfl rfl aM ?_
 (with_reducible refine (LR.gC HS.out (modp_rest.calls k1 B37 c37 _ A2_0 c2_0 _ a2_1 r8 _ (HS.out.atU 0 _ _ rfl).C.2.2 (HS.out.atU 0 _ _ rfl).C.2.1 (HS.out.atU 5 _ _ rfl).C.2.2 (HS.out.atU 5 _ _ rfl).C.2.1 HR.out)).mono ?_)
 rintro e w42 ⟨B42, c42, rfl, hs_⟩
 refine ⟨_, rfl, ?_⟩
 replace HS := am hs_
 clear hs_
 refine hK.out _ _ (⟨HS.out.cell 4 _ _ _ rfl 0 _ rfl, HS.out.cell 4 _ _ _ rfl 1 _ rfl⟩) (fun hHeld => ?_)
 clear hK K
 refine norm_ (a' := ?_) ?_ ?_
 rotate_left
 · show Act.put _ (some 42) _ = _; exact actp
 refine pureB (N := some 8) 10 (bm 11 2047) ?_
 refine done_ (done_of HT_.out (by kernel_rfl)) ?_
 clear HT_ HW_ hHeld
 go_wp2
 have HS := am (HS.out.below (below_drew1 (Below.refl _ _)))
 refine start_ (n := 11) (S := fun w' => w'.cell? ⟨g5, 0, none⟩ = some (.slice A2_0 l2_0.length c2_0) ∧ w'.cell? ⟨g5, 1, none⟩ = some (.int .u32 a2_1)) (ds := []) (bm 11 0) (by kernel_rfl) rfl rfl (⟨HS.out.cell 4 _ _ _ rfl 0 _ rfl, HS.out.cell 4 _ _ _ rfl 1 _ rfl⟩) (fun hHeld => ?_); refine with_tabW modp_PowMod.tab12 modp_PowMod.bits12 (fun HT_ HW_ => ?_)
 generalize w42.drew = wd12 at HS hHeld ⊢
 refine pureB (N := some 43) 0 (bm 11 1) ?_
 refine pureB (N := some 44) 1 (bm 11 3) ?_
 refine pureB (N := some 45) 2 (bm 11 7) ?_
 refine pureB (N := some 48) 5 (bm 11 39) ?_
 refine pureB (N := some 50) 7 (bm 11 167) ?_
 refine takeB2 (N := some 46) 3 (bm 11 175) hHeld ?_
 refine takeB2 (N := some 49) 6 (bm 11 239) hHeld ?_
 refine takeB2 (N := some 51) 8 (bm 11 495) hHeld ?_
 refine one_ (i := 4) (N := some 47) (bm 11 511) rfl rfl (one_of HT_.out (by kernel_rfl)) (by decide) (fun K hK => ?_)
 refine goes_ Tryz.func13 (by kernel_rfl) rfl #[.slice P0 x0.length q0, .slice P0 x0.length q0, .int .u32 a2_1] (by rfl) rfl rfl aM ?_
 (with_reducible refine (LR.gV HS.out (modp_Mul.calls k1 P0 q0 _ P0 q0 _ a2_1 m2 _ (HS.out.atU 2 _ _ rfl).C.2.2 (HS.out.atU 2 _ _ rfl).C.2.1 (HS.out.atU 2 _ _ rfl).C.2.2 (HS.out.atU 2 _ _ rfl).C.2.1 HM2.out)).mono ?_)
 rintro e w47 ⟨B47, c47, rfl, hs_⟩
 refine ⟨_, rfl, ?_⟩
 replace HS := am hs_
 clear hs_
 refine hK.out _ _ (⟨HS.out.cell 5 _ _ _ rfl 0 _ rfl, HS.out.cell 5 _ _ _ rfl 1 _ rfl⟩) (fun hHeld => ?_)
 clear hK K
 refine norm_ (a' := ?_) ?_ ?_
 rotate_left
 · show Act.put _ (some 47) _ = _; exact actp
 refine one_ (i := 9) (N := some 52) (bm 11 1023) rfl rfl (one_of HT_.out (by kernel_rfl)) (by decide) (fun K hK => ?_)
 refine goes_ Tryz.func45 (by kernel_rfl) rfl #[.slice B47 m2.length c47, .slice A2_0 l2_0.length c2_0, .int .u32 a2_1] (by rfl) rfl rfl aM ?_
 (with_reducible refine (LR.gC HS.out (modp_rest.calls k1 B47 c47 _ A2_0 c2_0 _ a2_1 r0 _ (HS.out.atU 0 _ _ rfl).C.2.2 (HS.out.atU 0 _ _ rfl).C.2.1 (HS.out.atU 7 _ _ rfl).C.2.2 (HS.out.atU 7 _ _ rfl).C.2.1 HR2.out)).mono ?_)
 rintro e w52 ⟨B52, c52, rfl, hs_⟩
 refine ⟨_, rfl, ?_⟩
 replace HS := am hs_
 clear hs_
 refine hK.out _ _ (⟨HS.out.cell 6 _ _ _ rfl 0 _ rfl, HS.out.cell 6 _ _ _ rfl 1 _ rfl⟩) (fun hHeld => ?_)
 clear hK K
 refine norm_ (a' := ?_) ?_ ?_
 rotate_left
 · show Act.put _ (some 52) _ = _; exact actp
 refine pureB (N := some 0) 10 (bm 11 2047) ?_
 refine done_ (done_of HT_.out (by kernel_rfl)) ?_
 clear HT_ HW_ hHeld
 go_wp2
 go_roundg k1
 case measure => have := HK1.out; omega
 case rel => exact ⟨r0, r8, (wrap64 (x26 + 1)), B52, B42, c52, c42, rfl, rfl, rfl, H', ⟨by have := HK1.out; omega⟩, ⟨HS.out.sub (by intro x hx; simp only [List.mem_cons, List.not_mem_nil, or_false] at hx ⊢; rcases hx with rfl | rfl | rfl | rfl | rfl <;> simp)⟩⟩
def modp_up.f (k : Nat) (l0 : List Int) (a1 : Int) (l2 : List Int) (a3 : Int) : Option (List Int) := (nat_Of.f k (IntKind.u64.wrap (a1))).bind fun t200 => ((modp_PowMod.f k l0 t200 l2 a3).bind fun bt203 => (some bt203.1))
theorem modp_up.calls (k : Nat) (A0 : Option Addr) (c0 : Nat) (l0 : List Int) (a1 : Int) (A2 : Option Addr) (c2 : Nat) (l2 : List Int) (a3 : Int) (r : List Int) (w : World) (hr0 : Kd.C (Kd.int .u32) w A0 l0.length l0) (hc0 : l0.length ≤ c0) (hr2 : Kd.C (Kd.int .u32) w A2 l2.length l2) (hc2 : l2.length ≤ c2) (h : modp_up.f k l0 a1 l2 a3 = some r) :
   Calls Tryz.prog 134 #[.slice A0 l0.length c0, .int .u32 a1, .slice A2 l2.length c2, .int .u32 a3] w fun e w' => ∃ v0_ : Value, e = .returned (v0_) ∧ CV w' v0_ r ∧ Below w.heap.size w w' := by
 have hu42 := Tryz.underlying43
 have HR0 := am hr0
 have HC0 := am hc0
 clear hr0 hc0
 have HR2 := am hr2
 have HC2 := am hc2
 clear hr2 hc2
 have HB := am (Below.refl w.heap.size w)
 have H := h; unfold modp_up.f at H
 clear h
 obtain ⟨t200, A50, H⟩ := Option.bind_eq_some_iff.mp H
 try dsimp only at H
 have A5 := am A50
 clear A50
 obtain ⟨⟨t203, t206⟩, A60, H⟩ := Option.bind_eq_some_iff.mp H
 replace H : (some t203) = some r := H
 have A6 := am A60
 clear A60
 obtain rfl := Option.some.inj H
 go_enter Tryz.func134, Tryz.ntmps134
 go_wp2_with (first | ((with_reducible refine gate_callee (f := 53) rfl ?_); refine goesA (some 15) Tryz.func53 #[.int .u64 (IntKind.u64.wrap (a1))] ?_; (with_reducible refine (nat_Of.calls k (IntKind.u64.wrap (a1)) t200 _ A5.out).mono ?_); rintro e w7 ⟨v201, rfl, ho0, hb⟩; replace ho0 := CV_of (Kd.R_V (base' := w.heap.size) ho0); refine ⟨_, rfl, ?_⟩; have n0_ := am (ho0); have n1_ := am (below_step bB hb); clear HB; have HO202 := n0_; have HB := n1_; clear n0_ n1_; (try clear hb); (try clear hb2); (try clear hk); (try clear hi); (try clear ho0); obtain ⟨Ao8, co8, eo8⟩ := CV_slice HO202.out; subst eo8) | ((with_reducible refine gate_callee (f := 16) rfl ?_); refine goesA (some 19) Tryz.func16 #[.slice A0 l0.length c0, .slice Ao8 t200.length co8, .agg #[.slice A2 l2.length c2, .int .u32 a3]] ?_; (with_reducible refine (modp_PowMod.calls k _ _ l0 _ _ t200 _ _ l2 a3 t203 t206 _ ?side1 ?side2 ?side3 ?side4 ?side5 ?side6 A6.out).mono ?_); (case side1 => exact kC2 ((Kd.C_below HR0.out HB.out))); (case side2 => exact HC0.out); (case side3 => exact kC2 ((CV_reads' HO202.out).2.2)); (case side4 => exact (CV_reads' HO202.out).2.1); (case side5 => exact kC2 ((Kd.C_below HR2.out HB.out))); (case side6 => exact HC2.out); rintro e w9 ⟨v204, rfl, ho0, hb⟩; refine ⟨_, rfl, ?_⟩; have n0_ := am ((CV_below (rC HO202.out) hb)); have n1_ := am ((ho0)); have n2_ := am (below_step bB hb); clear HO202; clear HB; have HO202 := n0_; have HO205 := n1_; have HB := n2_; clear n0_ n1_ n2_; (try clear hb); (try clear hb2); (try clear hk); (try clear hi); (try clear ho0)))
 go_ret
 exact ⟨_, eqR, (rC HO205.out), bB⟩
theorem info27 : (Tryz.prog.info? 27).map (fun i => (i.zero, i.size, i.bytes)) = some (some (.slice none 0 0), 1, 24) := by kernel_rfl
theorem info62 : (Tryz.prog.info? 62).map (fun i => (i.zero, i.size, i.bytes)) = some (some (.slice none 0 0), 1, 24) := by kernel_rfl
def modp_swapx.f (k : Nat) (x : List (List Int)) (i j : Int) : Option (List (List Int)) := if 0 ≤ i ∧ i < (x.length : Int) ∧ 0 ≤ j ∧ j < (x.length : Int) then some ((x.set i.toNat (rd_L2 x j)).set j.toNat (rd_L2 x i)) else none
theorem swapx_bounds {k : Nat} {x t : List (List Int)} {i j : Int} (h : modp_swapx.f k x i j = some t) : 0 ≤ i ∧ i < (x.length : Int) ∧ 0 ≤ j ∧ j < (x.length : Int) := by
 unfold modp_swapx.f at h
 split at h
 · assumption
 · cases h
theorem swapx_eq {k : Nat} {x t : List (List Int)} {i j : Int} (h : modp_swapx.f k x i j = some t) : (x.set i.toNat (x.getD j.toNat [])).set j.toNat (x.getD i.toNat []) = t := by
 unfold modp_swapx.f at h
 split at h
 · exact Option.some.inj h
 · cases h
theorem CV_puts {w w1 : World} {v : Value} {xs : List Int} {p : Addr} {u x : Value} (hw : w1 = w.setCell p x) (h : CV w v xs) (hp : w.cell? p = some u) (hu : ∀ y, u ≠ .int .u32 y) : CV w1 v xs := by rw [hw]; exact CV_put h hp hu x
mutual
def modp_ktail.l0 : Nat → Int → List (List Int) → List (List Int) → Int → Int → Option ((List (List Int)))
 | 0, _, _, _, _, _ => none
 | k + 1, x5, x21, x234, x235, x236 => if x236 < x235 then (if 0 ≤ x236 then (if x236 < (x234.length : Int) then (if 0 ≤ x5 then (if (x5 : Int).toNat ≤ 70368744177664 then (if x5 ≤ ((rd_L2 x234 x236).length : Int) then (modp_ktail.l1 k x5 x21 (List.replicate (x5 : Int).toNat 0) x234 x235 x236 ((rd_L2 x234 x236).drop (x5 : Int).toNat) (((rd_L2 x234 x236).drop (x5 : Int).toNat).length : Int) 0) else (none)) else (none)) else (none)) else (none)) else (none)) else (some x21)
def modp_ktail.l1 : Nat → Int → List (List Int) → List Int → List (List Int) → Int → Int → List Int → Int → Int → Option ((List (List Int)))
 | 0, _, _, _, _, _, _, _, _, _ => none
 | k + 1, x5, x21, x24, x234, x235, x236, x244, x245, x246 => if x246 < x245 then (if 0 ≤ x246 then (if x246 < (x244.length : Int) then (if x246 < (x24.length : Int) then (modp_ktail.l1 k x5 x21 (x24.set (x246 : Int).toNat ((rd x244 x246) % 4294967296)) x234 x235 x236 x244 x245 (wrap64 (x246 + 1))) else (none)) else (none)) else (none)) else ((modp_trim.f k x24).bind fun t118 => (if x21.length < 5864062014805 then (modp_ktail.l0 k x5 (x21 ++ [t118]) x234 x235 (wrap64 (x236 + 1))) else (none)))
end
def modp_ktail.f (k : Nat) (l0 : List (List Int)) (a1 : Int) (a2 : Int) : Option ((List (List Int))) := if 0 ≤ a1 then (if a1 ≤ (l0.length : Int) then ((some (l0.drop (a1 : Int).toNat : List (List Int))).bind fun y107 => (modp_ktail.l0 k a2 ([] : List (List Int)) y107 (y107.length : Int) 0)) else (none)) else (none)
mutual
def modp_kernel.l0 : Nat → List Int → Int → Int → Int → List (List Int) → List Int → List Int → Int → Int → Option ((List (List Int)))
 | 0, _, _, _, _, _, _, _, _, _ => none
 | k + 1, x0, x1, x5, x6, x7, x8, x9, x41, x42 => if x42 < x41 then (if 0 ≤ (wrap64 (2 * x5)) then (if (wrap64 (2 * x5) : Int).toNat ≤ 35184372088832 then (if 0 ≤ x42 then (if x42 < (x7.length : Int) then (modp_kernel.l1 k x0 x1 x5 x6 (x7.set (x42 : Int).toNat (List.replicate (wrap64 (2 * x5) : Int).toNat 0)) x8 x9 x42 x41 x42 x9 (x9.length : Int) 0) else (none)) else (none)) else (none)) else (none)) else (modp_kernel.l2 k x1 x5 x6 x7 0 0)
def modp_kernel.l1 : Nat → List Int → Int → Int → Int → List (List Int) → List Int → List Int → Int → Int → Int → List Int → Int → Int → Option ((List (List Int)))
 | 0, _, _, _, _, _, _, _, _, _, _, _, _, _ => none
 | k + 1, x0, x1, x5, x6, x7, x8, x9, x10, x41, x42, x51, x52, x53 => if x53 < x52 then (if 0 ≤ x53 then (if x53 < (x51.length : Int) then (if 0 ≤ x10 then (if x10 < (x7.length : Int) then (if x53 < ((rd_L2 x7 x10).length : Int) then (modp_kernel.l1 k x0 x1 x5 x6 (x7.set (x10 : Int).toNat ((rd_L2 x7 x10).set (x53 : Int).toNat (IntKind.u64.wrap (rd x51 x53)))) x8 x9 x10 x41 x42 x51 x52 (wrap64 (x53 + 1))) else (none)) else (none)) else (none)) else (none)) else (none)) else (if 0 ≤ x10 then (if x10 < (x7.length : Int) then (if x10 < ((rd_L2 x7 x10).length : Int) then (if x6 = 0 then (none) else ((some (x7.set (x10 : Int).toNat ((rd_L2 x7 x10).set (x10 : Int).toNat (Int.tmod (IntKind.u64.wrap ((IntKind.u64.wrap ((rd (rd_L2 x7 x10) x10) + x6)) - 1)) x6)) : List (List Int))).bind fun y194 => (if 0 ≤ (wrap64 (x5 + x10)) then (if (wrap64 (x5 + x10)) < ((rd_L2 y194 x10).length : Int) then ((modp_Mul.f k x9 x8 x1).bind fun t199 => ((modp_rest.f k t199 x0 x1).bind fun t202 => (modp_kernel.l0 k x0 x1 x5 x6 (y194.set (x10 : Int).toNat ((rd_L2 y194 x10).set ((wrap64 (x5 + x10)) : Int).toNat 1)) x8 t202 x41 (wrap64 (x42 + 1))))) else (none)) else (none)))) else (none)) else (none)) else (none))
def modp_kernel.l2 : Nat → Int → Int → Int → List (List Int) → Int → Int → Option ((List (List Int)))
 | 0, _, _, _, _, _, _ => none
 | k + 1, x1, x5, x6, x7, x13, x14 => if x14 < x5 then (modp_kernel.l3 k x1 x5 x6 x7 x13 x14 x13) else ((modp_ktail.f k x7 x13 x5).bind fun t205 => (some t205))
def modp_kernel.j4 : Nat → Int → Int → Int → List (List Int) → Int → Int → Int → Option ((List (List Int)))
 | 0, _, _, _, _, _, _, _ => none
 | k + 1, x1, x5, x6, x7, x13, x14, x15 => if x15 = x5 then (modp_kernel.l2 k x1 x5 x6 x7 x13 (wrap64 (x14 + 1))) else ((modp_swapx.f k x7 x13 x15).bind fun t210 => (if 0 ≤ x13 then (if x13 < (t210.length : Int) then (if 0 ≤ x14 then (if x14 < ((rd_L2 t210 x13).length : Int) then ((modp_inverse.f k (rd (rd_L2 t210 x13) x14) x1).bind fun t215 => (modp_kernel.l4 k x1 x5 x6 t210 x13 x14 t215 ((rd_L2 t210 x13).length : Int) 0)) else (none)) else (none)) else (none)) else (none)))
def modp_kernel.l4 : Nat → Int → Int → Int → List (List Int) → Int → Int → Int → Int → Int → Option ((List (List Int)))
 | 0, _, _, _, _, _, _, _, _, _ => none
 | k + 1, x1, x5, x6, x7, x13, x14, x16, x152, x153 => if x153 < x152 then (if 0 ≤ x13 then (if x13 < (x7.length : Int) then (if 0 ≤ x153 then (if x153 < ((rd_L2 x7 x13).length : Int) then (if x6 = 0 then (none) else (modp_kernel.l4 k x1 x5 x6 (x7.set (x13 : Int).toNat ((rd_L2 x7 x13).set (x153 : Int).toNat (Int.tmod (IntKind.u64.wrap ((rd (rd_L2 x7 x13) x153) * x16)) x6))) x13 x14 x16 x152 (wrap64 (x153 + 1)))) else (none)) else (none)) else (none)) else (none)) else (modp_kernel.l5 k x1 x5 x6 x7 x13 x14 (x7.length : Int) 0)
def modp_kernel.l5 : Nat → Int → Int → Int → List (List Int) → Int → Int → Int → Int → Option ((List (List Int)))
 | 0, _, _, _, _, _, _, _, _ => none
 | k + 1, x1, x5, x6, x7, x13, x14, x175, x176 => if x176 < x175 then (if 0 ≤ x176 then (if x176 < (x7.length : Int) then (if 0 ≤ x14 then (if x14 < ((rd_L2 x7 x176).length : Int) then (if x176 = x13 then (modp_kernel.j7 k x1 x5 x6 x7 x13 x14 x176 (rd (rd_L2 x7 x176) x14) x175 x176 false) else (modp_kernel.j7 k x1 x5 x6 x7 x13 x14 x176 (rd (rd_L2 x7 x176) x14) x175 x176 ((rd (rd_L2 x7 x176) x14) != 0))) else (none)) else (none)) else (none)) else (none)) else (modp_kernel.l2 k x1 x5 x6 x7 (wrap64 (x13 + 1)) (wrap64 (x14 + 1)))
def modp_kernel.j7 : Nat → Int → Int → Int → List (List Int) → Int → Int → Int → Int → Int → Int → Bool → Option ((List (List Int)))
 | 0, _, _, _, _, _, _, _, _, _, _, _ => none
 | k + 1, x1, x5, x6, x7, x13, x14, x18, x19, x175, x176, x192 => if x192 = true then (if 0 ≤ x18 then (if x18 < (x7.length : Int) then (modp_kernel.l6 k x1 x5 x6 x7 x13 x14 x18 x19 x175 x176 ((rd_L2 x7 x18).length : Int) 0) else (none)) else (none)) else (modp_kernel.l5 k x1 x5 x6 x7 x13 x14 x175 (wrap64 (x176 + 1)))
def modp_kernel.l6 : Nat → Int → Int → Int → List (List Int) → Int → Int → Int → Int → Int → Int → Int → Int → Option ((List (List Int)))
 | 0, _, _, _, _, _, _, _, _, _, _, _, _ => none
 | k + 1, x1, x5, x6, x7, x13, x14, x18, x19, x175, x176, x197, x198 => if x198 < x197 then (if 0 ≤ x18 then (if x18 < (x7.length : Int) then (if 0 ≤ x198 then (if x198 < ((rd_L2 x7 x18).length : Int) then (if 0 ≤ x13 then (if x13 < (x7.length : Int) then (if x198 < ((rd_L2 x7 x13).length : Int) then (if x6 = 0 then (none) else (modp_kernel.l6 k x1 x5 x6 (x7.set (x18 : Int).toNat ((rd_L2 x7 x18).set (x198 : Int).toNat (Int.tmod (IntKind.u64.wrap ((rd (rd_L2 x7 x18) x198) + (IntKind.u64.wrap ((IntKind.u64.wrap (x6 - x19)) * (rd (rd_L2 x7 x13) x198))))) x6))) x13 x14 x18 x19 x175 x176 x197 (wrap64 (x198 + 1)))) else (none)) else (none)) else (none)) else (none)) else (none)) else (none)) else (none)) else (modp_kernel.l5 k x1 x5 x6 x7 x13 x14 x175 (wrap64 (x176 + 1)))
def modp_kernel.l3 : Nat → Int → Int → Int → List (List Int) → Int → Int → Int → Option ((List (List Int)))
 | 0, _, _, _, _, _, _, _ => none
 | k + 1, x1, x5, x6, x7, x13, x14, x15 => if x15 < x5 then (if 0 ≤ x15 then (if x15 < (x7.length : Int) then (if 0 ≤ x14 then (if x14 < ((rd_L2 x7 x15).length : Int) then (if (rd (rd_L2 x7 x15) x14) = 0 then (modp_kernel.l3 k x1 x5 x6 x7 x13 x14 (wrap64 (x15 + 1))) else (modp_kernel.j4 k x1 x5 x6 x7 x13 x14 x15)) else (none)) else (none)) else (none)) else (none)) else (modp_kernel.j4 k x1 x5 x6 x7 x13 x14 x15)
end
def modp_kernel.f (k : Nat) (l0 : List Int) (a1 : Int) : Option ((List (List Int))) := if 0 ≤ (wrap64 ((l0.length : Int) - 1)) then (if (wrap64 ((l0.length : Int) - 1) : Int).toNat ≤ 11728124029610 then ((some (List.replicate (wrap64 ((l0.length : Int) - 1) : Int).toNat [] : List (List Int))).bind fun y168 => ((modp_up.f k (([0, 1] : List Int)) a1 l0 a1).bind fun t174 => (modp_kernel.l0 k l0 a1 (wrap64 ((l0.length : Int) - 1)) (IntKind.u64.wrap (a1)) y168 t174 (([1] : List Int)) (y168.length : Int) 0))) else (none)) else (none)
def modp_kernel.T26 : Bool × List (List Nat × List Nat) := (true, [([], []), ([], []), ([], []), ([], []), ([], []), ([], []), ([4, 5], [4, 5]), ([6], [6]), ([], []), ([], []), ([8, 9], [8, 9]), ([10], [10]), ([0, 1, 0, 1, 4, 5, 6, 7, 11], [0, 1]), ([12, 7, 0, 1, 4, 5, 6, 7, 11], [7, 12]), ([2, 3, 0, 1, 2, 3, 4, 5, 6, 7, 8, 9, 10, 11, 12, 13], [2, 3]), ([14, 11, 13, 0, 1, 2, 3, 4, 5, 6, 7, 8, 9, 10, 11, 12, 13], [11, 14])])
def modp_kernel.B26 : List Nat := [0, 0, 0, 0, 0, 0, 48, 112, 0, 0, 768, 1792, 4083, 8179, 16383, 32767]
theorem modp_kernel.tab26 : rtab .any (opsOf Tryz.f132 26) = modp_kernel.T26 := by kernel_rfl
theorem modp_kernel.bits26 : waitsOk modp_kernel.T26.2 modp_kernel.B26 = true := by kernel_rfl
def modp_kernel.T14 : Bool × List (List Nat × List Nat) := (true, [([], []), ([], []), ([0, 1], [0, 1]), ([2], [2]), ([], []), ([], []), ([], []), ([5, 6], [5, 6]), ([7], [7]), ([], []), ([8, 9], [8, 9]), ([10], [10]), ([], []), ([11, 12], [11, 12]), ([13], [13]), ([], []), ([14, 15], [14, 15]), ([3, 4, 0, 1, 2, 3, 4, 5, 6, 7, 8, 9, 10, 11, 12, 13, 14, 15, 16], [3, 4]), ([17, 16, 0, 1, 2, 3, 4, 5, 6, 7, 8, 9, 10, 11, 12, 13, 14, 15, 16], [16, 17])])
def modp_kernel.B14 : List Nat := [0, 0, 3, 7, 0, 0, 0, 96, 224, 0, 992, 2016, 0, 8160, 16352, 0, 65504, 131071, 262143]
theorem modp_kernel.tab14 : rtab .any (opsOf Tryz.f132 14) = modp_kernel.T14 := by kernel_rfl
theorem modp_kernel.bits14 : waitsOk modp_kernel.T14.2 modp_kernel.B14 = true := by kernel_rfl
def modp_kernel.T31 : Bool × List (List Nat × List Nat) := (true, [([], []), ([], []), ([0, 1], [0, 1]), ([2], [2]), ([], []), ([], []), ([], []), ([5, 6], [5, 6]), ([7], [7]), ([], []), ([8, 9], [8, 9]), ([10], [10]), ([], []), ([11, 12], [11, 12]), ([], []), ([13, 14], [13, 14]), ([3, 4, 0, 1, 2, 3, 4, 5, 6, 7, 8, 9, 10, 11, 12, 13, 14, 15], [3, 4]), ([16, 15, 0, 1, 2, 3, 4, 5, 6, 7, 8, 9, 10, 11, 12, 13, 14, 15], [15, 16])])
def modp_kernel.B31 : List Nat := [0, 0, 3, 7, 0, 0, 0, 96, 224, 0, 992, 2016, 0, 8160, 0, 32736, 65535, 131071]
theorem modp_kernel.tab31 : rtab .any (opsOf Tryz.f132 31) = modp_kernel.T31 := by kernel_rfl
theorem modp_kernel.bits31 : waitsOk modp_kernel.T31.2 modp_kernel.B31 = true := by kernel_rfl
def modp_kernel.T41 : Bool × List (List Nat × List Nat) := (true, [([], []), ([], []), ([0, 1], [0, 1]), ([2], [2]), ([], []), ([], []), ([], []), ([5, 6], [5, 6]), ([7], [7]), ([], []), ([8, 9], [8, 9]), ([10], [10]), ([], []), ([], []), ([12, 13], [12, 13]), ([], []), ([], []), ([15, 16], [15, 16]), ([17], [17]), ([], []), ([18, 19], [18, 19]), ([20], [20]), ([14, 21], [14, 21]), ([11, 22], [11, 22]), ([], []), ([23, 24], [23, 24]), ([3, 4, 0, 1, 2, 3, 4, 5, 6, 7, 8, 9, 10, 11, 12, 13, 14, 15, 16, 17, 18, 19, 20, 21, 22, 23, 24, 25], [3, 4]), ([26, 25, 0, 1, 2, 3, 4, 5, 6, 7, 8, 9, 10, 11, 12, 13, 14, 15, 16, 17, 18, 19, 20, 21, 22, 23, 24, 25], [25, 26])])
def modp_kernel.B41 : List Nat := [0, 0, 3, 7, 0, 0, 0, 96, 224, 0, 992, 2016, 0, 0, 12288, 0, 0, 98304, 229376, 0, 1015808, 2064384, 4190208, 8388576, 0, 33554400, 67108863, 134217727]
theorem modp_kernel.tab41 : rtab .any (opsOf Tryz.f132 41) = modp_kernel.T41 := by kernel_rfl
theorem modp_kernel.bits41 : waitsOk modp_kernel.T41.2 modp_kernel.B41 = true := by kernel_rfl
end Go.Proofs.YtjbcnppbcomaiaaGreatDoor.Q
