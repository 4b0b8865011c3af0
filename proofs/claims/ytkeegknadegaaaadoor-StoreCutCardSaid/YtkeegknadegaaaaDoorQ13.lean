-- Written by a program of this session (a patched print) for this claim; Lean checks it.
import Derived.Test.YtkeegknadegaaaaDoorQ0
import Derived.Test.YtkeegknadegaaaaDoorHRep
import Derived.Test.YtkeegknadegaaaaDoorHApp
import Derived.Test.YtkeegknadegaaaaDoorQ5
import Derived.Test.YtkeegknadegaaaaDoorQ7
import Derived.Test.YtkeegknadegaaaaDoorQ21
namespace Go.Proofs.YtkeegknadegaaaaDoor.Q
open Go.RowKit Go.Proofs.YtkeegknadegaaaaDoorW.PrintWords Go.Proofs.YtkeegknadegaaaaDoorW.PrintLast Go.Proofs.YtkeegknadegaaaaDoorW.PrintMore
attribute [local go_sem] max2_int min2_int max_two min_two max_three min_three max_four min_four   -- for this text's walks alone
set_option linter.unusedVariables false
set_option linter.unusedSimpArgs false

/-! ### zigguratlaw30_StoreCut: function 5 -/
def zigguratlaw30_StoreCut.l0 : Nat → Bool → List (S24) → Bool → Int → List (S24) → Int → Int → Int → Option (Bool)
  | 0, _, _, _, _, _, _, _, _ => none
  | k + 1, x5, x6, x8, x9, x10, x11, x12, x13 => if x13 < (x6.length : Int) then (if 0 ≤ (wrap64 (x13 + 1)) then (if (wrap64 (x13 + 1)) ≤ (x6.length : Int) then ((zigguratlaw30_written.f k (x6.take ((wrap64 (x13 + 1)) : Int).toNat)).bind fun bt278 => (if bt278.2 = true then (if (bt278.1.length : Int) > x9 then (if 0 ≤ x13 then (if x13 ≤ (x6.length : Int) then ((zigguratlaw30_written.f k (x6.take (x13 : Int).toNat)).bind fun bt286 => (if x5 = true then (if x8 = true then (if bt286.2 = true then ((zigguratref30_Same.f k x10 (x6.take (x13 : Int).toNat)).bind fun t294 => (if t294 = true then (if x11 = (bt286.1.length : Int) then (if ((x12 == 0) == (x11 == x9)) = true then (if x12 = 0 then (some true) else (some (x12 == 301))) else (none)) else (none)) else (none))) else (none)) else (none)) else (none))) else (none)) else (none)) else (zigguratlaw30_StoreCut.l0 k x5 x6 x8 x9 x10 x11 x12 (wrap64 (x13 + 1)))) else (if 0 ≤ x13 then (if x13 ≤ (x6.length : Int) then ((zigguratlaw30_written.f k (x6.take (x13 : Int).toNat)).bind fun bt299 => (if x5 = true then (if x8 = true then (if bt299.2 = true then ((zigguratref30_Same.f k x10 (x6.take (x13 : Int).toNat)).bind fun t307 => (if t307 = true then (if x11 = (bt299.1.length : Int) then (if ((x12 == 0) == (x11 == x9)) = true then (if x12 = 0 then (some true) else (some (x12 == 301))) else (none)) else (none)) else (none))) else (none)) else (none)) else (none))) else (none)) else (none)))) else (none)) else (none)) else (if 0 ≤ x13 then (if x13 ≤ (x6.length : Int) then ((zigguratlaw30_written.f k (x6.take (x13 : Int).toNat)).bind fun bt312 => (if x5 = true then (if x8 = true then (if bt312.2 = true then ((zigguratref30_Same.f k x10 (x6.take (x13 : Int).toNat)).bind fun t320 => (if t320 = true then (if x11 = (bt312.1.length : Int) then (if ((x12 == 0) == (x11 == x9)) = true then (if x12 = 0 then (some true) else (some (x12 == 301))) else (none)) else (none)) else (none))) else (none)) else (none)) else (none))) else (none)) else (none))
def zigguratlaw30_StoreCut.f (k : Nat) (l0 : List (S24)) (a1 : Int) : Option (Bool) := (zigguratlaw30_head.f k).bind fun t257 => ((zigguratref30_Made.f k l0 12).bind fun t258 => ((zigguratlaw30_written.f k t258).bind fun bt261 => (if (wrap64 ((bt261.1.length : Int) + 1)) = 0 then (none) else (if 0 ≤ (Int.tmod (wrap64 (a1)) (wrap64 ((bt261.1.length : Int) + 1))) then (if (Int.tmod (wrap64 (a1)) (wrap64 ((bt261.1.length : Int) + 1))) ≤ (bt261.1.length : Int) then ((store_Read.f (bt261.1.take ((Int.tmod (wrap64 (a1)) (wrap64 ((bt261.1.length : Int) + 1))) : Int).toNat)).bind fun bt269 => (zigguratlaw30_StoreCut.l0 k t257 t258 bt261.2 (Int.tmod (wrap64 (a1)) (wrap64 ((bt261.1.length : Int) + 1))) bt269.1 bt269.2.1 bt269.2.2 0)) else (none)) else (none)))))
theorem zigguratlaw30_StoreCut.mono_l : ∀ k, (∀ y0 y1 y2 y3 y4 y5 y6 y7, LeO (zigguratlaw30_StoreCut.l0 k y0 y1 y2 y3 y4 y5 y6 y7) (zigguratlaw30_StoreCut.l0 (k + 1) y0 y1 y2 y3 y4 y5 y6 y7))
  | 0 => fun _ _ _ _ _ _ _ _ r h => by simp [zigguratlaw30_StoreCut.l0] at h
  | k + 1 => by
    have ih0 := zigguratlaw30_StoreCut.mono_l k
    · intro y0 y1 y2 y3 y4 y5 y6 y7
      unfold zigguratlaw30_StoreCut.l0
      repeat' first
      | (with_reducible exact ih0 _ _ _ _ _ _ _ _)
      | (with_reducible exact zigguratlaw30_head.mono _)
      | (with_reducible exact zigguratlaw30_written.mono _ _)
      | (with_reducible exact zigguratref30_Made.mono _ _ _)
      | (with_reducible exact zigguratref30_Same.mono _ _ _)
      | (with_reducible exact LeO.refl _)
      | (with_reducible exact LeO.none _)
      | (with_reducible refine LeO.ite ?_ ?_)
      | (with_reducible refine LeO.bind ?_ (fun _ => ?_))
      | exact ih0 _ _ _ _ _ _ _ _
      | exact zigguratlaw30_head.mono _
      | exact zigguratlaw30_written.mono _ _
      | exact zigguratref30_Made.mono _ _ _
      | exact zigguratref30_Same.mono _ _ _
      | exact LeO.none _
      | refine LeO.ite ?_ ?_
      | refine LeO.bind ?_ (fun _ => ?_)
theorem zigguratlaw30_StoreCut.mono : ∀ a0 a1 k, LeO (zigguratlaw30_StoreCut.f k a0 a1) (zigguratlaw30_StoreCut.f (k + 1) a0 a1) := by
  intro a0 a1 k
  have ih0 := zigguratlaw30_StoreCut.mono_l k
  unfold zigguratlaw30_StoreCut.f
  repeat' first
      | (with_reducible exact ih0 _ _ _ _ _ _ _ _)
      | (with_reducible exact zigguratlaw30_head.mono _)
      | (with_reducible exact zigguratlaw30_written.mono _ _)
      | (with_reducible exact zigguratref30_Made.mono _ _ _)
      | (with_reducible exact zigguratref30_Same.mono _ _ _)
      | (with_reducible exact LeO.refl _)
      | (with_reducible exact LeO.none _)
      | (with_reducible refine LeO.ite ?_ ?_)
      | (with_reducible refine LeO.bind ?_ (fun _ => ?_))
      | exact ih0 _ _ _ _ _ _ _ _
      | exact zigguratlaw30_head.mono _
      | exact zigguratlaw30_written.mono _ _
      | exact zigguratref30_Made.mono _ _ _
      | exact zigguratref30_Same.mono _ _ _
      | exact LeO.none _
      | refine LeO.ite ?_ ?_
      | refine LeO.bind ?_ (fun _ => ?_)
set_option maxHeartbeats 8000000 in
set_option maxRecDepth 100000 in
theorem zigguratlaw30_StoreCut.calls (k : Nat) (A0 : Option Addr) (c0 : Nat) (l0 : List (S24)) (a1 : Int) (r : Bool) (w : World) (hr0 : Kd.C k24 w A0 l0.length l0) (hc0 : l0.length ≤ c0) (hg : GOK w) (h : zigguratlaw30_StoreCut.f k l0 a1 = some r) :
    Calls Tryd.prog 5 #[.slice A0 l0.length c0, .int .u16 a1] w fun e w' => e = .returned (.bool r) ∧ Below w.heap.size w w' := by
  have HG := Aside0.mk hg
  clear hg
  have HR0 := Aside0.mk hr0
  have HC0 := Aside0.mk hc0
  clear hr0 hc0
  have HB := Aside0.mk (Below.refl w.heap.size w)
  have H : ((zigguratlaw30_head.f k).bind fun t257 => ((zigguratref30_Made.f k l0 12).bind fun t258 => ((zigguratlaw30_written.f k t258).bind fun bt261 => (if (wrap64 ((bt261.1.length : Int) + 1)) = 0 then (none) else (if 0 ≤ (Int.tmod (wrap64 (a1)) (wrap64 ((bt261.1.length : Int) + 1))) then (if (Int.tmod (wrap64 (a1)) (wrap64 ((bt261.1.length : Int) + 1))) ≤ (bt261.1.length : Int) then ((store_Read.f (bt261.1.take ((Int.tmod (wrap64 (a1)) (wrap64 ((bt261.1.length : Int) + 1))) : Int).toNat)).bind fun bt269 => (zigguratlaw30_StoreCut.l0 k t257 t258 bt261.2 (Int.tmod (wrap64 (a1)) (wrap64 ((bt261.1.length : Int) + 1))) bt269.1 bt269.2.1 bt269.2.2 0)) else (none)) else (none)))))) = some r := h
  clear h
  replace H := Option.bind_eq_some_iff.mp H
  obtain ⟨t257, A30, H⟩ := H
  replace H : ((zigguratref30_Made.f k l0 12).bind fun t258 => ((zigguratlaw30_written.f k t258).bind fun bt261 => (if (wrap64 ((bt261.1.length : Int) + 1)) = 0 then (none) else (if 0 ≤ (Int.tmod (wrap64 (a1)) (wrap64 ((bt261.1.length : Int) + 1))) then (if (Int.tmod (wrap64 (a1)) (wrap64 ((bt261.1.length : Int) + 1))) ≤ (bt261.1.length : Int) then ((store_Read.f (bt261.1.take ((Int.tmod (wrap64 (a1)) (wrap64 ((bt261.1.length : Int) + 1))) : Int).toNat)).bind fun bt269 => (zigguratlaw30_StoreCut.l0 k t257 t258 bt261.2 (Int.tmod (wrap64 (a1)) (wrap64 ((bt261.1.length : Int) + 1))) bt269.1 bt269.2.1 bt269.2.2 0)) else (none)) else (none))))) = some r := H
  have A3 := Aside0.mk A30
  clear A30
  replace H := Option.bind_eq_some_iff.mp H
  obtain ⟨t258, A40, H⟩ := H
  replace H : ((zigguratlaw30_written.f k t258).bind fun bt261 => (if (wrap64 ((bt261.1.length : Int) + 1)) = 0 then (none) else (if 0 ≤ (Int.tmod (wrap64 (a1)) (wrap64 ((bt261.1.length : Int) + 1))) then (if (Int.tmod (wrap64 (a1)) (wrap64 ((bt261.1.length : Int) + 1))) ≤ (bt261.1.length : Int) then ((store_Read.f (bt261.1.take ((Int.tmod (wrap64 (a1)) (wrap64 ((bt261.1.length : Int) + 1))) : Int).toNat)).bind fun bt269 => (zigguratlaw30_StoreCut.l0 k t257 t258 bt261.2 (Int.tmod (wrap64 (a1)) (wrap64 ((bt261.1.length : Int) + 1))) bt269.1 bt269.2.1 bt269.2.2 0)) else (none)) else (none)))) = some r := H
  have A4 := Aside0.mk A40
  clear A40
  replace H := Option.bind_eq_some_iff.mp H
  obtain ⟨⟨t261, t262⟩, A50, H⟩ := H
  replace H : (if (wrap64 ((t261.length : Int) + 1)) = 0 then (none) else (if 0 ≤ (Int.tmod (wrap64 (a1)) (wrap64 ((t261.length : Int) + 1))) then (if (Int.tmod (wrap64 (a1)) (wrap64 ((t261.length : Int) + 1))) ≤ (t261.length : Int) then ((store_Read.f (t261.take ((Int.tmod (wrap64 (a1)) (wrap64 ((t261.length : Int) + 1))) : Int).toNat)).bind fun bt269 => (zigguratlaw30_StoreCut.l0 k t257 t258 t262 (Int.tmod (wrap64 (a1)) (wrap64 ((t261.length : Int) + 1))) bt269.1 bt269.2.1 bt269.2.2 0)) else (none)) else (none))) = some r := H
  have A5 := Aside0.mk A50
  clear A50
  by_cases c6 : (wrap64 ((t261.length : Int) + 1)) = 0
  · rw [if_pos c6] at H
    exact absurd H (by simp)
  · rw [if_neg c6] at H
    have c6b0 : ((wrap64 ((t261.length : Int) + 1)) == 0) = false := beq_eq_false_iff_ne.mpr c6
    have c6b1 : ((wrap64 ((t261.length : Int) + 1)) != 0) = true := bne_iff_ne.mpr c6
    obtain ⟨ji7, hji7⟩ : ∃ j_ : Int, (Int.tmod (wrap64 (a1)) (wrap64 ((t261.length : Int) + 1))) = j_ := ⟨_, rfl⟩
    replace H : (if 0 ≤ (ji7) then (if (ji7) ≤ (t261.length : Int) then ((store_Read.f (t261.take ((ji7) : Int).toNat)).bind fun bt269 => (zigguratlaw30_StoreCut.l0 k t257 t258 t262 ji7 bt269.1 bt269.2.1 bt269.2.2 0)) else (none)) else (none)) = some r := by first | (rw [hji7] at H; exact H) | (simp only [hji7] at H ⊢; exact H)
    (try rw [hji7] at A3)
    (try rw [hji7] at A4)
    (try rw [hji7] at A5)
    by_cases c8 : 0 ≤ (ji7)
    · rw [if_pos c8] at H
      have c8b0 := eq_true c8
      have c8b1 : decide (0 ≤ (ji7)) = true := decide_eq_true c8
      clear c8
      by_cases c9 : (ji7) ≤ (t261.length : Int)
      · rw [if_pos c9] at H
        have c9b0 := eq_true c9
        have c9b1 : decide ((ji7) ≤ (t261.length : Int)) = true := decide_eq_true c9
        clear c9
        obtain ⟨y265, hy265⟩ : ∃ y_ : List Int, y_ = (t261.take ((ji7) : Int).toNat) := ⟨_, rfl⟩
        replace H : ((store_Read.f y265).bind fun bt269 => (zigguratlaw30_StoreCut.l0 k t257 t258 t262 ji7 bt269.1 bt269.2.1 bt269.2.2 0)) = some r := by first | (rw [hy265]; with_reducible exact H) | (have H2_ := (Option.bind_some _ _).symm.trans H; rw [hy265]; with_reducible exact H2_) | (have H2_ := (Option.bind_some _ _).symm.trans H; with_reducible exact H2_) | with_reducible exact H | (rw [hy265]; exact H) | exact H
        have Ny265 := Aside0.mk hy265
        clear hy265
        replace H := Option.bind_eq_some_iff.mp H
        obtain ⟨⟨t269, t270, t271⟩, A100, H⟩ := H
        replace H : (zigguratlaw30_StoreCut.l0 k t257 t258 t262 ji7 t269 t270 t271 0) = some r := H
        have A10 := Aside0.mk A100
        clear A100
        have H' := Aside0.mk H
        clear H
        go_enter Tryd.func5, Tryd.ntmps5
        (try simp only [List.append])
        go_wp2_with (first | ((with_reducible refine gate_callee (f := 11) rfl ?_); refine goesL_ (some 18) rfl rfl Tryd.func11 (by kernel_rfl) rfl #[] rfl (by (try simp only [List.map_toArray, List.map_cons, List.map_nil]); first | done | rfl | (simp only [List.length_drop, List.length_take]; rfl)) ?_; (with_reducible refine (zigguratlaw30_head.calls k  t257 _ ?side0 A3.out).mono ?_); (case side0 => exact GOK.below HG.out (by repeat (first | (with_reducible first | exact HB.out | apply below_alloc | apply pw_below_drewN | apply below_drew1) | exact HB.out))); rintro e w11 ⟨rfl, hb⟩; refine ⟨_, rfl, ?_⟩; have n0_ := Aside0.mk (below_step (by repeat (first | (with_reducible first | exact HB.out | apply below_alloc | apply pw_below_drewN | apply below_drew1) | exact HB.out)) hb); clear HB; have HB := n0_; clear n0_; (try clear hb); (try clear hb2); (try clear hk); (try clear hi)) | ((with_reducible refine gate_callee (f := 21) rfl ?_); refine goesL_ (some 20) rfl rfl Tryd.func21 (by kernel_rfl) rfl #[.slice A0 l0.length c0, .int .i64 12] rfl (by (try simp only [List.map_toArray, List.map_cons, List.map_nil]); first | done | rfl | (simp only [List.length_drop, List.length_take]; rfl)) ?_; (with_reducible refine (zigguratref30_Made.calls k _ _ l0 12 t258 _ ?side1 ?side2 A4.out).mono ?_); (case side1 => repeat (first | exact (Kd.C_below HR0.out HB.out) | (with_reducible refine Kd.C_alloc ?_ _) | (with_reducible refine Kd.C_drewN ?_ _) | (with_reducible refine Kd.C_drew ?_))); (case side2 => exact HC0.out); rintro e w12 ⟨v259, rfl, ho0, hb⟩; refine ⟨_, rfl, ?_⟩; have n0_ := Aside0.mk (Kd.R_lower ho0 (below_size (by repeat (first | (with_reducible first | exact HB.out | apply below_alloc | apply pw_below_drewN | apply below_drew1) | exact HB.out)))); have n1_ := Aside0.mk (below_step (by repeat (first | (with_reducible first | exact HB.out | apply below_alloc | apply pw_below_drewN | apply below_drew1) | exact HB.out)) hb); clear HB; have HO260 := n0_; have HB := n1_; clear n0_ n1_; (try clear hb); (try clear hb2); (try clear hk); (try clear hi); (try clear ho0); obtain ⟨Ao13, co13, eo13⟩ := Kd.R_slice HO260.out; subst eo13) | ((with_reducible refine gate_callee (f := 22) rfl ?_); refine goesL_ (some 23) rfl rfl Tryd.func22 (by kernel_rfl) rfl #[.slice Ao13 t258.length co13] rfl (by (try simp only [List.map_toArray, List.map_cons, List.map_nil]); first | done | rfl | (simp only [List.length_drop, List.length_take]; rfl)) ?_; (with_reducible refine (zigguratlaw30_written.calls k _ _ t258 t261 t262 _ ?side1 ?side2 A5.out).mono ?_); (case side1 => repeat (first | exact (Kd.R_reads' HO260.out).2.2 | (with_reducible refine Kd.C_alloc ?_ _) | (with_reducible refine Kd.C_drewN ?_ _) | (with_reducible refine Kd.C_drew ?_))); (case side2 => exact (Kd.R_reads' HO260.out).2.1); rintro e w14 ⟨v263, rfl, ho0, hb⟩; refine ⟨_, rfl, ?_⟩; have n0_ := Aside0.mk (Kd.R_below (by (with_reducible repeat (first | apply Kd.R_alloc | apply Kd.R_drewN | apply Kd.R_drew)); exact HO260.out) hb); have n1_ := Aside0.mk (Kd.R_lower ho0 (below_size (by repeat (first | (with_reducible first | exact HB.out | apply below_alloc | apply pw_below_drewN | apply below_drew1) | exact HB.out)))); have n2_ := Aside0.mk (below_step (by repeat (first | (with_reducible first | exact HB.out | apply below_alloc | apply pw_below_drewN | apply below_drew1) | exact HB.out)) hb); clear HO260; clear HB; have HO260 := n0_; have HO264 := n1_; have HB := n2_; clear n0_ n1_ n2_; (try clear hb); (try clear hb2); (try clear hk); (try clear hi); (try clear ho0); obtain ⟨Ao15, co15, eo15⟩ := Kd.R_slice HO264.out; subst eo15; have q16 : ((ji7) : Int) ≤ ((t261.length : Int) : Int) := of_decide_eq_true (by first | (with_reducible assumption) | assumption); obtain ⟨i016, hi016, _, hsz16, _⟩ := info_parts info5; have hroom16 : t261.length ≤ co15 := (Kd.R_reads' HO264.out).2.1; have hC16 : Kd.C (Kd.int .u8) _ Ao15 t261.length t261 := (Kd.R_reads' HO264.out).2.2; have hcut16 := cut_to (P := Tryd.prog) 22 5 .i64 Tryd.underlying22 hi016 Ao15 t261.length co15 (ji7) (of_decide_eq_true (by first | (with_reducible assumption) | assumption)) q16 hroom16; have hr16 := Kd.C_take (m := ((ji7) : Int).toNat) hC16 (by omega); have hy16 : y265.length = ((ji7) : Int).toNat := (by rw [Ny265.out, List.length_take]; omega); rw [← Ny265.out] at hr16; rw [← hy16] at hcut16; have HR268 := Aside0.mk hr16; have HC268 := Aside0.mk (show y265.length ≤ co15 from by omega); clear hr16 hC16 hroom16 hi016 hsz16; have KY16 := Aside0.mk hy16; clear hy16; have KL16 := Aside0.mk (show ((ji7) : Int).toNat ≤ t261.length from by omega); replace q16 := eq_true q16) | ((with_reducible refine gate_callee (f := 14) rfl ?_); refine goesL_ (some 36) rfl rfl Tryd.func14 (by kernel_rfl) rfl #[.slice Ao15 y265.length co15] rfl (by (try simp only [List.map_toArray, List.map_cons, List.map_nil]); first | done | rfl | (simp only [List.length_drop, List.length_take]; rfl)) ?_; (with_reducible refine (store_Read.calls _ _ y265 t269 t270 t271 _ ?side0 ?side1 ?side2 A10.out).mono ?_); (case side0 => exact GOK.below HG.out (by repeat (first | (with_reducible first | exact HB.out | apply below_alloc | apply pw_below_drewN | apply below_drew1) | exact HB.out))); (case side1 => repeat (first | exact (by first | (with_reducible exact HR268.out) | (with_reducible exact Kd.C_drewN HR268.out _) | (with_reducible exact Kd.C_drew HR268.out) | (with_reducible exact Kd.C_alloc HR268.out _) | repeat (first | (with_reducible exact HR268.out) | (with_reducible refine Kd.C_alloc ?_ _) | (with_reducible refine Kd.C_drewN ?_ _) | (with_reducible refine Kd.C_drew ?_) | exact HR268.out)) | (with_reducible refine Kd.C_alloc ?_ _) | (with_reducible refine Kd.C_drewN ?_ _) | (with_reducible refine Kd.C_drew ?_))); (case side2 => exact HC268.out); rintro e w17 ⟨v272, rfl, ho0, hb⟩; refine ⟨_, rfl, ?_⟩; have n0_ := Aside0.mk (Kd.R_elder' (by (with_reducible repeat (first | apply Kd.R_alloc | apply Kd.R_drewN | apply Kd.R_drew)); exact HO260.out) (Kd.R_base ho0) hb); have n1_ := Aside0.mk (Kd.R_below (by (with_reducible repeat (first | apply Kd.R_alloc | apply Kd.R_drewN | apply Kd.R_drew)); exact HO264.out) hb); have n2_ := Aside0.mk (Kd.R_lower (Kd.R_new' ho0 (Kd.R_lt (by (with_reducible repeat (first | apply Kd.R_alloc | apply Kd.R_drewN | apply Kd.R_drew)); exact HO260.out))) (below_size (by repeat (first | (with_reducible first | exact HB.out | apply below_alloc | apply pw_below_drewN | apply below_drew1) | exact HB.out)))); have n3_ := Aside0.mk (Kd.C_below (by first | (with_reducible exact HR268.out) | (with_reducible exact Kd.C_drewN HR268.out _) | (with_reducible exact Kd.C_drew HR268.out) | (with_reducible exact Kd.C_alloc HR268.out _) | repeat (first | (with_reducible exact HR268.out) | (with_reducible refine Kd.C_alloc ?_ _) | (with_reducible refine Kd.C_drewN ?_ _) | (with_reducible refine Kd.C_drew ?_) | exact HR268.out)) hb); have n4_ := Aside0.mk (below_step (by repeat (first | (with_reducible first | exact HB.out | apply below_alloc | apply pw_below_drewN | apply below_drew1) | exact HB.out)) hb); clear HO260; clear HO264; clear HR268; clear HB; have HO260 := n0_; have HO264 := n1_; have HO273 := n2_; have HR268 := n3_; have HB := n4_; clear n0_ n1_ n2_ n3_ n4_; (try clear hb); (try clear hb2); (try clear hk); (try clear hi); (try clear ho0)))
        go_loopg [13] k (fun kq v13 w' => ∃ (x13_1 : Int), v13 = .int .i64 x13_1 ∧ Aside0 (zigguratlaw30_StoreCut.l0 kq t257 t258 t262 ji7 t269 t270 t271 x13_1 = some r) ∧ Aside0 (kq ≤ k) ∧ Aside0 (Kd.R k24 24 w' w.heap.size (fun k_ => some k_ ≠ (v272 : Value).ownBlock) (.slice Ao13 t258.length co13) t258) ∧ Aside0 (Kd.R k24 24 w' w.heap.size (fun k_ => some k_ ≠ ((.slice Ao13 t258.length co13) : Value).ownBlock) v272 t269) ∧ Aside0 (Kd.C (Kd.int .u8) w' Ao15 y265.length y265) ∧ Aside0 (Below w.heap.size w w'))
        case atStart => exact ⟨(0), (by first | rfl | (simp; done) | (simp [*]; done)), H', ⟨Nat.le_refl _⟩, ⟨by (with_reducible repeat (first | apply Kd.R_alloc | apply Kd.R_drewN | apply Kd.R_drew)); exact Kd.R_mono HO260.out (fun _ hk => hk.2)⟩, ⟨by (with_reducible repeat (first | apply Kd.R_alloc | apply Kd.R_drewN | apply Kd.R_drew)); exact Kd.R_mono HO273.out (fun _ hk => hk.2)⟩, ⟨by repeat (first | (with_reducible exact HR268.out) | (with_reducible refine Kd.C_alloc ?_ _) | (with_reducible refine Kd.C_drewN ?_ _) | (with_reducible refine Kd.C_drew ?_) | exact HR268.out)⟩, ⟨by repeat (first | (with_reducible first | exact HB.out | apply below_alloc | apply pw_below_drewN | apply below_drew1) | exact HB.out)⟩⟩
        case round =>
          clear H'
          try clear c1
          try clear q1
          try clear c2
          try clear p2
          try clear c5
          try clear c6
          try clear c6b0
          try clear c6b1
          try clear p6
          try clear c8
          try clear c8b0
          try clear c8b1
          try clear c9
          try clear c9b0
          try clear c9b1
          try clear c11
          try clear c14
          try clear q16
          try clear q16
          obtain ⟨x13_1, rfl, HA, HK1, HO_6, HO_10, HR268, HB⟩ := hrel
          cases gk with
          | zero => exact absurd HA.out (by simp [zigguratlaw30_StoreCut.l0])
          | succ k1 =>
            have H := HA.out
            clear HA
            simp only [zigguratlaw30_StoreCut.l0] at H
            by_cases c18 : x13_1 < (t258.length : Int)
            · rw [if_pos c18] at H
              have c18b0 : decide (x13_1 < (t258.length : Int)) = true := decide_eq_true c18
              clear c18
              obtain ⟨ji19, hji19⟩ : ∃ j_ : Int, (wrap64 (x13_1 + 1)) = j_ := ⟨_, rfl⟩
              replace H : (if 0 ≤ (ji19) then (if (ji19) ≤ (t258.length : Int) then ((zigguratlaw30_written.f k1 (t258.take ((ji19) : Int).toNat)).bind fun bt278 => (if bt278.2 = true then (if (bt278.1.length : Int) > ji7 then (if 0 ≤ x13_1 then (if x13_1 ≤ (t258.length : Int) then ((zigguratlaw30_written.f k1 (t258.take (x13_1 : Int).toNat)).bind fun bt286 => (if t257 = true then (if t262 = true then (if bt286.2 = true then ((zigguratref30_Same.f k1 t269 (t258.take (x13_1 : Int).toNat)).bind fun t294 => (if t294 = true then (if t270 = (bt286.1.length : Int) then (if ((t271 == 0) == (t270 == ji7)) = true then (if t271 = 0 then (some true) else (some (t271 == 301))) else (none)) else (none)) else (none))) else (none)) else (none)) else (none))) else (none)) else (none)) else (zigguratlaw30_StoreCut.l0 k1 t257 t258 t262 ji7 t269 t270 t271 ji19)) else (if 0 ≤ x13_1 then (if x13_1 ≤ (t258.length : Int) then ((zigguratlaw30_written.f k1 (t258.take (x13_1 : Int).toNat)).bind fun bt299 => (if t257 = true then (if t262 = true then (if bt299.2 = true then ((zigguratref30_Same.f k1 t269 (t258.take (x13_1 : Int).toNat)).bind fun t307 => (if t307 = true then (if t270 = (bt299.1.length : Int) then (if ((t271 == 0) == (t270 == ji7)) = true then (if t271 = 0 then (some true) else (some (t271 == 301))) else (none)) else (none)) else (none))) else (none)) else (none)) else (none))) else (none)) else (none)))) else (none)) else (none)) = some r := by first | (rw [hji19] at H; exact H) | (simp only [hji19] at H ⊢; exact H)
              have hji19w : (IntKind.i64.wrap (x13_1 + 1)) = ji19 := (i64_w _).trans hji19
              by_cases c20 : 0 ≤ (ji19)
              · rw [if_pos c20] at H
                have c20b0 := eq_true c20
                have c20b1 : decide (0 ≤ (ji19)) = true := decide_eq_true c20
                clear c20
                by_cases c21 : (ji19) ≤ (t258.length : Int)
                · rw [if_pos c21] at H
                  have c21b0 := eq_true c21
                  have c21b1 : decide ((ji19) ≤ (t258.length : Int)) = true := decide_eq_true c21
                  clear c21
                  obtain ⟨y274, hy274⟩ : ∃ y_ : List (S24), y_ = (t258.take ((ji19) : Int).toNat) := ⟨_, rfl⟩
                  replace H : ((zigguratlaw30_written.f k1 y274).bind fun bt278 => (if bt278.2 = true then (if (bt278.1.length : Int) > ji7 then (if 0 ≤ x13_1 then (if x13_1 ≤ (t258.length : Int) then ((zigguratlaw30_written.f k1 (t258.take (x13_1 : Int).toNat)).bind fun bt286 => (if t257 = true then (if t262 = true then (if bt286.2 = true then ((zigguratref30_Same.f k1 t269 (t258.take (x13_1 : Int).toNat)).bind fun t294 => (if t294 = true then (if t270 = (bt286.1.length : Int) then (if ((t271 == 0) == (t270 == ji7)) = true then (if t271 = 0 then (some true) else (some (t271 == 301))) else (none)) else (none)) else (none))) else (none)) else (none)) else (none))) else (none)) else (none)) else (zigguratlaw30_StoreCut.l0 k1 t257 t258 t262 ji7 t269 t270 t271 ji19)) else (if 0 ≤ x13_1 then (if x13_1 ≤ (t258.length : Int) then ((zigguratlaw30_written.f k1 (t258.take (x13_1 : Int).toNat)).bind fun bt299 => (if t257 = true then (if t262 = true then (if bt299.2 = true then ((zigguratref30_Same.f k1 t269 (t258.take (x13_1 : Int).toNat)).bind fun t307 => (if t307 = true then (if t270 = (bt299.1.length : Int) then (if ((t271 == 0) == (t270 == ji7)) = true then (if t271 = 0 then (some true) else (some (t271 == 301))) else (none)) else (none)) else (none))) else (none)) else (none)) else (none))) else (none)) else (none)))) = some r := by first | (rw [hy274]; with_reducible exact H) | (have H2_ := (Option.bind_some _ _).symm.trans H; rw [hy274]; with_reducible exact H2_) | (have H2_ := (Option.bind_some _ _).symm.trans H; with_reducible exact H2_) | with_reducible exact H | (rw [hy274]; exact H) | exact H
                  have Ny274 := Aside0.mk hy274
                  clear hy274
                  replace H := Option.bind_eq_some_iff.mp H
                  obtain ⟨⟨t278, t279⟩, A220, H⟩ := H
                  replace H : (if t279 = true then (if (t278.length : Int) > ji7 then (if 0 ≤ x13_1 then (if x13_1 ≤ (t258.length : Int) then ((zigguratlaw30_written.f k1 (t258.take (x13_1 : Int).toNat)).bind fun bt286 => (if t257 = true then (if t262 = true then (if bt286.2 = true then ((zigguratref30_Same.f k1 t269 (t258.take (x13_1 : Int).toNat)).bind fun t294 => (if t294 = true then (if t270 = (bt286.1.length : Int) then (if ((t271 == 0) == (t270 == ji7)) = true then (if t271 = 0 then (some true) else (some (t271 == 301))) else (none)) else (none)) else (none))) else (none)) else (none)) else (none))) else (none)) else (none)) else (zigguratlaw30_StoreCut.l0 k1 t257 t258 t262 ji7 t269 t270 t271 ji19)) else (if 0 ≤ x13_1 then (if x13_1 ≤ (t258.length : Int) then ((zigguratlaw30_written.f k1 (t258.take (x13_1 : Int).toNat)).bind fun bt299 => (if t257 = true then (if t262 = true then (if bt299.2 = true then ((zigguratref30_Same.f k1 t269 (t258.take (x13_1 : Int).toNat)).bind fun t307 => (if t307 = true then (if t270 = (bt299.1.length : Int) then (if ((t271 == 0) == (t270 == ji7)) = true then (if t271 = 0 then (some true) else (some (t271 == 301))) else (none)) else (none)) else (none))) else (none)) else (none)) else (none))) else (none)) else (none))) = some r := H
                  have A22 := Aside0.mk A220
                  clear A220
                  by_cases c23 : t279 = true
                  · subst c23
                    have H1 : (if (t278.length : Int) > ji7 then (if 0 ≤ x13_1 then (if x13_1 ≤ (t258.length : Int) then ((zigguratlaw30_written.f k1 (t258.take (x13_1 : Int).toNat)).bind fun bt286 => (if t257 = true then (if t262 = true then (if bt286.2 = true then ((zigguratref30_Same.f k1 t269 (t258.take (x13_1 : Int).toNat)).bind fun t294 => (if t294 = true then (if t270 = (bt286.1.length : Int) then (if ((t271 == 0) == (t270 == ji7)) = true then (if t271 = 0 then (some true) else (some (t271 == 301))) else (none)) else (none)) else (none))) else (none)) else (none)) else (none))) else (none)) else (none)) else (zigguratlaw30_StoreCut.l0 k1 t257 t258 t262 ji7 t269 t270 t271 ji19)) = some r := by rw [if_pos rfl] at H; exact H
                    clear H
                    have H := H1
                    clear H1
                    by_cases c24 : (t278.length : Int) > ji7
                    · rw [if_pos c24] at H
                      have c24b0 : decide (ji7 < (t278.length : Int)) = true := decide_eq_true c24
                      clear c24
                      by_cases c25 : 0 ≤ x13_1
                      · rw [if_pos c25] at H
                        have c25b0 := eq_true c25
                        have c25b1 : decide (0 ≤ x13_1) = true := decide_eq_true c25
                        clear c25
                        by_cases c26 : x13_1 ≤ (t258.length : Int)
                        · rw [if_pos c26] at H
                          have c26b0 := eq_true c26
                          have c26b1 : decide (x13_1 ≤ (t258.length : Int)) = true := decide_eq_true c26
                          clear c26
                          obtain ⟨y282, hy282⟩ : ∃ y_ : List (S24), y_ = (t258.take (x13_1 : Int).toNat) := ⟨_, rfl⟩
                          replace H : ((zigguratlaw30_written.f k1 y282).bind fun bt286 => (if t257 = true then (if t262 = true then (if bt286.2 = true then ((zigguratref30_Same.f k1 t269 (t258.take (x13_1 : Int).toNat)).bind fun t294 => (if t294 = true then (if t270 = (bt286.1.length : Int) then (if ((t271 == 0) == (t270 == ji7)) = true then (if t271 = 0 then (some true) else (some (t271 == 301))) else (none)) else (none)) else (none))) else (none)) else (none)) else (none))) = some r := by first | (rw [hy282]; with_reducible exact H) | (have H2_ := (Option.bind_some _ _).symm.trans H; rw [hy282]; with_reducible exact H2_) | (have H2_ := (Option.bind_some _ _).symm.trans H; with_reducible exact H2_) | with_reducible exact H | (rw [hy282]; exact H) | exact H
                          have Ny282 := Aside0.mk hy282
                          clear hy282
                          replace H := Option.bind_eq_some_iff.mp H
                          obtain ⟨⟨t286, t287⟩, A270, H⟩ := H
                          replace H : (if t257 = true then (if t262 = true then (if t287 = true then ((zigguratref30_Same.f k1 t269 (t258.take (x13_1 : Int).toNat)).bind fun t294 => (if t294 = true then (if t270 = (t286.length : Int) then (if ((t271 == 0) == (t270 == ji7)) = true then (if t271 = 0 then (some true) else (some (t271 == 301))) else (none)) else (none)) else (none))) else (none)) else (none)) else (none)) = some r := H
                          have A27 := Aside0.mk A270
                          clear A270
                          by_cases c28 : t257 = true
                          · subst c28
                            have H1 : (if t262 = true then (if t287 = true then ((zigguratref30_Same.f k1 t269 (t258.take (x13_1 : Int).toNat)).bind fun t294 => (if t294 = true then (if t270 = (t286.length : Int) then (if ((t271 == 0) == (t270 == ji7)) = true then (if t271 = 0 then (some true) else (some (t271 == 301))) else (none)) else (none)) else (none))) else (none)) else (none)) = some r := by rw [if_pos rfl] at H; exact H
                            clear H
                            have H := H1
                            clear H1
                            by_cases c29 : t262 = true
                            · subst c29
                              have H1 : (if t287 = true then ((zigguratref30_Same.f k1 t269 (t258.take (x13_1 : Int).toNat)).bind fun t294 => (if t294 = true then (if t270 = (t286.length : Int) then (if ((t271 == 0) == (t270 == ji7)) = true then (if t271 = 0 then (some true) else (some (t271 == 301))) else (none)) else (none)) else (none))) else (none)) = some r := by rw [if_pos rfl] at H; exact H
                              clear H
                              have H := H1
                              clear H1
                              by_cases c30 : t287 = true
                              · subst c30
                                have H1 : ((zigguratref30_Same.f k1 t269 (t258.take (x13_1 : Int).toNat)).bind fun t294 => (if t294 = true then (if t270 = (t286.length : Int) then (if ((t271 == 0) == (t270 == ji7)) = true then (if t271 = 0 then (some true) else (some (t271 == 301))) else (none)) else (none)) else (none))) = some r := by rw [if_pos rfl] at H; exact H
                                clear H
                                have H := H1
                                clear H1
                                have c31b0 := eq_true (of_decide_eq_true (by first | (with_reducible assumption) | assumption) : 0 ≤ x13_1)
                                have c32b0 := eq_true (of_decide_eq_true (by first | (with_reducible assumption) | assumption) : x13_1 ≤ (t258.length : Int))
                                obtain ⟨y290, hy290⟩ : ∃ y_ : List (S24), y_ = (t258.take (x13_1 : Int).toNat) := ⟨_, rfl⟩
                                replace H : ((zigguratref30_Same.f k1 t269 y290).bind fun t294 => (if t294 = true then (if t270 = (t286.length : Int) then (if ((t271 == 0) == (t270 == ji7)) = true then (if t271 = 0 then (some true) else (some (t271 == 301))) else (none)) else (none)) else (none))) = some r := by first | (rw [hy290]; with_reducible exact H) | (have H2_ := (Option.bind_some _ _).symm.trans H; rw [hy290]; with_reducible exact H2_) | (have H2_ := (Option.bind_some _ _).symm.trans H; with_reducible exact H2_) | with_reducible exact H | (rw [hy290]; exact H) | exact H
                                have Ny290 := Aside0.mk hy290
                                clear hy290
                                have ey_ : y282 = y290 := Ny282.out.trans Ny290.out.symm
                                subst ey_
                                replace H := Option.bind_eq_some_iff.mp H
                                obtain ⟨t294, A330, H⟩ := H
                                replace H : (if t294 = true then (if t270 = (t286.length : Int) then (if ((t271 == 0) == (t270 == ji7)) = true then (if t271 = 0 then (some true) else (some (t271 == 301))) else (none)) else (none)) else (none)) = some r := H
                                have A33 := Aside0.mk A330
                                clear A330
                                by_cases c34 : t294 = true
                                · subst c34
                                  have H1 : (if t270 = (t286.length : Int) then (if ((t271 == 0) == (t270 == ji7)) = true then (if t271 = 0 then (some true) else (some (t271 == 301))) else (none)) else (none)) = some r := by rw [if_pos rfl] at H; exact H
                                  clear H
                                  have H := H1
                                  clear H1
                                  by_cases c35 : t270 = (t286.length : Int)
                                  · rw [if_pos c35] at H
                                    have c35b0 : (t270 == (t286.length : Int)) = true := beq_iff_eq.mpr c35
                                    have c35b1 : (t270 != (t286.length : Int)) = false := bne_eq_false_iff_eq.mpr c35
                                    clear c35
                                    by_cases c36 : ((t271 == 0) == (t270 == ji7)) = true
                                    · rw [if_pos c36] at H
                                      have c36b0 : ((t271 == 0) == (t270 == ji7)) = true := c36
                                      (try (have c36b1 : decide ((t271 == 0) = (t270 == ji7)) = true := by simpa using c36))
                                      (try (have c36b2 : ((t271 == 0) == (t270 == ji7)) = true := by simpa using c36))
                                      clear c36
                                      by_cases c37 : t271 = 0
                                      · rw [if_pos c37] at H
                                        have c37b0 : (t271 == 0) = true := beq_iff_eq.mpr c37
                                        have qx_ : (t270 == ji7) = true := by have h_ := c36b0; rw [c37b0] at h_; simpa using h_
                                        have qy_ : t270 = ji7 := by simpa using qx_
                                        have qz_ : decide (t270 = ji7) = true := by simpa using qx_
                                        clear qy_
                                        have c37b1 : (t271 != 0) = false := bne_eq_false_iff_eq.mpr c37
                                        clear c37
                                        obtain rfl := Option.some.inj H
                                        have q38 : ((ji19) : Int) ≤ ((t258.length : Int) : Int) := of_decide_eq_true (by first | (with_reducible assumption) | assumption)
                                        obtain ⟨i038, hi038, _, hsz38, _⟩ := info_parts info24
                                        have hroom38 : t258.length ≤ co13 := (Kd.R_reads' HO_6.out).2.1
                                        have hC38 : Kd.C k24 _ Ao13 t258.length t258 := (Kd.R_reads' HO_6.out).2.2
                                        have hcut38 := cut_to (P := Tryd.prog) 29 24 .i64 Tryd.underlying29 hi038 Ao13 t258.length co13 (ji19) (of_decide_eq_true (by first | (with_reducible assumption) | assumption)) q38 hroom38
                                        have hr38 := Kd.C_take (m := ((ji19) : Int).toNat) hC38 (by omega)
                                        have hy38 : y274.length = ((ji19) : Int).toNat := (by rw [Ny274.out, List.length_take]; omega)
                                        rw [← Ny274.out] at hr38
                                        rw [← hy38] at hcut38
                                        have HR277 := Aside0.mk hr38
                                        have HC277 := Aside0.mk (show y274.length ≤ co13 from by omega)
                                        clear hr38 hC38 hroom38 hi038 hsz38
                                        have KY38 := Aside0.mk hy38
                                        clear hy38
                                        have KL38 := Aside0.mk (show ((ji19) : Int).toNat ≤ t258.length from by omega)
                                        replace q38 := eq_true q38
                                        go_wp2_with (first | ((with_reducible refine gate_callee (f := 22) rfl ?_); refine goesL_ (some 49) rfl rfl Tryd.func22 (by kernel_rfl) rfl #[.slice Ao13 y274.length co13] rfl (by (try simp only [List.map_toArray, List.map_cons, List.map_nil]); first | done | rfl | (simp only [List.length_drop, List.length_take]; rfl)) ?_; (with_reducible refine (zigguratlaw30_written.calls k1 _ _ y274 t278 true _ ?side1 ?side2 A22.out).mono ?_); (case side1 => repeat (first | exact (by first | (with_reducible exact HR277.out) | (with_reducible exact Kd.C_drewN HR277.out _) | (with_reducible exact Kd.C_drew HR277.out) | (with_reducible exact Kd.C_alloc HR277.out _) | repeat (first | (with_reducible exact HR277.out) | (with_reducible refine Kd.C_alloc ?_ _) | (with_reducible refine Kd.C_drewN ?_ _) | (with_reducible refine Kd.C_drew ?_) | exact HR277.out)) | (with_reducible refine Kd.C_alloc ?_ _) | (with_reducible refine Kd.C_drewN ?_ _) | (with_reducible refine Kd.C_drew ?_))); (case side2 => exact HC277.out); rintro e w39 ⟨v280, rfl, ho0, hb⟩; refine ⟨_, rfl, ?_⟩; have n0_ := Aside0.mk (Kd.R_below (by (with_reducible repeat (first | apply Kd.R_alloc | apply Kd.R_drewN | apply Kd.R_drew)); exact HO_6.out) hb); have n1_ := Aside0.mk (Kd.R_below (by (with_reducible repeat (first | apply Kd.R_alloc | apply Kd.R_drewN | apply Kd.R_drew)); exact HO_10.out) hb); have n2_ := Aside0.mk (Kd.R_lower ho0 (below_size (by repeat (first | (with_reducible first | exact HB.out | apply below_alloc | apply pw_below_drewN | apply below_drew1) | exact HB.out)))); have n3_ := Aside0.mk (Kd.C_below (by first | (with_reducible exact HR268.out) | (with_reducible exact Kd.C_drewN HR268.out _) | (with_reducible exact Kd.C_drew HR268.out) | (with_reducible exact Kd.C_alloc HR268.out _) | repeat (first | (with_reducible exact HR268.out) | (with_reducible refine Kd.C_alloc ?_ _) | (with_reducible refine Kd.C_drewN ?_ _) | (with_reducible refine Kd.C_drew ?_) | exact HR268.out)) hb); have n4_ := Aside0.mk (Kd.C_below (by first | (with_reducible exact HR277.out) | (with_reducible exact Kd.C_drewN HR277.out _) | (with_reducible exact Kd.C_drew HR277.out) | (with_reducible exact Kd.C_alloc HR277.out _) | repeat (first | (with_reducible exact HR277.out) | (with_reducible refine Kd.C_alloc ?_ _) | (with_reducible refine Kd.C_drewN ?_ _) | (with_reducible refine Kd.C_drew ?_) | exact HR277.out)) hb); have n5_ := Aside0.mk (below_step (by repeat (first | (with_reducible first | exact HB.out | apply below_alloc | apply pw_below_drewN | apply below_drew1) | exact HB.out)) hb); clear HO_6; clear HO_10; clear HR268; clear HR277; clear HB; have HO_6 := n0_; have HO_10 := n1_; have HO281 := n2_; have HR268 := n3_; have HR277 := n4_; have HB := n5_; clear n0_ n1_ n2_ n3_ n4_ n5_; (try clear hb); (try clear hb2); (try clear hk); (try clear hi); (try clear ho0); obtain ⟨Ao40, co40, eo40⟩ := Kd.R_slice HO281.out; subst eo40; have q41 : (x13_1 : Int) ≤ ((t258.length : Int) : Int) := of_decide_eq_true (by first | (with_reducible assumption) | assumption); obtain ⟨i041, hi041, _, hsz41, _⟩ := info_parts info24; have hroom41 : t258.length ≤ co13 := (Kd.R_reads' HO_6.out).2.1; have hC41 : Kd.C k24 _ Ao13 t258.length t258 := (Kd.R_reads' HO_6.out).2.2; have hcut41 := cut_to (P := Tryd.prog) 29 24 .i64 Tryd.underlying29 hi041 Ao13 t258.length co13 x13_1 (of_decide_eq_true (by first | (with_reducible assumption) | assumption)) q41 hroom41; have hr41 := Kd.C_take (m := (x13_1 : Int).toNat) hC41 (by omega); have hy41 : y282.length = (x13_1 : Int).toNat := (by rw [Ny282.out, List.length_take]; omega); rw [← Ny282.out] at hr41; rw [← hy41] at hcut41; have HR285 := Aside0.mk hr41; have HC285 := Aside0.mk (show y282.length ≤ co13 from by omega); clear hr41 hC41 hroom41 hi041 hsz41; have KY41 := Aside0.mk hy41; clear hy41; have KL41 := Aside0.mk (show (x13_1 : Int).toNat ≤ t258.length from by omega); replace q41 := eq_true q41) | ((with_reducible refine gate_callee (f := 22) rfl ?_); refine goesL_ (some 66) rfl rfl Tryd.func22 (by kernel_rfl) rfl #[.slice Ao13 y282.length co13] rfl (by (try simp only [List.map_toArray, List.map_cons, List.map_nil]); first | done | rfl | (simp only [List.length_drop, List.length_take]; rfl)) ?_; (with_reducible refine (zigguratlaw30_written.calls k1 _ _ y282 t286 true _ ?side1 ?side2 A27.out).mono ?_); (case side1 => repeat (first | exact (by first | (with_reducible exact HR285.out) | (with_reducible exact Kd.C_drewN HR285.out _) | (with_reducible exact Kd.C_drew HR285.out) | (with_reducible exact Kd.C_alloc HR285.out _) | repeat (first | (with_reducible exact HR285.out) | (with_reducible refine Kd.C_alloc ?_ _) | (with_reducible refine Kd.C_drewN ?_ _) | (with_reducible refine Kd.C_drew ?_) | exact HR285.out)) | (with_reducible refine Kd.C_alloc ?_ _) | (with_reducible refine Kd.C_drewN ?_ _) | (with_reducible refine Kd.C_drew ?_))); (case side2 => exact HC285.out); rintro e w42 ⟨v288, rfl, ho0, hb⟩; refine ⟨_, rfl, ?_⟩; have n0_ := Aside0.mk (Kd.R_below (by (with_reducible repeat (first | apply Kd.R_alloc | apply Kd.R_drewN | apply Kd.R_drew)); exact HO_6.out) hb); have n1_ := Aside0.mk (Kd.R_below (by (with_reducible repeat (first | apply Kd.R_alloc | apply Kd.R_drewN | apply Kd.R_drew)); exact HO_10.out) hb); have n2_ := Aside0.mk (Kd.R_elder' (by (with_reducible repeat (first | apply Kd.R_alloc | apply Kd.R_drewN | apply Kd.R_drew)); exact HO281.out) (Kd.R_base ho0) hb); have n3_ := Aside0.mk (Kd.R_lower (Kd.R_new' ho0 (Kd.R_lt (by (with_reducible repeat (first | apply Kd.R_alloc | apply Kd.R_drewN | apply Kd.R_drew)); exact HO281.out))) (below_size (by repeat (first | (with_reducible first | exact HB.out | apply below_alloc | apply pw_below_drewN | apply below_drew1) | exact HB.out)))); have n4_ := Aside0.mk (Kd.C_below (by first | (with_reducible exact HR268.out) | (with_reducible exact Kd.C_drewN HR268.out _) | (with_reducible exact Kd.C_drew HR268.out) | (with_reducible exact Kd.C_alloc HR268.out _) | repeat (first | (with_reducible exact HR268.out) | (with_reducible refine Kd.C_alloc ?_ _) | (with_reducible refine Kd.C_drewN ?_ _) | (with_reducible refine Kd.C_drew ?_) | exact HR268.out)) hb); have n5_ := Aside0.mk (Kd.C_below (by first | (with_reducible exact HR277.out) | (with_reducible exact Kd.C_drewN HR277.out _) | (with_reducible exact Kd.C_drew HR277.out) | (with_reducible exact Kd.C_alloc HR277.out _) | repeat (first | (with_reducible exact HR277.out) | (with_reducible refine Kd.C_alloc ?_ _) | (with_reducible refine Kd.C_drewN ?_ _) | (with_reducible refine Kd.C_drew ?_) | exact HR277.out)) hb); have n6_ := Aside0.mk (Kd.C_below (by first | (with_reducible exact HR285.out) | (with_reducible exact Kd.C_drewN HR285.out _) | (with_reducible exact Kd.C_drew HR285.out) | (with_reducible exact Kd.C_alloc HR285.out _) | repeat (first | (with_reducible exact HR285.out) | (with_reducible refine Kd.C_alloc ?_ _) | (with_reducible refine Kd.C_drewN ?_ _) | (with_reducible refine Kd.C_drew ?_) | exact HR285.out)) hb); have n7_ := Aside0.mk (below_step (by repeat (first | (with_reducible first | exact HB.out | apply below_alloc | apply pw_below_drewN | apply below_drew1) | exact HB.out)) hb); clear HO_6; clear HO_10; clear HO281; clear HR268; clear HR277; clear HR285; clear HB; have HO_6 := n0_; have HO_10 := n1_; have HO281 := n2_; have HO289 := n3_; have HR268 := n4_; have HR277 := n5_; have HR285 := n6_; have HB := n7_; clear n0_ n1_ n2_ n3_ n4_ n5_ n6_ n7_; (try clear hb); (try clear hb2); (try clear hk); (try clear hi); (try clear ho0); have q43 : (x13_1 : Int) ≤ ((t258.length : Int) : Int) := of_decide_eq_true (by first | (with_reducible assumption) | assumption); obtain ⟨i043, hi043, _, hsz43, _⟩ := info_parts info24; have hroom43 : t258.length ≤ co13 := (Kd.R_reads' HO_6.out).2.1; have hC43 : Kd.C k24 _ Ao13 t258.length t258 := (Kd.R_reads' HO_6.out).2.2; have hcut43 := cut_to (P := Tryd.prog) 29 24 .i64 Tryd.underlying29 hi043 Ao13 t258.length co13 x13_1 (of_decide_eq_true (by first | (with_reducible assumption) | assumption)) q43 hroom43; have hr43 := Kd.C_take (m := (x13_1 : Int).toNat) hC43 (by omega); have hy43 : y282.length = (x13_1 : Int).toNat := (by rw [Ny290.out, List.length_take]; omega); rw [← Ny290.out] at hr43; rw [← hy43] at hcut43; have HR293 := Aside0.mk hr43; have HC293 := Aside0.mk (show y282.length ≤ co13 from by omega); clear hr43 hC43 hroom43 hi043 hsz43; have KY43 := Aside0.mk hy43; clear hy43; have KL43 := Aside0.mk (show (x13_1 : Int).toNat ≤ t258.length from by omega); replace q43 := eq_true q43; obtain ⟨Ao44, co44, eo44⟩ := Kd.R_slice HO_10.out; subst eo44) | (go_at_call 16; (with_reducible refine (zigguratref30_Same.calls k1 _ _ t269 _ _ y282 true _ ?side1 ?side2 ?side3 ?side4 A33.out).mono ?_); (case side1 => repeat (first | exact (Kd.R_reads' HO_10.out).2.2 | (with_reducible refine Kd.C_alloc ?_ _) | (with_reducible refine Kd.C_drewN ?_ _) | (with_reducible refine Kd.C_drew ?_))); (case side2 => exact (Kd.R_reads' HO_10.out).2.1); (case side3 => repeat (first | exact (by first | (with_reducible exact HR293.out) | (with_reducible exact Kd.C_drewN HR293.out _) | (with_reducible exact Kd.C_drew HR293.out) | (with_reducible exact Kd.C_alloc HR293.out _) | repeat (first | (with_reducible exact HR293.out) | (with_reducible refine Kd.C_alloc ?_ _) | (with_reducible refine Kd.C_drewN ?_ _) | (with_reducible refine Kd.C_drew ?_) | exact HR293.out)) | (with_reducible refine Kd.C_alloc ?_ _) | (with_reducible refine Kd.C_drewN ?_ _) | (with_reducible refine Kd.C_drew ?_))); (case side4 => exact HC293.out); rintro e w' ⟨rfl, ⟨nd, rfl⟩⟩; obtain ⟨Ao45, co45, eo45⟩ := Kd.R_slice HO289.out; subst eo45))
                                        go_ret
                                        exact ⟨by first | rfl | (simp [errW_none, errW_some] <;> rfl) | (simp only [← hji7, ← hji19]; first | rfl | (simp [errW_none, errW_some] <;> rfl)) | (simp [*, errW_none, errW_some] <;> rfl), by repeat (first | (with_reducible first | exact HB.out | apply below_alloc | apply pw_below_drewN | apply below_drew1) | exact HB.out)⟩
                                      · rw [if_neg c37] at H
                                        have c37b0 : (t271 == 0) = false := beq_eq_false_iff_ne.mpr c37
                                        have qx_ : (t270 == ji7) = false := by have h_ := c36b0; rw [c37b0] at h_; simpa using h_
                                        have qy_ : ¬ t270 = ji7 := by simpa using qx_
                                        have qz_ : decide (t270 = ji7) = false := by simpa using qx_
                                        clear qy_
                                        have c37b1 : (t271 != 0) = true := bne_iff_ne.mpr c37
                                        obtain rfl := Option.some.inj H
                                        have q46 : ((ji19) : Int) ≤ ((t258.length : Int) : Int) := of_decide_eq_true (by first | (with_reducible assumption) | assumption)
                                        obtain ⟨i046, hi046, _, hsz46, _⟩ := info_parts info24
                                        have hroom46 : t258.length ≤ co13 := (Kd.R_reads' HO_6.out).2.1
                                        have hC46 : Kd.C k24 _ Ao13 t258.length t258 := (Kd.R_reads' HO_6.out).2.2
                                        have hcut46 := cut_to (P := Tryd.prog) 29 24 .i64 Tryd.underlying29 hi046 Ao13 t258.length co13 (ji19) (of_decide_eq_true (by first | (with_reducible assumption) | assumption)) q46 hroom46
                                        have hr46 := Kd.C_take (m := ((ji19) : Int).toNat) hC46 (by omega)
                                        have hy46 : y274.length = ((ji19) : Int).toNat := (by rw [Ny274.out, List.length_take]; omega)
                                        rw [← Ny274.out] at hr46
                                        rw [← hy46] at hcut46
                                        have HR277 := Aside0.mk hr46
                                        have HC277 := Aside0.mk (show y274.length ≤ co13 from by omega)
                                        clear hr46 hC46 hroom46 hi046 hsz46
                                        have KY46 := Aside0.mk hy46
                                        clear hy46
                                        have KL46 := Aside0.mk (show ((ji19) : Int).toNat ≤ t258.length from by omega)
                                        replace q46 := eq_true q46
                                        go_wp2_with (first | ((with_reducible refine gate_callee (f := 22) rfl ?_); refine goesL_ (some 49) rfl rfl Tryd.func22 (by kernel_rfl) rfl #[.slice Ao13 y274.length co13] rfl (by (try simp only [List.map_toArray, List.map_cons, List.map_nil]); first | done | rfl | (simp only [List.length_drop, List.length_take]; rfl)) ?_; (with_reducible refine (zigguratlaw30_written.calls k1 _ _ y274 t278 true _ ?side1 ?side2 A22.out).mono ?_); (case side1 => repeat (first | exact (by first | (with_reducible exact HR277.out) | (with_reducible exact Kd.C_drewN HR277.out _) | (with_reducible exact Kd.C_drew HR277.out) | (with_reducible exact Kd.C_alloc HR277.out _) | repeat (first | (with_reducible exact HR277.out) | (with_reducible refine Kd.C_alloc ?_ _) | (with_reducible refine Kd.C_drewN ?_ _) | (with_reducible refine Kd.C_drew ?_) | exact HR277.out)) | (with_reducible refine Kd.C_alloc ?_ _) | (with_reducible refine Kd.C_drewN ?_ _) | (with_reducible refine Kd.C_drew ?_))); (case side2 => exact HC277.out); rintro e w47 ⟨v280, rfl, ho0, hb⟩; refine ⟨_, rfl, ?_⟩; have n0_ := Aside0.mk (Kd.R_below (by (with_reducible repeat (first | apply Kd.R_alloc | apply Kd.R_drewN | apply Kd.R_drew)); exact HO_6.out) hb); have n1_ := Aside0.mk (Kd.R_below (by (with_reducible repeat (first | apply Kd.R_alloc | apply Kd.R_drewN | apply Kd.R_drew)); exact HO_10.out) hb); have n2_ := Aside0.mk (Kd.R_lower ho0 (below_size (by repeat (first | (with_reducible first | exact HB.out | apply below_alloc | apply pw_below_drewN | apply below_drew1) | exact HB.out)))); have n3_ := Aside0.mk (Kd.C_below (by first | (with_reducible exact HR268.out) | (with_reducible exact Kd.C_drewN HR268.out _) | (with_reducible exact Kd.C_drew HR268.out) | (with_reducible exact Kd.C_alloc HR268.out _) | repeat (first | (with_reducible exact HR268.out) | (with_reducible refine Kd.C_alloc ?_ _) | (with_reducible refine Kd.C_drewN ?_ _) | (with_reducible refine Kd.C_drew ?_) | exact HR268.out)) hb); have n4_ := Aside0.mk (Kd.C_below (by first | (with_reducible exact HR277.out) | (with_reducible exact Kd.C_drewN HR277.out _) | (with_reducible exact Kd.C_drew HR277.out) | (with_reducible exact Kd.C_alloc HR277.out _) | repeat (first | (with_reducible exact HR277.out) | (with_reducible refine Kd.C_alloc ?_ _) | (with_reducible refine Kd.C_drewN ?_ _) | (with_reducible refine Kd.C_drew ?_) | exact HR277.out)) hb); have n5_ := Aside0.mk (below_step (by repeat (first | (with_reducible first | exact HB.out | apply below_alloc | apply pw_below_drewN | apply below_drew1) | exact HB.out)) hb); clear HO_6; clear HO_10; clear HR268; clear HR277; clear HB; have HO_6 := n0_; have HO_10 := n1_; have HO281 := n2_; have HR268 := n3_; have HR277 := n4_; have HB := n5_; clear n0_ n1_ n2_ n3_ n4_ n5_; (try clear hb); (try clear hb2); (try clear hk); (try clear hi); (try clear ho0); obtain ⟨Ao48, co48, eo48⟩ := Kd.R_slice HO281.out; subst eo48; have q49 : (x13_1 : Int) ≤ ((t258.length : Int) : Int) := of_decide_eq_true (by first | (with_reducible assumption) | assumption); obtain ⟨i049, hi049, _, hsz49, _⟩ := info_parts info24; have hroom49 : t258.length ≤ co13 := (Kd.R_reads' HO_6.out).2.1; have hC49 : Kd.C k24 _ Ao13 t258.length t258 := (Kd.R_reads' HO_6.out).2.2; have hcut49 := cut_to (P := Tryd.prog) 29 24 .i64 Tryd.underlying29 hi049 Ao13 t258.length co13 x13_1 (of_decide_eq_true (by first | (with_reducible assumption) | assumption)) q49 hroom49; have hr49 := Kd.C_take (m := (x13_1 : Int).toNat) hC49 (by omega); have hy49 : y282.length = (x13_1 : Int).toNat := (by rw [Ny282.out, List.length_take]; omega); rw [← Ny282.out] at hr49; rw [← hy49] at hcut49; have HR285 := Aside0.mk hr49; have HC285 := Aside0.mk (show y282.length ≤ co13 from by omega); clear hr49 hC49 hroom49 hi049 hsz49; have KY49 := Aside0.mk hy49; clear hy49; have KL49 := Aside0.mk (show (x13_1 : Int).toNat ≤ t258.length from by omega); replace q49 := eq_true q49) | ((with_reducible refine gate_callee (f := 22) rfl ?_); refine goesL_ (some 66) rfl rfl Tryd.func22 (by kernel_rfl) rfl #[.slice Ao13 y282.length co13] rfl (by (try simp only [List.map_toArray, List.map_cons, List.map_nil]); first | done | rfl | (simp only [List.length_drop, List.length_take]; rfl)) ?_; (with_reducible refine (zigguratlaw30_written.calls k1 _ _ y282 t286 true _ ?side1 ?side2 A27.out).mono ?_); (case side1 => repeat (first | exact (by first | (with_reducible exact HR285.out) | (with_reducible exact Kd.C_drewN HR285.out _) | (with_reducible exact Kd.C_drew HR285.out) | (with_reducible exact Kd.C_alloc HR285.out _) | repeat (first | (with_reducible exact HR285.out) | (with_reducible refine Kd.C_alloc ?_ _) | (with_reducible refine Kd.C_drewN ?_ _) | (with_reducible refine Kd.C_drew ?_) | exact HR285.out)) | (with_reducible refine Kd.C_alloc ?_ _) | (with_reducible refine Kd.C_drewN ?_ _) | (with_reducible refine Kd.C_drew ?_))); (case side2 => exact HC285.out); rintro e w50 ⟨v288, rfl, ho0, hb⟩; refine ⟨_, rfl, ?_⟩; have n0_ := Aside0.mk (Kd.R_below (by (with_reducible repeat (first | apply Kd.R_alloc | apply Kd.R_drewN | apply Kd.R_drew)); exact HO_6.out) hb); have n1_ := Aside0.mk (Kd.R_below (by (with_reducible repeat (first | apply Kd.R_alloc | apply Kd.R_drewN | apply Kd.R_drew)); exact HO_10.out) hb); have n2_ := Aside0.mk (Kd.R_elder' (by (with_reducible repeat (first | apply Kd.R_alloc | apply Kd.R_drewN | apply Kd.R_drew)); exact HO281.out) (Kd.R_base ho0) hb); have n3_ := Aside0.mk (Kd.R_lower (Kd.R_new' ho0 (Kd.R_lt (by (with_reducible repeat (first | apply Kd.R_alloc | apply Kd.R_drewN | apply Kd.R_drew)); exact HO281.out))) (below_size (by repeat (first | (with_reducible first | exact HB.out | apply below_alloc | apply pw_below_drewN | apply below_drew1) | exact HB.out)))); have n4_ := Aside0.mk (Kd.C_below (by first | (with_reducible exact HR268.out) | (with_reducible exact Kd.C_drewN HR268.out _) | (with_reducible exact Kd.C_drew HR268.out) | (with_reducible exact Kd.C_alloc HR268.out _) | repeat (first | (with_reducible exact HR268.out) | (with_reducible refine Kd.C_alloc ?_ _) | (with_reducible refine Kd.C_drewN ?_ _) | (with_reducible refine Kd.C_drew ?_) | exact HR268.out)) hb); have n5_ := Aside0.mk (Kd.C_below (by first | (with_reducible exact HR277.out) | (with_reducible exact Kd.C_drewN HR277.out _) | (with_reducible exact Kd.C_drew HR277.out) | (with_reducible exact Kd.C_alloc HR277.out _) | repeat (first | (with_reducible exact HR277.out) | (with_reducible refine Kd.C_alloc ?_ _) | (with_reducible refine Kd.C_drewN ?_ _) | (with_reducible refine Kd.C_drew ?_) | exact HR277.out)) hb); have n6_ := Aside0.mk (Kd.C_below (by first | (with_reducible exact HR285.out) | (with_reducible exact Kd.C_drewN HR285.out _) | (with_reducible exact Kd.C_drew HR285.out) | (with_reducible exact Kd.C_alloc HR285.out _) | repeat (first | (with_reducible exact HR285.out) | (with_reducible refine Kd.C_alloc ?_ _) | (with_reducible refine Kd.C_drewN ?_ _) | (with_reducible refine Kd.C_drew ?_) | exact HR285.out)) hb); have n7_ := Aside0.mk (below_step (by repeat (first | (with_reducible first | exact HB.out | apply below_alloc | apply pw_below_drewN | apply below_drew1) | exact HB.out)) hb); clear HO_6; clear HO_10; clear HO281; clear HR268; clear HR277; clear HR285; clear HB; have HO_6 := n0_; have HO_10 := n1_; have HO281 := n2_; have HO289 := n3_; have HR268 := n4_; have HR277 := n5_; have HR285 := n6_; have HB := n7_; clear n0_ n1_ n2_ n3_ n4_ n5_ n6_ n7_; (try clear hb); (try clear hb2); (try clear hk); (try clear hi); (try clear ho0); have q51 : (x13_1 : Int) ≤ ((t258.length : Int) : Int) := of_decide_eq_true (by first | (with_reducible assumption) | assumption); obtain ⟨i051, hi051, _, hsz51, _⟩ := info_parts info24; have hroom51 : t258.length ≤ co13 := (Kd.R_reads' HO_6.out).2.1; have hC51 : Kd.C k24 _ Ao13 t258.length t258 := (Kd.R_reads' HO_6.out).2.2; have hcut51 := cut_to (P := Tryd.prog) 29 24 .i64 Tryd.underlying29 hi051 Ao13 t258.length co13 x13_1 (of_decide_eq_true (by first | (with_reducible assumption) | assumption)) q51 hroom51; have hr51 := Kd.C_take (m := (x13_1 : Int).toNat) hC51 (by omega); have hy51 : y282.length = (x13_1 : Int).toNat := (by rw [Ny290.out, List.length_take]; omega); rw [← Ny290.out] at hr51; rw [← hy51] at hcut51; have HR293 := Aside0.mk hr51; have HC293 := Aside0.mk (show y282.length ≤ co13 from by omega); clear hr51 hC51 hroom51 hi051 hsz51; have KY51 := Aside0.mk hy51; clear hy51; have KL51 := Aside0.mk (show (x13_1 : Int).toNat ≤ t258.length from by omega); replace q51 := eq_true q51; obtain ⟨Ao52, co52, eo52⟩ := Kd.R_slice HO_10.out; subst eo52) | (go_at_call 16; (with_reducible refine (zigguratref30_Same.calls k1 _ _ t269 _ _ y282 true _ ?side1 ?side2 ?side3 ?side4 A33.out).mono ?_); (case side1 => repeat (first | exact (Kd.R_reads' HO_10.out).2.2 | (with_reducible refine Kd.C_alloc ?_ _) | (with_reducible refine Kd.C_drewN ?_ _) | (with_reducible refine Kd.C_drew ?_))); (case side2 => exact (Kd.R_reads' HO_10.out).2.1); (case side3 => repeat (first | exact (by first | (with_reducible exact HR293.out) | (with_reducible exact Kd.C_drewN HR293.out _) | (with_reducible exact Kd.C_drew HR293.out) | (with_reducible exact Kd.C_alloc HR293.out _) | repeat (first | (with_reducible exact HR293.out) | (with_reducible refine Kd.C_alloc ?_ _) | (with_reducible refine Kd.C_drewN ?_ _) | (with_reducible refine Kd.C_drew ?_) | exact HR293.out)) | (with_reducible refine Kd.C_alloc ?_ _) | (with_reducible refine Kd.C_drewN ?_ _) | (with_reducible refine Kd.C_drew ?_))); (case side4 => exact HC293.out); rintro e w' ⟨rfl, ⟨nd, rfl⟩⟩; obtain ⟨Ao53, co53, eo53⟩ := Kd.R_slice HO289.out; subst eo53))
                                        go_ret
                                        exact ⟨by first | rfl | (simp [errW_none, errW_some] <;> rfl) | (simp only [← hji7, ← hji19]; first | rfl | (simp [errW_none, errW_some] <;> rfl)) | (simp [*, errW_none, errW_some] <;> rfl), by repeat (first | (with_reducible first | exact HB.out | apply below_alloc | apply pw_below_drewN | apply below_drew1) | exact HB.out)⟩
                                    · rw [if_neg c36] at H
                                      exact absurd H (by simp)
                                  · rw [if_neg c35] at H
                                    exact absurd H (by simp)
                                · replace c34 := Bool.eq_false_iff.mpr c34
                                  subst c34
                                  have H1 : (none) = some r := by rw [if_neg (show ¬ (false = true) by decide)] at H; exact H
                                  clear H
                                  have H := H1
                                  clear H1
                                  exact absurd H (by simp)
                              · replace c30 := Bool.eq_false_iff.mpr c30
                                subst c30
                                have H1 : (none) = some r := by rw [if_neg (show ¬ (false = true) by decide)] at H; exact H
                                clear H
                                have H := H1
                                clear H1
                                exact absurd H (by simp)
                            · replace c29 := Bool.eq_false_iff.mpr c29
                              subst c29
                              have H1 : (none) = some r := by rw [if_neg (show ¬ (false = true) by decide)] at H; exact H
                              clear H
                              have H := H1
                              clear H1
                              exact absurd H (by simp)
                          · replace c28 := Bool.eq_false_iff.mpr c28
                            subst c28
                            have H1 : (none) = some r := by rw [if_neg (show ¬ (false = true) by decide)] at H; exact H
                            clear H
                            have H := H1
                            clear H1
                            exact absurd H (by simp)
                        · rw [if_neg c26] at H
                          exact absurd H (by simp)
                      · rw [if_neg c25] at H
                        exact absurd H (by simp)
                    · rw [if_neg c24] at H
                      have c24b0 : decide (ji7 < (t278.length : Int)) = false := decide_eq_false c24
                      clear c24
                      have H' := Aside0.mk H
                      clear H
                      have q54 : ((ji19) : Int) ≤ ((t258.length : Int) : Int) := of_decide_eq_true (by first | (with_reducible assumption) | assumption)
                      obtain ⟨i054, hi054, _, hsz54, _⟩ := info_parts info24
                      have hroom54 : t258.length ≤ co13 := (Kd.R_reads' HO_6.out).2.1
                      have hC54 : Kd.C k24 _ Ao13 t258.length t258 := (Kd.R_reads' HO_6.out).2.2
                      have hcut54 := cut_to (P := Tryd.prog) 29 24 .i64 Tryd.underlying29 hi054 Ao13 t258.length co13 (ji19) (of_decide_eq_true (by first | (with_reducible assumption) | assumption)) q54 hroom54
                      have hr54 := Kd.C_take (m := ((ji19) : Int).toNat) hC54 (by omega)
                      have hy54 : y274.length = ((ji19) : Int).toNat := (by rw [Ny274.out, List.length_take]; omega)
                      rw [← Ny274.out] at hr54
                      rw [← hy54] at hcut54
                      have HR277 := Aside0.mk hr54
                      have HC277 := Aside0.mk (show y274.length ≤ co13 from by omega)
                      clear hr54 hC54 hroom54 hi054 hsz54
                      have KY54 := Aside0.mk hy54
                      clear hy54
                      have KL54 := Aside0.mk (show ((ji19) : Int).toNat ≤ t258.length from by omega)
                      replace q54 := eq_true q54
                      go_wp2_with (first | ((with_reducible refine gate_callee (f := 22) rfl ?_); refine goesL_ (some 49) rfl rfl Tryd.func22 (by kernel_rfl) rfl #[.slice Ao13 y274.length co13] rfl (by (try simp only [List.map_toArray, List.map_cons, List.map_nil]); first | done | rfl | (simp only [List.length_drop, List.length_take]; rfl)) ?_; (with_reducible refine (zigguratlaw30_written.calls k1 _ _ y274 t278 true _ ?side1 ?side2 A22.out).mono ?_); (case side1 => repeat (first | exact (by first | (with_reducible exact HR277.out) | (with_reducible exact Kd.C_drewN HR277.out _) | (with_reducible exact Kd.C_drew HR277.out) | (with_reducible exact Kd.C_alloc HR277.out _) | repeat (first | (with_reducible exact HR277.out) | (with_reducible refine Kd.C_alloc ?_ _) | (with_reducible refine Kd.C_drewN ?_ _) | (with_reducible refine Kd.C_drew ?_) | exact HR277.out)) | (with_reducible refine Kd.C_alloc ?_ _) | (with_reducible refine Kd.C_drewN ?_ _) | (with_reducible refine Kd.C_drew ?_))); (case side2 => exact HC277.out); rintro e w55 ⟨v280, rfl, ho0, hb⟩; refine ⟨_, rfl, ?_⟩; have n0_ := Aside0.mk (Kd.R_below (by (with_reducible repeat (first | apply Kd.R_alloc | apply Kd.R_drewN | apply Kd.R_drew)); exact HO_6.out) hb); have n1_ := Aside0.mk (Kd.R_below (by (with_reducible repeat (first | apply Kd.R_alloc | apply Kd.R_drewN | apply Kd.R_drew)); exact HO_10.out) hb); have n2_ := Aside0.mk (Kd.R_lower ho0 (below_size (by repeat (first | (with_reducible first | exact HB.out | apply below_alloc | apply pw_below_drewN | apply below_drew1) | exact HB.out)))); have n3_ := Aside0.mk (Kd.C_below (by first | (with_reducible exact HR268.out) | (with_reducible exact Kd.C_drewN HR268.out _) | (with_reducible exact Kd.C_drew HR268.out) | (with_reducible exact Kd.C_alloc HR268.out _) | repeat (first | (with_reducible exact HR268.out) | (with_reducible refine Kd.C_alloc ?_ _) | (with_reducible refine Kd.C_drewN ?_ _) | (with_reducible refine Kd.C_drew ?_) | exact HR268.out)) hb); have n4_ := Aside0.mk (Kd.C_below (by first | (with_reducible exact HR277.out) | (with_reducible exact Kd.C_drewN HR277.out _) | (with_reducible exact Kd.C_drew HR277.out) | (with_reducible exact Kd.C_alloc HR277.out _) | repeat (first | (with_reducible exact HR277.out) | (with_reducible refine Kd.C_alloc ?_ _) | (with_reducible refine Kd.C_drewN ?_ _) | (with_reducible refine Kd.C_drew ?_) | exact HR277.out)) hb); have n5_ := Aside0.mk (below_step (by repeat (first | (with_reducible first | exact HB.out | apply below_alloc | apply pw_below_drewN | apply below_drew1) | exact HB.out)) hb); clear HO_6; clear HO_10; clear HR268; clear HR277; clear HB; have HO_6 := n0_; have HO_10 := n1_; have HO281 := n2_; have HR268 := n3_; have HR277 := n4_; have HB := n5_; clear n0_ n1_ n2_ n3_ n4_ n5_; (try clear hb); (try clear hb2); (try clear hk); (try clear hi); (try clear ho0); obtain ⟨Ao56, co56, eo56⟩ := Kd.R_slice HO281.out; subst eo56))
                      first | go_roundg k1 | (subst hji7; go_roundg k1) | (subst hji19; go_roundg k1)
                      case measure => have := HK1.out; omega
                      case rel => exact ⟨(ji19), (by first | rfl | (simp; done) | (simp only [← hji19] <;> (first | rfl | simp)) | (simp [*]; done)), (by first | exact H' | (subst_vars; exact H')), ⟨by have := HK1.out; omega⟩, ⟨by (with_reducible repeat (first | apply Kd.R_alloc | apply Kd.R_drewN | apply Kd.R_drew)); exact HO_6.out⟩, ⟨by (with_reducible repeat (first | apply Kd.R_alloc | apply Kd.R_drewN | apply Kd.R_drew)); exact HO_10.out⟩, ⟨by repeat (first | (with_reducible exact HR268.out) | (with_reducible refine Kd.C_alloc ?_ _) | (with_reducible refine Kd.C_drewN ?_ _) | (with_reducible refine Kd.C_drew ?_) | exact HR268.out)⟩, ⟨by repeat (first | (with_reducible first | exact HB.out | apply below_alloc | apply pw_below_drewN | apply below_drew1) | exact HB.out)⟩⟩
                  · replace c23 := Bool.eq_false_iff.mpr c23
                    subst c23
                    have H1 : (if 0 ≤ x13_1 then (if x13_1 ≤ (t258.length : Int) then ((zigguratlaw30_written.f k1 (t258.take (x13_1 : Int).toNat)).bind fun bt299 => (if t257 = true then (if t262 = true then (if bt299.2 = true then ((zigguratref30_Same.f k1 t269 (t258.take (x13_1 : Int).toNat)).bind fun t307 => (if t307 = true then (if t270 = (bt299.1.length : Int) then (if ((t271 == 0) == (t270 == ji7)) = true then (if t271 = 0 then (some true) else (some (t271 == 301))) else (none)) else (none)) else (none))) else (none)) else (none)) else (none))) else (none)) else (none)) = some r := by rw [if_neg (show ¬ (false = true) by decide)] at H; exact H
                    clear H
                    have H := H1
                    clear H1
                    by_cases c57 : 0 ≤ x13_1
                    · rw [if_pos c57] at H
                      have c57b0 := eq_true c57
                      have c57b1 : decide (0 ≤ x13_1) = true := decide_eq_true c57
                      clear c57
                      by_cases c58 : x13_1 ≤ (t258.length : Int)
                      · rw [if_pos c58] at H
                        have c58b0 := eq_true c58
                        have c58b1 : decide (x13_1 ≤ (t258.length : Int)) = true := decide_eq_true c58
                        clear c58
                        obtain ⟨y295, hy295⟩ : ∃ y_ : List (S24), y_ = (t258.take (x13_1 : Int).toNat) := ⟨_, rfl⟩
                        replace H : ((zigguratlaw30_written.f k1 y295).bind fun bt299 => (if t257 = true then (if t262 = true then (if bt299.2 = true then ((zigguratref30_Same.f k1 t269 (t258.take (x13_1 : Int).toNat)).bind fun t307 => (if t307 = true then (if t270 = (bt299.1.length : Int) then (if ((t271 == 0) == (t270 == ji7)) = true then (if t271 = 0 then (some true) else (some (t271 == 301))) else (none)) else (none)) else (none))) else (none)) else (none)) else (none))) = some r := by first | (rw [hy295]; with_reducible exact H) | (have H2_ := (Option.bind_some _ _).symm.trans H; rw [hy295]; with_reducible exact H2_) | (have H2_ := (Option.bind_some _ _).symm.trans H; with_reducible exact H2_) | with_reducible exact H | (rw [hy295]; exact H) | exact H
                        have Ny295 := Aside0.mk hy295
                        clear hy295
                        replace H := Option.bind_eq_some_iff.mp H
                        obtain ⟨⟨t299, t300⟩, A590, H⟩ := H
                        replace H : (if t257 = true then (if t262 = true then (if t300 = true then ((zigguratref30_Same.f k1 t269 (t258.take (x13_1 : Int).toNat)).bind fun t307 => (if t307 = true then (if t270 = (t299.length : Int) then (if ((t271 == 0) == (t270 == ji7)) = true then (if t271 = 0 then (some true) else (some (t271 == 301))) else (none)) else (none)) else (none))) else (none)) else (none)) else (none)) = some r := H
                        have A59 := Aside0.mk A590
                        clear A590
                        by_cases c60 : t257 = true
                        · subst c60
                          have H1 : (if t262 = true then (if t300 = true then ((zigguratref30_Same.f k1 t269 (t258.take (x13_1 : Int).toNat)).bind fun t307 => (if t307 = true then (if t270 = (t299.length : Int) then (if ((t271 == 0) == (t270 == ji7)) = true then (if t271 = 0 then (some true) else (some (t271 == 301))) else (none)) else (none)) else (none))) else (none)) else (none)) = some r := by rw [if_pos rfl] at H; exact H
                          clear H
                          have H := H1
                          clear H1
                          by_cases c61 : t262 = true
                          · subst c61
                            have H1 : (if t300 = true then ((zigguratref30_Same.f k1 t269 (t258.take (x13_1 : Int).toNat)).bind fun t307 => (if t307 = true then (if t270 = (t299.length : Int) then (if ((t271 == 0) == (t270 == ji7)) = true then (if t271 = 0 then (some true) else (some (t271 == 301))) else (none)) else (none)) else (none))) else (none)) = some r := by rw [if_pos rfl] at H; exact H
                            clear H
                            have H := H1
                            clear H1
                            by_cases c62 : t300 = true
                            · subst c62
                              have H1 : ((zigguratref30_Same.f k1 t269 (t258.take (x13_1 : Int).toNat)).bind fun t307 => (if t307 = true then (if t270 = (t299.length : Int) then (if ((t271 == 0) == (t270 == ji7)) = true then (if t271 = 0 then (some true) else (some (t271 == 301))) else (none)) else (none)) else (none))) = some r := by rw [if_pos rfl] at H; exact H
                              clear H
                              have H := H1
                              clear H1
                              have c63b0 := eq_true (of_decide_eq_true (by first | (with_reducible assumption) | assumption) : 0 ≤ x13_1)
                              have c64b0 := eq_true (of_decide_eq_true (by first | (with_reducible assumption) | assumption) : x13_1 ≤ (t258.length : Int))
                              obtain ⟨y303, hy303⟩ : ∃ y_ : List (S24), y_ = (t258.take (x13_1 : Int).toNat) := ⟨_, rfl⟩
                              replace H : ((zigguratref30_Same.f k1 t269 y303).bind fun t307 => (if t307 = true then (if t270 = (t299.length : Int) then (if ((t271 == 0) == (t270 == ji7)) = true then (if t271 = 0 then (some true) else (some (t271 == 301))) else (none)) else (none)) else (none))) = some r := by first | (rw [hy303]; with_reducible exact H) | (have H2_ := (Option.bind_some _ _).symm.trans H; rw [hy303]; with_reducible exact H2_) | (have H2_ := (Option.bind_some _ _).symm.trans H; with_reducible exact H2_) | with_reducible exact H | (rw [hy303]; exact H) | exact H
                              have Ny303 := Aside0.mk hy303
                              clear hy303
                              have ey_ : y295 = y303 := Ny295.out.trans Ny303.out.symm
                              subst ey_
                              replace H := Option.bind_eq_some_iff.mp H
                              obtain ⟨t307, A650, H⟩ := H
                              replace H : (if t307 = true then (if t270 = (t299.length : Int) then (if ((t271 == 0) == (t270 == ji7)) = true then (if t271 = 0 then (some true) else (some (t271 == 301))) else (none)) else (none)) else (none)) = some r := H
                              have A65 := Aside0.mk A650
                              clear A650
                              by_cases c66 : t307 = true
                              · subst c66
                                have H1 : (if t270 = (t299.length : Int) then (if ((t271 == 0) == (t270 == ji7)) = true then (if t271 = 0 then (some true) else (some (t271 == 301))) else (none)) else (none)) = some r := by rw [if_pos rfl] at H; exact H
                                clear H
                                have H := H1
                                clear H1
                                by_cases c67 : t270 = (t299.length : Int)
                                · rw [if_pos c67] at H
                                  have c67b0 : (t270 == (t299.length : Int)) = true := beq_iff_eq.mpr c67
                                  have c67b1 : (t270 != (t299.length : Int)) = false := bne_eq_false_iff_eq.mpr c67
                                  clear c67
                                  by_cases c68 : ((t271 == 0) == (t270 == ji7)) = true
                                  · rw [if_pos c68] at H
                                    have c68b0 : ((t271 == 0) == (t270 == ji7)) = true := c68
                                    (try (have c68b1 : decide ((t271 == 0) = (t270 == ji7)) = true := by simpa using c68))
                                    (try (have c68b2 : ((t271 == 0) == (t270 == ji7)) = true := by simpa using c68))
                                    clear c68
                                    by_cases c69 : t271 = 0
                                    · rw [if_pos c69] at H
                                      have c69b0 : (t271 == 0) = true := beq_iff_eq.mpr c69
                                      have qx_ : (t270 == ji7) = true := by have h_ := c68b0; rw [c69b0] at h_; simpa using h_
                                      have qy_ : t270 = ji7 := by simpa using qx_
                                      have qz_ : decide (t270 = ji7) = true := by simpa using qx_
                                      clear qy_
                                      have c69b1 : (t271 != 0) = false := bne_eq_false_iff_eq.mpr c69
                                      clear c69
                                      obtain rfl := Option.some.inj H
                                      have q70 : ((ji19) : Int) ≤ ((t258.length : Int) : Int) := of_decide_eq_true (by first | (with_reducible assumption) | assumption)
                                      obtain ⟨i070, hi070, _, hsz70, _⟩ := info_parts info24
                                      have hroom70 : t258.length ≤ co13 := (Kd.R_reads' HO_6.out).2.1
                                      have hC70 : Kd.C k24 _ Ao13 t258.length t258 := (Kd.R_reads' HO_6.out).2.2
                                      have hcut70 := cut_to (P := Tryd.prog) 29 24 .i64 Tryd.underlying29 hi070 Ao13 t258.length co13 (ji19) (of_decide_eq_true (by first | (with_reducible assumption) | assumption)) q70 hroom70
                                      have hr70 := Kd.C_take (m := ((ji19) : Int).toNat) hC70 (by omega)
                                      have hy70 : y274.length = ((ji19) : Int).toNat := (by rw [Ny274.out, List.length_take]; omega)
                                      rw [← Ny274.out] at hr70
                                      rw [← hy70] at hcut70
                                      have HR277 := Aside0.mk hr70
                                      have HC277 := Aside0.mk (show y274.length ≤ co13 from by omega)
                                      clear hr70 hC70 hroom70 hi070 hsz70
                                      have KY70 := Aside0.mk hy70
                                      clear hy70
                                      have KL70 := Aside0.mk (show ((ji19) : Int).toNat ≤ t258.length from by omega)
                                      replace q70 := eq_true q70
                                      go_wp2_with (first | ((with_reducible refine gate_callee (f := 22) rfl ?_); refine goesL_ (some 49) rfl rfl Tryd.func22 (by kernel_rfl) rfl #[.slice Ao13 y274.length co13] rfl (by (try simp only [List.map_toArray, List.map_cons, List.map_nil]); first | done | rfl | (simp only [List.length_drop, List.length_take]; rfl)) ?_; (with_reducible refine (zigguratlaw30_written.calls k1 _ _ y274 t278 false _ ?side1 ?side2 A22.out).mono ?_); (case side1 => repeat (first | exact (by first | (with_reducible exact HR277.out) | (with_reducible exact Kd.C_drewN HR277.out _) | (with_reducible exact Kd.C_drew HR277.out) | (with_reducible exact Kd.C_alloc HR277.out _) | repeat (first | (with_reducible exact HR277.out) | (with_reducible refine Kd.C_alloc ?_ _) | (with_reducible refine Kd.C_drewN ?_ _) | (with_reducible refine Kd.C_drew ?_) | exact HR277.out)) | (with_reducible refine Kd.C_alloc ?_ _) | (with_reducible refine Kd.C_drewN ?_ _) | (with_reducible refine Kd.C_drew ?_))); (case side2 => exact HC277.out); rintro e w71 ⟨v280, rfl, ho0, hb⟩; refine ⟨_, rfl, ?_⟩; have n0_ := Aside0.mk (Kd.R_below (by (with_reducible repeat (first | apply Kd.R_alloc | apply Kd.R_drewN | apply Kd.R_drew)); exact HO_6.out) hb); have n1_ := Aside0.mk (Kd.R_below (by (with_reducible repeat (first | apply Kd.R_alloc | apply Kd.R_drewN | apply Kd.R_drew)); exact HO_10.out) hb); have n2_ := Aside0.mk (Kd.R_lower ho0 (below_size (by repeat (first | (with_reducible first | exact HB.out | apply below_alloc | apply pw_below_drewN | apply below_drew1) | exact HB.out)))); have n3_ := Aside0.mk (Kd.C_below (by first | (with_reducible exact HR268.out) | (with_reducible exact Kd.C_drewN HR268.out _) | (with_reducible exact Kd.C_drew HR268.out) | (with_reducible exact Kd.C_alloc HR268.out _) | repeat (first | (with_reducible exact HR268.out) | (with_reducible refine Kd.C_alloc ?_ _) | (with_reducible refine Kd.C_drewN ?_ _) | (with_reducible refine Kd.C_drew ?_) | exact HR268.out)) hb); have n4_ := Aside0.mk (Kd.C_below (by first | (with_reducible exact HR277.out) | (with_reducible exact Kd.C_drewN HR277.out _) | (with_reducible exact Kd.C_drew HR277.out) | (with_reducible exact Kd.C_alloc HR277.out _) | repeat (first | (with_reducible exact HR277.out) | (with_reducible refine Kd.C_alloc ?_ _) | (with_reducible refine Kd.C_drewN ?_ _) | (with_reducible refine Kd.C_drew ?_) | exact HR277.out)) hb); have n5_ := Aside0.mk (below_step (by repeat (first | (with_reducible first | exact HB.out | apply below_alloc | apply pw_below_drewN | apply below_drew1) | exact HB.out)) hb); clear HO_6; clear HO_10; clear HR268; clear HR277; clear HB; have HO_6 := n0_; have HO_10 := n1_; have HO281 := n2_; have HR268 := n3_; have HR277 := n4_; have HB := n5_; clear n0_ n1_ n2_ n3_ n4_ n5_; (try clear hb); (try clear hb2); (try clear hk); (try clear hi); (try clear ho0); have q72 : (x13_1 : Int) ≤ ((t258.length : Int) : Int) := of_decide_eq_true (by first | (with_reducible assumption) | assumption); obtain ⟨i072, hi072, _, hsz72, _⟩ := info_parts info24; have hroom72 : t258.length ≤ co13 := (Kd.R_reads' HO_6.out).2.1; have hC72 : Kd.C k24 _ Ao13 t258.length t258 := (Kd.R_reads' HO_6.out).2.2; have hcut72 := cut_to (P := Tryd.prog) 29 24 .i64 Tryd.underlying29 hi072 Ao13 t258.length co13 x13_1 (of_decide_eq_true (by first | (with_reducible assumption) | assumption)) q72 hroom72; have hr72 := Kd.C_take (m := (x13_1 : Int).toNat) hC72 (by omega); have hy72 : y295.length = (x13_1 : Int).toNat := (by rw [Ny295.out, List.length_take]; omega); rw [← Ny295.out] at hr72; rw [← hy72] at hcut72; have HR298 := Aside0.mk hr72; have HC298 := Aside0.mk (show y295.length ≤ co13 from by omega); clear hr72 hC72 hroom72 hi072 hsz72; have KY72 := Aside0.mk hy72; clear hy72; have KL72 := Aside0.mk (show (x13_1 : Int).toNat ≤ t258.length from by omega); replace q72 := eq_true q72) | ((with_reducible refine gate_callee (f := 22) rfl ?_); refine goesL_ (some 66) rfl rfl Tryd.func22 (by kernel_rfl) rfl #[.slice Ao13 y295.length co13] rfl (by (try simp only [List.map_toArray, List.map_cons, List.map_nil]); first | done | rfl | (simp only [List.length_drop, List.length_take]; rfl)) ?_; (with_reducible refine (zigguratlaw30_written.calls k1 _ _ y295 t299 true _ ?side1 ?side2 A59.out).mono ?_); (case side1 => repeat (first | exact (by first | (with_reducible exact HR298.out) | (with_reducible exact Kd.C_drewN HR298.out _) | (with_reducible exact Kd.C_drew HR298.out) | (with_reducible exact Kd.C_alloc HR298.out _) | repeat (first | (with_reducible exact HR298.out) | (with_reducible refine Kd.C_alloc ?_ _) | (with_reducible refine Kd.C_drewN ?_ _) | (with_reducible refine Kd.C_drew ?_) | exact HR298.out)) | (with_reducible refine Kd.C_alloc ?_ _) | (with_reducible refine Kd.C_drewN ?_ _) | (with_reducible refine Kd.C_drew ?_))); (case side2 => exact HC298.out); rintro e w73 ⟨v301, rfl, ho0, hb⟩; refine ⟨_, rfl, ?_⟩; have n0_ := Aside0.mk (Kd.R_below (by (with_reducible repeat (first | apply Kd.R_alloc | apply Kd.R_drewN | apply Kd.R_drew)); exact HO_6.out) hb); have n1_ := Aside0.mk (Kd.R_below (by (with_reducible repeat (first | apply Kd.R_alloc | apply Kd.R_drewN | apply Kd.R_drew)); exact HO_10.out) hb); have n2_ := Aside0.mk (Kd.R_elder' (by (with_reducible repeat (first | apply Kd.R_alloc | apply Kd.R_drewN | apply Kd.R_drew)); exact HO281.out) (Kd.R_base ho0) hb); have n3_ := Aside0.mk (Kd.R_lower (Kd.R_new' ho0 (Kd.R_lt (by (with_reducible repeat (first | apply Kd.R_alloc | apply Kd.R_drewN | apply Kd.R_drew)); exact HO281.out))) (below_size (by repeat (first | (with_reducible first | exact HB.out | apply below_alloc | apply pw_below_drewN | apply below_drew1) | exact HB.out)))); have n4_ := Aside0.mk (Kd.C_below (by first | (with_reducible exact HR268.out) | (with_reducible exact Kd.C_drewN HR268.out _) | (with_reducible exact Kd.C_drew HR268.out) | (with_reducible exact Kd.C_alloc HR268.out _) | repeat (first | (with_reducible exact HR268.out) | (with_reducible refine Kd.C_alloc ?_ _) | (with_reducible refine Kd.C_drewN ?_ _) | (with_reducible refine Kd.C_drew ?_) | exact HR268.out)) hb); have n5_ := Aside0.mk (Kd.C_below (by first | (with_reducible exact HR277.out) | (with_reducible exact Kd.C_drewN HR277.out _) | (with_reducible exact Kd.C_drew HR277.out) | (with_reducible exact Kd.C_alloc HR277.out _) | repeat (first | (with_reducible exact HR277.out) | (with_reducible refine Kd.C_alloc ?_ _) | (with_reducible refine Kd.C_drewN ?_ _) | (with_reducible refine Kd.C_drew ?_) | exact HR277.out)) hb); have n6_ := Aside0.mk (Kd.C_below (by first | (with_reducible exact HR298.out) | (with_reducible exact Kd.C_drewN HR298.out _) | (with_reducible exact Kd.C_drew HR298.out) | (with_reducible exact Kd.C_alloc HR298.out _) | repeat (first | (with_reducible exact HR298.out) | (with_reducible refine Kd.C_alloc ?_ _) | (with_reducible refine Kd.C_drewN ?_ _) | (with_reducible refine Kd.C_drew ?_) | exact HR298.out)) hb); have n7_ := Aside0.mk (below_step (by repeat (first | (with_reducible first | exact HB.out | apply below_alloc | apply pw_below_drewN | apply below_drew1) | exact HB.out)) hb); clear HO_6; clear HO_10; clear HO281; clear HR268; clear HR277; clear HR298; clear HB; have HO_6 := n0_; have HO_10 := n1_; have HO281 := n2_; have HO302 := n3_; have HR268 := n4_; have HR277 := n5_; have HR298 := n6_; have HB := n7_; clear n0_ n1_ n2_ n3_ n4_ n5_ n6_ n7_; (try clear hb); (try clear hb2); (try clear hk); (try clear hi); (try clear ho0); have q74 : (x13_1 : Int) ≤ ((t258.length : Int) : Int) := of_decide_eq_true (by first | (with_reducible assumption) | assumption); obtain ⟨i074, hi074, _, hsz74, _⟩ := info_parts info24; have hroom74 : t258.length ≤ co13 := (Kd.R_reads' HO_6.out).2.1; have hC74 : Kd.C k24 _ Ao13 t258.length t258 := (Kd.R_reads' HO_6.out).2.2; have hcut74 := cut_to (P := Tryd.prog) 29 24 .i64 Tryd.underlying29 hi074 Ao13 t258.length co13 x13_1 (of_decide_eq_true (by first | (with_reducible assumption) | assumption)) q74 hroom74; have hr74 := Kd.C_take (m := (x13_1 : Int).toNat) hC74 (by omega); have hy74 : y295.length = (x13_1 : Int).toNat := (by rw [Ny303.out, List.length_take]; omega); rw [← Ny303.out] at hr74; rw [← hy74] at hcut74; have HR306 := Aside0.mk hr74; have HC306 := Aside0.mk (show y295.length ≤ co13 from by omega); clear hr74 hC74 hroom74 hi074 hsz74; have KY74 := Aside0.mk hy74; clear hy74; have KL74 := Aside0.mk (show (x13_1 : Int).toNat ≤ t258.length from by omega); replace q74 := eq_true q74; obtain ⟨Ao75, co75, eo75⟩ := Kd.R_slice HO_10.out; subst eo75) | (go_at_call 16; (with_reducible refine (zigguratref30_Same.calls k1 _ _ t269 _ _ y295 true _ ?side1 ?side2 ?side3 ?side4 A65.out).mono ?_); (case side1 => repeat (first | exact (Kd.R_reads' HO_10.out).2.2 | (with_reducible refine Kd.C_alloc ?_ _) | (with_reducible refine Kd.C_drewN ?_ _) | (with_reducible refine Kd.C_drew ?_))); (case side2 => exact (Kd.R_reads' HO_10.out).2.1); (case side3 => repeat (first | exact (by first | (with_reducible exact HR306.out) | (with_reducible exact Kd.C_drewN HR306.out _) | (with_reducible exact Kd.C_drew HR306.out) | (with_reducible exact Kd.C_alloc HR306.out _) | repeat (first | (with_reducible exact HR306.out) | (with_reducible refine Kd.C_alloc ?_ _) | (with_reducible refine Kd.C_drewN ?_ _) | (with_reducible refine Kd.C_drew ?_) | exact HR306.out)) | (with_reducible refine Kd.C_alloc ?_ _) | (with_reducible refine Kd.C_drewN ?_ _) | (with_reducible refine Kd.C_drew ?_))); (case side4 => exact HC306.out); rintro e w' ⟨rfl, ⟨nd, rfl⟩⟩; obtain ⟨Ao76, co76, eo76⟩ := Kd.R_slice HO302.out; subst eo76))
                                      go_ret
                                      exact ⟨by first | rfl | (simp [errW_none, errW_some] <;> rfl) | (simp only [← hji7, ← hji19]; first | rfl | (simp [errW_none, errW_some] <;> rfl)) | (simp [*, errW_none, errW_some] <;> rfl), by repeat (first | (with_reducible first | exact HB.out | apply below_alloc | apply pw_below_drewN | apply below_drew1) | exact HB.out)⟩
                                    · rw [if_neg c69] at H
                                      have c69b0 : (t271 == 0) = false := beq_eq_false_iff_ne.mpr c69
                                      have qx_ : (t270 == ji7) = false := by have h_ := c68b0; rw [c69b0] at h_; simpa using h_
                                      have qy_ : ¬ t270 = ji7 := by simpa using qx_
                                      have qz_ : decide (t270 = ji7) = false := by simpa using qx_
                                      clear qy_
                                      have c69b1 : (t271 != 0) = true := bne_iff_ne.mpr c69
                                      obtain rfl := Option.some.inj H
                                      have q77 : ((ji19) : Int) ≤ ((t258.length : Int) : Int) := of_decide_eq_true (by first | (with_reducible assumption) | assumption)
                                      obtain ⟨i077, hi077, _, hsz77, _⟩ := info_parts info24
                                      have hroom77 : t258.length ≤ co13 := (Kd.R_reads' HO_6.out).2.1
                                      have hC77 : Kd.C k24 _ Ao13 t258.length t258 := (Kd.R_reads' HO_6.out).2.2
                                      have hcut77 := cut_to (P := Tryd.prog) 29 24 .i64 Tryd.underlying29 hi077 Ao13 t258.length co13 (ji19) (of_decide_eq_true (by first | (with_reducible assumption) | assumption)) q77 hroom77
                                      have hr77 := Kd.C_take (m := ((ji19) : Int).toNat) hC77 (by omega)
                                      have hy77 : y274.length = ((ji19) : Int).toNat := (by rw [Ny274.out, List.length_take]; omega)
                                      rw [← Ny274.out] at hr77
                                      rw [← hy77] at hcut77
                                      have HR277 := Aside0.mk hr77
                                      have HC277 := Aside0.mk (show y274.length ≤ co13 from by omega)
                                      clear hr77 hC77 hroom77 hi077 hsz77
                                      have KY77 := Aside0.mk hy77
                                      clear hy77
                                      have KL77 := Aside0.mk (show ((ji19) : Int).toNat ≤ t258.length from by omega)
                                      replace q77 := eq_true q77
                                      go_wp2_with (first | ((with_reducible refine gate_callee (f := 22) rfl ?_); refine goesL_ (some 49) rfl rfl Tryd.func22 (by kernel_rfl) rfl #[.slice Ao13 y274.length co13] rfl (by (try simp only [List.map_toArray, List.map_cons, List.map_nil]); first | done | rfl | (simp only [List.length_drop, List.length_take]; rfl)) ?_; (with_reducible refine (zigguratlaw30_written.calls k1 _ _ y274 t278 false _ ?side1 ?side2 A22.out).mono ?_); (case side1 => repeat (first | exact (by first | (with_reducible exact HR277.out) | (with_reducible exact Kd.C_drewN HR277.out _) | (with_reducible exact Kd.C_drew HR277.out) | (with_reducible exact Kd.C_alloc HR277.out _) | repeat (first | (with_reducible exact HR277.out) | (with_reducible refine Kd.C_alloc ?_ _) | (with_reducible refine Kd.C_drewN ?_ _) | (with_reducible refine Kd.C_drew ?_) | exact HR277.out)) | (with_reducible refine Kd.C_alloc ?_ _) | (with_reducible refine Kd.C_drewN ?_ _) | (with_reducible refine Kd.C_drew ?_))); (case side2 => exact HC277.out); rintro e w78 ⟨v280, rfl, ho0, hb⟩; refine ⟨_, rfl, ?_⟩; have n0_ := Aside0.mk (Kd.R_below (by (with_reducible repeat (first | apply Kd.R_alloc | apply Kd.R_drewN | apply Kd.R_drew)); exact HO_6.out) hb); have n1_ := Aside0.mk (Kd.R_below (by (with_reducible repeat (first | apply Kd.R_alloc | apply Kd.R_drewN | apply Kd.R_drew)); exact HO_10.out) hb); have n2_ := Aside0.mk (Kd.R_lower ho0 (below_size (by repeat (first | (with_reducible first | exact HB.out | apply below_alloc | apply pw_below_drewN | apply below_drew1) | exact HB.out)))); have n3_ := Aside0.mk (Kd.C_below (by first | (with_reducible exact HR268.out) | (with_reducible exact Kd.C_drewN HR268.out _) | (with_reducible exact Kd.C_drew HR268.out) | (with_reducible exact Kd.C_alloc HR268.out _) | repeat (first | (with_reducible exact HR268.out) | (with_reducible refine Kd.C_alloc ?_ _) | (with_reducible refine Kd.C_drewN ?_ _) | (with_reducible refine Kd.C_drew ?_) | exact HR268.out)) hb); have n4_ := Aside0.mk (Kd.C_below (by first | (with_reducible exact HR277.out) | (with_reducible exact Kd.C_drewN HR277.out _) | (with_reducible exact Kd.C_drew HR277.out) | (with_reducible exact Kd.C_alloc HR277.out _) | repeat (first | (with_reducible exact HR277.out) | (with_reducible refine Kd.C_alloc ?_ _) | (with_reducible refine Kd.C_drewN ?_ _) | (with_reducible refine Kd.C_drew ?_) | exact HR277.out)) hb); have n5_ := Aside0.mk (below_step (by repeat (first | (with_reducible first | exact HB.out | apply below_alloc | apply pw_below_drewN | apply below_drew1) | exact HB.out)) hb); clear HO_6; clear HO_10; clear HR268; clear HR277; clear HB; have HO_6 := n0_; have HO_10 := n1_; have HO281 := n2_; have HR268 := n3_; have HR277 := n4_; have HB := n5_; clear n0_ n1_ n2_ n3_ n4_ n5_; (try clear hb); (try clear hb2); (try clear hk); (try clear hi); (try clear ho0); have q79 : (x13_1 : Int) ≤ ((t258.length : Int) : Int) := of_decide_eq_true (by first | (with_reducible assumption) | assumption); obtain ⟨i079, hi079, _, hsz79, _⟩ := info_parts info24; have hroom79 : t258.length ≤ co13 := (Kd.R_reads' HO_6.out).2.1; have hC79 : Kd.C k24 _ Ao13 t258.length t258 := (Kd.R_reads' HO_6.out).2.2; have hcut79 := cut_to (P := Tryd.prog) 29 24 .i64 Tryd.underlying29 hi079 Ao13 t258.length co13 x13_1 (of_decide_eq_true (by first | (with_reducible assumption) | assumption)) q79 hroom79; have hr79 := Kd.C_take (m := (x13_1 : Int).toNat) hC79 (by omega); have hy79 : y295.length = (x13_1 : Int).toNat := (by rw [Ny295.out, List.length_take]; omega); rw [← Ny295.out] at hr79; rw [← hy79] at hcut79; have HR298 := Aside0.mk hr79; have HC298 := Aside0.mk (show y295.length ≤ co13 from by omega); clear hr79 hC79 hroom79 hi079 hsz79; have KY79 := Aside0.mk hy79; clear hy79; have KL79 := Aside0.mk (show (x13_1 : Int).toNat ≤ t258.length from by omega); replace q79 := eq_true q79) | ((with_reducible refine gate_callee (f := 22) rfl ?_); refine goesL_ (some 66) rfl rfl Tryd.func22 (by kernel_rfl) rfl #[.slice Ao13 y295.length co13] rfl (by (try simp only [List.map_toArray, List.map_cons, List.map_nil]); first | done | rfl | (simp only [List.length_drop, List.length_take]; rfl)) ?_; (with_reducible refine (zigguratlaw30_written.calls k1 _ _ y295 t299 true _ ?side1 ?side2 A59.out).mono ?_); (case side1 => repeat (first | exact (by first | (with_reducible exact HR298.out) | (with_reducible exact Kd.C_drewN HR298.out _) | (with_reducible exact Kd.C_drew HR298.out) | (with_reducible exact Kd.C_alloc HR298.out _) | repeat (first | (with_reducible exact HR298.out) | (with_reducible refine Kd.C_alloc ?_ _) | (with_reducible refine Kd.C_drewN ?_ _) | (with_reducible refine Kd.C_drew ?_) | exact HR298.out)) | (with_reducible refine Kd.C_alloc ?_ _) | (with_reducible refine Kd.C_drewN ?_ _) | (with_reducible refine Kd.C_drew ?_))); (case side2 => exact HC298.out); rintro e w80 ⟨v301, rfl, ho0, hb⟩; refine ⟨_, rfl, ?_⟩; have n0_ := Aside0.mk (Kd.R_below (by (with_reducible repeat (first | apply Kd.R_alloc | apply Kd.R_drewN | apply Kd.R_drew)); exact HO_6.out) hb); have n1_ := Aside0.mk (Kd.R_below (by (with_reducible repeat (first | apply Kd.R_alloc | apply Kd.R_drewN | apply Kd.R_drew)); exact HO_10.out) hb); have n2_ := Aside0.mk (Kd.R_elder' (by (with_reducible repeat (first | apply Kd.R_alloc | apply Kd.R_drewN | apply Kd.R_drew)); exact HO281.out) (Kd.R_base ho0) hb); have n3_ := Aside0.mk (Kd.R_lower (Kd.R_new' ho0 (Kd.R_lt (by (with_reducible repeat (first | apply Kd.R_alloc | apply Kd.R_drewN | apply Kd.R_drew)); exact HO281.out))) (below_size (by repeat (first | (with_reducible first | exact HB.out | apply below_alloc | apply pw_below_drewN | apply below_drew1) | exact HB.out)))); have n4_ := Aside0.mk (Kd.C_below (by first | (with_reducible exact HR268.out) | (with_reducible exact Kd.C_drewN HR268.out _) | (with_reducible exact Kd.C_drew HR268.out) | (with_reducible exact Kd.C_alloc HR268.out _) | repeat (first | (with_reducible exact HR268.out) | (with_reducible refine Kd.C_alloc ?_ _) | (with_reducible refine Kd.C_drewN ?_ _) | (with_reducible refine Kd.C_drew ?_) | exact HR268.out)) hb); have n5_ := Aside0.mk (Kd.C_below (by first | (with_reducible exact HR277.out) | (with_reducible exact Kd.C_drewN HR277.out _) | (with_reducible exact Kd.C_drew HR277.out) | (with_reducible exact Kd.C_alloc HR277.out _) | repeat (first | (with_reducible exact HR277.out) | (with_reducible refine Kd.C_alloc ?_ _) | (with_reducible refine Kd.C_drewN ?_ _) | (with_reducible refine Kd.C_drew ?_) | exact HR277.out)) hb); have n6_ := Aside0.mk (Kd.C_below (by first | (with_reducible exact HR298.out) | (with_reducible exact Kd.C_drewN HR298.out _) | (with_reducible exact Kd.C_drew HR298.out) | (with_reducible exact Kd.C_alloc HR298.out _) | repeat (first | (with_reducible exact HR298.out) | (with_reducible refine Kd.C_alloc ?_ _) | (with_reducible refine Kd.C_drewN ?_ _) | (with_reducible refine Kd.C_drew ?_) | exact HR298.out)) hb); have n7_ := Aside0.mk (below_step (by repeat (first | (with_reducible first | exact HB.out | apply below_alloc | apply pw_below_drewN | apply below_drew1) | exact HB.out)) hb); clear HO_6; clear HO_10; clear HO281; clear HR268; clear HR277; clear HR298; clear HB; have HO_6 := n0_; have HO_10 := n1_; have HO281 := n2_; have HO302 := n3_; have HR268 := n4_; have HR277 := n5_; have HR298 := n6_; have HB := n7_; clear n0_ n1_ n2_ n3_ n4_ n5_ n6_ n7_; (try clear hb); (try clear hb2); (try clear hk); (try clear hi); (try clear ho0); have q81 : (x13_1 : Int) ≤ ((t258.length : Int) : Int) := of_decide_eq_true (by first | (with_reducible assumption) | assumption); obtain ⟨i081, hi081, _, hsz81, _⟩ := info_parts info24; have hroom81 : t258.length ≤ co13 := (Kd.R_reads' HO_6.out).2.1; have hC81 : Kd.C k24 _ Ao13 t258.length t258 := (Kd.R_reads' HO_6.out).2.2; have hcut81 := cut_to (P := Tryd.prog) 29 24 .i64 Tryd.underlying29 hi081 Ao13 t258.length co13 x13_1 (of_decide_eq_true (by first | (with_reducible assumption) | assumption)) q81 hroom81; have hr81 := Kd.C_take (m := (x13_1 : Int).toNat) hC81 (by omega); have hy81 : y295.length = (x13_1 : Int).toNat := (by rw [Ny303.out, List.length_take]; omega); rw [← Ny303.out] at hr81; rw [← hy81] at hcut81; have HR306 := Aside0.mk hr81; have HC306 := Aside0.mk (show y295.length ≤ co13 from by omega); clear hr81 hC81 hroom81 hi081 hsz81; have KY81 := Aside0.mk hy81; clear hy81; have KL81 := Aside0.mk (show (x13_1 : Int).toNat ≤ t258.length from by omega); replace q81 := eq_true q81; obtain ⟨Ao82, co82, eo82⟩ := Kd.R_slice HO_10.out; subst eo82) | (go_at_call 16; (with_reducible refine (zigguratref30_Same.calls k1 _ _ t269 _ _ y295 true _ ?side1 ?side2 ?side3 ?side4 A65.out).mono ?_); (case side1 => repeat (first | exact (Kd.R_reads' HO_10.out).2.2 | (with_reducible refine Kd.C_alloc ?_ _) | (with_reducible refine Kd.C_drewN ?_ _) | (with_reducible refine Kd.C_drew ?_))); (case side2 => exact (Kd.R_reads' HO_10.out).2.1); (case side3 => repeat (first | exact (by first | (with_reducible exact HR306.out) | (with_reducible exact Kd.C_drewN HR306.out _) | (with_reducible exact Kd.C_drew HR306.out) | (with_reducible exact Kd.C_alloc HR306.out _) | repeat (first | (with_reducible exact HR306.out) | (with_reducible refine Kd.C_alloc ?_ _) | (with_reducible refine Kd.C_drewN ?_ _) | (with_reducible refine Kd.C_drew ?_) | exact HR306.out)) | (with_reducible refine Kd.C_alloc ?_ _) | (with_reducible refine Kd.C_drewN ?_ _) | (with_reducible refine Kd.C_drew ?_))); (case side4 => exact HC306.out); rintro e w' ⟨rfl, ⟨nd, rfl⟩⟩; obtain ⟨Ao83, co83, eo83⟩ := Kd.R_slice HO302.out; subst eo83))
                                      go_ret
                                      exact ⟨by first | rfl | (simp [errW_none, errW_some] <;> rfl) | (simp only [← hji7, ← hji19]; first | rfl | (simp [errW_none, errW_some] <;> rfl)) | (simp [*, errW_none, errW_some] <;> rfl), by repeat (first | (with_reducible first | exact HB.out | apply below_alloc | apply pw_below_drewN | apply below_drew1) | exact HB.out)⟩
                                  · rw [if_neg c68] at H
                                    exact absurd H (by simp)
                                · rw [if_neg c67] at H
                                  exact absurd H (by simp)
                              · replace c66 := Bool.eq_false_iff.mpr c66
                                subst c66
                                have H1 : (none) = some r := by rw [if_neg (show ¬ (false = true) by decide)] at H; exact H
                                clear H
                                have H := H1
                                clear H1
                                exact absurd H (by simp)
                            · replace c62 := Bool.eq_false_iff.mpr c62
                              subst c62
                              have H1 : (none) = some r := by rw [if_neg (show ¬ (false = true) by decide)] at H; exact H
                              clear H
                              have H := H1
                              clear H1
                              exact absurd H (by simp)
                          · replace c61 := Bool.eq_false_iff.mpr c61
                            subst c61
                            have H1 : (none) = some r := by rw [if_neg (show ¬ (false = true) by decide)] at H; exact H
                            clear H
                            have H := H1
                            clear H1
                            exact absurd H (by simp)
                        · replace c60 := Bool.eq_false_iff.mpr c60
                          subst c60
                          have H1 : (none) = some r := by rw [if_neg (show ¬ (false = true) by decide)] at H; exact H
                          clear H
                          have H := H1
                          clear H1
                          exact absurd H (by simp)
                      · rw [if_neg c58] at H
                        exact absurd H (by simp)
                    · rw [if_neg c57] at H
                      exact absurd H (by simp)
                · rw [if_neg c21] at H
                  exact absurd H (by simp)
              · rw [if_neg c20] at H
                exact absurd H (by simp)
            · rw [if_neg c18] at H
              have c18b0 : decide (x13_1 < (t258.length : Int)) = false := decide_eq_false c18
              clear c18
              by_cases c84 : 0 ≤ x13_1
              · rw [if_pos c84] at H
                have c84b0 := eq_true c84
                have c84b1 : decide (0 ≤ x13_1) = true := decide_eq_true c84
                clear c84
                by_cases c85 : x13_1 ≤ (t258.length : Int)
                · rw [if_pos c85] at H
                  have c85b0 := eq_true c85
                  have c85b1 : decide (x13_1 ≤ (t258.length : Int)) = true := decide_eq_true c85
                  clear c85
                  obtain ⟨y308, hy308⟩ : ∃ y_ : List (S24), y_ = (t258.take (x13_1 : Int).toNat) := ⟨_, rfl⟩
                  replace H : ((zigguratlaw30_written.f k1 y308).bind fun bt312 => (if t257 = true then (if t262 = true then (if bt312.2 = true then ((zigguratref30_Same.f k1 t269 (t258.take (x13_1 : Int).toNat)).bind fun t320 => (if t320 = true then (if t270 = (bt312.1.length : Int) then (if ((t271 == 0) == (t270 == ji7)) = true then (if t271 = 0 then (some true) else (some (t271 == 301))) else (none)) else (none)) else (none))) else (none)) else (none)) else (none))) = some r := by first | (rw [hy308]; with_reducible exact H) | (have H2_ := (Option.bind_some _ _).symm.trans H; rw [hy308]; with_reducible exact H2_) | (have H2_ := (Option.bind_some _ _).symm.trans H; with_reducible exact H2_) | with_reducible exact H | (rw [hy308]; exact H) | exact H
                  have Ny308 := Aside0.mk hy308
                  clear hy308
                  replace H := Option.bind_eq_some_iff.mp H
                  obtain ⟨⟨t312, t313⟩, A860, H⟩ := H
                  replace H : (if t257 = true then (if t262 = true then (if t313 = true then ((zigguratref30_Same.f k1 t269 (t258.take (x13_1 : Int).toNat)).bind fun t320 => (if t320 = true then (if t270 = (t312.length : Int) then (if ((t271 == 0) == (t270 == ji7)) = true then (if t271 = 0 then (some true) else (some (t271 == 301))) else (none)) else (none)) else (none))) else (none)) else (none)) else (none)) = some r := H
                  have A86 := Aside0.mk A860
                  clear A860
                  by_cases c87 : t257 = true
                  · subst c87
                    have H1 : (if t262 = true then (if t313 = true then ((zigguratref30_Same.f k1 t269 (t258.take (x13_1 : Int).toNat)).bind fun t320 => (if t320 = true then (if t270 = (t312.length : Int) then (if ((t271 == 0) == (t270 == ji7)) = true then (if t271 = 0 then (some true) else (some (t271 == 301))) else (none)) else (none)) else (none))) else (none)) else (none)) = some r := by rw [if_pos rfl] at H; exact H
                    clear H
                    have H := H1
                    clear H1
                    by_cases c88 : t262 = true
                    · subst c88
                      have H1 : (if t313 = true then ((zigguratref30_Same.f k1 t269 (t258.take (x13_1 : Int).toNat)).bind fun t320 => (if t320 = true then (if t270 = (t312.length : Int) then (if ((t271 == 0) == (t270 == ji7)) = true then (if t271 = 0 then (some true) else (some (t271 == 301))) else (none)) else (none)) else (none))) else (none)) = some r := by rw [if_pos rfl] at H; exact H
                      clear H
                      have H := H1
                      clear H1
                      by_cases c89 : t313 = true
                      · subst c89
                        have H1 : ((zigguratref30_Same.f k1 t269 (t258.take (x13_1 : Int).toNat)).bind fun t320 => (if t320 = true then (if t270 = (t312.length : Int) then (if ((t271 == 0) == (t270 == ji7)) = true then (if t271 = 0 then (some true) else (some (t271 == 301))) else (none)) else (none)) else (none))) = some r := by rw [if_pos rfl] at H; exact H
                        clear H
                        have H := H1
                        clear H1
                        have c90b0 := eq_true (of_decide_eq_true (by first | (with_reducible assumption) | assumption) : 0 ≤ x13_1)
                        have c91b0 := eq_true (of_decide_eq_true (by first | (with_reducible assumption) | assumption) : x13_1 ≤ (t258.length : Int))
                        obtain ⟨y316, hy316⟩ : ∃ y_ : List (S24), y_ = (t258.take (x13_1 : Int).toNat) := ⟨_, rfl⟩
                        replace H : ((zigguratref30_Same.f k1 t269 y316).bind fun t320 => (if t320 = true then (if t270 = (t312.length : Int) then (if ((t271 == 0) == (t270 == ji7)) = true then (if t271 = 0 then (some true) else (some (t271 == 301))) else (none)) else (none)) else (none))) = some r := by first | (rw [hy316]; with_reducible exact H) | (have H2_ := (Option.bind_some _ _).symm.trans H; rw [hy316]; with_reducible exact H2_) | (have H2_ := (Option.bind_some _ _).symm.trans H; with_reducible exact H2_) | with_reducible exact H | (rw [hy316]; exact H) | exact H
                        have Ny316 := Aside0.mk hy316
                        clear hy316
                        have ey_ : y308 = y316 := Ny308.out.trans Ny316.out.symm
                        subst ey_
                        replace H := Option.bind_eq_some_iff.mp H
                        obtain ⟨t320, A920, H⟩ := H
                        replace H : (if t320 = true then (if t270 = (t312.length : Int) then (if ((t271 == 0) == (t270 == ji7)) = true then (if t271 = 0 then (some true) else (some (t271 == 301))) else (none)) else (none)) else (none)) = some r := H
                        have A92 := Aside0.mk A920
                        clear A920
                        by_cases c93 : t320 = true
                        · subst c93
                          have H1 : (if t270 = (t312.length : Int) then (if ((t271 == 0) == (t270 == ji7)) = true then (if t271 = 0 then (some true) else (some (t271 == 301))) else (none)) else (none)) = some r := by rw [if_pos rfl] at H; exact H
                          clear H
                          have H := H1
                          clear H1
                          by_cases c94 : t270 = (t312.length : Int)
                          · rw [if_pos c94] at H
                            have c94b0 : (t270 == (t312.length : Int)) = true := beq_iff_eq.mpr c94
                            have c94b1 : (t270 != (t312.length : Int)) = false := bne_eq_false_iff_eq.mpr c94
                            clear c94
                            by_cases c95 : ((t271 == 0) == (t270 == ji7)) = true
                            · rw [if_pos c95] at H
                              have c95b0 : ((t271 == 0) == (t270 == ji7)) = true := c95
                              (try (have c95b1 : decide ((t271 == 0) = (t270 == ji7)) = true := by simpa using c95))
                              (try (have c95b2 : ((t271 == 0) == (t270 == ji7)) = true := by simpa using c95))
                              clear c95
                              by_cases c96 : t271 = 0
                              · rw [if_pos c96] at H
                                have c96b0 : (t271 == 0) = true := beq_iff_eq.mpr c96
                                have qx_ : (t270 == ji7) = true := by have h_ := c95b0; rw [c96b0] at h_; simpa using h_
                                have qy_ : t270 = ji7 := by simpa using qx_
                                have qz_ : decide (t270 = ji7) = true := by simpa using qx_
                                clear qy_
                                have c96b1 : (t271 != 0) = false := bne_eq_false_iff_eq.mpr c96
                                clear c96
                                obtain rfl := Option.some.inj H
                                have q97 : (x13_1 : Int) ≤ ((t258.length : Int) : Int) := of_decide_eq_true (by first | (with_reducible assumption) | assumption)
                                obtain ⟨i097, hi097, _, hsz97, _⟩ := info_parts info24
                                have hroom97 : t258.length ≤ co13 := (Kd.R_reads' HO_6.out).2.1
                                have hC97 : Kd.C k24 _ Ao13 t258.length t258 := (Kd.R_reads' HO_6.out).2.2
                                have hcut97 := cut_to (P := Tryd.prog) 29 24 .i64 Tryd.underlying29 hi097 Ao13 t258.length co13 x13_1 (of_decide_eq_true (by first | (with_reducible assumption) | assumption)) q97 hroom97
                                have hr97 := Kd.C_take (m := (x13_1 : Int).toNat) hC97 (by omega)
                                have hy97 : y308.length = (x13_1 : Int).toNat := (by rw [Ny308.out, List.length_take]; omega)
                                rw [← Ny308.out] at hr97
                                rw [← hy97] at hcut97
                                have HR311 := Aside0.mk hr97
                                have HC311 := Aside0.mk (show y308.length ≤ co13 from by omega)
                                clear hr97 hC97 hroom97 hi097 hsz97
                                have KY97 := Aside0.mk hy97
                                clear hy97
                                have KL97 := Aside0.mk (show (x13_1 : Int).toNat ≤ t258.length from by omega)
                                replace q97 := eq_true q97
                                go_wp2_with (first | ((with_reducible refine gate_callee (f := 22) rfl ?_); refine goesL_ (some 66) rfl rfl Tryd.func22 (by kernel_rfl) rfl #[.slice Ao13 y308.length co13] rfl (by (try simp only [List.map_toArray, List.map_cons, List.map_nil]); first | done | rfl | (simp only [List.length_drop, List.length_take]; rfl)) ?_; (with_reducible refine (zigguratlaw30_written.calls k1 _ _ y308 t312 true _ ?side1 ?side2 A86.out).mono ?_); (case side1 => repeat (first | exact (by first | (with_reducible exact HR311.out) | (with_reducible exact Kd.C_drewN HR311.out _) | (with_reducible exact Kd.C_drew HR311.out) | (with_reducible exact Kd.C_alloc HR311.out _) | repeat (first | (with_reducible exact HR311.out) | (with_reducible refine Kd.C_alloc ?_ _) | (with_reducible refine Kd.C_drewN ?_ _) | (with_reducible refine Kd.C_drew ?_) | exact HR311.out)) | (with_reducible refine Kd.C_alloc ?_ _) | (with_reducible refine Kd.C_drewN ?_ _) | (with_reducible refine Kd.C_drew ?_))); (case side2 => exact HC311.out); rintro e w98 ⟨v314, rfl, ho0, hb⟩; refine ⟨_, rfl, ?_⟩; have n0_ := Aside0.mk (Kd.R_below (by (with_reducible repeat (first | apply Kd.R_alloc | apply Kd.R_drewN | apply Kd.R_drew)); exact HO_6.out) hb); have n1_ := Aside0.mk (Kd.R_below (by (with_reducible repeat (first | apply Kd.R_alloc | apply Kd.R_drewN | apply Kd.R_drew)); exact HO_10.out) hb); have n2_ := Aside0.mk (Kd.R_lower ho0 (below_size (by repeat (first | (with_reducible first | exact HB.out | apply below_alloc | apply pw_below_drewN | apply below_drew1) | exact HB.out)))); have n3_ := Aside0.mk (Kd.C_below (by first | (with_reducible exact HR268.out) | (with_reducible exact Kd.C_drewN HR268.out _) | (with_reducible exact Kd.C_drew HR268.out) | (with_reducible exact Kd.C_alloc HR268.out _) | repeat (first | (with_reducible exact HR268.out) | (with_reducible refine Kd.C_alloc ?_ _) | (with_reducible refine Kd.C_drewN ?_ _) | (with_reducible refine Kd.C_drew ?_) | exact HR268.out)) hb); have n4_ := Aside0.mk (Kd.C_below (by first | (with_reducible exact HR311.out) | (with_reducible exact Kd.C_drewN HR311.out _) | (with_reducible exact Kd.C_drew HR311.out) | (with_reducible exact Kd.C_alloc HR311.out _) | repeat (first | (with_reducible exact HR311.out) | (with_reducible refine Kd.C_alloc ?_ _) | (with_reducible refine Kd.C_drewN ?_ _) | (with_reducible refine Kd.C_drew ?_) | exact HR311.out)) hb); have n5_ := Aside0.mk (below_step (by repeat (first | (with_reducible first | exact HB.out | apply below_alloc | apply pw_below_drewN | apply below_drew1) | exact HB.out)) hb); clear HO_6; clear HO_10; clear HR268; clear HR311; clear HB; have HO_6 := n0_; have HO_10 := n1_; have HO315 := n2_; have HR268 := n3_; have HR311 := n4_; have HB := n5_; clear n0_ n1_ n2_ n3_ n4_ n5_; (try clear hb); (try clear hb2); (try clear hk); (try clear hi); (try clear ho0); have q99 : (x13_1 : Int) ≤ ((t258.length : Int) : Int) := of_decide_eq_true (by first | (with_reducible assumption) | assumption); obtain ⟨i099, hi099, _, hsz99, _⟩ := info_parts info24; have hroom99 : t258.length ≤ co13 := (Kd.R_reads' HO_6.out).2.1; have hC99 : Kd.C k24 _ Ao13 t258.length t258 := (Kd.R_reads' HO_6.out).2.2; have hcut99 := cut_to (P := Tryd.prog) 29 24 .i64 Tryd.underlying29 hi099 Ao13 t258.length co13 x13_1 (of_decide_eq_true (by first | (with_reducible assumption) | assumption)) q99 hroom99; have hr99 := Kd.C_take (m := (x13_1 : Int).toNat) hC99 (by omega); have hy99 : y308.length = (x13_1 : Int).toNat := (by rw [Ny316.out, List.length_take]; omega); rw [← Ny316.out] at hr99; rw [← hy99] at hcut99; have HR319 := Aside0.mk hr99; have HC319 := Aside0.mk (show y308.length ≤ co13 from by omega); clear hr99 hC99 hroom99 hi099 hsz99; have KY99 := Aside0.mk hy99; clear hy99; have KL99 := Aside0.mk (show (x13_1 : Int).toNat ≤ t258.length from by omega); replace q99 := eq_true q99; obtain ⟨Ao100, co100, eo100⟩ := Kd.R_slice HO_10.out; subst eo100) | (go_at_call 16; (with_reducible refine (zigguratref30_Same.calls k1 _ _ t269 _ _ y308 true _ ?side1 ?side2 ?side3 ?side4 A92.out).mono ?_); (case side1 => repeat (first | exact (Kd.R_reads' HO_10.out).2.2 | (with_reducible refine Kd.C_alloc ?_ _) | (with_reducible refine Kd.C_drewN ?_ _) | (with_reducible refine Kd.C_drew ?_))); (case side2 => exact (Kd.R_reads' HO_10.out).2.1); (case side3 => repeat (first | exact (by first | (with_reducible exact HR319.out) | (with_reducible exact Kd.C_drewN HR319.out _) | (with_reducible exact Kd.C_drew HR319.out) | (with_reducible exact Kd.C_alloc HR319.out _) | repeat (first | (with_reducible exact HR319.out) | (with_reducible refine Kd.C_alloc ?_ _) | (with_reducible refine Kd.C_drewN ?_ _) | (with_reducible refine Kd.C_drew ?_) | exact HR319.out)) | (with_reducible refine Kd.C_alloc ?_ _) | (with_reducible refine Kd.C_drewN ?_ _) | (with_reducible refine Kd.C_drew ?_))); (case side4 => exact HC319.out); rintro e w' ⟨rfl, ⟨nd, rfl⟩⟩; obtain ⟨Ao101, co101, eo101⟩ := Kd.R_slice HO315.out; subst eo101))
                                go_ret
                                exact ⟨by first | rfl | (simp [errW_none, errW_some] <;> rfl) | (simp only [← hji7]; first | rfl | (simp [errW_none, errW_some] <;> rfl)) | (simp [*, errW_none, errW_some] <;> rfl), by repeat (first | (with_reducible first | exact HB.out | apply below_alloc | apply pw_below_drewN | apply below_drew1) | exact HB.out)⟩
                              · rw [if_neg c96] at H
                                have c96b0 : (t271 == 0) = false := beq_eq_false_iff_ne.mpr c96
                                have qx_ : (t270 == ji7) = false := by have h_ := c95b0; rw [c96b0] at h_; simpa using h_
                                have qy_ : ¬ t270 = ji7 := by simpa using qx_
                                have qz_ : decide (t270 = ji7) = false := by simpa using qx_
                                clear qy_
                                have c96b1 : (t271 != 0) = true := bne_iff_ne.mpr c96
                                obtain rfl := Option.some.inj H
                                have q102 : (x13_1 : Int) ≤ ((t258.length : Int) : Int) := of_decide_eq_true (by first | (with_reducible assumption) | assumption)
                                obtain ⟨i0102, hi0102, _, hsz102, _⟩ := info_parts info24
                                have hroom102 : t258.length ≤ co13 := (Kd.R_reads' HO_6.out).2.1
                                have hC102 : Kd.C k24 _ Ao13 t258.length t258 := (Kd.R_reads' HO_6.out).2.2
                                have hcut102 := cut_to (P := Tryd.prog) 29 24 .i64 Tryd.underlying29 hi0102 Ao13 t258.length co13 x13_1 (of_decide_eq_true (by first | (with_reducible assumption) | assumption)) q102 hroom102
                                have hr102 := Kd.C_take (m := (x13_1 : Int).toNat) hC102 (by omega)
                                have hy102 : y308.length = (x13_1 : Int).toNat := (by rw [Ny308.out, List.length_take]; omega)
                                rw [← Ny308.out] at hr102
                                rw [← hy102] at hcut102
                                have HR311 := Aside0.mk hr102
                                have HC311 := Aside0.mk (show y308.length ≤ co13 from by omega)
                                clear hr102 hC102 hroom102 hi0102 hsz102
                                have KY102 := Aside0.mk hy102
                                clear hy102
                                have KL102 := Aside0.mk (show (x13_1 : Int).toNat ≤ t258.length from by omega)
                                replace q102 := eq_true q102
                                go_wp2_with (first | ((with_reducible refine gate_callee (f := 22) rfl ?_); refine goesL_ (some 66) rfl rfl Tryd.func22 (by kernel_rfl) rfl #[.slice Ao13 y308.length co13] rfl (by (try simp only [List.map_toArray, List.map_cons, List.map_nil]); first | done | rfl | (simp only [List.length_drop, List.length_take]; rfl)) ?_; (with_reducible refine (zigguratlaw30_written.calls k1 _ _ y308 t312 true _ ?side1 ?side2 A86.out).mono ?_); (case side1 => repeat (first | exact (by first | (with_reducible exact HR311.out) | (with_reducible exact Kd.C_drewN HR311.out _) | (with_reducible exact Kd.C_drew HR311.out) | (with_reducible exact Kd.C_alloc HR311.out _) | repeat (first | (with_reducible exact HR311.out) | (with_reducible refine Kd.C_alloc ?_ _) | (with_reducible refine Kd.C_drewN ?_ _) | (with_reducible refine Kd.C_drew ?_) | exact HR311.out)) | (with_reducible refine Kd.C_alloc ?_ _) | (with_reducible refine Kd.C_drewN ?_ _) | (with_reducible refine Kd.C_drew ?_))); (case side2 => exact HC311.out); rintro e w103 ⟨v314, rfl, ho0, hb⟩; refine ⟨_, rfl, ?_⟩; have n0_ := Aside0.mk (Kd.R_below (by (with_reducible repeat (first | apply Kd.R_alloc | apply Kd.R_drewN | apply Kd.R_drew)); exact HO_6.out) hb); have n1_ := Aside0.mk (Kd.R_below (by (with_reducible repeat (first | apply Kd.R_alloc | apply Kd.R_drewN | apply Kd.R_drew)); exact HO_10.out) hb); have n2_ := Aside0.mk (Kd.R_lower ho0 (below_size (by repeat (first | (with_reducible first | exact HB.out | apply below_alloc | apply pw_below_drewN | apply below_drew1) | exact HB.out)))); have n3_ := Aside0.mk (Kd.C_below (by first | (with_reducible exact HR268.out) | (with_reducible exact Kd.C_drewN HR268.out _) | (with_reducible exact Kd.C_drew HR268.out) | (with_reducible exact Kd.C_alloc HR268.out _) | repeat (first | (with_reducible exact HR268.out) | (with_reducible refine Kd.C_alloc ?_ _) | (with_reducible refine Kd.C_drewN ?_ _) | (with_reducible refine Kd.C_drew ?_) | exact HR268.out)) hb); have n4_ := Aside0.mk (Kd.C_below (by first | (with_reducible exact HR311.out) | (with_reducible exact Kd.C_drewN HR311.out _) | (with_reducible exact Kd.C_drew HR311.out) | (with_reducible exact Kd.C_alloc HR311.out _) | repeat (first | (with_reducible exact HR311.out) | (with_reducible refine Kd.C_alloc ?_ _) | (with_reducible refine Kd.C_drewN ?_ _) | (with_reducible refine Kd.C_drew ?_) | exact HR311.out)) hb); have n5_ := Aside0.mk (below_step (by repeat (first | (with_reducible first | exact HB.out | apply below_alloc | apply pw_below_drewN | apply below_drew1) | exact HB.out)) hb); clear HO_6; clear HO_10; clear HR268; clear HR311; clear HB; have HO_6 := n0_; have HO_10 := n1_; have HO315 := n2_; have HR268 := n3_; have HR311 := n4_; have HB := n5_; clear n0_ n1_ n2_ n3_ n4_ n5_; (try clear hb); (try clear hb2); (try clear hk); (try clear hi); (try clear ho0); have q104 : (x13_1 : Int) ≤ ((t258.length : Int) : Int) := of_decide_eq_true (by first | (with_reducible assumption) | assumption); obtain ⟨i0104, hi0104, _, hsz104, _⟩ := info_parts info24; have hroom104 : t258.length ≤ co13 := (Kd.R_reads' HO_6.out).2.1; have hC104 : Kd.C k24 _ Ao13 t258.length t258 := (Kd.R_reads' HO_6.out).2.2; have hcut104 := cut_to (P := Tryd.prog) 29 24 .i64 Tryd.underlying29 hi0104 Ao13 t258.length co13 x13_1 (of_decide_eq_true (by first | (with_reducible assumption) | assumption)) q104 hroom104; have hr104 := Kd.C_take (m := (x13_1 : Int).toNat) hC104 (by omega); have hy104 : y308.length = (x13_1 : Int).toNat := (by rw [Ny316.out, List.length_take]; omega); rw [← Ny316.out] at hr104; rw [← hy104] at hcut104; have HR319 := Aside0.mk hr104; have HC319 := Aside0.mk (show y308.length ≤ co13 from by omega); clear hr104 hC104 hroom104 hi0104 hsz104; have KY104 := Aside0.mk hy104; clear hy104; have KL104 := Aside0.mk (show (x13_1 : Int).toNat ≤ t258.length from by omega); replace q104 := eq_true q104; obtain ⟨Ao105, co105, eo105⟩ := Kd.R_slice HO_10.out; subst eo105) | (go_at_call 16; (with_reducible refine (zigguratref30_Same.calls k1 _ _ t269 _ _ y308 true _ ?side1 ?side2 ?side3 ?side4 A92.out).mono ?_); (case side1 => repeat (first | exact (Kd.R_reads' HO_10.out).2.2 | (with_reducible refine Kd.C_alloc ?_ _) | (with_reducible refine Kd.C_drewN ?_ _) | (with_reducible refine Kd.C_drew ?_))); (case side2 => exact (Kd.R_reads' HO_10.out).2.1); (case side3 => repeat (first | exact (by first | (with_reducible exact HR319.out) | (with_reducible exact Kd.C_drewN HR319.out _) | (with_reducible exact Kd.C_drew HR319.out) | (with_reducible exact Kd.C_alloc HR319.out _) | repeat (first | (with_reducible exact HR319.out) | (with_reducible refine Kd.C_alloc ?_ _) | (with_reducible refine Kd.C_drewN ?_ _) | (with_reducible refine Kd.C_drew ?_) | exact HR319.out)) | (with_reducible refine Kd.C_alloc ?_ _) | (with_reducible refine Kd.C_drewN ?_ _) | (with_reducible refine Kd.C_drew ?_))); (case side4 => exact HC319.out); rintro e w' ⟨rfl, ⟨nd, rfl⟩⟩; obtain ⟨Ao106, co106, eo106⟩ := Kd.R_slice HO315.out; subst eo106))
                                go_ret
                                exact ⟨by first | rfl | (simp [errW_none, errW_some] <;> rfl) | (simp only [← hji7]; first | rfl | (simp [errW_none, errW_some] <;> rfl)) | (simp [*, errW_none, errW_some] <;> rfl), by repeat (first | (with_reducible first | exact HB.out | apply below_alloc | apply pw_below_drewN | apply below_drew1) | exact HB.out)⟩
                            · rw [if_neg c95] at H
                              exact absurd H (by simp)
                          · rw [if_neg c94] at H
                            exact absurd H (by simp)
                        · replace c93 := Bool.eq_false_iff.mpr c93
                          subst c93
                          have H1 : (none) = some r := by rw [if_neg (show ¬ (false = true) by decide)] at H; exact H
                          clear H
                          have H := H1
                          clear H1
                          exact absurd H (by simp)
                      · replace c89 := Bool.eq_false_iff.mpr c89
                        subst c89
                        have H1 : (none) = some r := by rw [if_neg (show ¬ (false = true) by decide)] at H; exact H
                        clear H
                        have H := H1
                        clear H1
                        exact absurd H (by simp)
                    · replace c88 := Bool.eq_false_iff.mpr c88
                      subst c88
                      have H1 : (none) = some r := by rw [if_neg (show ¬ (false = true) by decide)] at H; exact H
                      clear H
                      have H := H1
                      clear H1
                      exact absurd H (by simp)
                  · replace c87 := Bool.eq_false_iff.mpr c87
                    subst c87
                    have H1 : (none) = some r := by rw [if_neg (show ¬ (false = true) by decide)] at H; exact H
                    clear H
                    have H := H1
                    clear H1
                    exact absurd H (by simp)
                · rw [if_neg c85] at H
                  exact absurd H (by simp)
              · rw [if_neg c84] at H
                exact absurd H (by simp)
      · rw [if_neg c9] at H
        exact absurd H (by simp)
    · rw [if_neg c8] at H
      exact absurd H (by simp)

-- NOT PRINTED: function 6 (zigguratlaw30_StoreFlipped)

end Go.Proofs.YtkeegknadegaaaaDoor.Q
